/- Proved here: a part of the proof of the law at hand, in one text: no condition. -/
import Derived.Test.YtodliknibbafeaaGreatMWD3
import Derived.Test.YtodliknibbafeaaGreatProg
import Derived.KernelRfl
set_option linter.unusedVariables false
set_option linter.unusedSimpArgs false
namespace Go.Proofs.YtodliknibbafeaaGreat
section
open Go
set_option maxRecDepth 100000
@[simp] theorem ty3 : z2T Tryz.prog 3 = some ⟨.int .i64, 1, 8, (some [(.sc (.int .i64 0))])⟩ := by kernel_rfl
@[simp] theorem ty4 : z2T Tryz.prog 4 = some ⟨.bool, 1, 1, (some [(.sc (.bool false))])⟩ := by kernel_rfl
@[simp] theorem ty5 : z2T Tryz.prog 5 = some ⟨.int .u8, 1, 1, (some [(.sc (.int .u8 0))])⟩ := by kernel_rfl
@[simp] theorem ty9 : z2T Tryz.prog 9 = some ⟨.string, 1, 16, (some [(.sc (.string ByteArray.empty))])⟩ := by kernel_rfl
@[simp] theorem ty22 : z2T Tryz.prog 22 = some ⟨.slice 3, 1, 24, (some [(.os 1 0 [])])⟩ := by kernel_rfl
@[simp] theorem ty23 : z2T Tryz.prog 23 = some ⟨.pointer 53, 1, 8, (some [(.sc (.pointer none))])⟩ := by kernel_rfl
@[simp] theorem ty25 : z2T Tryz.prog 25 = some ⟨.slice 4, 1, 24, (some [(.os 1 0 [])])⟩ := by kernel_rfl
@[simp] theorem ty26 : z2T Tryz.prog 26 = some ⟨.slice 22, 1, 24, (some [(.os 1 0 [])])⟩ := by kernel_rfl
noncomputable def zwW : Array Field := match Tryz.prog.underlying 28 with | some (.struct fs) => fs | _ => #[]
@[simp] theorem ty28 : z2T Tryz.prog 28 = some ⟨.struct zwW, 4, 64, (some [(.sc (.int .i64 0)), (.sc (.int .i64 0)), (.os 1 0 []), (.os 1 0 [])])⟩ := by kernel_rfl
@[simp] theorem fi28_0 : z2N Tryz.prog 28 0 = some (0, 1, false) := by kernel_rfl
@[simp] theorem fi28_1 : z2N Tryz.prog 28 1 = some (1, 1, false) := by kernel_rfl
@[simp] theorem fi28_2 : z2N Tryz.prog 28 2 = some (2, 1, false) := by kernel_rfl
@[simp] theorem fi28_3 : z2N Tryz.prog 28 3 = some (3, 1, false) := by kernel_rfl
@[simp] theorem zwD : z9m Tryz.prog 28 = (some [(.sc (.int .i64 0)), (.sc (.int .i64 0)), (.os 1 0 []), (.os 1 0 [])]) := by kernel_rfl
@[simp] theorem bs28 (fr : Fr) (parts : List (Nat × Operand)) : z9b Tryz.prog fr 28 parts = match z8b fr (z2N Tryz.prog 28) ([(.sc (.int .i64 0)), (.sc (.int .i64 0)), (.os 1 0 []), (.os 1 0 [])].map (A.t none)) parts with | some xs => some (E.ag xs) | none => none := z4R zwD fr parts
@[simp] theorem ty31 : z2T Tryz.prog 31 = some ⟨.slice 9, 1, 24, (some [(.os 1 0 [])])⟩ := by kernel_rfl
noncomputable def zwV : Array Field := match Tryz.prog.underlying 33 with | some (.struct fs) => fs | _ => #[]
@[simp] theorem ty33 : z2T Tryz.prog 33 = some ⟨.struct zwV, 4, 80, (some [(.sc (.int .i64 0)), (.os 1 0 []), (.os 1 0 []), (.os 1 0 [])])⟩ := by kernel_rfl
@[simp] theorem fi33_0 : z2N Tryz.prog 33 0 = some (0, 1, false) := by kernel_rfl
@[simp] theorem fi33_1 : z2N Tryz.prog 33 1 = some (1, 1, false) := by kernel_rfl
@[simp] theorem fi33_2 : z2N Tryz.prog 33 2 = some (2, 1, false) := by kernel_rfl
@[simp] theorem fi33_3 : z2N Tryz.prog 33 3 = some (3, 1, false) := by kernel_rfl
@[simp] theorem zwC : z9m Tryz.prog 33 = (some [(.sc (.int .i64 0)), (.os 1 0 []), (.os 1 0 []), (.os 1 0 [])]) := by kernel_rfl
@[simp] theorem bs33 (fr : Fr) (parts : List (Nat × Operand)) : z9b Tryz.prog fr 33 parts = match z8b fr (z2N Tryz.prog 33) ([(.sc (.int .i64 0)), (.os 1 0 []), (.os 1 0 []), (.os 1 0 [])].map (A.t none)) parts with | some xs => some (E.ag xs) | none => none := z4R zwC fr parts
@[simp] theorem ty34 : z2T Tryz.prog 34 = some ⟨.int .i64, 1, 8, (some [(.sc (.int .i64 0))])⟩ := by kernel_rfl
@[simp] theorem ty41 : z2T Tryz.prog 41 = some ⟨.slice 33, 1, 24, (some [(.os 4 0 [])])⟩ := by kernel_rfl
noncomputable def zwU : Array Field := match Tryz.prog.underlying 53 with | some (.struct fs) => fs | _ => #[]
@[simp] theorem ty53 : z2T Tryz.prog 53 = some ⟨.struct zwU, 2, 32, (some [(.os 1 0 []), (.sc (.int .i64 0))])⟩ := by kernel_rfl
@[simp] theorem fi53_0 : z2N Tryz.prog 53 0 = some (0, 1, false) := by kernel_rfl
@[simp] theorem fi53_1 : z2N Tryz.prog 53 1 = some (1, 1, false) := by kernel_rfl
@[simp] theorem zwB : z9m Tryz.prog 53 = (some [(.os 1 0 []), (.sc (.int .i64 0))]) := by kernel_rfl
@[simp] theorem bs53 (fr : Fr) (parts : List (Nat × Operand)) : z9b Tryz.prog fr 53 parts = match z8b fr (z2N Tryz.prog 53) ([(.os 1 0 []), (.sc (.int .i64 0))].map (A.t none)) parts with | some xs => some (E.ag xs) | none => none := z4R zwB fr parts
noncomputable def zwT : Array Field := match Tryz.prog.underlying 59 with | some (.struct fs) => fs | _ => #[]
@[simp] theorem ty59 : z2T Tryz.prog 59 = some ⟨.struct zwT, 6, 144, (some [(.os 1 0 []), (.os 1 0 []), (.os 1 0 []), (.os 1 0 []), (.os 1 0 []), (.os 1 0 [])])⟩ := by kernel_rfl
@[simp] theorem fi59_0 : z2N Tryz.prog 59 0 = some (0, 1, false) := by kernel_rfl
@[simp] theorem fi59_1 : z2N Tryz.prog 59 1 = some (1, 1, false) := by kernel_rfl
@[simp] theorem fi59_2 : z2N Tryz.prog 59 2 = some (2, 1, false) := by kernel_rfl
@[simp] theorem fi59_3 : z2N Tryz.prog 59 3 = some (3, 1, false) := by kernel_rfl
@[simp] theorem fi59_4 : z2N Tryz.prog 59 4 = some (4, 1, false) := by kernel_rfl
@[simp] theorem fi59_5 : z2N Tryz.prog 59 5 = some (5, 1, false) := by kernel_rfl
@[simp] theorem zwA : z9m Tryz.prog 59 = (some [(.os 1 0 []), (.os 1 0 []), (.os 1 0 []), (.os 1 0 []), (.os 1 0 []), (.os 1 0 [])]) := by kernel_rfl
@[simp] theorem bs59 (fr : Fr) (parts : List (Nat × Operand)) : z9b Tryz.prog fr 59 parts = match z8b fr (z2N Tryz.prog 59) ([(.os 1 0 []), (.os 1 0 []), (.os 1 0 []), (.os 1 0 []), (.os 1 0 []), (.os 1 0 [])].map (A.t none)) parts with | some xs => some (E.ag xs) | none => none := z4R zwA fr parts
@[simp] theorem ty62 : z2T Tryz.prog 62 = some ⟨.map 3 3, 1, 8, (some [(.sc (.map none))])⟩ := by kernel_rfl
@[simp] theorem mt62 : zgs Tryz.prog 62 = some ((some .i64), 3) := by kernel_rfl
@[simp] theorem zv62 : zl4 Tryz.prog 3 = some (.int .i64 0) := by kernel_rfl
@[simp] theorem ty67 : z2T Tryz.prog 67 = some ⟨.slice 5, 1, 24, (some [(.os 1 0 [])])⟩ := by kernel_rfl
@[simp] theorem ty75 : z2T Tryz.prog 75 = some ⟨.map 9 4, 1, 8, (some [(.sc (.map none))])⟩ := by kernel_rfl
@[simp] theorem mt75 : zgs Tryz.prog 75 = some (none, 4) := by kernel_rfl
@[simp] theorem zv75 : zl4 Tryz.prog 4 = some (.bool false) := by kernel_rfl
@[simp] theorem ty85 : z2T Tryz.prog 85 = some ⟨.slice 25, 1, 24, (some [(.os 1 0 [])])⟩ := by kernel_rfl
noncomputable def zwS : Array Field := match Tryz.prog.underlying 87 with | some (.struct fs) => fs | _ => #[]
@[simp] theorem ty87 : z2T Tryz.prog 87 = some ⟨.struct zwS, 3, 72, (some [(.os 1 0 []), (.os 1 0 []), (.os 1 0 [])])⟩ := by kernel_rfl
@[simp] theorem fi87_0 : z2N Tryz.prog 87 0 = some (0, 1, false) := by kernel_rfl
@[simp] theorem fi87_1 : z2N Tryz.prog 87 1 = some (1, 1, false) := by kernel_rfl
@[simp] theorem fi87_2 : z2N Tryz.prog 87 2 = some (2, 1, false) := by kernel_rfl
@[simp] theorem zwz : z9m Tryz.prog 87 = (some [(.os 1 0 []), (.os 1 0 []), (.os 1 0 [])]) := by kernel_rfl
@[simp] theorem bs87 (fr : Fr) (parts : List (Nat × Operand)) : z9b Tryz.prog fr 87 parts = match z8b fr (z2N Tryz.prog 87) ([(.os 1 0 []), (.os 1 0 []), (.os 1 0 [])].map (A.t none)) parts with | some xs => some (E.ag xs) | none => none := z4R zwz fr parts
@[simp] theorem ty98 : z2T Tryz.prog 98 = some ⟨.int .u64, 1, 8, (some [(.sc (.int .u64 0))])⟩ := by kernel_rfl
@[simp] theorem ty117 : z2T Tryz.prog 117 = some ⟨.int .u32, 1, 4, (some [(.sc (.int .u32 0))])⟩ := by kernel_rfl
@[simp] theorem ty119 : z2T Tryz.prog 119 = some ⟨.int .u64, 1, 8, (some [(.sc (.int .u64 0))])⟩ := by kernel_rfl
def cf5 : Cfg := { wio := fun f i => (f == 8 && (i == 0)) || (f == 13 && (i == 0)) || (f == 14 && (i == 0)) || (f == 18 && (i == 0)) || (f == 7 && (i == 0)) || (f == 999999 && (i == 0)) || (f == 777777 && (i == 15)), live := fun r => if r = 8 then some [6, 9, 39, 40, 41] else if r = 18 then some [6, 9, 14, 15, 17, 18, 39, 40, 41, 72, 73, 74] else none, dr := fun r => if r = 6 then some [(0, 0), (2, 0), (3, 0), (1, 1), (4, 2), (5, 0)] else none }
@[simp] theorem wio5 : cf5.wio = fun f i => (f == 8 && (i == 0)) || (f == 13 && (i == 0)) || (f == 14 && (i == 0)) || (f == 18 && (i == 0)) || (f == 7 && (i == 0)) || (f == 999999 && (i == 0)) || (f == 777777 && (i == 15)) := rfl
@[simp] theorem live5 : cf5.live = fun r => if r = 8 then some [6, 9, 39, 40, 41] else if r = 18 then some [6, 9, 14, 15, 17, 18, 39, 40, 41, 72, 73, 74] else none := rfl
@[simp] theorem wr5 : cf5.wr = fun _ => [] := rfl
def cf6 : Cfg := { wio := fun f i => (f == 999999 && (i == 0)), live := fun r => none, dr := fun r => none }
@[simp] theorem wio6 : cf6.wio = fun f i => (f == 999999 && (i == 0)) := rfl
@[simp] theorem live6 : cf6.live = fun r => none := rfl
@[simp] theorem wr6 : cf6.wr = fun _ => [] := rfl
def zif : SchT := .nil
def zig : SchT := .op 16 2 zif
def zih : SchT := .op 15 0 zig
def zii : SchT := .op 14 2 zih
def zdX : SchT := .op 12 2 zii
def zdY : SchT := .op 11 1 zdX
def zdZ : SchT := .op 13 3 zdX
def z9K : SchT := .op 6 2 zdZ
def ze0 : SchT := .op 8 2 zdZ
def zij : SchT := .op 10 1 zdY
def ze1 : SchT := .op 13 3 zdY
def zbi : SchT := .op 1 2 z9K
def z9L : SchT := .op 5 1 z9K
def zbj : SchT := .alt (.op 6 2 ze0) (.op 8 2 z9K)
def z9M : SchT := .alt (.op 6 2 ze1) (.op 11 1 z9K)
def ze2 : SchT := .alt (.op 8 2 ze1) (.op 11 1 ze0)
def ze3 : SchT := .op 13 3 zij
def zbk : SchT := .alt (.op 1 2 z9L) (.op 5 1 zbi)
def ze4 : SchT := .alt (.op 1 2 zbj) (.op 8 2 zbi)
def zbl : SchT := .alt (.op 1 2 z9M) (.op 11 1 zbi)
def zik : SchT := .op 4 0 z9L
def zbm : SchT := .alt (.op 5 1 zbj) (.op 8 2 z9L)
def z9N : SchT := .alt (.op 5 1 z9M) (.op 11 1 z9L)
def zbn : SchT := .alt (.op 6 2 ze2) (.alt (.op 8 2 z9M) (.op 11 1 zbj))
def zbo : SchT := .alt (.op 6 2 ze3) (.op 10 1 z9M)
def zil : SchT := .alt (.op 8 2 ze3) (.op 10 1 ze2)
def zim : SchT := .op 4 3 zbk
def ze5 : SchT := .alt (.op 1 2 zbm) (.alt (.op 5 1 ze4) (.op 8 2 zbk))
def zbp : SchT := .alt (.op 1 2 z9N) (.alt (.op 5 1 zbl) (.op 11 1 zbk))
def ze6 : SchT := .alt (.op 1 2 zbn) (.alt (.op 8 2 zbl) (.op 11 1 ze4))
def ze7 : SchT := .alt (.op 1 2 zbo) (.op 10 1 zbl)
def zbq : SchT := .op 3 1 zik
def zin : SchT := .op 4 3 zbm
def zio : SchT := .op 4 0 z9N
def zbr : SchT := .alt (.op 5 1 zbn) (.alt (.op 8 2 z9N) (.op 11 1 zbm))
def zbs : SchT := .alt (.op 5 1 zbo) (.op 10 1 z9N)
def ze8 : SchT := .alt (.op 6 2 zil) (.alt (.op 8 2 zbo) (.op 10 1 zbn))
def ze9 : SchT := .alt (.op 1 2 zbq) (.op 3 1 zim)
def zip : SchT := .op 4 3 ze5
def ziq : SchT := .op 4 3 zbp
def zea : SchT := .alt (.op 1 2 zbr) (.alt (.op 5 1 ze6) (.alt (.op 8 2 zbp) (.op 11 1 ze5)))
def zeb : SchT := .alt (.op 1 2 zbs) (.alt (.op 5 1 ze7) (.op 10 1 zbp))
def zir : SchT := .alt (.op 1 2 ze8) (.alt (.op 8 2 ze7) (.op 10 1 ze6))
def zec : SchT := .alt (.op 3 1 zin) (.op 8 2 zbq)
def zbt : SchT := .alt (.op 3 1 zio) (.op 11 1 zbq)
def zis : SchT := .op 4 3 zbr
def zit : SchT := .op 4 0 zbs
def zed : SchT := .alt (.op 5 1 ze8) (.alt (.op 8 2 zbs) (.op 10 1 zbr))
def ziu : SchT := .alt (.op 1 2 zec) (.alt (.op 3 1 zip) (.op 8 2 ze9))
def zee : SchT := .alt (.op 1 2 zbt) (.alt (.op 3 1 ziq) (.op 11 1 ze9))
def ziv : SchT := .op 4 3 zea
def ziw : SchT := .op 4 3 zeb
def zix : SchT := .alt (.op 1 2 zed) (.alt (.op 5 1 zir) (.alt (.op 8 2 zeb) (.op 10 1 zea)))
def zef : SchT := .alt (.op 3 1 zis) (.alt (.op 8 2 zbt) (.op 11 1 zec))
def zeg : SchT := .alt (.op 3 1 zit) (.op 10 1 zbt)
def zlF : SchT := .op 4 3 zed
def zlG : SchT := .alt (.op 1 2 zef) (.alt (.op 3 1 ziv) (.alt (.op 8 2 zee) (.op 11 1 ziu)))
def zlH : SchT := .alt (.op 1 2 zeg) (.alt (.op 3 1 ziw) (.op 10 1 zee))
def zlI : SchT := .op 4 3 zix
def zlJ : SchT := .alt (.op 3 1 zlF) (.alt (.op 8 2 zeg) (.op 10 1 zef))
def zlK : SchT := .alt (.op 1 2 zlJ) (.alt (.op 3 1 zlI) (.alt (.op 8 2 zlH) (.op 10 1 zlG)))
def zlL : SchT := .op 9 3 zlK
def zlM : SchT := .op 7 3 zlL
def zlN : SchT := .op 2 3 zlM
def zlO : SchT := .op 0 3 zlN
def cf7 : Cfg := { wio := fun f i => (f == 8 && (i == 0)) || (f == 999999 && (i == 0)), live := fun r => if r = 5 then some [0, 1, 6, 7, 8, 9] else if r = 9 then some [0, 1, 6, 7, 8, 10] else if r = 13 then some [0, 1, 6, 7, 8, 10, 11, 12] else if r = 17 then some [0, 1, 6, 7, 8, 10, 11, 13] else none, dr := fun r => if r = 20 then some [(0, 0), (1, 0), (2, 0), (3, 0), (4, 0), (5, 0), (6, 0), (7, 0), (8, 0), (9, 0), (10, 0), (11, 2)] else if r = 21 then some [(1, 0), (2, 0), (3, 0), (5, 3), (6, 3), (7, 3), (8, 3), (0, 1), (4, 2), (9, 2), (10, 0)] else none, wr := fun r => if r = 7 then [0] else [], fz := fun r => if r = 999998 then some [] else none, dt := fun r => if r = 7 then some (zlO) else none }
@[simp] theorem wio7 : cf7.wio = fun f i => (f == 8 && (i == 0)) || (f == 999999 && (i == 0)) := rfl
@[simp] theorem live7 : cf7.live = fun r => if r = 5 then some [0, 1, 6, 7, 8, 9] else if r = 9 then some [0, 1, 6, 7, 8, 10] else if r = 13 then some [0, 1, 6, 7, 8, 10, 11, 12] else if r = 17 then some [0, 1, 6, 7, 8, 10, 11, 13] else none := rfl
@[simp] theorem wr7 : cf7.wr = fun r => if r = 7 then [0] else [] := rfl
def cf8 : Cfg := { wio := fun f i => (f == 999999 && (i == 0)), live := fun r => none, dr := fun r => if r = 1 then some [(0, 0), (1, 0), (2, 0), (3, 0), (4, 0), (5, 0), (6, 0), (7, 0), (8, 0), (9, 0)] else if r = 4 then some [(0, 0), (1, 0), (2, 0), (3, 0), (4, 0), (5, 0), (6, 0), (7, 0), (8, 0), (9, 0), (10, 0), (11, 0), (12, 1), (13, 0)] else none }
@[simp] theorem wio8 : cf8.wio = fun f i => (f == 999999 && (i == 0)) := rfl
@[simp] theorem live8 : cf8.live = fun r => none := rfl
@[simp] theorem wr8 : cf8.wr = fun _ => [] := rfl
def cf9 : Cfg := { wio := fun f i => (f == 999999 && (i == 0)), live := fun r => if r = 6 then some [1, 5, 26, 27] else none, dr := fun r => none, fz := fun r => if r = 999998 then some [] else none }
@[simp] theorem wio9 : cf9.wio = fun f i => (f == 999999 && (i == 0)) := rfl
@[simp] theorem live9 : cf9.live = fun r => if r = 6 then some [1, 5, 26, 27] else none := rfl
@[simp] theorem wr9 : cf9.wr = fun _ => [] := rfl
def cf12 : Cfg := { wio := fun f i => (f == 999999 && (i == 0)), live := fun r => none, dr := fun r => none }
@[simp] theorem wio12 : cf12.wio = fun f i => (f == 999999 && (i == 0)) := rfl
@[simp] theorem live12 : cf12.live = fun r => none := rfl
@[simp] theorem wr12 : cf12.wr = fun _ => [] := rfl
def cf13 : Cfg := { wio := fun f i => (f == 8 && (i == 0)) || (f == 28 && (i == 0)) || (f == 26 && (i == 0)) || (f == 7 && (i == 0)) || (f == 27 && (i == 0)) || (f == 999999 && (i == 0)), live := fun r => none, dr := fun r => none, fz := fun r => if r = 999998 then some [] else none }
@[simp] theorem wio13 : cf13.wio = fun f i => (f == 8 && (i == 0)) || (f == 28 && (i == 0)) || (f == 26 && (i == 0)) || (f == 7 && (i == 0)) || (f == 27 && (i == 0)) || (f == 999999 && (i == 0)) := rfl
@[simp] theorem live13 : cf13.live = fun r => none := rfl
@[simp] theorem wr13 : cf13.wr = fun _ => [] := rfl
def cf14 : Cfg := { wio := fun f i => (f == 8 && (i == 0)) || (f == 999999 && (i == 0)), live := fun r => none, dr := fun r => none }
@[simp] theorem wio14 : cf14.wio = fun f i => (f == 8 && (i == 0)) || (f == 999999 && (i == 0)) := rfl
@[simp] theorem live14 : cf14.live = fun r => none := rfl
@[simp] theorem wr14 : cf14.wr = fun _ => [] := rfl
def cf15 : Cfg := { wio := fun f i => (f == 999999 && (i == 0)), live := fun r => if r = 6 then some [1, 4, 6, 29, 30, 31] else if r = 13 then some [1, 4, 6, 10, 11, 48, 49, 50] else none, dr := fun r => none, fz := fun r => if r = 11 then some [6] else if r = 999998 then some [] else none, dt := fun r => if r = 15 then some (.op 0 0 (.op 1 0 (.op 2 0 (.op 3 0 (.op 4 0 (.op 5 0 (.op 6 0 (.alt (.op 7 1 (.op 8 0 (.op 9 0 (.op 10 3 (.op 11 1 (.op 12 2 (.op 13 0 .nil))))))) (.op 11 1 (.op 7 1 (.op 8 0 (.op 9 0 (.op 10 3 (.op 12 2 (.op 13 0 .nil))))))))))))))) else none }
@[simp] theorem wio15 : cf15.wio = fun f i => (f == 999999 && (i == 0)) := rfl
@[simp] theorem live15 : cf15.live = fun r => if r = 6 then some [1, 4, 6, 29, 30, 31] else if r = 13 then some [1, 4, 6, 10, 11, 48, 49, 50] else none := rfl
@[simp] theorem wr15 : cf15.wr = fun _ => [] := rfl
def cf16 : Cfg := { wio := fun f i => (f == 999999 && (i == 0)), live := fun r => none, dr := fun r => none }
@[simp] theorem wio16 : cf16.wio = fun f i => (f == 999999 && (i == 0)) := rfl
@[simp] theorem live16 : cf16.live = fun r => none := rfl
@[simp] theorem wr16 : cf16.wr = fun _ => [] := rfl
def cf17 : Cfg := { wio := fun f i => (f == 999999 && (i == 0)), live := fun r => if r = 4 then some [0, 1, 12, 13] else none, dr := fun r => if r = 6 then some [(0, 0), (1, 0), (2, 0), (3, 0), (4, 0), (5, 0), (6, 0), (7, 0), (8, 0)] else none }
@[simp] theorem wio17 : cf17.wio = fun f i => (f == 999999 && (i == 0)) := rfl
@[simp] theorem live17 : cf17.live = fun r => if r = 4 then some [0, 1, 12, 13] else none := rfl
@[simp] theorem wr17 : cf17.wr = fun _ => [] := rfl
def cf18 : Cfg := { wio := fun f i => (f == 8 && (i == 0)) || (f == 999999 && (i == 0)), live := fun r => if r = 3 then some [0, 1, 7, 8] else none, dr := fun r => none }
@[simp] theorem wio18 : cf18.wio = fun f i => (f == 8 && (i == 0)) || (f == 999999 && (i == 0)) := rfl
@[simp] theorem live18 : cf18.live = fun r => if r = 3 then some [0, 1, 7, 8] else none := rfl
@[simp] theorem wr18 : cf18.wr = fun _ => [] := rfl
def cf19 : Cfg := { wio := fun f i => (f == 999999 && (i == 0)), live := fun r => if r = 7 then some [1, 2, 3, 27, 28] else none, dr := fun r => if r = 9 then some [(0, 0), (1, 0), (2, 0), (3, 0), (4, 0), (5, 0), (6, 0), (7, 1), (8, 0)] else none }
@[simp] theorem wio19 : cf19.wio = fun f i => (f == 999999 && (i == 0)) := rfl
@[simp] theorem live19 : cf19.live = fun r => if r = 7 then some [1, 2, 3, 27, 28] else none := rfl
@[simp] theorem wr19 : cf19.wr = fun _ => [] := rfl
def cf20 : Cfg := { wio := fun f i => (f == 999999 && (i == 0)), live := fun r => if r = 3 then some [1, 2, 3, 8, 15, 16, 17] else if r = 7 then some [1, 2, 3, 8, 11, 12, 15, 16, 17, 25, 26, 27] else none, dr := fun r => none }
@[simp] theorem wio20 : cf20.wio = fun f i => (f == 999999 && (i == 0)) := rfl
@[simp] theorem live20 : cf20.live = fun r => if r = 3 then some [1, 2, 3, 8, 15, 16, 17] else if r = 7 then some [1, 2, 3, 8, 11, 12, 15, 16, 17, 25, 26, 27] else none := rfl
@[simp] theorem wr20 : cf20.wr = fun _ => [] := rfl
def cf21 : Cfg := { wio := fun f i => (f == 999999 && (i == 0)), live := fun r => if r = 2 then some [1, 10, 11, 12] else if r = 8 then some [1, 7, 10, 11, 12, 22, 23, 24] else none, dr := fun r => none }
@[simp] theorem wio21 : cf21.wio = fun f i => (f == 999999 && (i == 0)) := rfl
@[simp] theorem live21 : cf21.live = fun r => if r = 2 then some [1, 10, 11, 12] else if r = 8 then some [1, 7, 10, 11, 12, 22, 23, 24] else none := rfl
@[simp] theorem wr21 : cf21.wr = fun _ => [] := rfl
def cf22 : Cfg := { wio := fun f i => (f == 41 && (i == 0)) || (f == 999999 && (i == 0)), live := fun r => if r = 11 then some [6, 7, 8, 35, 36, 37] else if r = 16 then some [6, 7, 8, 11, 35, 36, 37] else if r = 19 then some [6, 7, 8, 11, 35, 36, 37, 55, 56, 57] else none, dr := fun r => none, fz := fun r => if r = 7 then some [5] else if r = 22 then some [14] else if r = 999998 then some [] else none }
@[simp] theorem wio22 : cf22.wio = fun f i => (f == 41 && (i == 0)) || (f == 999999 && (i == 0)) := rfl
@[simp] theorem live22 : cf22.live = fun r => if r = 11 then some [6, 7, 8, 35, 36, 37] else if r = 16 then some [6, 7, 8, 11, 35, 36, 37] else if r = 19 then some [6, 7, 8, 11, 35, 36, 37, 55, 56, 57] else none := rfl
@[simp] theorem wr22 : cf22.wr = fun _ => [] := rfl
def cf25 : Cfg := { wio := fun f i => (f == 999999 && (i == 0)), live := fun r => if r = 4 then some [0, 1, 17, 18] else if r = 10 then some [0, 1, 6, 7, 17, 18, 62, 63] else if r = 16 then some [0, 1, 6, 7, 17, 18, 80, 81] else if r = 21 then some [0, 1, 6, 7, 9, 17, 18, 80, 81, 102, 103] else none, dr := fun r => if r = 12 then some [(0, 0), (1, 0), (2, 0), (3, 0), (4, 0), (5, 0), (6, 0), (7, 0), (8, 0), (9, 0), (10, 0)] else if r = 18 then some [(0, 0), (1, 0), (2, 0), (3, 0), (4, 0), (5, 0), (6, 0), (7, 0), (8, 0), (9, 0), (10, 0), (11, 0), (12, 0)] else if r = 23 then some [(0, 0), (1, 0), (2, 0), (3, 0), (4, 0), (5, 0), (6, 0), (7, 0), (8, 0), (9, 0), (10, 0), (11, 0), (12, 0), (13, 0), (14, 0), (15, 0), (16, 0)] else none, dt := fun r => if r = 6 then some (.op 0 0 (.op 1 0 (.op 2 0 (.op 3 0 (.op 4 3 (.op 5 3 (.op 6 3 (.op 7 3 (.alt (.op 8 1 (.op 9 1 (.op 10 2 (.op 11 2 .nil)))) (.op 9 1 (.op 8 1 (.op 10 2 (.op 11 2 .nil))))))))))))) else none }
@[simp] theorem wio25 : cf25.wio = fun f i => (f == 999999 && (i == 0)) := rfl
@[simp] theorem live25 : cf25.live = fun r => if r = 4 then some [0, 1, 17, 18] else if r = 10 then some [0, 1, 6, 7, 17, 18, 62, 63] else if r = 16 then some [0, 1, 6, 7, 17, 18, 80, 81] else if r = 21 then some [0, 1, 6, 7, 9, 17, 18, 80, 81, 102, 103] else none := rfl
@[simp] theorem wr25 : cf25.wr = fun _ => [] := rfl
def cf26 : Cfg := { wio := fun f i => (f == 28 && (i == 0)) || (f == 999999 && (i == 0)), live := fun r => if r = 3 then some [6, 7, 17, 18] else if r = 6 then some [6, 7, 8, 17, 18, 25, 26, 27] else none, dr := fun r => none, fz := fun r => if r = 999998 then some [] else none }
@[simp] theorem wio26 : cf26.wio = fun f i => (f == 28 && (i == 0)) || (f == 999999 && (i == 0)) := rfl
@[simp] theorem live26 : cf26.live = fun r => if r = 3 then some [6, 7, 17, 18] else if r = 6 then some [6, 7, 8, 17, 18, 25, 26, 27] else none := rfl
@[simp] theorem wr26 : cf26.wr = fun _ => [] := rfl
def cf27 : Cfg := { wio := fun f i => (f == 8 && (i == 0)) || (f == 999999 && (i == 0)), live := fun r => if r = 4 then some [0, 1, 4, 5, 6, 22, 23, 24] else if r = 9 then some [0, 1, 4, 5, 6, 8, 9, 10, 22, 23, 24] else if r = 13 then some [0, 1, 4, 5, 6, 8, 9, 10, 11, 12, 22, 23, 24] else if r = 15 then some [0, 1, 4, 5, 6, 8, 9, 10, 11, 12, 22, 23, 24, 50, 51, 52] else none, dr := fun r => if r = 6 then some [(0, 0), (1, 0), (2, 0), (3, 1), (4, 0), (5, 1), (6, 2), (7, 0), (8, 2)] else none, wr := fun r => if r = 6 then [0] else [] }
@[simp] theorem wio27 : cf27.wio = fun f i => (f == 8 && (i == 0)) || (f == 999999 && (i == 0)) := rfl
@[simp] theorem live27 : cf27.live = fun r => if r = 4 then some [0, 1, 4, 5, 6, 22, 23, 24] else if r = 9 then some [0, 1, 4, 5, 6, 8, 9, 10, 22, 23, 24] else if r = 13 then some [0, 1, 4, 5, 6, 8, 9, 10, 11, 12, 22, 23, 24] else if r = 15 then some [0, 1, 4, 5, 6, 8, 9, 10, 11, 12, 22, 23, 24, 50, 51, 52] else none := rfl
@[simp] theorem wr27 : cf27.wr = fun r => if r = 6 then [0] else [] := rfl
def cf28 : Cfg := { wio := fun f i => (f == 8 && (i == 0)) || (f == 999999 && (i == 0)), live := fun r => if r = 5 then some [0, 1, 6, 7, 8, 9] else if r = 10 then some [0, 1, 6, 7, 8, 9, 10, 11] else none, dr := fun r => if r = 7 then some [(0, 0), (1, 0), (2, 0), (3, 1), (4, 0), (5, 1), (6, 2), (7, 0), (8, 2)] else none, wr := fun r => if r = 7 then [0] else [] }
@[simp] theorem wio28 : cf28.wio = fun f i => (f == 8 && (i == 0)) || (f == 999999 && (i == 0)) := rfl
@[simp] theorem live28 : cf28.live = fun r => if r = 5 then some [0, 1, 6, 7, 8, 9] else if r = 10 then some [0, 1, 6, 7, 8, 9, 10, 11] else none := rfl
@[simp] theorem wr28 : cf28.wr = fun r => if r = 7 then [0] else [] := rfl
def zdt : SchT := .nil
def zaq : SchT := .op 13 2 zdt
def z6Q : SchT := .op 11 0 zaq
def zdu : SchT := .op 12 1 zaq
def z6R : SchT := .op 4 1 z6Q
def z6S : SchT := .op 6 1 z6Q
def z6T : SchT := .op 8 1 z6Q
def z6U : SchT := .op 10 1 z6Q
def z6V : SchT := .op 11 0 zdu
def z8o : SchT := .alt (.op 4 1 z6S) (.op 6 1 z6R)
def z8p : SchT := .alt (.op 4 1 z6T) (.op 8 1 z6R)
def z8q : SchT := .alt (.op 4 1 z6U) (.op 10 1 z6R)
def z8r : SchT := .alt (.op 4 1 z6V) (.op 12 1 z6R)
def z8s : SchT := .alt (.op 6 1 z6T) (.op 8 1 z6S)
def z8t : SchT := .alt (.op 6 1 z6U) (.op 10 1 z6S)
def z8u : SchT := .alt (.op 6 1 z6V) (.op 12 1 z6S)
def z8v : SchT := .alt (.op 8 1 z6U) (.op 10 1 z6T)
def z8w : SchT := .alt (.op 8 1 z6V) (.op 12 1 z6T)
def z8x : SchT := .alt (.op 10 1 z6V) (.op 12 1 z6U)
def zar : SchT := .alt (.op 4 1 z8s) (.alt (.op 6 1 z8p) (.op 8 1 z8o))
def zas : SchT := .alt (.op 4 1 z8t) (.alt (.op 6 1 z8q) (.op 10 1 z8o))
def zat : SchT := .alt (.op 4 1 z8u) (.alt (.op 6 1 z8r) (.op 12 1 z8o))
def zau : SchT := .alt (.op 4 1 z8v) (.alt (.op 8 1 z8q) (.op 10 1 z8p))
def zav : SchT := .alt (.op 4 1 z8w) (.alt (.op 8 1 z8r) (.op 12 1 z8p))
def zaw : SchT := .alt (.op 4 1 z8x) (.alt (.op 10 1 z8r) (.op 12 1 z8q))
def zax : SchT := .alt (.op 6 1 z8v) (.alt (.op 8 1 z8t) (.op 10 1 z8s))
def zay : SchT := .alt (.op 6 1 z8w) (.alt (.op 8 1 z8u) (.op 12 1 z8s))
def zaz : SchT := .alt (.op 6 1 z8x) (.alt (.op 10 1 z8u) (.op 12 1 z8t))
def zaA : SchT := .alt (.op 8 1 z8x) (.alt (.op 10 1 z8w) (.op 12 1 z8v))
def zdv : SchT := .alt (.op 4 1 zax) (.alt (.op 6 1 zau) (.alt (.op 8 1 zas) (.op 10 1 zar)))
def zdw : SchT := .alt (.op 4 1 zay) (.alt (.op 6 1 zav) (.alt (.op 8 1 zat) (.op 12 1 zar)))
def zdx : SchT := .alt (.op 4 1 zaz) (.alt (.op 6 1 zaw) (.alt (.op 10 1 zat) (.op 12 1 zas)))
def zfL : SchT := .alt (.op 4 1 zaA) (.alt (.op 8 1 zaw) (.alt (.op 10 1 zav) (.op 12 1 zau)))
def zfM : SchT := .alt (.op 6 1 zaA) (.alt (.op 8 1 zaz) (.alt (.op 10 1 zay) (.op 12 1 zax)))
def zfN : SchT := .alt (.op 4 1 zfM) (.alt (.op 6 1 zfL) (.alt (.op 8 1 zdx) (.alt (.op 10 1 zdw) (.op 12 1 zdv))))
def zfO : SchT := .op 9 0 zfN
def zfP : SchT := .op 7 0 zfO
def zfQ : SchT := .op 5 0 zfP
def zfR : SchT := .op 3 0 zfQ
def zfS : SchT := .op 2 0 zfR
def zfT : SchT := .op 1 0 zfS
def zfU : SchT := .op 0 0 zfT
def cf29 : Cfg := { wio := fun f i => (f == 999999 && (i == 0)), live := fun r => if r = 12 then some [2, 5, 7, 8, 9, 10, 53, 54] else if r = 19 then some [2, 5, 7, 8, 10, 85, 86, 87] else if r = 23 then some [2, 5, 7, 8, 10, 14, 17, 85, 86, 87, 99, 100] else none, dr := fun r => if r = 14 then some [(0, 0), (1, 0), (2, 0), (3, 0), (4, 0), (5, 1), (6, 0), (7, 2)] else if r = 16 then some [(0, 0), (1, 0), (2, 0), (3, 0), (4, 0), (5, 0), (6, 0), (7, 0), (8, 0), (9, 0), (10, 0), (11, 0), (12, 0), (13, 0), (14, 2)] else if r = 26 then some [(0, 0), (1, 0), (2, 0), (3, 0), (4, 0), (5, 0), (6, 0), (7, 0), (8, 2)] else none, fz := fun r => if r = 8 then some [5] else if r = 10 then some [8] else if r = 999998 then some [] else none, dt := fun r => if r = 10 then some (zfU) else none }
@[simp] theorem wio29 : cf29.wio = fun f i => (f == 999999 && (i == 0)) := rfl
@[simp] theorem live29 : cf29.live = fun r => if r = 12 then some [2, 5, 7, 8, 9, 10, 53, 54] else if r = 19 then some [2, 5, 7, 8, 10, 85, 86, 87] else if r = 23 then some [2, 5, 7, 8, 10, 14, 17, 85, 86, 87, 99, 100] else none := rfl
@[simp] theorem wr29 : cf29.wr = fun _ => [] := rfl
def cf30 : Cfg := { wio := fun f i => (f == 57 && (i == 0)) || (f == 999999 && (i == 0)), live := fun r => if r = 3 then some [1, 4, 11, 12, 13] else if r = 11 then some [1, 4, 7, 36, 37, 38] else none, dr := fun r => if r = 13 then some [(0, 0), (1, 0), (2, 0), (3, 0), (4, 0), (5, 0), (6, 0), (7, 0)] else if r = 17 then some [(0, 0), (1, 0), (2, 0), (3, 0)] else none, fz := fun r => if r = 16 then some [1, 4] else if r = 999998 then some [] else none, dt := fun r => if r = 7 then some (.op 1 3 (.op 2 0 (.op 3 0 (.op 4 0 (.op 5 0 (.op 6 0 (.alt (.op 0 1 (.op 7 1 (.op 8 2 (.op 9 0 (.op 10 2 .nil))))) (.op 7 1 (.alt (.op 0 1 (.op 8 2 (.op 9 0 (.op 10 2 .nil)))) (.op 8 2 (.op 0 1 (.op 9 0 (.op 10 2 .nil))))))))))))) else none }
@[simp] theorem wio30 : cf30.wio = fun f i => (f == 57 && (i == 0)) || (f == 999999 && (i == 0)) := rfl
@[simp] theorem live30 : cf30.live = fun r => if r = 3 then some [1, 4, 11, 12, 13] else if r = 11 then some [1, 4, 7, 36, 37, 38] else none := rfl
@[simp] theorem wr30 : cf30.wr = fun _ => [] := rfl
def cf31 : Cfg := { wio := fun f i => (f == 999999 && (i == 0)), live := fun r => if r = 4 then some [2, 3, 4, 5, 8, 10, 11, 35, 36, 37] else if r = 10 then some [2, 4, 5, 8, 10, 11, 14, 53, 54, 55] else if r = 13 then some [2, 4, 5, 8, 10, 11, 14, 16, 53, 54, 55, 60, 61] else none, dr := fun r => if r = 6 then some [(0, 0), (1, 0), (2, 0), (3, 0), (4, 0), (5, 0), (6, 0), (7, 1), (8, 2), (9, 0), (10, 2)] else if r = 16 then some [(0, 0), (1, 0), (2, 0), (4, 0), (5, 0), (6, 0), (7, 0), (8, 0), (3, 1), (9, 1), (10, 0), (11, 0)] else if r = 17 then some [(0, 0), (1, 0), (2, 0), (3, 0), (4, 0), (5, 0), (6, 0), (7, 0), (8, 0), (9, 0), (10, 0)] else if r = 18 then some [(0, 0), (1, 0), (2, 0), (3, 0), (4, 0), (5, 0), (6, 0), (7, 0), (8, 0), (9, 0), (10, 0), (11, 0), (12, 0), (13, 0)] else if r = 19 then some [(0, 0), (1, 0), (3, 0), (4, 0), (2, 1), (5, 1), (6, 0)] else none, fz := fun r => if r = 999998 then some [] else none }
@[simp] theorem wio31 : cf31.wio = fun f i => (f == 999999 && (i == 0)) := rfl
@[simp] theorem live31 : cf31.live = fun r => if r = 4 then some [2, 3, 4, 5, 8, 10, 11, 35, 36, 37] else if r = 10 then some [2, 4, 5, 8, 10, 11, 14, 53, 54, 55] else if r = 13 then some [2, 4, 5, 8, 10, 11, 14, 16, 53, 54, 55, 60, 61] else none := rfl
@[simp] theorem wr31 : cf31.wr = fun _ => [] := rfl
def cf32 : Cfg := { wio := fun f i => (f == 999999 && (i == 0)), live := fun r => none, dr := fun r => none }
@[simp] theorem wio32 : cf32.wio = fun f i => (f == 999999 && (i == 0)) := rfl
@[simp] theorem live32 : cf32.live = fun r => none := rfl
@[simp] theorem wr32 : cf32.wr = fun _ => [] := rfl
def cf33 : Cfg := { wio := fun f i => (f == 999999 && (i == 0)), live := fun r => none, dr := fun r => none }
@[simp] theorem wio33 : cf33.wio = fun f i => (f == 999999 && (i == 0)) := rfl
@[simp] theorem live33 : cf33.live = fun r => none := rfl
@[simp] theorem wr33 : cf33.wr = fun _ => [] := rfl
def cf34 : Cfg := { wio := fun f i => (f == 999999 && (i == 0)), live := fun r => if r = 4 then some [0, 1, 18, 19] else none, dr := fun r => none }
@[simp] theorem wio34 : cf34.wio = fun f i => (f == 999999 && (i == 0)) := rfl
@[simp] theorem live34 : cf34.live = fun r => if r = 4 then some [0, 1, 18, 19] else none := rfl
@[simp] theorem wr34 : cf34.wr = fun _ => [] := rfl
def cf35 : Cfg := { wio := fun f i => (f == 999999 && (i == 0)), live := fun r => if r = 3 then some [1, 2, 7, 11, 12, 13] else none, dr := fun r => none }
@[simp] theorem wio35 : cf35.wio = fun f i => (f == 999999 && (i == 0)) := rfl
@[simp] theorem live35 : cf35.live = fun r => if r = 3 then some [1, 2, 7, 11, 12, 13] else none := rfl
@[simp] theorem wr35 : cf35.wr = fun _ => [] := rfl
def cf36 : Cfg := { wio := fun f i => (f == 999999 && (i == 0)), live := fun r => if r = 2 then some [1, 2, 3, 7] else none, dr := fun r => if r = 4 then some [(0, 0), (1, 0), (2, 0), (3, 0), (4, 0), (5, 0), (6, 0), (7, 1), (8, 0)] else none }
@[simp] theorem wio36 : cf36.wio = fun f i => (f == 999999 && (i == 0)) := rfl
@[simp] theorem live36 : cf36.live = fun r => if r = 2 then some [1, 2, 3, 7] else none := rfl
@[simp] theorem wr36 : cf36.wr = fun _ => [] := rfl
def cf37 : Cfg := { wio := fun f i => (f == 999999 && (i == 0)), live := fun r => if r = 2 then some [1, 7, 8, 9] else none, dr := fun r => none }
@[simp] theorem wio37 : cf37.wio = fun f i => (f == 999999 && (i == 0)) := rfl
@[simp] theorem live37 : cf37.live = fun r => if r = 2 then some [1, 7, 8, 9] else none := rfl
@[simp] theorem wr37 : cf37.wr = fun _ => [] := rfl
def cf38 : Cfg := { wio := fun f i => (f == 999999 && (i == 0)), live := fun r => if r = 5 then some [3, 14, 15] else none, dr := fun r => none }
@[simp] theorem wio38 : cf38.wio = fun f i => (f == 999999 && (i == 0)) := rfl
@[simp] theorem live38 : cf38.live = fun r => if r = 5 then some [3, 14, 15] else none := rfl
@[simp] theorem wr38 : cf38.wr = fun _ => [] := rfl
def cf39 : Cfg := { wio := fun f i => (f == 999999 && (i == 0)), live := fun r => if r = 3 then some [3, 9, 10, 11] else none, dr := fun r => none }
@[simp] theorem wio39 : cf39.wio = fun f i => (f == 999999 && (i == 0)) := rfl
@[simp] theorem live39 : cf39.live = fun r => if r = 3 then some [3, 9, 10, 11] else none := rfl
@[simp] theorem wr39 : cf39.wr = fun _ => [] := rfl
def cf40 : Cfg := { wio := fun f i => (f == 999999 && (i == 0)), live := fun r => if r = 3 then some [1, 5, 11, 12, 13] else none, dr := fun r => none }
@[simp] theorem wio40 : cf40.wio = fun f i => (f == 999999 && (i == 0)) := rfl
@[simp] theorem live40 : cf40.live = fun r => if r = 3 then some [1, 5, 11, 12, 13] else none := rfl
@[simp] theorem wr40 : cf40.wr = fun _ => [] := rfl
def cf42 : Cfg := { wio := fun f i => (f == 999999 && (i == 0)), live := fun r => if r = 2 then some [0, 1, 9, 10, 11] else none, dr := fun r => none }
@[simp] theorem wio42 : cf42.wio = fun f i => (f == 999999 && (i == 0)) := rfl
@[simp] theorem live42 : cf42.live = fun r => if r = 2 then some [0, 1, 9, 10, 11] else none := rfl
@[simp] theorem wr42 : cf42.wr = fun _ => [] := rfl
def cf49 : Cfg := { wio := fun f i => (f == 999999 && (i == 0)), live := fun r => if r = 4 then some [0, 1, 12, 13] else none, dr := fun r => if r = 6 then some [(0, 0), (1, 0), (2, 0), (3, 0), (4, 0), (5, 0), (6, 0), (7, 0), (8, 0)] else none }
@[simp] theorem wio49 : cf49.wio = fun f i => (f == 999999 && (i == 0)) := rfl
@[simp] theorem live49 : cf49.live = fun r => if r = 4 then some [0, 1, 12, 13] else none := rfl
@[simp] theorem wr49 : cf49.wr = fun _ => [] := rfl
def cf50 : Cfg := { wio := fun f i => (f == 999999 && (i == 0)), live := fun r => if r = 3 then some [0, 1, 5, 6] else if r = 6 then some [0, 1, 5, 6, 7] else none, dr := fun r => if r = 8 then some [(0, 0), (1, 0), (2, 0), (3, 0), (4, 0), (5, 0), (6, 0), (7, 0), (8, 1), (9, 0), (10, 0), (11, 1), (12, 2), (13, 0)] else none }
@[simp] theorem wio50 : cf50.wio = fun f i => (f == 999999 && (i == 0)) := rfl
@[simp] theorem live50 : cf50.live = fun r => if r = 3 then some [0, 1, 5, 6] else if r = 6 then some [0, 1, 5, 6, 7] else none := rfl
@[simp] theorem wr50 : cf50.wr = fun _ => [] := rfl
def cf51 : Cfg := { wio := fun f i => (f == 75 && (i == 0)) || (f == 999999 && (i == 0)), live := fun r => if r = 3 then some [3, 18, 19] else none, dr := fun r => if r = 1 then some [(0, 0), (1, 0), (2, 0), (3, 0), (4, 0), (5, 0), (6, 1), (7, 0), (8, 0), (9, 0), (10, 0), (11, 0)] else none }
@[simp] theorem wio51 : cf51.wio = fun f i => (f == 75 && (i == 0)) || (f == 999999 && (i == 0)) := rfl
@[simp] theorem live51 : cf51.live = fun r => if r = 3 then some [3, 18, 19] else none := rfl
@[simp] theorem wr51 : cf51.wr = fun _ => [] := rfl
def cf52 : Cfg := { wio := fun f i => (f == 999999 && (i == 0)), live := fun r => if r = 3 then some [1, 2, 4, 5, 24, 25, 26] else if r = 9 then some [1, 2, 4, 5, 8, 44, 45, 46] else if r = 13 then some [1, 2, 4, 5, 8, 9, 10, 44, 45, 46, 59, 60] else if r = 20 then some [1, 4, 8, 87, 88] else if r = 24 then some [1, 4, 8, 12, 13, 87, 88, 97, 98, 99] else if r = 27 then some [1, 4, 8, 12, 13, 15, 16, 87, 88, 97, 98, 99, 104, 105, 106] else none, dr := fun r => if r = 11 then some [(0, 0), (1, 0), (2, 0), (3, 0), (4, 0), (5, 1), (6, 0), (7, 2)] else if r = 15 then some [(0, 0), (1, 0), (2, 0), (3, 0), (4, 0), (5, 0), (6, 0), (7, 0), (8, 0), (9, 0), (10, 1), (11, 0), (12, 0), (13, 0), (14, 2)] else if r = 17 then some [(0, 0), (1, 0), (2, 0), (3, 0), (4, 0), (5, 1), (6, 0), (7, 2)] else none, dt := fun r => if r = 7 then some (.op 0 0 (.op 1 0 (.op 2 0 (.op 4 0 (.op 5 0 (.alt (.op 3 1 (.alt (.op 6 1 (.op 7 0 (.op 8 1 (.op 9 2 .nil)))) (.op 8 1 (.op 6 1 (.op 7 0 (.op 9 2 .nil)))))) (.alt (.op 6 1 (.alt (.op 3 1 (.op 7 0 (.op 8 1 (.op 9 2 .nil)))) (.op 8 1 (.op 3 1 (.op 7 0 (.op 9 2 .nil)))))) (.op 8 1 (.alt (.op 3 1 (.op 6 1 (.op 7 0 (.op 9 2 .nil)))) (.op 6 1 (.op 3 1 (.op 7 0 (.op 9 2 .nil))))))))))))) else none }
@[simp] theorem wio52 : cf52.wio = fun f i => (f == 999999 && (i == 0)) := rfl
@[simp] theorem live52 : cf52.live = fun r => if r = 3 then some [1, 2, 4, 5, 24, 25, 26] else if r = 9 then some [1, 2, 4, 5, 8, 44, 45, 46] else if r = 13 then some [1, 2, 4, 5, 8, 9, 10, 44, 45, 46, 59, 60] else if r = 20 then some [1, 4, 8, 87, 88] else if r = 24 then some [1, 4, 8, 12, 13, 87, 88, 97, 98, 99] else if r = 27 then some [1, 4, 8, 12, 13, 15, 16, 87, 88, 97, 98, 99, 104, 105, 106] else none := rfl
@[simp] theorem wr52 : cf52.wr = fun _ => [] := rfl
def cf53 : Cfg := { wio := fun f i => (f == 999999 && (i == 0)), live := fun r => if r = 4 then some [1, 4, 5, 15, 16] else if r = 8 then some [1, 4, 5, 6, 15, 16, 24, 25, 26] else none, dr := fun r => none }
@[simp] theorem wio53 : cf53.wio = fun f i => (f == 999999 && (i == 0)) := rfl
@[simp] theorem live53 : cf53.live = fun r => if r = 4 then some [1, 4, 5, 15, 16] else if r = 8 then some [1, 4, 5, 6, 15, 16, 24, 25, 26] else none := rfl
@[simp] theorem wr53 : cf53.wr = fun _ => [] := rfl
def cf54 : Cfg := { wio := fun f i => (f == 57 && (i == 0)) || (f == 999999 && (i == 0)), live := fun r => if r = 4 then some [1, 2, 5, 6, 23, 24] else if r = 8 then some [1, 2, 5, 6, 7, 23, 24, 33, 34] else if r = 17 then some [1, 2, 9, 60, 61, 62] else if r = 21 then some [1, 2, 9, 11, 60, 61, 62, 75, 76] else none, dr := fun r => if r = 23 then some [(0, 0), (1, 0), (2, 0), (3, 0), (4, 0), (5, 0), (6, 0), (7, 0), (8, 0), (9, 0), (10, 0), (11, 0), (12, 0), (13, 0), (14, 0), (15, 0), (16, 0), (17, 0), (18, 0)] else if r = 24 then some [(0, 0), (1, 0), (2, 0), (3, 0), (4, 0), (5, 0), (6, 0), (7, 0), (8, 0), (9, 0), (10, 0), (11, 0), (12, 0), (13, 2)] else none, fz := fun r => if r = 14 then some [5] else none }
@[simp] theorem wio54 : cf54.wio = fun f i => (f == 57 && (i == 0)) || (f == 999999 && (i == 0)) := rfl
@[simp] theorem live54 : cf54.live = fun r => if r = 4 then some [1, 2, 5, 6, 23, 24] else if r = 8 then some [1, 2, 5, 6, 7, 23, 24, 33, 34] else if r = 17 then some [1, 2, 9, 60, 61, 62] else if r = 21 then some [1, 2, 9, 11, 60, 61, 62, 75, 76] else none := rfl
@[simp] theorem wr54 : cf54.wr = fun _ => [] := rfl
def cf55 : Cfg := { wio := fun f i => (f == 999999 && (i == 0)), live := fun r => if r = 5 then some [1, 2, 5, 21, 22, 23] else if r = 12 then some [2, 5, 8, 45, 46, 47] else if r = 15 then some [2, 5, 8, 10, 45, 46, 47, 51, 52, 53] else none, dr := fun r => if r = 17 then some [(0, 0), (1, 0), (2, 0), (3, 0), (4, 0), (5, 0), (6, 0), (7, 0), (8, 0), (9, 0), (10, 0), (11, 0), (12, 0), (13, 0), (14, 1), (15, 0)] else none }
@[simp] theorem wio55 : cf55.wio = fun f i => (f == 999999 && (i == 0)) := rfl
@[simp] theorem live55 : cf55.live = fun r => if r = 5 then some [1, 2, 5, 21, 22, 23] else if r = 12 then some [2, 5, 8, 45, 46, 47] else if r = 15 then some [2, 5, 8, 10, 45, 46, 47, 51, 52, 53] else none := rfl
@[simp] theorem wr55 : cf55.wr = fun _ => [] := rfl
def cf56 : Cfg := { wio := fun f i => (f == 999999 && (i == 0)), live := fun r => if r = 6 then some [2, 6, 7, 8, 9] else if r = 9 then some [2, 6, 7, 8, 9, 38, 39, 40] else none, dr := fun r => if r = 8 then some [(0, 0), (1, 0), (2, 0), (3, 0), (4, 0), (5, 0), (6, 0), (7, 0), (8, 0), (9, 0)] else if r = 13 then some [(0, 0), (1, 0), (2, 0), (3, 0), (4, 0), (5, 0), (6, 0), (7, 0), (8, 0), (9, 0), (10, 0), (11, 0), (12, 1), (13, 0), (14, 0), (15, 0), (16, 2)] else none }
@[simp] theorem wio56 : cf56.wio = fun f i => (f == 999999 && (i == 0)) := rfl
@[simp] theorem live56 : cf56.live = fun r => if r = 6 then some [2, 6, 7, 8, 9] else if r = 9 then some [2, 6, 7, 8, 9, 38, 39, 40] else none := rfl
@[simp] theorem wr56 : cf56.wr = fun _ => [] := rfl
def cf57 : Cfg := { wio := fun f i => (f == 81 && (i == 0)) || (f == 999999 && (i == 0)), live := fun r => none, dr := fun r => none }
@[simp] theorem wio57 : cf57.wio = fun f i => (f == 81 && (i == 0)) || (f == 999999 && (i == 0)) := rfl
@[simp] theorem live57 : cf57.live = fun r => none := rfl
@[simp] theorem wr57 : cf57.wr = fun _ => [] := rfl
def cf58 : Cfg := { wio := fun f i => (f == 999999 && (i == 0)), live := fun r => none, dr := fun r => if r = 1 then some [(0, 0), (1, 0), (2, 0), (3, 0), (4, 0), (5, 0), (6, 0), (7, 0), (8, 0), (9, 0), (10, 0), (11, 0), (12, 0), (13, 0), (14, 0), (15, 0), (16, 0), (17, 0), (18, 0), (19, 0), (20, 1), (21, 0)] else none }
@[simp] theorem wio58 : cf58.wio = fun f i => (f == 999999 && (i == 0)) := rfl
@[simp] theorem live58 : cf58.live = fun r => none := rfl
@[simp] theorem wr58 : cf58.wr = fun _ => [] := rfl
def cf59 : Cfg := { wio := fun f i => (f == 999999 && (i == 0)), live := fun r => none, dr := fun r => none }
@[simp] theorem wio59 : cf59.wio = fun f i => (f == 999999 && (i == 0)) := rfl
@[simp] theorem live59 : cf59.live = fun r => none := rfl
@[simp] theorem wr59 : cf59.wr = fun _ => [] := rfl
def cf60 : Cfg := { wio := fun f i => (f == 999999 && (i == 0)), live := fun r => if r = 3 then some [1, 5, 8, 9, 10] else none, dr := fun r => none }
@[simp] theorem wio60 : cf60.wio = fun f i => (f == 999999 && (i == 0)) := rfl
@[simp] theorem live60 : cf60.live = fun r => if r = 3 then some [1, 5, 8, 9, 10] else none := rfl
@[simp] theorem wr60 : cf60.wr = fun _ => [] := rfl
def cf61 : Cfg := { wio := fun f i => (f == 999999 && (i == 0)), live := fun r => if r = 3 then some [1, 2, 5, 15, 16] else if r = 8 then some [1, 2, 5, 25, 26] else if r = 11 then some [1, 2, 5, 7, 25, 26, 29, 30, 31] else none, dr := fun r => if r = 13 then some [(0, 0), (1, 0), (2, 0), (3, 0), (4, 0), (5, 0), (6, 0), (7, 0), (8, 0), (9, 0), (10, 0), (11, 0), (12, 0), (13, 0), (14, 2)] else none }
@[simp] theorem wio61 : cf61.wio = fun f i => (f == 999999 && (i == 0)) := rfl
@[simp] theorem live61 : cf61.live = fun r => if r = 3 then some [1, 2, 5, 15, 16] else if r = 8 then some [1, 2, 5, 25, 26] else if r = 11 then some [1, 2, 5, 7, 25, 26, 29, 30, 31] else none := rfl
@[simp] theorem wr61 : cf61.wr = fun _ => [] := rfl
def cf62 : Cfg := { wio := fun f i => (f == 999999 && (i == 0)), live := fun r => if r = 3 then some [0, 1, 5, 14, 15, 16] else if r = 9 then some [0, 5, 8, 28, 29, 30] else none, dr := fun r => none }
@[simp] theorem wio62 : cf62.wio = fun f i => (f == 999999 && (i == 0)) := rfl
@[simp] theorem live62 : cf62.live = fun r => if r = 3 then some [0, 1, 5, 14, 15, 16] else if r = 9 then some [0, 5, 8, 28, 29, 30] else none := rfl
@[simp] theorem wr62 : cf62.wr = fun _ => [] := rfl
def cf63 : Cfg := { wio := fun f i => (f == 999999 && (i == 0)), live := fun r => if r = 2 then some [5, 6, 7] else none, dr := fun r => none }
@[simp] theorem wio63 : cf63.wio = fun f i => (f == 999999 && (i == 0)) := rfl
@[simp] theorem live63 : cf63.live = fun r => if r = 2 then some [5, 6, 7] else none := rfl
@[simp] theorem wr63 : cf63.wr = fun _ => [] := rfl
def cf64 : Cfg := { wio := fun f i => (f == 999999 && (i == 0)), live := fun r => if r = 3 then some [3, 10, 11, 12] else none, dr := fun r => none }
@[simp] theorem wio64 : cf64.wio = fun f i => (f == 999999 && (i == 0)) := rfl
@[simp] theorem live64 : cf64.live = fun r => if r = 3 then some [3, 10, 11, 12] else none := rfl
@[simp] theorem wr64 : cf64.wr = fun _ => [] := rfl
def cf65 : Cfg := { wio := fun f i => (f == 999999 && (i == 0)), live := fun r => if r = 9 then some [1, 3, 38, 39, 40] else if r = 14 then some [1, 3, 38, 39, 40, 49, 50, 51] else none, dr := fun r => none }
@[simp] theorem wio65 : cf65.wio = fun f i => (f == 999999 && (i == 0)) := rfl
@[simp] theorem live65 : cf65.live = fun r => if r = 9 then some [1, 3, 38, 39, 40] else if r = 14 then some [1, 3, 38, 39, 40, 49, 50, 51] else none := rfl
@[simp] theorem wr65 : cf65.wr = fun _ => [] := rfl
def cf66 : Cfg := { wio := fun f i => (f == 999999 && (i == 0)), live := fun r => if r = 3 then some [1, 2, 3, 7, 11, 12] else none, dr := fun r => none }
@[simp] theorem wio66 : cf66.wio = fun f i => (f == 999999 && (i == 0)) := rfl
@[simp] theorem live66 : cf66.live = fun r => if r = 3 then some [1, 2, 3, 7, 11, 12] else none := rfl
@[simp] theorem wr66 : cf66.wr = fun _ => [] := rfl
def cf67 : Cfg := { wio := fun f i => (f == 999999 && (i == 0)), live := fun r => none, dr := fun r => none }
@[simp] theorem wio67 : cf67.wio = fun f i => (f == 999999 && (i == 0)) := rfl
@[simp] theorem live67 : cf67.live = fun r => none := rfl
@[simp] theorem wr67 : cf67.wr = fun _ => [] := rfl
def cf73 : Cfg := { wio := fun f i => (f == 999999 && (i == 0)), live := fun r => if r = 5 then some [2, 6, 7, 8, 9] else if r = 8 then some [2, 6, 7, 8, 9, 30, 31] else none, dr := fun r => if r = 10 then some [(0, 0), (1, 0), (2, 0), (3, 0), (4, 0), (5, 0), (6, 1), (7, 0)] else if r = 14 then some [(0, 0), (1, 0), (2, 0), (3, 0), (4, 0), (5, 0), (6, 0), (7, 0), (8, 1), (9, 0), (10, 0), (11, 1), (12, 2), (13, 0)] else none }
@[simp] theorem wio73 : cf73.wio = fun f i => (f == 999999 && (i == 0)) := rfl
@[simp] theorem live73 : cf73.live = fun r => if r = 5 then some [2, 6, 7, 8, 9] else if r = 8 then some [2, 6, 7, 8, 9, 30, 31] else none := rfl
@[simp] theorem wr73 : cf73.wr = fun _ => [] := rfl
def cf74 : Cfg := { wio := fun f i => (f == 999999 && (i == 0)), live := fun r => none, dr := fun r => none }
@[simp] theorem wio74 : cf74.wio = fun f i => (f == 999999 && (i == 0)) := rfl
@[simp] theorem live74 : cf74.live = fun r => none := rfl
@[simp] theorem wr74 : cf74.wr = fun _ => [] := rfl
def cf76 : Cfg := { wio := fun f i => (f == 999999 && (i == 0)), live := fun r => none, dr := fun r => none }
@[simp] theorem wio76 : cf76.wio = fun f i => (f == 999999 && (i == 0)) := rfl
@[simp] theorem live76 : cf76.live = fun r => none := rfl
@[simp] theorem wr76 : cf76.wr = fun _ => [] := rfl
def cf77 : Cfg := { wio := fun f i => (f == 999999 && (i == 0)), live := fun r => if r = 3 then some [3, 6, 7, 8] else none, dr := fun r => none }
@[simp] theorem wio77 : cf77.wio = fun f i => (f == 999999 && (i == 0)) := rfl
@[simp] theorem live77 : cf77.live = fun r => if r = 3 then some [3, 6, 7, 8] else none := rfl
@[simp] theorem wr77 : cf77.wr = fun _ => [] := rfl
def cf78 : Cfg := { wio := fun f i => (f == 999999 && (i == 0)), live := fun r => none, dr := fun r => none }
@[simp] theorem wio78 : cf78.wio = fun f i => (f == 999999 && (i == 0)) := rfl
@[simp] theorem live78 : cf78.live = fun r => none := rfl
@[simp] theorem wr78 : cf78.wr = fun _ => [] := rfl
def cf79 : Cfg := { wio := fun f i => (f == 999999 && (i == 0)), live := fun r => none, dr := fun r => none }
@[simp] theorem wio79 : cf79.wio = fun f i => (f == 999999 && (i == 0)) := rfl
@[simp] theorem live79 : cf79.live = fun r => none := rfl
@[simp] theorem wr79 : cf79.wr = fun _ => [] := rfl
def cf80 : Cfg := { wio := fun f i => (f == 999999 && (i == 0)), live := fun r => none, dr := fun r => if r = 1 then some [(0, 0), (1, 0), (2, 0), (3, 0), (4, 0), (5, 0), (6, 0), (7, 0), (8, 1), (9, 0)] else none }
@[simp] theorem wio80 : cf80.wio = fun f i => (f == 999999 && (i == 0)) := rfl
@[simp] theorem live80 : cf80.live = fun r => none := rfl
@[simp] theorem wr80 : cf80.wr = fun _ => [] := rfl
def cf81 : Cfg := { wio := fun f i => (f == 98 && (i == 0)) || (f == 99 && (i == 0)) || (f == 999999 && (i == 0)), live := fun r => if r = 2 then some [0, 1, 2, 6, 7, 8] else if r = 7 then some [0, 1, 2, 6] else if r = 9 then some [0, 1, 2, 6, 7, 8] else none, dr := fun r => none }
@[simp] theorem wio81 : cf81.wio = fun f i => (f == 98 && (i == 0)) || (f == 99 && (i == 0)) || (f == 999999 && (i == 0)) := rfl
@[simp] theorem live81 : cf81.live = fun r => if r = 2 then some [0, 1, 2, 6, 7, 8] else if r = 7 then some [0, 1, 2, 6] else if r = 9 then some [0, 1, 2, 6, 7, 8] else none := rfl
@[simp] theorem wr81 : cf81.wr = fun _ => [] := rfl
def cf82 : Cfg := { wio := fun f i => (f == 999999 && (i == 0)), live := fun r => none, dr := fun r => none }
@[simp] theorem wio82 : cf82.wio = fun f i => (f == 999999 && (i == 0)) := rfl
@[simp] theorem live82 : cf82.live = fun r => none := rfl
@[simp] theorem wr82 : cf82.wr = fun _ => [] := rfl
def cf83 : Cfg := { wio := fun f i => (f == 999999 && (i == 0)), live := fun r => if r = 4 then some [0, 13, 14, 15] else none, dr := fun r => none }
@[simp] theorem wio83 : cf83.wio = fun f i => (f == 999999 && (i == 0)) := rfl
@[simp] theorem live83 : cf83.live = fun r => if r = 4 then some [0, 13, 14, 15] else none := rfl
@[simp] theorem wr83 : cf83.wr = fun _ => [] := rfl
def cf84 : Cfg := { wio := fun f i => (f == 999999 && (i == 0)), live := fun r => none, dr := fun r => none }
@[simp] theorem wio84 : cf84.wio = fun f i => (f == 999999 && (i == 0)) := rfl
@[simp] theorem live84 : cf84.live = fun r => none := rfl
@[simp] theorem wr84 : cf84.wr = fun _ => [] := rfl
def cf95 : Cfg := { wio := fun f i => (f == 999999 && (i == 0)), live := fun r => if r = 2 then some [0, 1, 7, 8] else none, dr := fun r => none }
@[simp] theorem wio95 : cf95.wio = fun f i => (f == 999999 && (i == 0)) := rfl
@[simp] theorem live95 : cf95.live = fun r => if r = 2 then some [0, 1, 7, 8] else none := rfl
@[simp] theorem wr95 : cf95.wr = fun _ => [] := rfl
def cf97 : Cfg := { wio := fun f i => (f == 999999 && (i == 0)), live := fun r => none, dr := fun r => none }
@[simp] theorem wio97 : cf97.wio = fun f i => (f == 999999 && (i == 0)) := rfl
@[simp] theorem live97 : cf97.live = fun r => none := rfl
@[simp] theorem wr97 : cf97.wr = fun _ => [] := rfl
def cf98 : Cfg := { wio := fun f i => (f == 999999 && (i == 0)), live := fun r => if r = 1 then some [0, 1, 2, 3, 8] else if r = 4 then some [0, 1, 2, 3, 8, 9] else none, dr := fun r => if r = 4 then some [(0, 0), (1, 0), (2, 0), (3, 0), (4, 0), (5, 0), (6, 0), (7, 0), (8, 0), (9, 0), (10, 0), (11, 0), (12, 0), (13, 0), (14, 1), (15, 0), (16, 0)] else if r = 6 then some [(0, 0), (1, 0), (2, 3), (3, 3), (4, 3), (5, 0), (6, 0), (7, 0), (8, 0), (9, 0), (10, 0), (11, 0), (12, 0), (13, 0), (14, 0), (15, 2), (16, 0), (17, 2)] else none }
@[simp] theorem wio98 : cf98.wio = fun f i => (f == 999999 && (i == 0)) := rfl
@[simp] theorem live98 : cf98.live = fun r => if r = 1 then some [0, 1, 2, 3, 8] else if r = 4 then some [0, 1, 2, 3, 8, 9] else none := rfl
@[simp] theorem wr98 : cf98.wr = fun _ => [] := rfl
def cf99 : Cfg := { wio := fun f i => (f == 115 && (i == 0)) || (f == 99 && (i == 0)) || (f == 999999 && (i == 0)), live := fun r => if r = 3 then some [0, 1, 4, 10, 11] else if r = 9 then some [0, 10, 13] else if r = 15 then some [0, 2, 4, 14, 15] else if r = 21 then some [0, 14, 17] else if r = 33 then some [0, 1, 2, 3, 4, 18, 19, 20, 21, 22] else none, dr := fun r => if r = 5 then some [(0, 0), (1, 0), (2, 0), (3, 0), (4, 0), (5, 0), (6, 0), (7, 0), (8, 0), (9, 1), (10, 0)] else if r = 11 then some [(0, 0), (1, 0), (2, 3), (3, 3), (4, 3), (5, 0), (6, 0), (7, 0), (8, 0), (9, 0), (10, 0), (11, 0), (12, 0), (13, 0), (14, 0), (15, 2), (16, 0), (17, 2)] else if r = 17 then some [(0, 0), (1, 0), (2, 0), (3, 0), (4, 0), (5, 0), (6, 0), (7, 0), (8, 0), (9, 1), (10, 0), (11, 0)] else if r = 23 then some [(0, 0), (1, 0), (2, 3), (3, 3), (4, 3), (5, 0), (6, 0), (7, 0), (8, 0), (9, 0), (10, 0), (11, 0), (12, 0), (13, 0), (14, 0), (15, 2), (16, 0), (17, 2)] else if r = 35 then some [(0, 0), (1, 0), (2, 0), (3, 0), (4, 0), (5, 0), (6, 0), (7, 0), (8, 0), (9, 0), (10, 0), (11, 1), (12, 0), (13, 0)] else none }
@[simp] theorem wio99 : cf99.wio = fun f i => (f == 115 && (i == 0)) || (f == 99 && (i == 0)) || (f == 999999 && (i == 0)) := rfl
@[simp] theorem live99 : cf99.live = fun r => if r = 3 then some [0, 1, 4, 10, 11] else if r = 9 then some [0, 10, 13] else if r = 15 then some [0, 2, 4, 14, 15] else if r = 21 then some [0, 14, 17] else if r = 33 then some [0, 1, 2, 3, 4, 18, 19, 20, 21, 22] else none := rfl
@[simp] theorem wr99 : cf99.wr = fun _ => [] := rfl
def cf100 : Cfg := { wio := fun f i => (f == 117 && (i == 0)) || (f == 999999 && (i == 0)) || (f == 777777 && (i == 118)), live := fun r => none, dr := fun r => none, fz := fun r => if r = 999998 then some [] else none }
@[simp] theorem wio100 : cf100.wio = fun f i => (f == 117 && (i == 0)) || (f == 999999 && (i == 0)) || (f == 777777 && (i == 118)) := rfl
@[simp] theorem live100 : cf100.live = fun r => none := rfl
@[simp] theorem wr100 : cf100.wr = fun _ => [] := rfl
def cf113 : Cfg := { wio := fun f i => (f == 999999 && (i == 0)), live := fun r => none, dr := fun r => if r = 1 then some [(0, 0), (1, 0), (2, 0), (3, 0), (4, 0), (5, 0), (6, 0), (7, 0), (8, 0), (9, 0), (10, 0), (11, 0), (12, 0), (13, 0), (14, 0), (15, 0), (16, 0), (17, 0), (18, 0)] else none }
@[simp] theorem wio113 : cf113.wio = fun f i => (f == 999999 && (i == 0)) := rfl
@[simp] theorem live113 : cf113.live = fun r => none := rfl
@[simp] theorem wr113 : cf113.wr = fun _ => [] := rfl
def cf114 : Cfg := { wio := fun f i => (f == 999999 && (i == 0)), live := fun r => none, dr := fun r => none }
@[simp] theorem wio114 : cf114.wio = fun f i => (f == 999999 && (i == 0)) := rfl
@[simp] theorem live114 : cf114.live = fun r => none := rfl
@[simp] theorem wr114 : cf114.wr = fun _ => [] := rfl
def cf115 : Cfg := { wio := fun f i => (f == 123 && (i == 0)) || (f == 999999 && (i == 0)), live := fun r => if r = 2 then some [0, 2, 4, 10, 11] else none, dr := fun r => none }
@[simp] theorem wio115 : cf115.wio = fun f i => (f == 123 && (i == 0)) || (f == 999999 && (i == 0)) := rfl
@[simp] theorem live115 : cf115.live = fun r => if r = 2 then some [0, 2, 4, 10, 11] else none := rfl
@[simp] theorem wr115 : cf115.wr = fun _ => [] := rfl
def cf118 : Cfg := { wio := fun f i => (f == 999999 && (i == 0)), live := fun r => if r = 4 then some [0, 3] else if r = 9 then some [0, 3, 4, 5] else none, dr := fun r => if r = 6 then some [(0, 0), (1, 0), (2, 0), (3, 0), (4, 0), (5, 0), (6, 0), (7, 0), (8, 0), (9, 0)] else if r = 11 then some [(0, 0), (1, 0), (2, 0), (3, 0), (4, 0), (5, 0), (6, 0), (7, 0), (8, 0), (9, 0)] else none }
@[simp] theorem wio118 : cf118.wio = fun f i => (f == 999999 && (i == 0)) := rfl
@[simp] theorem live118 : cf118.live = fun r => if r = 4 then some [0, 3] else if r = 9 then some [0, 3, 4, 5] else none := rfl
@[simp] theorem wr118 : cf118.wr = fun _ => [] := rfl
def cf123 : Cfg := { wio := fun f i => (f == 999999 && (i == 0)), live := fun r => if r = 1 then some [0, 1, 2, 3, 10] else none, dr := fun r => if r = 3 then some [(0, 0), (1, 0), (2, 0), (3, 0), (4, 3), (5, 3), (6, 3), (7, 3), (8, 0), (9, 0), (10, 0), (11, 0), (12, 0), (13, 0), (14, 0), (15, 0), (16, 0), (17, 0), (18, 0), (19, 0), (20, 0), (21, 2), (22, 0), (23, 2)] else none }
@[simp] theorem wio123 : cf123.wio = fun f i => (f == 999999 && (i == 0)) := rfl
@[simp] theorem live123 : cf123.live = fun r => if r = 1 then some [0, 1, 2, 3, 10] else none := rfl
@[simp] theorem wr123 : cf123.wr = fun _ => [] := rfl
def z0V (f : FuncId) : Option Cfg :=
  if f = 5 then some cf5 else
  if f = 6 then some cf6 else
  if f = 7 then some cf7 else
  if f = 8 then some cf8 else
  if f = 9 then some cf9 else
  if f = 12 then some cf12 else
  if f = 13 then some cf13 else
  if f = 14 then some cf14 else
  if f = 15 then some cf15 else
  if f = 16 then some cf16 else
  if f = 17 then some cf17 else
  if f = 18 then some cf18 else
  if f = 19 then some cf19 else
  if f = 20 then some cf20 else
  if f = 21 then some cf21 else
  if f = 22 then some cf22 else
  if f = 25 then some cf25 else
  if f = 26 then some cf26 else
  if f = 27 then some cf27 else
  if f = 28 then some cf28 else
  if f = 29 then some cf29 else
  if f = 30 then some cf30 else
  if f = 31 then some cf31 else
  if f = 32 then some cf32 else
  if f = 33 then some cf33 else
  if f = 34 then some cf34 else
  if f = 35 then some cf35 else
  if f = 36 then some cf36 else
  if f = 37 then some cf37 else
  if f = 38 then some cf38 else
  if f = 39 then some cf39 else
  if f = 40 then some cf40 else
  if f = 42 then some cf42 else
  if f = 49 then some cf49 else
  if f = 50 then some cf50 else
  if f = 51 then some cf51 else
  if f = 52 then some cf52 else
  if f = 53 then some cf53 else
  if f = 54 then some cf54 else
  if f = 55 then some cf55 else
  if f = 56 then some cf56 else
  if f = 57 then some cf57 else
  if f = 58 then some cf58 else
  if f = 59 then some cf59 else
  if f = 60 then some cf60 else
  if f = 61 then some cf61 else
  if f = 62 then some cf62 else
  if f = 63 then some cf63 else
  if f = 64 then some cf64 else
  if f = 65 then some cf65 else
  if f = 66 then some cf66 else
  if f = 67 then some cf67 else
  if f = 73 then some cf73 else
  if f = 74 then some cf74 else
  if f = 76 then some cf76 else
  if f = 77 then some cf77 else
  if f = 78 then some cf78 else
  if f = 79 then some cf79 else
  if f = 80 then some cf80 else
  if f = 81 then some cf81 else
  if f = 82 then some cf82 else
  if f = 83 then some cf83 else
  if f = 84 then some cf84 else
  if f = 95 then some cf95 else
  if f = 97 then some cf97 else
  if f = 98 then some cf98 else
  if f = 99 then some cf99 else
  if f = 100 then some cf100 else
  if f = 113 then some cf113 else
  if f = 114 then some cf114 else
  if f = 115 then some cf115 else
  if f = 118 then some cf118 else
  if f = 123 then some cf123 else none
theorem zxW : z0V 5 = some cf5 := rfl
theorem zxV : z0V 6 = some cf6 := rfl
theorem zxU : z0V 7 = some cf7 := rfl
theorem zxT : z0V 8 = some cf8 := rfl
theorem zxS : z0V 9 = some cf9 := rfl
theorem zvV : z0V 13 = some cf13 := rfl
theorem zvU : z0V 14 = some cf14 := rfl
theorem zvT : z0V 15 = some cf15 := rfl
theorem zvS : z0V 16 = some cf16 := rfl
theorem zvR : z0V 17 = some cf17 := rfl
theorem zvQ : z0V 18 = some cf18 := rfl
theorem zvP : z0V 19 = some cf19 := rfl
theorem zvO : z0V 20 = some cf20 := rfl
theorem zvN : z0V 21 = some cf21 := rfl
theorem zvM : z0V 22 = some cf22 := rfl
theorem zvL : z0V 26 = some cf26 := rfl
theorem zvK : z0V 27 = some cf27 := rfl
theorem zvJ : z0V 28 = some cf28 := rfl
theorem zvI : z0V 29 = some cf29 := rfl
theorem zvH : z0V 30 = some cf30 := rfl
theorem zvG : z0V 31 = some cf31 := rfl
theorem zvF : z0V 32 = some cf32 := rfl
theorem zvE : z0V 33 = some cf33 := rfl
theorem zvD : z0V 34 = some cf34 := rfl
theorem zvC : z0V 35 = some cf35 := rfl
theorem zvB : z0V 36 = some cf36 := rfl
theorem zvA : z0V 37 = some cf37 := rfl
theorem zvz : z0V 38 = some cf38 := rfl
theorem zvy : z0V 39 = some cf39 := rfl
theorem zvx : z0V 40 = some cf40 := rfl
theorem zvw : z0V 50 = some cf50 := rfl
theorem zvv : z0V 51 = some cf51 := rfl
theorem zvu : z0V 52 = some cf52 := rfl
theorem zvt : z0V 53 = some cf53 := rfl
theorem zvs : z0V 54 = some cf54 := rfl
theorem zvr : z0V 55 = some cf55 := rfl
theorem zvq : z0V 56 = some cf56 := rfl
theorem zsL : z0V 57 = some cf57 := rfl
theorem zvp : z0V 58 = some cf58 := rfl
theorem zvo : z0V 59 = some cf59 := rfl
theorem zvn : z0V 60 = some cf60 := rfl
theorem zvm : z0V 61 = some cf61 := rfl
theorem zvl : z0V 62 = some cf62 := rfl
theorem zvk : z0V 63 = some cf63 := rfl
theorem zvj : z0V 64 = some cf64 := rfl
theorem zvi : z0V 65 = some cf65 := rfl
theorem zvh : z0V 66 = some cf66 := rfl
theorem zvg : z0V 67 = some cf67 := rfl
theorem zvf : z0V 73 = some cf73 := rfl
theorem zve : z0V 74 = some cf74 := rfl
theorem zvd : z0V 78 = some cf78 := rfl
theorem zvc : z0V 79 = some cf79 := rfl
theorem zvb : z0V 80 = some cf80 := rfl
theorem zsK : z0V 81 = some cf81 := rfl
theorem zva : z0V 82 = some cf82 := rfl
theorem zv9 : z0V 83 = some cf83 := rfl
theorem zv8 : z0V 84 = some cf84 := rfl
theorem zv7 : z0V 95 = some cf95 := rfl
theorem zv6 : z0V 97 = some cf97 := rfl
theorem zsJ : z0V 98 = some cf98 := rfl
theorem zsI : z0V 99 = some cf99 := rfl
theorem zsO : z0V 100 = some cf100 := rfl
theorem zsN : z0V 114 = some cf114 := rfl
theorem zpT : z0V 115 = some cf115 := rfl
theorem zsM : z0V 118 = some cf118 := rfl
theorem zpS : z0V 123 = some cf123 := rfl
theorem fn5 : Tryz.prog.funcs[5]? = some Tryz.f5 := by kernel_rfl
theorem fn6 : Tryz.prog.funcs[6]? = some Tryz.f6 := by kernel_rfl
theorem fn7 : Tryz.prog.funcs[7]? = some Tryz.f7 := by kernel_rfl
theorem fn8 : Tryz.prog.funcs[8]? = some Tryz.f8 := by kernel_rfl
theorem fn9 : Tryz.prog.funcs[9]? = some Tryz.f9 := by kernel_rfl
theorem zxL : Tryz.prog.funcs[13]? = some Tryz.f13 := by kernel_rfl
theorem zxK : Tryz.prog.funcs[14]? = some Tryz.f14 := by kernel_rfl
theorem zxJ : Tryz.prog.funcs[15]? = some Tryz.f15 := by kernel_rfl
theorem zxI : Tryz.prog.funcs[16]? = some Tryz.f16 := by kernel_rfl
theorem zxH : Tryz.prog.funcs[17]? = some Tryz.f17 := by kernel_rfl
theorem zxG : Tryz.prog.funcs[18]? = some Tryz.f18 := by kernel_rfl
theorem zxF : Tryz.prog.funcs[19]? = some Tryz.f19 := by kernel_rfl
theorem zxE : Tryz.prog.funcs[20]? = some Tryz.f20 := by kernel_rfl
theorem zxD : Tryz.prog.funcs[21]? = some Tryz.f21 := by kernel_rfl
theorem zxC : Tryz.prog.funcs[22]? = some Tryz.f22 := by kernel_rfl
theorem zxB : Tryz.prog.funcs[26]? = some Tryz.f26 := by kernel_rfl
theorem zxA : Tryz.prog.funcs[27]? = some Tryz.f27 := by kernel_rfl
theorem zxz : Tryz.prog.funcs[28]? = some Tryz.f28 := by kernel_rfl
theorem zwk : Tryz.prog.funcs[29]? = some Tryz.f29 := by kernel_rfl
theorem zxy : Tryz.prog.funcs[30]? = some Tryz.f30 := by kernel_rfl
theorem zxx : Tryz.prog.funcs[31]? = some Tryz.f31 := by kernel_rfl
theorem zxw : Tryz.prog.funcs[32]? = some Tryz.f32 := by kernel_rfl
theorem zxv : Tryz.prog.funcs[33]? = some Tryz.f33 := by kernel_rfl
theorem zxu : Tryz.prog.funcs[34]? = some Tryz.f34 := by kernel_rfl
theorem zxt : Tryz.prog.funcs[35]? = some Tryz.f35 := by kernel_rfl
theorem zxs : Tryz.prog.funcs[36]? = some Tryz.f36 := by kernel_rfl
theorem zxr : Tryz.prog.funcs[37]? = some Tryz.f37 := by kernel_rfl
theorem zxq : Tryz.prog.funcs[38]? = some Tryz.f38 := by kernel_rfl
theorem zxp : Tryz.prog.funcs[39]? = some Tryz.f39 := by kernel_rfl
theorem zxo : Tryz.prog.funcs[40]? = some Tryz.f40 := by kernel_rfl
theorem zxn : Tryz.prog.funcs[50]? = some Tryz.f50 := by kernel_rfl
theorem zxm : Tryz.prog.funcs[51]? = some Tryz.f51 := by kernel_rfl
theorem zxl : Tryz.prog.funcs[52]? = some Tryz.f52 := by kernel_rfl
theorem zxk : Tryz.prog.funcs[53]? = some Tryz.f53 := by kernel_rfl
theorem zxj : Tryz.prog.funcs[54]? = some Tryz.f54 := by kernel_rfl
theorem zxi : Tryz.prog.funcs[55]? = some Tryz.f55 := by kernel_rfl
theorem zxh : Tryz.prog.funcs[56]? = some Tryz.f56 := by kernel_rfl
theorem zwj : Tryz.prog.funcs[57]? = some Tryz.f57 := by kernel_rfl
theorem zxg : Tryz.prog.funcs[58]? = some Tryz.f58 := by kernel_rfl
theorem zxf : Tryz.prog.funcs[59]? = some Tryz.f59 := by kernel_rfl
theorem zxe : Tryz.prog.funcs[60]? = some Tryz.f60 := by kernel_rfl
theorem zxd : Tryz.prog.funcs[61]? = some Tryz.f61 := by kernel_rfl
theorem zxc : Tryz.prog.funcs[62]? = some Tryz.f62 := by kernel_rfl
theorem zxb : Tryz.prog.funcs[63]? = some Tryz.f63 := by kernel_rfl
theorem zxa : Tryz.prog.funcs[64]? = some Tryz.f64 := by kernel_rfl
theorem zx9 : Tryz.prog.funcs[65]? = some Tryz.f65 := by kernel_rfl
theorem zx8 : Tryz.prog.funcs[66]? = some Tryz.f66 := by kernel_rfl
theorem zx7 : Tryz.prog.funcs[67]? = some Tryz.f67 := by kernel_rfl
theorem zx6 : Tryz.prog.funcs[73]? = some Tryz.f73 := by kernel_rfl
theorem zx5 : Tryz.prog.funcs[74]? = some Tryz.f74 := by kernel_rfl
theorem zx4 : Tryz.prog.funcs[78]? = some Tryz.f78 := by kernel_rfl
theorem zx3 : Tryz.prog.funcs[79]? = some Tryz.f79 := by kernel_rfl
theorem zx2 : Tryz.prog.funcs[80]? = some Tryz.f80 := by kernel_rfl
theorem zwi : Tryz.prog.funcs[81]? = some Tryz.f81 := by kernel_rfl
theorem zx1 : Tryz.prog.funcs[82]? = some Tryz.f82 := by kernel_rfl
theorem zx0 : Tryz.prog.funcs[83]? = some Tryz.f83 := by kernel_rfl
theorem zwZ : Tryz.prog.funcs[84]? = some Tryz.f84 := by kernel_rfl
theorem zwY : Tryz.prog.funcs[95]? = some Tryz.f95 := by kernel_rfl
theorem zwX : Tryz.prog.funcs[97]? = some Tryz.f97 := by kernel_rfl
theorem zwh : Tryz.prog.funcs[98]? = some Tryz.f98 := by kernel_rfl
theorem zwg : Tryz.prog.funcs[99]? = some Tryz.f99 := by kernel_rfl
theorem ztQ : Tryz.prog.funcs[100]? = some Tryz.f100 := by kernel_rfl
theorem ztP : Tryz.prog.funcs[114]? = some Tryz.f114 := by kernel_rfl
theorem zsx : Tryz.prog.funcs[115]? = some Tryz.f115 := by kernel_rfl
theorem ztO : Tryz.prog.funcs[118]? = some Tryz.f118 := by kernel_rfl
theorem zsw : Tryz.prog.funcs[123]? = some Tryz.f123 := by kernel_rfl
noncomputable def cd5 : Code := match Tryz.f5.body with | some c => c | none => .skip
theorem bd5 : Tryz.f5.body = some cd5 := by kernel_rfl
noncomputable def cd6 : Code := match Tryz.f6.body with | some c => c | none => .skip
theorem bd6 : Tryz.f6.body = some cd6 := by kernel_rfl
noncomputable def cd7 : Code := match Tryz.f7.body with | some c => c | none => .skip
theorem bd7 : Tryz.f7.body = some cd7 := by kernel_rfl
noncomputable def cd8 : Code := match Tryz.f8.body with | some c => c | none => .skip
theorem bd8 : Tryz.f8.body = some cd8 := by kernel_rfl
noncomputable def cd9 : Code := match Tryz.f9.body with | some c => c | none => .skip
theorem bd9 : Tryz.f9.body = some cd9 := by kernel_rfl
noncomputable def zyQ : Code := match Tryz.f13.body with | some c => c | none => .skip
theorem zzH : Tryz.f13.body = some zyQ := by kernel_rfl
noncomputable def zyP : Code := match Tryz.f14.body with | some c => c | none => .skip
theorem zzG : Tryz.f14.body = some zyP := by kernel_rfl
noncomputable def zyO : Code := match Tryz.f15.body with | some c => c | none => .skip
theorem zzF : Tryz.f15.body = some zyO := by kernel_rfl
noncomputable def zyN : Code := match Tryz.f16.body with | some c => c | none => .skip
theorem zzE : Tryz.f16.body = some zyN := by kernel_rfl
noncomputable def zyM : Code := match Tryz.f17.body with | some c => c | none => .skip
theorem zzD : Tryz.f17.body = some zyM := by kernel_rfl
noncomputable def zyL : Code := match Tryz.f18.body with | some c => c | none => .skip
theorem zzC : Tryz.f18.body = some zyL := by kernel_rfl
noncomputable def zyK : Code := match Tryz.f19.body with | some c => c | none => .skip
theorem zzB : Tryz.f19.body = some zyK := by kernel_rfl
noncomputable def zyJ : Code := match Tryz.f20.body with | some c => c | none => .skip
theorem zzA : Tryz.f20.body = some zyJ := by kernel_rfl
noncomputable def zyI : Code := match Tryz.f21.body with | some c => c | none => .skip
theorem zzz : Tryz.f21.body = some zyI := by kernel_rfl
noncomputable def zyH : Code := match Tryz.f22.body with | some c => c | none => .skip
theorem zzy : Tryz.f22.body = some zyH := by kernel_rfl
noncomputable def zyG : Code := match Tryz.f26.body with | some c => c | none => .skip
theorem zzx : Tryz.f26.body = some zyG := by kernel_rfl
noncomputable def zyF : Code := match Tryz.f27.body with | some c => c | none => .skip
theorem zzw : Tryz.f27.body = some zyF := by kernel_rfl
noncomputable def zyE : Code := match Tryz.f28.body with | some c => c | none => .skip
theorem zzv : Tryz.f28.body = some zyE := by kernel_rfl
noncomputable def zwm : Code := match Tryz.f29.body with | some c => c | none => .skip
theorem zwr : Tryz.f29.body = some zwm := by kernel_rfl
noncomputable def zyD : Code := match Tryz.f30.body with | some c => c | none => .skip
theorem zzu : Tryz.f30.body = some zyD := by kernel_rfl
noncomputable def zyC : Code := match Tryz.f31.body with | some c => c | none => .skip
theorem zzt : Tryz.f31.body = some zyC := by kernel_rfl
noncomputable def zyB : Code := match Tryz.f32.body with | some c => c | none => .skip
theorem zzs : Tryz.f32.body = some zyB := by kernel_rfl
noncomputable def zyA : Code := match Tryz.f33.body with | some c => c | none => .skip
theorem zzr : Tryz.f33.body = some zyA := by kernel_rfl
noncomputable def zyz : Code := match Tryz.f34.body with | some c => c | none => .skip
theorem zzq : Tryz.f34.body = some zyz := by kernel_rfl
noncomputable def zyy : Code := match Tryz.f35.body with | some c => c | none => .skip
theorem zzp : Tryz.f35.body = some zyy := by kernel_rfl
noncomputable def zyx : Code := match Tryz.f36.body with | some c => c | none => .skip
theorem zzo : Tryz.f36.body = some zyx := by kernel_rfl
noncomputable def zyw : Code := match Tryz.f37.body with | some c => c | none => .skip
theorem zzn : Tryz.f37.body = some zyw := by kernel_rfl
noncomputable def zyv : Code := match Tryz.f38.body with | some c => c | none => .skip
theorem zzm : Tryz.f38.body = some zyv := by kernel_rfl
noncomputable def zyu : Code := match Tryz.f39.body with | some c => c | none => .skip
theorem zzl : Tryz.f39.body = some zyu := by kernel_rfl
noncomputable def zyt : Code := match Tryz.f40.body with | some c => c | none => .skip
theorem zzk : Tryz.f40.body = some zyt := by kernel_rfl
noncomputable def zys : Code := match Tryz.f50.body with | some c => c | none => .skip
theorem zzj : Tryz.f50.body = some zys := by kernel_rfl
noncomputable def zyr : Code := match Tryz.f51.body with | some c => c | none => .skip
theorem zzi : Tryz.f51.body = some zyr := by kernel_rfl
noncomputable def zyq : Code := match Tryz.f52.body with | some c => c | none => .skip
theorem zzh : Tryz.f52.body = some zyq := by kernel_rfl
noncomputable def zyp : Code := match Tryz.f53.body with | some c => c | none => .skip
theorem zzg : Tryz.f53.body = some zyp := by kernel_rfl
noncomputable def zyo : Code := match Tryz.f54.body with | some c => c | none => .skip
theorem zzf : Tryz.f54.body = some zyo := by kernel_rfl
noncomputable def zyn : Code := match Tryz.f55.body with | some c => c | none => .skip
theorem zze : Tryz.f55.body = some zyn := by kernel_rfl
noncomputable def zym : Code := match Tryz.f56.body with | some c => c | none => .skip
theorem zzd : Tryz.f56.body = some zym := by kernel_rfl
noncomputable def zyl : Code := match Tryz.f57.body with | some c => c | none => .skip
theorem zwq : Tryz.f57.body = some zyl := by kernel_rfl
noncomputable def zyk : Code := match Tryz.f58.body with | some c => c | none => .skip
theorem zzc : Tryz.f58.body = some zyk := by kernel_rfl
noncomputable def zyj : Code := match Tryz.f59.body with | some c => c | none => .skip
theorem zzb : Tryz.f59.body = some zyj := by kernel_rfl
noncomputable def zyi : Code := match Tryz.f60.body with | some c => c | none => .skip
theorem zza : Tryz.f60.body = some zyi := by kernel_rfl
noncomputable def zyh : Code := match Tryz.f61.body with | some c => c | none => .skip
theorem zz9 : Tryz.f61.body = some zyh := by kernel_rfl
noncomputable def zyg : Code := match Tryz.f62.body with | some c => c | none => .skip
theorem zz8 : Tryz.f62.body = some zyg := by kernel_rfl
noncomputable def zyf : Code := match Tryz.f63.body with | some c => c | none => .skip
theorem zz7 : Tryz.f63.body = some zyf := by kernel_rfl
noncomputable def zye : Code := match Tryz.f64.body with | some c => c | none => .skip
theorem zz6 : Tryz.f64.body = some zye := by kernel_rfl
noncomputable def zyd : Code := match Tryz.f65.body with | some c => c | none => .skip
theorem zz5 : Tryz.f65.body = some zyd := by kernel_rfl
noncomputable def zyc : Code := match Tryz.f66.body with | some c => c | none => .skip
theorem zz4 : Tryz.f66.body = some zyc := by kernel_rfl
noncomputable def zyb : Code := match Tryz.f67.body with | some c => c | none => .skip
theorem zz3 : Tryz.f67.body = some zyb := by kernel_rfl
noncomputable def zya : Code := match Tryz.f73.body with | some c => c | none => .skip
theorem zz2 : Tryz.f73.body = some zya := by kernel_rfl
noncomputable def zy9 : Code := match Tryz.f74.body with | some c => c | none => .skip
theorem zz1 : Tryz.f74.body = some zy9 := by kernel_rfl
noncomputable def zy8 : Code := match Tryz.f78.body with | some c => c | none => .skip
theorem zz0 : Tryz.f78.body = some zy8 := by kernel_rfl
noncomputable def zy7 : Code := match Tryz.f79.body with | some c => c | none => .skip
theorem zyZ : Tryz.f79.body = some zy7 := by kernel_rfl
noncomputable def zy6 : Code := match Tryz.f80.body with | some c => c | none => .skip
theorem zyY : Tryz.f80.body = some zy6 := by kernel_rfl
noncomputable def zy5 : Code := match Tryz.f81.body with | some c => c | none => .skip
theorem zwp : Tryz.f81.body = some zy5 := by kernel_rfl
noncomputable def zy4 : Code := match Tryz.f82.body with | some c => c | none => .skip
theorem zyX : Tryz.f82.body = some zy4 := by kernel_rfl
noncomputable def zy3 : Code := match Tryz.f83.body with | some c => c | none => .skip
theorem zyW : Tryz.f83.body = some zy3 := by kernel_rfl
noncomputable def zy2 : Code := match Tryz.f84.body with | some c => c | none => .skip
theorem zyV : Tryz.f84.body = some zy2 := by kernel_rfl
noncomputable def zy1 : Code := match Tryz.f95.body with | some c => c | none => .skip
theorem zyU : Tryz.f95.body = some zy1 := by kernel_rfl
noncomputable def zy0 : Code := match Tryz.f97.body with | some c => c | none => .skip
theorem zyT : Tryz.f97.body = some zy0 := by kernel_rfl
noncomputable def zxZ : Code := match Tryz.f98.body with | some c => c | none => .skip
theorem zwo : Tryz.f98.body = some zxZ := by kernel_rfl
noncomputable def zxY : Code := match Tryz.f99.body with | some c => c | none => .skip
theorem zwn : Tryz.f99.body = some zxY := by kernel_rfl
noncomputable def zw0 : Code := match Tryz.f100.body with | some c => c | none => .skip
theorem zw5 : Tryz.f100.body = some zw0 := by kernel_rfl
noncomputable def zvZ : Code := match Tryz.f114.body with | some c => c | none => .skip
theorem zw4 : Tryz.f114.body = some zvZ := by kernel_rfl
noncomputable def zvY : Code := match Tryz.f115.body with | some c => c | none => .skip
theorem zsQ : Tryz.f115.body = some zvY := by kernel_rfl
noncomputable def zvX : Code := match Tryz.f118.body with | some c => c | none => .skip
theorem zw3 : Tryz.f118.body = some zvX := by kernel_rfl
noncomputable def zvW : Code := match Tryz.f123.body with | some c => c | none => .skip
theorem zsP : Tryz.f123.body = some zvW := by kernel_rfl
def xt : z0l := xtC
noncomputable def L : z0l := Lim Tryz.prog xt z0V
theorem znH {f : FuncId} {c : Cfg} {fn : Func} {args : List T} {o : T × List T} (hc : z0V f = some c) (hfn : Tryz.prog.funcs[f]? = some fn) (h : zff Tryz.prog L c LFm fn args = some o) : L f args = some o := zmF hc hfn h
end
section
open Go
theorem z4E {f : FuncId} {cf : Cfg} {fn : Func} {c : Code} {args : List T} {r : T} {outs : List T} (hc : z0V f = some cf) (hfn : Tryz.prog.funcs[f]? = some fn) (hb : fn.body = some c) (ha : args.length <= fn.ntmps /\ (args.filter z5O).length <= 1 := by exact ⟨of_decide_eq_true rfl, of_decide_eq_true rfl⟩) (hz : cf.fz 999998 = none := by rfl) (g : wpC Tryz.prog L cf LFm c (z6C fn.ntmps args) (zr2 Tryz.prog fn args r outs) := by simp only [z6C, z6u, z5H, z8c, z5O]; exact zla) : L f args = some (r, outs) := znH hc hfn (zqj hb ha g hz)
theorem zi9 {f : FuncId} {cf : Cfg} {fn : Func} {c : Code} {args : List T} {r : T} {outs : List T} (hc : z0V f = some cf) (hfn : Tryz.prog.funcs[f]? = some fn) (hb : fn.body = some c) (ha : args.length <= fn.ntmps /\ (args.filter z5O).length <= 1 := by exact ⟨of_decide_eq_true rfl, of_decide_eq_true rfl⟩) (hz : (cf.fz 999998).isSome = true := by rfl) (g : wpC Tryz.prog L cf LFm c (z6C fn.ntmps args) (zr1 Tryz.prog fn args r outs) := by simp only [z6C, z6u, z5H, z8c, z5O]; exact zla) : L f args = some (r, outs) := znH hc hfn (zbu hb ha hz g)
end
section
open Go
noncomputable section
set_option maxRecDepth 100000
set_option maxHeartbeats 6000000
def za4 (a0 : Int) (a1 : Int) : Option (Int) :=
  if a1 < 1 then
    some 0
  else
    chk (¬ a1 = 0) <|
    if (Int.tmod a0 a1) < 0 then
      some (IntKind.i64.wrap ((Int.tmod a0 a1) + a1))
    else
      some (Int.tmod a0 a1)
instance made_Mod_ok {a0 : Int} {a1 : Int} : Ok (za4 a0 a1) (fun r => L 16 [.sc (.int .i64 a0), .sc (.int .i64 a1)] = some (.sc (.int .i64 r), [.dead, .dead])) := ⟨fun r h => by have h := z4c h; unfold za4 at h; exact z4E zvS zxI zzE⟩
def z0N (a0 : Tape) (a1 : Int) : Option (Int × Tape) :=
  if (a0.l.length : Int) <= a0.at_ then
    some (0, a0)
  else
    (atI a0.l (IntKind.i64.wrap ((IntKind.i64.wrap (a0.at_ + 1)) - 1))).bind fun v3 =>
    (za4 v3 a1).bind fun v4 =>
    some (v4, (⟨a0.l, IntKind.i64.wrap (a0.at_ + 1)⟩ : Tape))
instance made_Tape_Next_ok {a0 : Tape} {a1 : Int} : Ok (z0N a0 a1) (fun r => L 8 [.vr [.sl a0.l.length (a0.l.map fun x0 => .sc (.int .i64 x0)), .sc (.int .i64 a0.at_)], .sc (.int .i64 a1)] = some (.sc (.int .i64 r.1), [.vr [.sl r.2.l.length (r.2.l.map fun x0 => .sc (.int .i64 x0)), .sc (.int .i64 r.2.at_)], .dead])) := ⟨fun r h => by have h := z4c h; unfold z0N at h; exact z4E zxT fn8 bd8⟩
def z8E (a0 : List Int) : Option (Tape) :=
  if 80 < (a0.length : Int) then
    (z5v a0 0 80).bind fun v2 =>
    some (⟨v2, 0⟩ : Tape)
  else
    some (⟨a0, 0⟩ : Tape)
instance made_New_ok {a0 : List Int} : Ok (z8E a0) (fun r => L 6 [.sl a0.length (a0.map fun x0 => .sc (.int .i64 x0))] = some (.vr [.sl r.l.length (r.l.map fun x0 => .sc (.int .i64 x0)), .sc (.int .i64 r.at_)], [.dead])) := ⟨fun r h => by have h := z4c h; unfold z8E at h; exact z4E zxV fn6 bd6⟩
abbrev z4d (a1 : Int) : Int × List Int × Int × List Int -> Option ((Int × List Int × Int × List Int) ⊕ (ByteArray × Tape))
  | (w11, w12, w13, w14) =>
  if 0 < w11 then
    (z0N (⟨w12, w13⟩ : Tape) a1).bind fun v16 =>
    chk (z1q 1 (w14.length + 1)) <|
    z0e (IntKind.i64.wrap (w11 - 1), v16.2.l, v16.2.at_, w14 ++ [IntKind.u8.wrap (IntKind.i64.wrap (97 + v16.1))])
  else
    z0k <|
    some (z1l w14, (⟨w12, w13⟩ : Tape))
instance {a1 : Int} : Hd (z4d a1) := ⟨fun (w11, w12, w13, w14) => ([(8, xI w11)], [(0, .vr [.sl w12.length (w12.map fun x0 => .sc (.int .i64 x0)), .sc (.int .i64 w13)]), (7, .os 1 w14.length (w14.map fun x0 => .sc (.int .u8 x0)))])⟩
def z4p (a0 : Tape) (a1 : Int) (a2 : Int) : Option (ByteArray × Tape) :=
  (z0N a0 (IntKind.i64.wrap (a2 + 1))).bind fun v9 =>
  z0o (z4d a1) LFm (v9.1, v9.2.l, v9.2.at_, [])
instance made_Tape_Word_ok {a0 : Tape} {a1 : Int} {a2 : Int} : Ok (z4p a0 a1 a2) (fun r => L 18 [.vr [.sl a0.l.length (a0.l.map fun x0 => .sc (.int .i64 x0)), .sc (.int .i64 a0.at_)], .sc (.int .i64 a1), .sc (.int .i64 a2)] = some (.sc (.string r.1), [.vr [.sl r.2.l.length (r.2.l.map fun x0 => .sc (.int .i64 x0)), .sc (.int .i64 r.2.at_)], .dead, .dead])) := ⟨fun r h => by have h := z4c h; unfold z4p at h; exact z4E zvQ zxG zzC⟩
def z3u (a0 : Tape) : Option (Int × Tape) :=
  (z0N a0 8).bind fun v2 =>
  some (IntKind.i64.wrap (2 - (zsX .i64 v2.1 7)), v2.2)
instance made_Tape_Letters_ok {a0 : Tape} : Ok (z3u a0) (fun r => L 14 [.vr [.sl a0.l.length (a0.l.map fun x0 => .sc (.int .i64 x0)), .sc (.int .i64 a0.at_)]] = some (.sc (.int .i64 r.1), [.vr [.sl r.2.l.length (r.2.l.map fun x0 => .sc (.int .i64 x0)), .sc (.int .i64 r.2.at_)]])) := ⟨fun r h => by have h := z4c h; unfold z3u at h; exact z4E zvU zxK zzG⟩
abbrev z4e (a1 : Int) (v32 : Int × Tape) (w42 : Int) (w45 : List Bool) (w46 : List (List Int)) (v55 : Int × Tape) : Int × List Int × Int × List Int -> Option ((Int × List Int × Int × List Int) ⊕ ((Int × List Int × Int × List Bool × List (List Int)) ⊕ (DFA × Tape)))
  | (w57, w58, w59, w60) =>
  if w57 < a1 then
    (z0N (⟨w58, w59⟩ : Tape) (IntKind.i64.wrap (1 + v32.1))).bind fun v62 =>
    chk (z1q 8 (w60.length + 1)) <|
    z0e (IntKind.i64.wrap (w57 + 1), v62.2.l, v62.2.at_, w60 ++ [v62.1])
  else
    z0k <|
    chk (z1q 24 (w46.length + 1)) <|
    z0e (IntKind.i64.wrap (w42 + 1), w58, w59, w45 ++ [decide (v55.1 = 1)], w46 ++ [w60])
instance {a1 : Int} {v32 : Int × Tape} {w42 : Int} {w45 : List Bool} {w46 : List (List Int)} {v55 : Int × Tape} : Hd (z4e a1 v32 w42 w45 w46 v55) := ⟨fun (w57, w58, w59, w60) => ([(11, xI w57)], [(0, .vr [.sl w58.length (w58.map fun x0 => .sc (.int .i64 x0)), .sc (.int .i64 w59)]), (10, .os 1 w60.length (w60.map fun x0 => .sc (.int .i64 x0)))])⟩
abbrev z4u (a1 : Int) (v32 : Int × Tape) (v33 : Int × Tape) : Int × List Int × Int × List Bool × List (List Int) -> Option ((Int × List Int × Int × List Bool × List (List Int)) ⊕ (DFA × Tape))
  | (w42, w43, w44, w45, w46) =>
  if w42 < (IntKind.i64.wrap (1 + v32.1)) then
    (z0N (⟨w43, w44⟩ : Tape) 2).bind fun v55 =>
    chk (z1q 1 (w45.length + 1)) <|
    z0o (z4e a1 v32 w42 w45 w46 v55) LFm (0, v55.2.l, v55.2.at_, [])
  else
    z0k <|
    some ((⟨a1, v33.1, w45, w46⟩ : DFA), (⟨w43, w44⟩ : Tape))
instance {a1 : Int} {v32 : Int × Tape} {v33 : Int × Tape} : Hd (z4u a1 v32 v33) := ⟨fun (w42, w43, w44, w45, w46) => ([(9, xI w42)], [(0, .vr [.sl w43.length (w43.map fun x0 => .sc (.int .i64 x0)), .sc (.int .i64 w44)]), (7, .vr [.sc (.int .i64 a1), .sc (.int .i64 v33.1), .os 1 w45.length (w45.map fun x0 => .sc (.bool x0)), .os 1 w46.length (w46.map fun x0 => .os 1 x0.length (x0.map fun x1 => .sc (.int .i64 x1)))])])⟩
def z3C (a0 : Tape) (a1 : Int) (a2 : Int) : Option (DFA × Tape) :=
  (z0N a0 a2).bind fun v32 =>
  (z0N v32.2 (IntKind.i64.wrap (1 + v32.1))).bind fun v33 =>
  z0o (z4u a1 v32 v33) LFm (0, v33.2.l, v33.2.at_, [], [])
instance made_Tape_Dfa_ok {a0 : Tape} {a1 : Int} {a2 : Int} : Ok (z3C a0 a1 a2) (fun r => L 28 [.vr [.sl a0.l.length (a0.l.map fun x0 => .sc (.int .i64 x0)), .sc (.int .i64 a0.at_)], .sc (.int .i64 a1), .sc (.int .i64 a2)] = some (.agg [.sc (.int .i64 r.1.letters), .sc (.int .i64 r.1.start), .os 1 r.1.final.length (r.1.final.map fun x0 => .sc (.bool x0)), .os 1 r.1.next.length (r.1.next.map fun x0 => .os 1 x0.length (x0.map fun x1 => .sc (.int .i64 x1)))], [.vr [.sl r.2.l.length (r.2.l.map fun x0 => .sc (.int .i64 x0)), .sc (.int .i64 r.2.at_)], .dead, .dead])) := ⟨fun r h => by have h := z4c h; unfold z3C at h; exact z4E zvJ zxz zzv⟩
abbrev z3k (w61 : Int) (v77 : List Int) (v46 : DFA × Tape) : Int × List (List Int) -> Option ((Int × List (List Int)) ⊕ ((Int × List (List Int)) ⊕ (DFA × Tape)))
  | (w81, w82) =>
  (atI w82 w61).bind fun v87 =>
  if w81 < (v77.length : Int) then
    (atI v87 w81).bind fun v88 =>
    z0e (IntKind.i64.wrap (w81 + 1), (w82.set w61.toNat (v87.set w81.toNat (if w61 < v88 then v88 else w61))))
  else
    z0k <|
    z0e (IntKind.i64.wrap (w61 + 1), w82)
instance {w61 : Int} {v77 : List Int} {v46 : DFA × Tape} : Hd (z3k w61 v77 v46) := ⟨fun (w81, w82) => ([(27, xI w81)], [(7, .vr [.sc (.int .i64 v46.1.letters), .sc (.int .i64 v46.1.start), .os 1 v46.1.final.length (v46.1.final.map fun x0 => .sc (.bool x0)), .os 1 w82.length (w82.map fun x0 => .os 1 x0.length (x0.map fun x1 => .sc (.int .i64 x1)))])])⟩
abbrev z3l (v46 : DFA × Tape) : Int × List (List Int) -> Option ((Int × List (List Int)) ⊕ (DFA × Tape))
  | (w61, w62) =>
  if w61 < (v46.1.next.length : Int) then
    (atI w62 w61).bind fun v77 =>
    z0o (z3k w61 v77 v46) LFm (0, w62)
  else
    z0k <|
    some ((⟨v46.1.letters, 0, v46.1.final, w62⟩ : DFA), v46.2)
instance {v46 : DFA × Tape} : Hd (z3l v46) := ⟨fun (w61, w62) => ([(18, xI w61)], [(7, .vr [.sc (.int .i64 v46.1.letters), .sc (.int .i64 v46.1.start), .os 1 v46.1.final.length (v46.1.final.map fun x0 => .sc (.bool x0)), .os 1 w62.length (w62.map fun x0 => .os 1 x0.length (x0.map fun x1 => .sc (.int .i64 x1)))])])⟩
def z2H (a0 : Tape) (a1 : Int) (a2 : Int) : Option (DFA × Tape) :=
  (z3C a0 a1 a2).bind fun v46 =>
  z0o (z3l v46) LFm (0, v46.1.next)
instance made_Tape_Ordered_ok {a0 : Tape} {a1 : Int} {a2 : Int} : Ok (z2H a0 a1 a2) (fun r => L 26 [.vr [.sl a0.l.length (a0.l.map fun x0 => .sc (.int .i64 x0)), .sc (.int .i64 a0.at_)], .sc (.int .i64 a1), .sc (.int .i64 a2)] = some (.agg [.sc (.int .i64 r.1.letters), .sc (.int .i64 r.1.start), .sl r.1.final.length (r.1.final.map fun x0 => .sc (.bool x0)), .sl r.1.next.length (r.1.next.map fun x0 => .sl x0.length (x0.map fun x1 => .sc (.int .i64 x1)))], [.vr [.sl r.2.l.length (r.2.l.map fun x0 => .sc (.int .i64 x0)), .sc (.int .i64 r.2.at_)], .dead, .dead])) := ⟨fun r h => by have h := z4c h; unfold z2H at h; exact zi9 zvL zxB zzx⟩
def z1V (v90 : Int × Tape) (w125 : Int) : Int × List Int × Int × List (List Int) × List Int -> Option ((Int × List Int × Int × List (List Int) × List Int) ⊕ ((Int × List Int × Int × List (List Int)) ⊕ (DFA × Tape)))
  | (w162, w163, w164, w165, w166) =>
  if w162 < (IntKind.i64.wrap (1 + v90.1)) then
    (z0N (⟨w163, w164⟩ : Tape) (w166.length : Int)).bind fun v173 =>
    (atI w165 w162).bind fun v174 =>
    (atI w166 v173.1).bind fun v175 =>
    (atI v174 w125).bind fun v176 =>
    (z5v w166 0 v173.1).bind fun v177 =>
    (z5v w166 (IntKind.i64.wrap (v173.1 + 1)) (w166.length : Int)).bind fun v178 =>
    chk (z1q 8 (v177.length)) <|
    chk (z1q 8 (v177.length + v178.length)) <|
    z0e (IntKind.i64.wrap (w162 + 1), v173.2.l, v173.2.at_, (w165.set w162.toNat (v174.set w125.toNat v175)), v177 ++ v178)
  else
    z0k <|
    z0e (IntKind.i64.wrap (w125 + 1), w163, w164, w165)
def z1T (a1 : Int) (v90 : Int × Tape) (v91 : Int × Tape) (w96 : List Bool) (w125 : Int) : Int × List Int × Int × List (List Int) × List Int -> Fr
  | (w162, w163, w164, w165, w166) => ⟨90, [(0, .one (.a 0 [] (0))), (1, .one (.t none (.sc (.int .i64 a1)))), (6, .one (.a 6 [] (0))), (7, .one (.a 7 [] (0))), (8, .one (.t none (.sc (.int .i64 (IntKind.i64.wrap (1 + v90.1)))))), (10, .one (.t none (.sc (.int .i64 w125)))), (11, .one (.h 11 [])), (13, .one (.t none (.sc (.int .i64 w162)))), (1090, .one (.a 0 [] (0)))], [(0, .vr [.sl w163.length (w163.map fun x0 => .sc (.int .i64 x0)), .sc (.int .i64 w164)]), (6, .vr [.sc (.int .i64 0), .sc (.int .i64 0), .os 1 0 [], .os 1 0 []]), (7, .vr [.sc (.int .i64 a1), .sc (.int .i64 v91.1), .os 1 w96.length (w96.map fun x0 => .sc (.bool x0)), .os 1 w165.length (w165.map fun x0 => .os 1 x0.length (x0.map fun x1 => .sc (.int .i64 x1)))]), (11, .os 1 w166.length (w166.map fun x0 => .sc (.int .i64 x0)))]⟩
def z1W (v90 : Int × Tape) (w125 : Int) (w126 : List Int) (w127 : Int) (w128 : List (List Int)) : Int × List Int -> Option ((Int × List Int) ⊕ ((Int × List Int × Int × List (List Int)) ⊕ (DFA × Tape)))
  | (w154, w155) =>
  if w154 < (IntKind.i64.wrap (1 + v90.1)) then
    chk (z1q 8 (w155.length + 1)) <|
    z0e (IntKind.i64.wrap (w154 + 1), w155 ++ [w154])
  else
    z0k <|
    z0o (z1V v90 w125) LFm (0, w126, w127, w128, w155)
def z1U (a1 : Int) (v90 : Int × Tape) (v91 : Int × Tape) (w96 : List Bool) (w125 : Int) (w126 : List Int) (w127 : Int) (w128 : List (List Int)) : Int × List Int -> Fr
  | (w154, w155) => ⟨90, [(0, .one (.a 0 [] (0))), (1, .one (.t none (.sc (.int .i64 a1)))), (6, .one (.a 6 [] (0))), (7, .one (.a 7 [] (0))), (8, .one (.t none (.sc (.int .i64 (IntKind.i64.wrap (1 + v90.1)))))), (10, .one (.t none (.sc (.int .i64 w125)))), (11, .one (.h 11 [])), (12, .one (.t none (.sc (.int .i64 w154)))), (1090, .one (.a 0 [] (0)))], [(0, .vr [.sl w126.length (w126.map fun x0 => .sc (.int .i64 x0)), .sc (.int .i64 w127)]), (6, .vr [.sc (.int .i64 0), .sc (.int .i64 0), .os 1 0 [], .os 1 0 []]), (7, .vr [.sc (.int .i64 a1), .sc (.int .i64 v91.1), .os 1 w96.length (w96.map fun x0 => .sc (.bool x0)), .os 1 w128.length (w128.map fun x0 => .os 1 x0.length (x0.map fun x1 => .sc (.int .i64 x1)))]), (11, .os 1 w155.length (w155.map fun x0 => .sc (.int .i64 x0)))]⟩
def z2i (a1 : Int) (v90 : Int × Tape) (v91 : Int × Tape) (w96 : List Bool) : Int × List Int × Int × List (List Int) -> Option ((Int × List Int × Int × List (List Int)) ⊕ (DFA × Tape))
  | (w125, w126, w127, w128) =>
  if w125 < a1 then
    z0o (z1W v90 w125 w126 w127 w128) LFm (0, [])
  else
    z0k <|
    some ((⟨a1, v91.1, w96, w128⟩ : DFA), (⟨w126, w127⟩ : Tape))
def z2g (a1 : Int) (v90 : Int × Tape) (v91 : Int × Tape) (w96 : List Bool) : Int × List Int × Int × List (List Int) -> Fr
  | (w125, w126, w127, w128) => ⟨90, [(0, .one (.a 0 [] (0))), (1, .one (.t none (.sc (.int .i64 a1)))), (6, .one (.a 6 [] (0))), (7, .one (.a 7 [] (0))), (8, .one (.t none (.sc (.int .i64 (IntKind.i64.wrap (1 + v90.1)))))), (10, .one (.t none (.sc (.int .i64 w125)))), (1090, .one (.a 0 [] (0)))], [(0, .vr [.sl w126.length (w126.map fun x0 => .sc (.int .i64 x0)), .sc (.int .i64 w127)]), (6, .vr [.sc (.int .i64 0), .sc (.int .i64 0), .os 1 0 [], .os 1 0 []]), (7, .vr [.sc (.int .i64 a1), .sc (.int .i64 v91.1), .os 1 w96.length (w96.map fun x0 => .sc (.bool x0)), .os 1 w128.length (w128.map fun x0 => .os 1 x0.length (x0.map fun x1 => .sc (.int .i64 x1)))])]⟩
def z2j (a1 : Int) (v90 : Int × Tape) (v91 : Int × Tape) : Int × List Int × Int × List Bool × List (List Int) -> Option ((Int × List Int × Int × List Bool × List (List Int)) ⊕ (DFA × Tape))
  | (w93, w94, w95, w96, w97) =>
  if w93 < (IntKind.i64.wrap (1 + v90.1)) then
    (z0N (⟨w94, w95⟩ : Tape) 2).bind fun v99 =>
    chk (z1q 1 (w96.length + 1)) <|
    chk (z1i 8 a1) <|
    chk (z1q 24 (w97.length + 1)) <|
    z0e (IntKind.i64.wrap (w93 + 1), v99.2.l, v99.2.at_, w96 ++ [decide (v99.1 = 1)], w97 ++ [List.replicate a1.toNat (0 : Int)])
  else
    z0k <|
    z0o (z2i a1 v90 v91 w96) LFm (0, w94, w95, w97)
def z2h (a1 : Int) (v90 : Int × Tape) (v91 : Int × Tape) : Int × List Int × Int × List Bool × List (List Int) -> Fr
  | (w93, w94, w95, w96, w97) => ⟨90, [(0, .one (.a 0 [] (0))), (1, .one (.t none (.sc (.int .i64 a1)))), (6, .one (.a 6 [] (0))), (7, .one (.a 7 [] (0))), (8, .one (.t none (.sc (.int .i64 (IntKind.i64.wrap (1 + v90.1)))))), (9, .one (.t none (.sc (.int .i64 w93)))), (1090, .one (.a 0 [] (0)))], [(0, .vr [.sl w94.length (w94.map fun x0 => .sc (.int .i64 x0)), .sc (.int .i64 w95)]), (6, .vr [.sc (.int .i64 0), .sc (.int .i64 0), .os 1 0 [], .os 1 0 []]), (7, .vr [.sc (.int .i64 a1), .sc (.int .i64 v91.1), .os 1 w96.length (w96.map fun x0 => .sc (.bool x0)), .os 1 w97.length (w97.map fun x0 => .os 1 x0.length (x0.map fun x1 => .sc (.int .i64 x1)))])]⟩
def z1Y (a0 : Tape) (a1 : Int) (a2 : Int) : Option (DFA × Tape) :=
  (z0N a0 a2).bind fun v90 =>
  (z0N v90.2 (IntKind.i64.wrap (1 + v90.1))).bind fun v91 =>
  z0o (z2j a1 v90 v91) LFm (0, v91.2.l, v91.2.at_, [], [])
instance made_Tape_Permutations_ok {a0 : Tape} {a1 : Int} {a2 : Int} : Ok (z1Y a0 a1 a2) (fun r => L 7 [.vr [.sl a0.l.length (a0.l.map fun x0 => .sc (.int .i64 x0)), .sc (.int .i64 a0.at_)], .sc (.int .i64 a1), .sc (.int .i64 a2)] = some (.agg [.sc (.int .i64 r.1.letters), .sc (.int .i64 r.1.start), .sl r.1.final.length (r.1.final.map fun x0 => .sc (.bool x0)), .sl r.1.next.length (r.1.next.map fun x0 => .sl x0.length (x0.map fun x1 => .sc (.int .i64 x1)))], [.vr [.sl r.2.l.length (r.2.l.map fun x0 => .sc (.int .i64 x0)), .sc (.int .i64 r.2.at_)], .dead, .dead])) := ⟨fun r h0 => by
  simp only [z1Y] at h0
  refine znH zxU fn7 (zbu bd7 ⟨of_decide_eq_true rfl, of_decide_eq_true rfl⟩ rfl ?_)
  simp only [z6C, z6u, z5H, z8c, z5O]
  refine zq rfl (zr rfl rfl rfl (by simp; rfl) ?_)
  refine z0j (zq rfl (zr rfl rfl rfl (by simp; rfl) ?_))
  refine z0j (zq rfl ?_)
  obtain ⟨v90, f115, h1⟩ := z1E h0
  have f115k := Ok.ok _ f115
  try simp at f115k
  refine zr rfl rfl rfl (by simp [f115k]; rfl) ?_
  refine z0j (zq rfl ?_)
  obtain ⟨v91, f116, h2⟩ := z1E h1
  have f116k := Ok.ok _ f116
  try simp at f116k
  refine zr rfl rfl rfl (by simp [f116k]; rfl) ?_
  refine z0j (zq rfl (zq rfl (zr rfl rfl rfl (by simp; rfl) ?_)))
  refine z0j (zb rfl (z6J h2 (z2h a1 v90 v91) rfl rfl (by simp [z2h]) fun s o1 h3 hr1 => ?_))
  obtain ⟨w93, w94, w95, w96, w97⟩ := s
  simp only [z2j] at h3
  simp only [z2h]
  refine zq rfl (zq rfl (zr rfl rfl rfl (by simp; rfl) ?_))
  refine z0j ?_
  by_cases c125 : w93 < (IntKind.i64.wrap (1 + v90.1))
  ·rw [if_pos c125] at h3
   refine z9n rfl (by simp [c125]) (z6k rfl (z0j (zq rfl (zb rfl ?_))))
   obtain ⟨v99, f126, h4⟩ := z1E h3
   have f126k := Ok.ok _ f126
   try simp at f126k
   obtain ⟨f127, h5⟩ := zw1 h4
   obtain ⟨f128, h6⟩ := ztH h5
   obtain ⟨f129, h7⟩ := zgU h6
   refine zgf rfl rfl rfl rfl ?_
   refine zpq [(0, 0, 3, 1), (1, 2, 3, 2), (2, 7, 3, 3), (3, 9, 3, 4), (4, 1, 2, 5), (4, 3, 1, 6), (4, 8, 2, 7), (4, 10, 1, 8), (5, 3, 1, 9), (5, 8, 2, 10), (5, 10, 1, 11), (6, 4, 3, 12), (7, 1, 2, 10), (7, 3, 1, 13), (7, 10, 1, 15), (8, 1, 2, 11), (8, 3, 1, 14), (8, 8, 2, 15), (8, 11, 1, 16), (9, 4, 3, 17), (10, 3, 1, 18), (10, 10, 1, 20), (11, 3, 1, 19), (11, 8, 2, 20), (11, 11, 1, 21), (12, 1, 2, 17), (12, 5, 1, 22), (12, 8, 2, 23), (12, 10, 1, 24), (13, 4, 3, 23), (14, 4, 3, 24), (15, 1, 2, 20), (15, 3, 1, 25), (15, 11, 1, 27), (16, 1, 2, 21), (16, 3, 1, 26), (16, 8, 2, 27), (17, 5, 1, 28), (17, 8, 2, 29), (17, 10, 1, 30), (18, 4, 0, 29), (19, 4, 3, 30), (20, 3, 1, 31), (20, 11, 1, 33), (21, 3, 1, 32), (21, 8, 2, 33), (22, 1, 2, 28), (22, 8, 2, 34), (22, 10, 1, 35), (23, 1, 2, 29), (23, 5, 1, 34), (23, 10, 1, 36), (24, 1, 2, 30), (24, 5, 1, 35), (24, 8, 2, 36), (24, 11, 1, 37), (25, 4, 3, 36), (26, 4, 3, 37), (27, 1, 2, 33), (27, 3, 1, 38), (28, 6, 2, 39), (28, 8, 2, 40), (28, 10, 1, 41), (29, 5, 1, 40), (29, 10, 1, 42), (30, 5, 1, 41), (30, 8, 2, 42), (30, 11, 1, 43), (31, 4, 0, 42), (32, 4, 3, 43), (33, 3, 1, 44), (34, 1, 2, 40), (34, 10, 1, 45), (35, 1, 2, 41), (35, 8, 2, 45), (35, 11, 1, 46), (36, 1, 2, 42), (36, 5, 1, 45), (36, 11, 1, 47), (37, 1, 2, 43), (37, 5, 1, 46), (37, 8, 2, 47), (38, 4, 3, 47), (39, 8, 2, 48), (39, 10, 1, 49), (40, 6, 2, 48), (40, 10, 1, 50), (41, 6, 2, 49), (41, 8, 2, 50), (41, 11, 1, 51), (42, 5, 1, 50), (42, 11, 1, 52), (43, 5, 1, 51), (43, 8, 2, 52), (44, 4, 0, 52), (45, 1, 2, 50), (45, 11, 1, 53), (46, 1, 2, 51), (46, 8, 2, 53), (47, 1, 2, 52), (47, 5, 1, 53), (48, 13, 3, 55), (49, 8, 2, 54), (49, 11, 1, 56), (50, 6, 2, 54), (50, 11, 1, 57), (51, 6, 2, 56), (51, 8, 2, 57), (52, 5, 1, 57), (53, 1, 2, 57), (54, 13, 3, 59), (55, 10, 1, 59), (56, 8, 2, 58), (57, 6, 2, 58), (58, 13, 3, 60), (59, 11, 1, 60), (60, 12, 2, 61), (61, 14, 2, 62), (62, 15, 0, 63), (63, 16, 2, 64)] 64 (by kernel_rfl) ?_
   refine z0q rfl rfl rfl rfl (by simp [z0b, z0c, f126k, f127, f128, f129]; rfl) ?_
   refine z0q rfl rfl rfl rfl (by simp [z0b, z0c, f126k, f127, f128, f129]; rfl) ?_
   refine z0q rfl rfl rfl rfl (by simp [z0b, z0c, f126k, f127, f128, f129]; rfl) ?_
   refine z0q rfl rfl rfl rfl (by simp [z0b, z0c, f126k, f127, f128, f129]; rfl) ?_
   refine z0q rfl rfl rfl rfl (by simp [z0b, z0c, f126k, f127, f128, f129]; rfl) ?_
   refine z0q rfl rfl rfl rfl (by simp [z0b, z0c, f126k, f127, f128, f129]; rfl) ?_
   refine z0q rfl rfl rfl rfl (by simp [z0b, z0c, f126k, f127, f128, f129]; rfl) ?_
   refine z0q rfl rfl rfl rfl (by simp [z0b, z0c, f126k, f127, f128, f129]; rfl) ?_
   refine z0q rfl rfl rfl rfl (by simp [z0b, z0c, f126k, f127, f128, f129]; rfl) ?_
   refine z0q rfl rfl rfl rfl (by simp [z0b, z0c, f126k, f127, f128, f129]; rfl) ?_
   refine z0q rfl rfl rfl rfl (by simp [z0b, z0c, f126k, f127, f128, f129]; rfl) ?_
   refine z0q rfl rfl rfl rfl (by simp [z0b, z0c, f126k, f127, f128, f129]; rfl) ?_
   refine z0p rfl rfl rfl rfl (by simp [z0b, z0c, f126k, f127, f128, f129]) ?_
   refine z0q rfl rfl rfl rfl (by simp [z0b, z0c, f126k, f127, f128, f129]; rfl) ?_
   refine z0q rfl rfl rfl rfl (by simp [z0b, z0c, f126k, f127, f128, f129]; rfl) ?_
   refine z0p rfl rfl rfl rfl (by simp [z0b, z0c, f126k, f127, f128, f129]) ?_
   refine z0q rfl rfl rfl rfl (by simp [z0b, z0c, f126k, f127, f128, f129]; rfl) ?_
   refine z0p rfl rfl rfl rfl (by simp [z0b, z0c, f126k, f127, f128, f129]) ?_
   refine z0q rfl rfl rfl rfl (by simp [z0b, z0c, f126k, f127, f128, f129]; rfl) ?_
   refine z0q rfl rfl rfl rfl (by simp [z0b, z0c, f126k, f127, f128, f129]; rfl) ?_
   refine z0q rfl rfl rfl rfl (by simp [z0b, z0c, f126k, f127, f128, f129]; rfl) ?_
   refine z0q rfl rfl rfl rfl (by simp [z0b, z0c, f126k, f127, f128, f129]; rfl) ?_
   refine z0q rfl rfl rfl rfl (by simp [z0b, z0c, f126k, f127, f128, f129]; rfl) ?_
   refine z0p rfl rfl rfl rfl (by simp [z0b, z0c, f126k, f127, f128, f129]) ?_
   refine z0q rfl rfl rfl rfl (by simp [z0b, z0c, f126k, f127, f128, f129]; rfl) ?_
   refine z0p rfl rfl rfl rfl (by simp [z0b, z0c, f126k, f127, f128, f129]) ?_
   refine z0q rfl rfl rfl rfl (by simp [z0b, z0c, f126k, f127, f128, f129]; rfl) ?_
   refine z0q rfl rfl rfl rfl (by simp [z0b, z0c, f126k, f127, f128, f129]; rfl) ?_
   refine z0q rfl rfl rfl rfl (by simp [z0b, z0c, f126k, f127, f128, f129]; rfl) ?_
   refine z0p rfl rfl rfl rfl (by simp [z0b, z0c, f126k, f127, f128, f129]) ?_
   refine z0p rfl rfl rfl rfl (by simp [z0b, z0c, f126k, f127, f128, f129]) ?_
   refine z0p rfl rfl rfl rfl (by simp [z0b, z0c, f126k, f127, f128, f129]) ?_
   refine z0q rfl rfl rfl rfl (by simp [z0b, z0c, f126k, f127, f128, f129]; rfl) ?_
   refine z0q rfl rfl rfl rfl (by simp [z0b, z0c, f126k, f127, f128, f129]; rfl) ?_
   refine z0p rfl rfl rfl rfl (by simp [z0b, z0c, f126k, f127, f128, f129]) ?_
   refine z0q rfl rfl rfl rfl (by simp [z0b, z0c, f126k, f127, f128, f129]; rfl) ?_
   refine z0p rfl rfl rfl rfl (by simp [z0b, z0c, f126k, f127, f128, f129]) ?_
   refine z0q rfl rfl rfl rfl (by simp [z0b, z0c, f126k, f127, f128, f129]; rfl) ?_
   refine z0q rfl rfl rfl rfl (by simp [z0b, z0c, f126k, f127, f128, f129]; rfl) ?_
   refine z0q rfl rfl rfl rfl (by simp [z0b, z0c, f126k, f127, f128, f129]; rfl) ?_
   refine z0p rfl rfl rfl rfl (by simp [z0b, z0c, f126k, f127, f128, f129]) ?_
   refine z0p rfl rfl rfl rfl (by simp [z0b, z0c, f126k, f127, f128, f129]) ?_
   refine z0q rfl rfl rfl rfl (by simp [z0b, z0c, f126k, f127, f128, f129]; rfl) ?_
   refine z0q rfl rfl rfl rfl (by simp [z0b, z0c, f126k, f127, f128, f129]; rfl) ?_
   refine z0q rfl rfl rfl rfl (by simp [z0b, z0c, f126k, f127, f128, f129]; rfl) ?_
   refine z0p rfl rfl rfl rfl (by simp [z0b, z0c, f126k, f127, f128, f129]) ?_
   refine z0p rfl rfl rfl rfl (by simp [z0b, z0c, f126k, f127, f128, f129]) ?_
   refine z0q rfl rfl rfl rfl (by simp [z0b, z0c, f126k, f127, f128, f129]; rfl) ?_
   refine z0q rfl rfl rfl rfl (by simp [z0b, z0c, f126k, f127, f128, f129]; rfl) ?_
   refine z0p rfl rfl rfl rfl (by simp [z0b, z0c, f126k, f127, f128, f129]) ?_
   refine z0p rfl rfl rfl rfl (by simp [z0b, z0c, f126k, f127, f128, f129]) ?_
   refine z0q rfl rfl rfl rfl (by simp [z0b, z0c, f126k, f127, f128, f129]; rfl) ?_
   refine z0p rfl rfl rfl rfl (by simp [z0b, z0c, f126k, f127, f128, f129]) ?_
   refine z0p rfl rfl rfl rfl (by simp [z0b, z0c, f126k, f127, f128, f129]) ?_
   refine z0p rfl rfl rfl rfl (by simp [z0b, z0c, f126k, f127, f128, f129]) ?_
   refine z0q rfl rfl rfl rfl (by simp [z0b, z0c, f126k, f127, f128, f129]; rfl) ?_
   refine z0p rfl rfl rfl rfl (by simp [z0b, z0c, f126k, f127, f128, f129]) ?_
   refine z0p rfl rfl rfl rfl (by simp [z0b, z0c, f126k, f127, f128, f129]) ?_
   refine z0p rfl rfl rfl rfl (by simp [z0b, z0c, f126k, f127, f128, f129]) ?_
   refine z0q rfl rfl rfl rfl (by simp [z0b, z0c, f126k, f127, f128, f129]; rfl) ?_
   refine z0q rfl rfl rfl rfl (by simp [z0b, z0c, f126k, f127, f128, f129]; rfl) ?_
   refine z0q rfl rfl rfl rfl (by simp [z0b, z0c, f126k, f127, f128, f129]; rfl) ?_
   refine z0q rfl rfl rfl rfl (by simp [z0b, z0c, f126k, f127, f128, f129]; rfl) ?_
   refine z0p rfl rfl rfl rfl (by simp [z0b, z0c, f126k, f127, f128, f129]) ?_
   refine z0q rfl rfl rfl rfl (by simp [z0b, z0c, f126k, f127, f128, f129]; rfl) ?_
   refine z0p rfl rfl rfl rfl (by simp [z0b, z0c, f126k, f127, f128, f129]) ?_
   refine z0p rfl rfl rfl rfl (by simp [z0b, z0c, f126k, f127, f128, f129]) ?_
   refine z0q rfl rfl rfl rfl (by simp [z0b, z0c, f126k, f127, f128, f129]; rfl) ?_
   refine z0p rfl rfl rfl rfl (by simp [z0b, z0c, f126k, f127, f128, f129]) ?_
   refine z0p rfl rfl rfl rfl (by simp [z0b, z0c, f126k, f127, f128, f129]) ?_
   refine z0q rfl rfl rfl rfl (by simp [z0b, z0c, f126k, f127, f128, f129]; rfl) ?_
   refine z0p rfl rfl rfl rfl (by simp [z0b, z0c, f126k, f127, f128, f129]) ?_
   refine z0q rfl rfl rfl rfl (by simp [z0b, z0c, f126k, f127, f128, f129]; rfl) ?_
   refine z0p rfl rfl rfl rfl (by simp [z0b, z0c, f126k, f127, f128, f129]) ?_
   refine z0p rfl rfl rfl rfl (by simp [z0b, z0c, f126k, f127, f128, f129]) ?_
   refine z0q rfl rfl rfl rfl (by simp [z0b, z0c, f126k, f127, f128, f129]; rfl) ?_
   refine z0p rfl rfl rfl rfl (by simp [z0b, z0c, f126k, f127, f128, f129]) ?_
   refine z0p rfl rfl rfl rfl (by simp [z0b, z0c, f126k, f127, f128, f129]) ?_
   refine z0q rfl rfl rfl rfl (by simp [z0b, z0c, f126k, f127, f128, f129]; rfl) ?_
   refine z0p rfl rfl rfl rfl (by simp [z0b, z0c, f126k, f127, f128, f129]) ?_
   refine z0p rfl rfl rfl rfl (by simp [z0b, z0c, f126k, f127, f128, f129]) ?_
   refine z0p rfl rfl rfl rfl (by simp [z0b, z0c, f126k, f127, f128, f129]) ?_
   refine z0p rfl rfl rfl rfl (by simp [z0b, z0c, f126k, f127, f128, f129]) ?_
   refine z0q rfl rfl rfl rfl (by simp [z0b, z0c, f126k, f127, f128, f129]; rfl) ?_
   refine z0q rfl rfl rfl rfl (by simp [z0b, z0c, f126k, f127, f128, f129]; rfl) ?_
   refine z0p rfl rfl rfl rfl (by simp [z0b, z0c, f126k, f127, f128, f129]) ?_
   refine z0q rfl rfl rfl rfl (by simp [z0b, z0c, f126k, f127, f128, f129]; rfl) ?_
   refine z0p rfl rfl rfl rfl (by simp [z0b, z0c, f126k, f127, f128, f129]) ?_
   refine z0p rfl rfl rfl rfl (by simp [z0b, z0c, f126k, f127, f128, f129]) ?_
   refine z0q rfl rfl rfl rfl (by simp [z0b, z0c, f126k, f127, f128, f129]; rfl) ?_
   refine z0p rfl rfl rfl rfl (by simp [z0b, z0c, f126k, f127, f128, f129]) ?_
   refine z0q rfl rfl rfl rfl (by simp [z0b, z0c, f126k, f127, f128, f129]; rfl) ?_
   refine z0p rfl rfl rfl rfl (by simp [z0b, z0c, f126k, f127, f128, f129]) ?_
   refine z0p rfl rfl rfl rfl (by simp [z0b, z0c, f126k, f127, f128, f129]) ?_
   refine z0p rfl rfl rfl rfl (by simp [z0b, z0c, f126k, f127, f128, f129]) ?_
   refine z0p rfl rfl rfl rfl (by simp [z0b, z0c, f126k, f127, f128, f129]) ?_
   refine z0q rfl rfl rfl rfl (by simp [z0b, z0c, f126k, f127, f128, f129]; rfl) ?_
   refine z0p rfl rfl rfl rfl (by simp [z0b, z0c, f126k, f127, f128, f129]) ?_
   refine z0p rfl rfl rfl rfl (by simp [z0b, z0c, f126k, f127, f128, f129]) ?_
   refine z0p rfl rfl rfl rfl (by simp [z0b, z0c, f126k, f127, f128, f129]) ?_
   refine z0p rfl rfl rfl rfl (by simp [z0b, z0c, f126k, f127, f128, f129]) ?_
   refine z0q rfl rfl rfl rfl (by simp [z0b, z0c, f126k, f127, f128, f129]; rfl) ?_
   refine z0q rfl rfl rfl rfl (by simp [z0b, z0c, f126k, f127, f128, f129]; rfl) ?_
   refine z0q rfl rfl rfl rfl (by simp [z0b, z0c, f126k, f127, f128, f129]; rfl) ?_
   refine z0p rfl rfl rfl rfl (by simp [z0b, z0c, f126k, f127, f128, f129]) ?_
   refine z0q rfl rfl rfl rfl (by simp [z0b, z0c, f126k, f127, f128, f129]; rfl) ?_
   refine z0p rfl rfl rfl rfl (by simp [z0b, z0c, f126k, f127, f128, f129]) ?_
   refine z0p rfl rfl rfl rfl (by simp [z0b, z0c, f126k, f127, f128, f129]) ?_
   refine z0p rfl rfl rfl rfl (by simp [z0b, z0c, f126k, f127, f128, f129]) ?_
   refine z0p rfl rfl rfl rfl (by simp [z0b, z0c, f126k, f127, f128, f129]) ?_
   refine z0q rfl rfl rfl rfl (by simp [z0b, z0c, f126k, f127, f128, f129]; rfl) ?_
   refine z0p rfl rfl rfl rfl (by simp [z0b, z0c, f126k, f127, f128, f129]) ?_
   refine z0q rfl rfl rfl rfl (by simp [z0b, z0c, f126k, f127, f128, f129]; rfl) ?_
   refine z0p rfl rfl rfl rfl (by simp [z0b, z0c, f126k, f127, f128, f129]) ?_
   refine z0q rfl rfl rfl rfl (by simp [z0b, z0c, f126k, f127, f128, f129]; rfl) ?_
   refine z0p rfl rfl rfl rfl (by simp [z0b, z0c, f126k, f127, f128, f129]) ?_
   refine z0q rfl rfl rfl rfl (by simp [z0b, z0c, f126k, f127, f128, f129]; rfl) ?_
   refine z0q rfl rfl rfl rfl (by simp [z0b, z0c, f126k, f127, f128, f129]; rfl) ?_
   refine z0q rfl rfl rfl rfl (by simp [z0b, z0c, f126k, f127, f128, f129]; rfl) ?_
   refine z0q rfl rfl rfl rfl (by simp [z0b, z0c, f126k, f127, f128, f129]; rfl) ?_
   refine zpL rfl ?_
   refine zfV rfl (by simp [f126k, f127, f128, f129]; rfl) ?_
   refine z4j (z0j (zr rfl rfl rfl (by simp; rfl) ?_))
   have ho := z3t h7
   refine z4b ho ?_
   simp [z2h]
  ·rw [if_neg c125] at h3
   refine z9o rfl (by simp [c125]) (z8U rfl (z6I ?_))
   obtain ⟨rr1, h4, ho1⟩ := z3W h3
   have hs1 := hr1 _ ho1
   subst hs1
   refine z5m ho1 (z3i rfl (z0j (zq rfl (zq rfl (zr rfl rfl rfl (by simp; rfl) ?_)))))
   refine z0j (zb rfl (z6J h4 (z2g a1 v90 v91 w96) rfl rfl (by simp [z2g]) fun s o2 h5 hr2 => ?_))
   obtain ⟨w125, w126, w127, w128⟩ := s
   simp only [z2i] at h5
   simp only [z2g]
   refine zq rfl (zq rfl (zr rfl rfl rfl (by simp; rfl) ?_))
   refine z0j ?_
   by_cases c196 : w125 < a1
   ·rw [if_pos c196] at h5
    refine z9n rfl (by simp [c196]) (z6k rfl (z0j (zq rfl (zb rfl (zq rfl (zr rfl rfl rfl (by simp; rfl) ?_))))))
    refine z0j (zq rfl (zq rfl (zr rfl rfl rfl (by simp; rfl) ?_)))
    refine z0j (zb rfl (z6J h5 (z1U a1 v90 v91 w96 w125 w126 w127 w128) rfl rfl (by simp [z1U]) fun s o3 h6 hr3 => ?_))
    obtain ⟨w154, w155⟩ := s
    simp only [z1W] at h6
    simp only [z1U]
    refine zq rfl (zq rfl (zr rfl rfl rfl (by simp; rfl) ?_))
    refine z0j ?_
    by_cases c200 : w154 < (IntKind.i64.wrap (1 + v90.1))
    ·rw [if_pos c200] at h6
     refine z9n rfl (by simp [c200]) (z6k rfl (z0j (zq rfl (zb rfl ?_))))
     obtain ⟨f201, h7⟩ := zgU h6
     refine zr rfl rfl rfl (by simp [f201]; rfl) ?_
     refine z4j (z0j (zr rfl rfl rfl (by simp; rfl) ?_))
     have ho := z3t h7
     refine z4b ho ?_
     simp [z1U]
    ·rw [if_neg c200] at h6
     refine z9o rfl (by simp [c200]) (z8U rfl (z6I ?_))
     obtain ⟨rr3, h7, ho3⟩ := z3W h6
     have hs3 := hr3 _ ho3
     subst hs3
     refine z5m ho3 (z3i rfl (z0j (zq rfl (zr rfl rfl rfl (by simp; rfl) ?_))))
     refine z0j (zb rfl (z6J h7 (z1T a1 v90 v91 w96 w125) rfl rfl (by simp [z1T]) fun s o4 h8 hr4 => ?_))
     obtain ⟨w162, w163, w164, w165, w166⟩ := s
     simp only [z1V] at h8
     simp only [z1T]
     refine zq rfl (zq rfl (zr rfl rfl rfl (by simp; rfl) ?_))
     refine z0j ?_
     by_cases c220 : w162 < (IntKind.i64.wrap (1 + v90.1))
     ·rw [if_pos c220] at h8
      refine z9n rfl (by simp [c220]) (z6k rfl (z0j (zq rfl (zb rfl (zq rfl ?_)))))
      obtain ⟨v173, f221, h9⟩ := z1E h8
      have f221k := Ok.ok _ f221
      try simp at f221k
      refine zr rfl rfl rfl (by simp [f221k]; rfl) ?_
      refine z0j (zq rfl ?_)
      obtain ⟨v174, f222, h10⟩ := z7i h9
      obtain ⟨v175, f223, h11⟩ := z7i h10
      obtain ⟨v176, f224, h12⟩ := z7i h11
      refine z7Q rfl rfl rfl rfl ?_; repeat' ((first | refine z4B rfl rfl fun Q' hQ => ?_ | refine z3S rfl fun Q' hQ => ?_); simp [f222, f223, f224]; refine hQ.out _ ?_; clear hQ; clear Q')
      refine z0j ?_
      obtain ⟨v177, f225, h13⟩ := z1E h12
      obtain ⟨f225a, f225b, f225c, -⟩ := z3T f225
      obtain ⟨f225d, f225g⟩ := z9Y f225a f225b
      have f225e := zaN (g := fun x : Int => (.sc (.int .i64 x) : T)) f225
      try simp at f225e
      have f225f := zaM f225
      try simp only [Int.reduceToNat, Int.toNat_natCast, Nat.sub_zero] at f225f
      obtain ⟨v178, f226, h14⟩ := z1E h13
      obtain ⟨f226a, f226b, f226c, -⟩ := z3T f226
      obtain ⟨f226d, f226g⟩ := z9Y f226a f226b
      have f226e := zaN (g := fun x : Int => (.sc (.int .i64 x) : T)) f226
      try simp at f226e
      have f226f := zaM f226
      try simp only [Int.reduceToNat, Int.toNat_natCast, Nat.sub_zero] at f226f
      obtain ⟨f227, h15⟩ := zgU h14
      obtain ⟨f228, h16⟩ := zgU h15
      refine z7Q rfl rfl rfl rfl ?_; repeat' ((first | refine z4B rfl rfl fun Q' hQ => ?_ | refine z3S rfl fun Q' hQ => ?_); simp [f222, f225a, f225b, f225c, f225d, f225g, f225e, f225f, f226a, f226b, f226c, f226d, f226g, f226e, f226f, f227, f228]; refine hQ.out _ ?_; clear hQ; clear Q')
      refine z4j (z0j (zr rfl rfl rfl (by simp [f222]; rfl) ?_))
      have ho := z3t h16
      refine z4b ho ?_
      simp [z1T]
     ·rw [if_neg c220] at h8
      refine z9o rfl (by simp [c220]) (z8U rfl (z6I ?_))
      obtain ⟨rr4, h9, ho4⟩ := z3W h8
      have hs4 := hr4 _ ho4
      subst hs4
      refine z5m ho4 (z3i rfl (z4j (z0j (zr rfl rfl rfl (by simp; rfl) ?_))))
      have ho := z3t h9
      refine z4b ho ?_
      simp [z2g]
   ·rw [if_neg c196] at h5
    refine z9o rfl (by simp [c196]) (z8U rfl (z6I ?_))
    obtain ⟨rr2, h6, ho2⟩ := z3W h5
    have hs2 := hr2 _ ho2
    subst hs2
    refine z5m ho2 (z3i rfl (z0j (zq rfl (zr rfl rfl rfl (by simp; rfl) ?_))))
    refine z0j (zk8 rfl ?_)
    cases h6
    simp⟩
abbrev za2 (a0 : Int) (a1 : Int) (w31 : Int) : Int × List ByteArray -> Option ((Int × List ByteArray) ⊕ ((Int × List ByteArray) ⊕ List ByteArray))
  | (w43, w44) =>
  if w43 < a0 then
    (atI w44 w31).bind fun v47 =>
    if (v47.size : Int) < a1 then
      chk (z7G v47 ⟨#[UInt8.ofNat (IntKind.u8.wrap (IntKind.i64.wrap (97 + w43))).toNat]⟩) <|
      chk (z1q 16 (w44.length + 1)) <|
      z0e (IntKind.i64.wrap (w43 + 1), w44 ++ [v47 ++ ⟨#[UInt8.ofNat (IntKind.u8.wrap (IntKind.i64.wrap (97 + w43))).toNat]⟩])
    else
      z0k <|
      z0e (IntKind.i64.wrap (w31 + 1), w44)
  else
    z0k <|
    z0e (IntKind.i64.wrap (w31 + 1), w44)
instance {a0 : Int} {a1 : Int} {w31 : Int} : Hd (za2 a0 a1 w31) := ⟨fun (w43, w44) => ([(7, xI w43)], [(5, .os 1 w44.length (w44.map fun x0 => .sc (.string x0)))])⟩
abbrev za3 (a0 : Int) (a1 : Int) : Int × List ByteArray -> Option ((Int × List ByteArray) ⊕ List ByteArray)
  | (w31, w32) =>
  if w31 < (w32.length : Int) then
    z0o (za2 a0 a1 w31) LFm (0, w32)
  else
    z0k <|
    some w32
instance {a0 : Int} {a1 : Int} : Hd (za3 a0 a1) := ⟨fun (w31, w32) => ([(6, xI w31)], [(5, .os 1 w32.length (w32.map fun x0 => .sc (.string x0)))])⟩
def z5a (a0 : Int) (a1 : Int) : Option (List ByteArray) :=
  z0o (za3 a0 a1) LFm (0, [ByteArray.empty])
instance made_Words_ok {a0 : Int} {a1 : Int} : Ok (z5a a0 a1) (fun r => L 50 [.sc (.int .i64 a0), .sc (.int .i64 a1)] = some (.os 1 r.length (r.map fun x0 => .sc (.string x0)), [.dead, .dead])) := ⟨fun r h => by have h := z4c h; unfold z5a at h; exact z4E zvw zxn zzj⟩
abbrev z4T (v201 : List ByteArray) (w385 : ByteArray) : Int × Int -> Option ((Int × Int) ⊕ ((ByteArray × Int) ⊕ ((Int × List Int) ⊕ ((Int × List Int × Int × List Bool × List (List Int)) ⊕ (DFA × Tape)))))
  | (w394, w395) =>
  if w395 < (v201.length : Int) then
    (atI v201 w395).bind fun v397 =>
    if v397 = w385 then
      z0e (w395, IntKind.i64.wrap (w395 + 1))
    else
      z0e (w394, IntKind.i64.wrap (w395 + 1))
  else
    z0k <|
    (ziK w385 1 (w385.size : Int)).bind fun v398 =>
    z0e (v398, w394)
instance {v201 : List ByteArray} {w385 : ByteArray} : Hd (z4T v201 w385) := ⟨fun (w394, w395) => ([(12, xI w394), (52, xI w395)], [])⟩
abbrev z2P (v201 : List ByteArray) (w357 : Int) (w358 : List Int) : ByteArray × Int -> Option ((ByteArray × Int) ⊕ ((Int × List Int) ⊕ ((Int × List Int × Int × List Bool × List (List Int)) ⊕ (DFA × Tape))))
  | (w385, w386) =>
  if w386 = (-1) then
    z0o (z4T v201 w385) LFm (w386, 0)
  else
    z0k <|
    chk (z1q 8 (w358.length + 1)) <|
    z0e (IntKind.i64.wrap (w357 + 1), w358 ++ [w386])
instance {v201 : List ByteArray} {w357 : Int} {w358 : List Int} : Hd (z2P v201 w357 w358) := ⟨fun (w385, w386) => ([(11, xS w385), (12, xI w386)], [])⟩
abbrev z2o (a1 : Int) (v201 : List ByteArray) (w266 : Int) (w269 : List Bool) (w270 : List (List Int)) (v335 : ByteArray) (v336 : Int × Tape) : Int × List Int -> Option ((Int × List Int) ⊕ ((Int × List Int × Int × List Bool × List (List Int)) ⊕ (DFA × Tape)))
  | (w357, w358) =>
  if w357 < a1 then
    chk (z7G v335 ⟨#[UInt8.ofNat (IntKind.u8.wrap (IntKind.i64.wrap (97 + w357))).toNat]⟩) <|
    z0o (z2P v201 w357 w358) LFm (v335 ++ ⟨#[UInt8.ofNat (IntKind.u8.wrap (IntKind.i64.wrap (97 + w357))).toNat]⟩, (-1))
  else
    z0k <|
    chk (z1q 24 (w270.length + 1)) <|
    z0e (IntKind.i64.wrap (w266 + 1), v336.2.l, v336.2.at_, w269 ++ [decide (v336.1 = 1)], w270 ++ [w358])
instance {a1 : Int} {v201 : List ByteArray} {w266 : Int} {w269 : List Bool} {w270 : List (List Int)} {v335 : ByteArray} {v336 : Int × Tape} : Hd (z2o a1 v201 w266 w269 w270 v335 v336) := ⟨fun (w357, w358) => ([(10, xI w357)], [(9, .os 1 w358.length (w358.map fun x0 => .sc (.int .i64 x0)))])⟩
abbrev z2X (a1 : Int) (v201 : List ByteArray) : Int × List Int × Int × List Bool × List (List Int) -> Option ((Int × List Int × Int × List Bool × List (List Int)) ⊕ (DFA × Tape))
  | (w266, w267, w268, w269, w270) =>
  if w266 < (v201.length : Int) then
    (atI v201 w266).bind fun v335 =>
    (z0N (⟨w267, w268⟩ : Tape) 2).bind fun v336 =>
    chk (z1q 1 (w269.length + 1)) <|
    z0o (z2o a1 v201 w266 w269 w270 v335 v336) LFm (0, [])
  else
    z0k <|
    some ((⟨a1, 0, w269, w270⟩ : DFA), (⟨w267, w268⟩ : Tape))
instance {a1 : Int} {v201 : List ByteArray} : Hd (z2X a1 v201) := ⟨fun (w266, w267, w268, w269, w270) => ([(24, xI w266)], [(0, .vr [.sl w267.length (w267.map fun x0 => .sc (.int .i64 x0)), .sc (.int .i64 w268)]), (5, .vr [.sc (.int .i64 a1), .sc (.int .i64 0), .os 1 w269.length (w269.map fun x0 => .sc (.bool x0)), .os 1 w270.length (w270.map fun x0 => .os 1 x0.length (x0.map fun x1 => .sc (.int .i64 x1)))])])⟩
def z2Y (a0 : Tape) (a1 : Int) : Option (DFA × Tape) :=
  (z0N a0 2).bind fun v200 =>
  (z5a a1 (IntKind.i64.wrap (1 + v200.1))).bind fun v201 =>
  z0o (z2X a1 v201) LFm (0, v200.2.l, v200.2.at_, [], [])
instance made_Tape_Definite_ok {a0 : Tape} {a1 : Int} : Ok (z2Y a0 a1) (fun r => L 27 [.vr [.sl a0.l.length (a0.l.map fun x0 => .sc (.int .i64 x0)), .sc (.int .i64 a0.at_)], .sc (.int .i64 a1)] = some (.agg [.sc (.int .i64 r.1.letters), .sc (.int .i64 r.1.start), .os 1 r.1.final.length (r.1.final.map fun x0 => .sc (.bool x0)), .os 1 r.1.next.length (r.1.next.map fun x0 => .os 1 x0.length (x0.map fun x1 => .sc (.int .i64 x1)))], [.vr [.sl r.2.l.length (r.2.l.map fun x0 => .sc (.int .i64 x0)), .sc (.int .i64 r.2.at_)], .dead])) := ⟨fun r h => by have h := z4c h; unfold z2Y at h; exact z4E zvK zxA zzw⟩
def z4M (a0 : Tape) (a1 : Int) (a2 : Int) : Option (DFA × Tape) :=
  (z0N a0 6).bind fun v6 =>
  if v6.1 = 1 then
    (z2H v6.2 a1 a2).bind fun v7 =>
    some (v7.1, v7.2)
  else
    if v6.1 = 2 then
      (z1Y v6.2 a1 (if 4 < a2 then 4 else a2)).bind fun v8 =>
      some (v8.1, v8.2)
    else
      if v6.1 = 3 then
        (z2Y v6.2 a1).bind fun v9 =>
        some (v9.1, v9.2)
      else
        (z3C v6.2 a1 a2).bind fun v10 =>
        some (v10.1, v10.2)
instance made_Tape_Any_ok {a0 : Tape} {a1 : Int} {a2 : Int} : Ok (z4M a0 a1 a2) (fun r => L 13 [.vr [.sl a0.l.length (a0.l.map fun x0 => .sc (.int .i64 x0)), .sc (.int .i64 a0.at_)], .sc (.int .i64 a1), .sc (.int .i64 a2)] = some (.agg [.sc (.int .i64 r.1.letters), .sc (.int .i64 r.1.start), .sl r.1.final.length (r.1.final.map fun x0 => .sc (.bool x0)), .sl r.1.next.length (r.1.next.map fun x0 => .sl x0.length (x0.map fun x1 => .sc (.int .i64 x1)))], [.vr [.sl r.2.l.length (r.2.l.map fun x0 => .sc (.int .i64 x0)), .sc (.int .i64 r.2.at_)], .dead, .dead])) := ⟨fun r h => by have h := z4c h; unfold z4M at h; exact zi9 zvV zxL zzH⟩
end
end
section
open Go
noncomputable section
set_option maxRecDepth 100000
set_option maxHeartbeats 6000000
abbrev z4x (a0 : DFA) (w22 : Int) (v28 : List Int) : Int -> Option (Int ⊕ (Int ⊕ Int))
  | w30 =>
  if w30 < (v28.length : Int) then
    (atI v28 w30).bind fun v32 =>
    if v32 < 0 then
      z0k <|
      z0k <|
      some 4
    else
      if (a0.final.length : Int) <= v32 then
        z0k <|
        z0k <|
        some 4
      else
        z0e (IntKind.i64.wrap (w30 + 1))
  else
    z0k <|
    z0e (IntKind.i64.wrap (w22 + 1))
instance {a0 : DFA} {w22 : Int} {v28 : List Int} : Hd (z4x a0 w22 v28) := ⟨fun w30 => ([(51, xI w30)], [])⟩
abbrev z3X (a0 : DFA) : Int -> Option (Int ⊕ Int)
  | w22 =>
  if w22 < (a0.next.length : Int) then
    (atI a0.next w22).bind fun v28 =>
    if (v28.length : Int) = a0.letters then
      z0o (z4x a0 w22 v28) LFm 0
    else
      z0k <|
      some 4
  else
    z0k <|
    some 0
instance {a0 : DFA} : Hd (z3X a0) := ⟨fun w22 => ([(40, xI w22)], [])⟩
def z5B (a0 : DFA) : Option (Int) :=
  if a0.letters < 1 then
    some 1
  else
    if 6 < a0.letters then
      some 1
    else
      if 512 < (a0.final.length : Int) then
        some 3
      else
        if (a0.next.length : Int) = (a0.final.length : Int) then
          if a0.start < 0 then
            some 4
          else
            if (a0.final.length : Int) <= a0.start then
              some 4
            else
              z0o (z3X a0) LFm 0
        else
          some 4
instance dfa_Validate_ok {a0 : DFA} : Ok (z5B a0) (fun r => L 65 [.agg [.sc (.int .i64 a0.letters), .sc (.int .i64 a0.start), .sl a0.final.length (a0.final.map fun x0 => .sc (.bool x0)), .sl a0.next.length (a0.next.map fun x0 => .sl x0.length (x0.map fun x1 => .sc (.int .i64 x1)))]] = some (.sc (.int .i64 r), [.dead])) := ⟨fun r h => by have h := z4c h; unfold z5B at h; exact z4E zvi zx9 zz5⟩
def z3v (a0 : DFA) : Option (Int) :=
  (z5B a0).bind fun v2 =>
  if v2 = 0 then
    if 12 < (a0.final.length : Int) then
      some 3
    else
      some 0
  else
    some v2
instance images_validate_ok {a0 : DFA} : Ok (z3v a0) (fun r => L 32 [.agg [.sc (.int .i64 a0.letters), .sc (.int .i64 a0.start), .sl a0.final.length (a0.final.map fun x0 => .sc (.bool x0)), .sl a0.next.length (a0.next.map fun x0 => .sl x0.length (x0.map fun x1 => .sc (.int .i64 x1)))]] = some (.sc (.int .i64 r), [.dead])) := ⟨fun r h => by have h := z4c h; unfold z3v at h; exact z4E zvF zxw zzs⟩
abbrev z5I (a0 : ByteArray) (a1 : Int) : Int -> Option (Int ⊕ Bool)
  | w10 =>
  if w10 < (a0.size : Int) then
    (zf3 a0 w10).bind fun v13 =>
    if v13 < 97 then
      z0k <|
      some false
    else
      if a1 <= (IntKind.i64.wrap (IntKind.u8.wrap (v13 - 97))) then
        z0k <|
        some false
      else
        z0e (IntKind.i64.wrap (w10 + 1))
  else
    z0k <|
    some true
instance {a0 : ByteArray} {a1 : Int} : Hd (z5I a0 a1) := ⟨fun w10 => ([(19, xI w10)], [])⟩
def z6P (a0 : ByteArray) (a1 : Int) : Option (Bool) :=
  if a1 < 1 then
    some false
  else
    if 6 < a1 then
      some false
    else
      if 2048 < (a0.size : Int) then
        some false
      else
        z0o (z5I a0 a1) LFm 0
instance word_Valid_ok {a0 : ByteArray} {a1 : Int} : Ok (z6P a0 a1) (fun r => L 34 [.sc (.string a0), .sc (.int .i64 a1)] = some (.sc (.bool r), [.dead, .dead])) := ⟨fun r h => by have h := z4c h; unfold z6P at h; exact z4E zvD zxu zzq⟩
abbrev z4H (a0 : DFA) (a1 : Int) (a2 : Int) : Int × Int -> Option ((Int × Int) ⊕ Int)
  | (w11, w12) =>
  if w12 < (a0.final.length : Int) then
    chk (¬ (IntKind.u64.wrap w12) < 0) <|
    if (z2b .i64 (z0f .i64 a1 (IntKind.u64.wrap w12)) 1) = 1 then
      (atI a0.next w12).bind fun v15 =>
      (atI v15 a2).bind fun v16 =>
      chk (¬ (IntKind.u64.wrap v16) < 0) <|
      z0e (orI .i64 w11 (zhl .i64 1 (IntKind.u64.wrap v16)), IntKind.i64.wrap (w12 + 1))
    else
      z0e (w11, IntKind.i64.wrap (w12 + 1))
  else
    z0k <|
    some w11
instance {a0 : DFA} {a1 : Int} {a2 : Int} : Hd (z4H a0 a1 a2) := ⟨fun (w11, w12) => ([(7, xI w11), (12, xI w12)], [])⟩
def z5u (a0 : DFA) (a1 : Int) (a2 : Int) : Option (Int) :=
  z0o (z4H a0 a1 a2) LFm (0, 0)
instance ref24_Letter_ok {a0 : DFA} {a1 : Int} {a2 : Int} : Ok (z5u a0 a1 a2) (fun r => L 66 [.agg [.sc (.int .i64 a0.letters), .sc (.int .i64 a0.start), .sl a0.final.length (a0.final.map fun x0 => .sc (.bool x0)), .sl a0.next.length (a0.next.map fun x0 => .sl x0.length (x0.map fun x1 => .sc (.int .i64 x1)))], .sc (.int .i64 a1), .sc (.int .i64 a2)] = some (.sc (.int .i64 r), [.dead, .dead, .dead])) := ⟨fun r h => by have h := z4c h; unfold z5u at h; exact z4E zvh zx8 zz4⟩
abbrev z5p (a0 : DFA) (a1 : Int) (a2 : Int) : Int × Int -> Option ((Int × Int) ⊕ Int)
  | (w11, w12) =>
  if w12 < (a0.next.length : Int) then
    (atI a0.next w12).bind fun v15 =>
    chk (¬ w12 < 0) <|
    if (z2b .i64 (z0f .i64 a1 w12) 1) = 1 then
      (atI v15 a2).bind fun v16 =>
      chk (¬ v16 < 0) <|
      z0e (orI .i64 w11 (zhl .i64 1 v16), IntKind.i64.wrap (w12 + 1))
    else
      z0e (w11, IntKind.i64.wrap (w12 + 1))
  else
    z0k <|
    some w11
instance {a0 : DFA} {a1 : Int} {a2 : Int} : Hd (z5p a0 a1 a2) := ⟨fun (w11, w12) => ([(7, xI w11), (13, xI w12)], [])⟩
def z4y (a0 : DFA) (a1 : Int) (a2 : Int) : Option (Int) :=
  z0o (z5p a0 a1 a2) LFm (0, 0)
instance images_move_ok {a0 : DFA} {a1 : Int} {a2 : Int} : Ok (z4y a0 a1 a2) (fun r => L 35 [.agg [.sc (.int .i64 a0.letters), .sc (.int .i64 a0.start), .sl a0.final.length (a0.final.map fun x0 => .sc (.bool x0)), .sl a0.next.length (a0.next.map fun x0 => .sl x0.length (x0.map fun x1 => .sc (.int .i64 x1)))], .sc (.int .i64 a1), .sc (.int .i64 a2)] = some (.sc (.int .i64 r), [.dead, .dead, .dead])) := ⟨fun r h => by have h := z4c h; unfold z4y at h; exact z4E zvC zxt zzp⟩
abbrev z5L (a0 : DFA) (a2 : ByteArray) : Int × Int -> Option ((Int × Int) ⊕ Int)
  | (w11, w12) =>
  if w12 < (a2.size : Int) then
    (zf3 a2 w12).bind fun v15 =>
    (z5u a0 w11 (IntKind.i64.wrap (IntKind.u8.wrap (v15 - 97)))).bind fun v16 =>
    z0e (v16, IntKind.i64.wrap (w12 + 1))
  else
    z0k <|
    some w11
instance {a0 : DFA} {a2 : ByteArray} : Hd (z5L a0 a2) := ⟨fun (w11, w12) => ([(1, xI w11), (7, xI w12)], [])⟩
def z6W (a0 : DFA) (a1 : Int) (a2 : ByteArray) : Option (Int) :=
  z0o (z5L a0 a2) LFm (a1, 0)
instance ref24_Word_ok {a0 : DFA} {a1 : Int} {a2 : ByteArray} : Ok (z6W a0 a1 a2) (fun r => L 36 [.agg [.sc (.int .i64 a0.letters), .sc (.int .i64 a0.start), .sl a0.final.length (a0.final.map fun x0 => .sc (.bool x0)), .sl a0.next.length (a0.next.map fun x0 => .sl x0.length (x0.map fun x1 => .sc (.int .i64 x1)))], .sc (.int .i64 a1), .sc (.string a2)] = some (.sc (.int .i64 r), [.dead, .dead, .dead])) := ⟨fun r h => by have h := z4c h; unfold z6W at h; exact z4E zvB zxs zzo⟩
def z2K (a0 : Int) (a1 : Int) : Option (Bool) :=
  some (decide ((zfa .i64 a1 a0) = 0))
instance images_contains_ok {a0 : Int} {a1 : Int} : Ok (z2K a0 a1) (fun r => L 79 [.sc (.int .i64 a0), .sc (.int .i64 a1)] = some (.sc (.bool r), [.dead, .dead])) := ⟨fun r h => by have h := z4c h; unfold z2K at h; exact z4E zvc zx3 zyZ⟩
abbrev z3U (a0 : DFA) (w77 : Int) : Int × List Bool × List Int × List ByteArray -> Option ((Int × List Bool × List Int × List ByteArray) ⊕ ((Int × List Bool × List Int × List ByteArray) ⊕ (List Int × List ByteArray)))
  | (w105, w106, w107, w108) =>
  if w105 < a0.letters then
    (atI w107 w77).bind fun v114 =>
    (z4y a0 v114 w105).bind fun v115 =>
    (atI w106 v115).bind fun v116 =>
    if v116 = true then
      z0e (IntKind.i64.wrap (w105 + 1), w106, w107, w108)
    else
      chk (z1q 8 (w107.length + 1)) <|
      (atI w108 w77).bind fun v118 =>
      chk (z7G v118 ⟨#[UInt8.ofNat (IntKind.u8.wrap (IntKind.i64.wrap (97 + w105))).toNat]⟩) <|
      chk (z1q 16 (w108.length + 1)) <|
      z0e (IntKind.i64.wrap (w105 + 1), (w106.set v115.toNat true), w107 ++ [v115], w108 ++ [v118 ++ ⟨#[UInt8.ofNat (IntKind.u8.wrap (IntKind.i64.wrap (97 + w105))).toNat]⟩])
  else
    z0k <|
    z0e (IntKind.i64.wrap (w77 + 1), w106, w107, w108)
instance {a0 : DFA} {w77 : Int} : Hd (z3U a0 w77) := ⟨fun (w105, w106, w107, w108) => ([(31, xI w105)], [(6, .os 1 w106.length (w106.map fun x0 => .sc (.bool x0))), (7, .os 1 w107.length (w107.map fun x0 => .sc (.int .i64 x0))), (8, .os 1 w108.length (w108.map fun x0 => .sc (.string x0)))])⟩
abbrev z6o (a0 : DFA) : Int × List Bool × List Int × List ByteArray -> Option ((Int × List Bool × List Int × List ByteArray) ⊕ (List Int × List ByteArray))
  | (w77, w78, w79, w80) =>
  if w77 < (w79.length : Int) then
    z0o (z3U a0 w77) LFm (0, w78, w79, w80)
  else
    z0k <|
    some (w79, w80)
instance {a0 : DFA} : Hd (z6o a0) := ⟨fun (w77, w78, w79, w80) => ([(9, xI w77)], [(6, .os 1 w78.length (w78.map fun x0 => .sc (.bool x0))), (7, .os 1 w79.length (w79.map fun x0 => .sc (.int .i64 x0))), (8, .os 1 w80.length (w80.map fun x0 => .sc (.string x0)))])⟩
def z5y (a0 : DFA) (a1 : Int) : Option (List Int × List ByteArray) :=
  chk (¬ (a0.final.length : Int) < 0) <|
  chk (z1i 1 (zhl .i64 1 (a0.final.length : Int))) <|
  chk (0 <= a1 /\ a1 < (zhl .i64 1 (a0.final.length : Int))) <|
  z0o (z6o a0) LFm (0, ((List.replicate (zhl .i64 1 (a0.final.length : Int)).toNat (false : Bool)).set a1.toNat true), [a1], [ByteArray.empty])
instance images_reach_ok {a0 : DFA} {a1 : Int} : Ok (z5y a0 a1) (fun r => L 73 [.agg [.sc (.int .i64 a0.letters), .sc (.int .i64 a0.start), .sl a0.final.length (a0.final.map fun x0 => .sc (.bool x0)), .sl a0.next.length (a0.next.map fun x0 => .sl x0.length (x0.map fun x1 => .sc (.int .i64 x1)))], .sc (.int .i64 a1)] = some (.tup [.os 1 r.1.length (r.1.map fun x0 => .sc (.int .i64 x0)), .os 1 r.2.length (r.2.map fun x0 => .sc (.string x0))], [.dead, .dead])) := ⟨fun r h => by have h := z4c h; unfold z5y at h; exact z4E zvf zx6 zz2⟩
def z5z (a0 : DFA) (a1 : Int) : Option (Bool) :=
  if 0 <= a1 then
    chk (¬ (a0.final.length : Int) < 0) <|
    some (decide (a1 < (zhl .i64 1 (a0.final.length : Int))))
  else
    some false
instance images_isSet_ok {a0 : DFA} {a1 : Int} : Ok (z5z a0 a1) (fun r => L 33 [.agg [.sc (.int .i64 a0.letters), .sc (.int .i64 a0.start), .sl a0.final.length (a0.final.map fun x0 => .sc (.bool x0)), .sl a0.next.length (a0.next.map fun x0 => .sl x0.length (x0.map fun x1 => .sc (.int .i64 x1)))], .sc (.int .i64 a1)] = some (.sc (.bool r), [.dead, .dead])) := ⟨fun r h => by have h := z4c h; unfold z5z at h; exact z4E zvE zxv zzr⟩
abbrev z3V (a0 : DFA) (a2 : ByteArray) : Int × Int -> Option ((Int × Int) ⊕ (Int × Int))
  | (w17, w18) =>
  if w18 < (a2.size : Int) then
    (zf3 a2 w18).bind fun v21 =>
    (z4y a0 w17 (IntKind.i64.wrap (IntKind.u8.wrap (v21 - 97)))).bind fun v22 =>
    z0e (v22, IntKind.i64.wrap (w18 + 1))
  else
    z0k <|
    some (w17, 0)
instance {a0 : DFA} {a2 : ByteArray} : Hd (z3V a0 a2) := ⟨fun (w17, w18) => ([(1, xI w17), (28, xI w18)], [])⟩
def z5A (a0 : DFA) (a1 : Int) (a2 : ByteArray) : Option (Int × Int) :=
  (z3v a0).bind fun v12 =>
  if v12 = 0 then
    (z5z a0 a1).bind fun v13 =>
    if v13 = true then
      (z6P a2 a0.letters).bind fun v14 =>
      if v14 = true then
        z0o (z3V a0 a2) LFm (a1, 0)
      else
        some (0, 1)
    else
      some (0, 1)
  else
    some (0, v12)
instance images_Apply_ok {a0 : DFA} {a1 : Int} {a2 : ByteArray} : Ok (z5A a0 a1 a2) (fun r => L 19 [.agg [.sc (.int .i64 a0.letters), .sc (.int .i64 a0.start), .sl a0.final.length (a0.final.map fun x0 => .sc (.bool x0)), .sl a0.next.length (a0.next.map fun x0 => .sl x0.length (x0.map fun x1 => .sc (.int .i64 x1)))], .sc (.int .i64 a1), .sc (.string a2)] = some (.tup [.sc (.int .i64 r.1), .sc (.int .i64 r.2)], [.dead, .dead, .dead])) := ⟨fun r h => by have h := z4c h; unfold z5A at h; exact z4E zvP zxF zzB⟩
def z2n (a0 : Int) : Option (Int) :=
  chk (¬ 1 < 0) <|
  chk (¬ 2 < 0) <|
  chk (¬ 4 < 0) <|
  chk (¬ 8 < 0) <|
  chk (¬ 16 < 0) <|
  chk (¬ 32 < 0) <|
  some (z2b .i64 (IntKind.i64.wrap (IntKind.u64.wrap ((IntKind.u64.wrap ((IntKind.u64.wrap ((z2b .u64 (IntKind.u64.wrap ((z0f .u64 (IntKind.u64.wrap ((z2b .u64 (z0f .u64 (IntKind.u64.wrap ((z2b .u64 (z0f .u64 a0 1) 6148914691236517205) + (z2b .u64 a0 6148914691236517205))) 2) 3689348814741910323) + (z2b .u64 (IntKind.u64.wrap ((z2b .u64 (z0f .u64 a0 1) 6148914691236517205) + (z2b .u64 a0 6148914691236517205))) 3689348814741910323))) 4) + (IntKind.u64.wrap ((z2b .u64 (z0f .u64 (IntKind.u64.wrap ((z2b .u64 (z0f .u64 a0 1) 6148914691236517205) + (z2b .u64 a0 6148914691236517205))) 2) 3689348814741910323) + (z2b .u64 (IntKind.u64.wrap ((z2b .u64 (z0f .u64 a0 1) 6148914691236517205) + (z2b .u64 a0 6148914691236517205))) 3689348814741910323))))) 1085102592571150095) + (z0f .u64 (z2b .u64 (IntKind.u64.wrap ((z0f .u64 (IntKind.u64.wrap ((z2b .u64 (z0f .u64 (IntKind.u64.wrap ((z2b .u64 (z0f .u64 a0 1) 6148914691236517205) + (z2b .u64 a0 6148914691236517205))) 2) 3689348814741910323) + (z2b .u64 (IntKind.u64.wrap ((z2b .u64 (z0f .u64 a0 1) 6148914691236517205) + (z2b .u64 a0 6148914691236517205))) 3689348814741910323))) 4) + (IntKind.u64.wrap ((z2b .u64 (z0f .u64 (IntKind.u64.wrap ((z2b .u64 (z0f .u64 a0 1) 6148914691236517205) + (z2b .u64 a0 6148914691236517205))) 2) 3689348814741910323) + (z2b .u64 (IntKind.u64.wrap ((z2b .u64 (z0f .u64 a0 1) 6148914691236517205) + (z2b .u64 a0 6148914691236517205))) 3689348814741910323))))) 1085102592571150095) 8))) + (z0f .u64 (IntKind.u64.wrap ((z2b .u64 (IntKind.u64.wrap ((z0f .u64 (IntKind.u64.wrap ((z2b .u64 (z0f .u64 (IntKind.u64.wrap ((z2b .u64 (z0f .u64 a0 1) 6148914691236517205) + (z2b .u64 a0 6148914691236517205))) 2) 3689348814741910323) + (z2b .u64 (IntKind.u64.wrap ((z2b .u64 (z0f .u64 a0 1) 6148914691236517205) + (z2b .u64 a0 6148914691236517205))) 3689348814741910323))) 4) + (IntKind.u64.wrap ((z2b .u64 (z0f .u64 (IntKind.u64.wrap ((z2b .u64 (z0f .u64 a0 1) 6148914691236517205) + (z2b .u64 a0 6148914691236517205))) 2) 3689348814741910323) + (z2b .u64 (IntKind.u64.wrap ((z2b .u64 (z0f .u64 a0 1) 6148914691236517205) + (z2b .u64 a0 6148914691236517205))) 3689348814741910323))))) 1085102592571150095) + (z0f .u64 (z2b .u64 (IntKind.u64.wrap ((z0f .u64 (IntKind.u64.wrap ((z2b .u64 (z0f .u64 (IntKind.u64.wrap ((z2b .u64 (z0f .u64 a0 1) 6148914691236517205) + (z2b .u64 a0 6148914691236517205))) 2) 3689348814741910323) + (z2b .u64 (IntKind.u64.wrap ((z2b .u64 (z0f .u64 a0 1) 6148914691236517205) + (z2b .u64 a0 6148914691236517205))) 3689348814741910323))) 4) + (IntKind.u64.wrap ((z2b .u64 (z0f .u64 (IntKind.u64.wrap ((z2b .u64 (z0f .u64 a0 1) 6148914691236517205) + (z2b .u64 a0 6148914691236517205))) 2) 3689348814741910323) + (z2b .u64 (IntKind.u64.wrap ((z2b .u64 (z0f .u64 a0 1) 6148914691236517205) + (z2b .u64 a0 6148914691236517205))) 3689348814741910323))))) 1085102592571150095) 8))) 16))) + (z0f .u64 (IntKind.u64.wrap ((IntKind.u64.wrap ((z2b .u64 (IntKind.u64.wrap ((z0f .u64 (IntKind.u64.wrap ((z2b .u64 (z0f .u64 (IntKind.u64.wrap ((z2b .u64 (z0f .u64 a0 1) 6148914691236517205) + (z2b .u64 a0 6148914691236517205))) 2) 3689348814741910323) + (z2b .u64 (IntKind.u64.wrap ((z2b .u64 (z0f .u64 a0 1) 6148914691236517205) + (z2b .u64 a0 6148914691236517205))) 3689348814741910323))) 4) + (IntKind.u64.wrap ((z2b .u64 (z0f .u64 (IntKind.u64.wrap ((z2b .u64 (z0f .u64 a0 1) 6148914691236517205) + (z2b .u64 a0 6148914691236517205))) 2) 3689348814741910323) + (z2b .u64 (IntKind.u64.wrap ((z2b .u64 (z0f .u64 a0 1) 6148914691236517205) + (z2b .u64 a0 6148914691236517205))) 3689348814741910323))))) 1085102592571150095) + (z0f .u64 (z2b .u64 (IntKind.u64.wrap ((z0f .u64 (IntKind.u64.wrap ((z2b .u64 (z0f .u64 (IntKind.u64.wrap ((z2b .u64 (z0f .u64 a0 1) 6148914691236517205) + (z2b .u64 a0 6148914691236517205))) 2) 3689348814741910323) + (z2b .u64 (IntKind.u64.wrap ((z2b .u64 (z0f .u64 a0 1) 6148914691236517205) + (z2b .u64 a0 6148914691236517205))) 3689348814741910323))) 4) + (IntKind.u64.wrap ((z2b .u64 (z0f .u64 (IntKind.u64.wrap ((z2b .u64 (z0f .u64 a0 1) 6148914691236517205) + (z2b .u64 a0 6148914691236517205))) 2) 3689348814741910323) + (z2b .u64 (IntKind.u64.wrap ((z2b .u64 (z0f .u64 a0 1) 6148914691236517205) + (z2b .u64 a0 6148914691236517205))) 3689348814741910323))))) 1085102592571150095) 8))) + (z0f .u64 (IntKind.u64.wrap ((z2b .u64 (IntKind.u64.wrap ((z0f .u64 (IntKind.u64.wrap ((z2b .u64 (z0f .u64 (IntKind.u64.wrap ((z2b .u64 (z0f .u64 a0 1) 6148914691236517205) + (z2b .u64 a0 6148914691236517205))) 2) 3689348814741910323) + (z2b .u64 (IntKind.u64.wrap ((z2b .u64 (z0f .u64 a0 1) 6148914691236517205) + (z2b .u64 a0 6148914691236517205))) 3689348814741910323))) 4) + (IntKind.u64.wrap ((z2b .u64 (z0f .u64 (IntKind.u64.wrap ((z2b .u64 (z0f .u64 a0 1) 6148914691236517205) + (z2b .u64 a0 6148914691236517205))) 2) 3689348814741910323) + (z2b .u64 (IntKind.u64.wrap ((z2b .u64 (z0f .u64 a0 1) 6148914691236517205) + (z2b .u64 a0 6148914691236517205))) 3689348814741910323))))) 1085102592571150095) + (z0f .u64 (z2b .u64 (IntKind.u64.wrap ((z0f .u64 (IntKind.u64.wrap ((z2b .u64 (z0f .u64 (IntKind.u64.wrap ((z2b .u64 (z0f .u64 a0 1) 6148914691236517205) + (z2b .u64 a0 6148914691236517205))) 2) 3689348814741910323) + (z2b .u64 (IntKind.u64.wrap ((z2b .u64 (z0f .u64 a0 1) 6148914691236517205) + (z2b .u64 a0 6148914691236517205))) 3689348814741910323))) 4) + (IntKind.u64.wrap ((z2b .u64 (z0f .u64 (IntKind.u64.wrap ((z2b .u64 (z0f .u64 a0 1) 6148914691236517205) + (z2b .u64 a0 6148914691236517205))) 2) 3689348814741910323) + (z2b .u64 (IntKind.u64.wrap ((z2b .u64 (z0f .u64 a0 1) 6148914691236517205) + (z2b .u64 a0 6148914691236517205))) 3689348814741910323))))) 1085102592571150095) 8))) 16))) 32)))) 127)
instance math_bits_OnesCount64_ok {a0 : Int} : Ok (z2n a0) (fun r => L 114 [.sc (.int .u64 a0)] = some (.sc (.int .i64 r), [.dead])) := ⟨fun r h => by have h := z4c h; unfold z2n at h; exact z4E zsN ztP zw4⟩
def z3B (a0 : Int) : Option (Int) :=
  (z2n a0).bind fun v2 =>
  some v2
instance math_bits_OnesCount_ok {a0 : Int} : Ok (z3B a0) (fun r => L 97 [.sc (.int .u64 a0)] = some (.sc (.int .i64 r), [.dead])) := ⟨fun r h => by have h := z4c h; unfold z3B at h; exact z4E zv6 zwX zyT⟩
def z5b (a0 : Int) : Option (Int) :=
  (z3B (IntKind.u64.wrap a0)).bind fun v2 =>
  some v2
instance images_size_ok {a0 : Int} : Ok (z5b a0) (fun r => L 78 [.sc (.int .i64 a0)] = some (.sc (.int .i64 r), [.dead])) := ⟨fun r h => by have h := z4c h; unfold z5b at h; exact z4E zvd zx4 zz0⟩
end
end
section
open Go
noncomputable section
set_option maxRecDepth 100000
set_option maxHeartbeats 6000000
def cmp_isNaN_int (a0 : Int) : Option (Bool) :=
  some (!decide (a0 = a0))
instance cmp_isNaN_int_ok {a0 : Int} : Ok (cmp_isNaN_int a0) (fun r => L 82 [.sc (.int .i64 a0)] = some (.sc (.bool r), [.dead])) := ⟨fun r h => by have h := z4c h; unfold cmp_isNaN_int at h; exact z4E zva zx1 zyX⟩
def cmp_Compare_int (a0 : Int) (a1 : Int) : Option (Int) :=
  (cmp_isNaN_int a0).bind fun v3 =>
  (cmp_isNaN_int a1).bind fun v4 =>
  if v3 = true then
    if v4 = true then
      some 0
    else
      some (-1)
  else
    if v4 = true then
      some 1
    else
      if a0 < a1 then
        some (-1)
      else
        if a1 < a0 then
          some 1
        else
          some 0
instance cmp_Compare_int_ok {a0 : Int} {a1 : Int} : Ok (cmp_Compare_int a0 a1) (fun r => L 59 [.sc (.int .i64 a0), .sc (.int .i64 a1)] = some (.sc (.int .i64 r), [.dead, .dead])) := ⟨fun r h => by have h := z4c h; unfold cmp_Compare_int at h; exact z4E zvo zxf zzb⟩
def z0M (a0 : Int) (a1 : Int) (m1 : List Int) : Option (Int) :=
  (atI m1 a0).bind fun v4 =>
  (atI m1 a1).bind fun v5 =>
  (cmp_Compare_int v4 v5).bind fun v6 =>
  some v6
instance images_diagram_heights_1_ok {a0 : Int} {a1 : Int} {m1 : List Int} : Ok (z0M a0 a1 m1) (fun r => L 80 [.sc (.int .i64 a0), .sc (.int .i64 a1), .pr [.sl m1.length (m1.map fun x0 => .sc (.int .i64 x0))]] = some (.sc (.int .i64 r), [.dead, .dead, .dead])) := ⟨fun r h => by have h := z4c h; unfold z0M at h; exact z4E zvb zx2 zyY⟩
abbrev z0T (a1 : Int) (m3 : List Int) (w95 : Int) : Int × List Int -> Option ((Int × List Int) ⊕ ((Int × List Int) ⊕ List Int))
  | (w127, w128) =>
  if a1 < w127 then
    (atI w128 w127).bind fun v136 =>
    (atI w128 (IntKind.i64.wrap (w127 - 1))).bind fun v137 =>
    (z0M v136 v137 m3).bind fun v138 =>
    if v138 < 0 then
      (atI (w128.set w127.toNat v137) (IntKind.i64.wrap (w127 - 1))).bind fun v142 =>
      z0e (IntKind.i64.wrap (w127 - 1), ((w128.set w127.toNat v137).set (IntKind.i64.wrap (w127 - 1)).toNat v136))
    else
      z0k <|
      z0e (IntKind.i64.wrap (w95 + 1), w128)
  else
    z0k <|
    z0e (IntKind.i64.wrap (w95 + 1), w128)
instance {a1 : Int} {m3 : List Int} {w95 : Int} : Hd (z0T a1 m3 w95) := ⟨fun (w127, w128) => ([(9, xI w127)], [(0, .os 1 w128.length (w128.map fun x0 => .sc (.int .i64 x0)))])⟩
abbrev z0U (a1 : Int) (a2 : Int) (m3 : List Int) : Int × List Int -> Option ((Int × List Int) ⊕ List Int)
  | (w95, w96) =>
  if w95 < a2 then
    z0o (z0T a1 m3 w95) LFm (w95, w96)
  else
    z0k <|
    some w96
instance {a1 : Int} {a2 : Int} {m3 : List Int} : Hd (z0U a1 a2 m3) := ⟨fun (w95, w96) => ([(8, xI w95)], [(0, .os 1 w96.length (w96.map fun x0 => .sc (.int .i64 x0)))])⟩
def z0u (a0 : List Int) (a1 : Int) (a2 : Int) (m3 : List Int) : Option (List Int) :=
  z0o (z0U a1 a2 m3) LFm (IntKind.i64.wrap (a1 + 1), a0)
instance slices_insertionSortCmpFunc_int_images_diagram_heights_1_ok {a0 : List Int} {a1 : Int} {a2 : Int} {m3 : List Int} : Ok (z0u a0 a1 a2 m3) (fun r => L 98 [.os 1 a0.length (a0.map fun x0 => .sc (.int .i64 x0)), .sc (.int .i64 a1), .sc (.int .i64 a2), .cl 80 [.pr [.sl m3.length (m3.map fun x0 => .sc (.int .i64 x0))]]] = some (.tup [], [.os 1 r.length (r.map fun x0 => .sc (.int .i64 x0)), .dead, .dead, .dead])) := ⟨fun r h => by have h := z4c h; unfold z0u at h; exact z4E zsJ zwh zwo⟩
abbrev z1b (a1 : Int) (a2 : Int) (a3 : Int) : Int × List Int -> Option ((Int × List Int) ⊕ List Int)
  | (w19, w20) =>
  if w19 < a3 then
    (atI w20 (IntKind.i64.wrap (a2 + w19))).bind fun v25 =>
    (atI w20 (IntKind.i64.wrap (a1 + w19))).bind fun v26 =>
    (atI (w20.set (IntKind.i64.wrap (a1 + w19)).toNat v25) (IntKind.i64.wrap (a2 + w19))).bind fun v28 =>
    z0e (IntKind.i64.wrap (w19 + 1), ((w20.set (IntKind.i64.wrap (a1 + w19)).toNat v25).set (IntKind.i64.wrap (a2 + w19)).toNat v26))
  else
    z0k <|
    some w20
instance {a1 : Int} {a2 : Int} {a3 : Int} : Hd (z1b a1 a2 a3) := ⟨fun (w19, w20) => ([(10, xI w19)], [(0, .os 1 w20.length (w20.map fun x0 => .sc (.int .i64 x0)))])⟩
def z0s (a0 : List Int) (a1 : Int) (a2 : Int) (a3 : Int) (m0 : List Int) : Option (List Int) :=
  z0o (z1b a1 a2 a3) LFm (0, a0)
instance slices_swapRangeCmpFunc_int_images_diagram_heights_1_ok {a0 : List Int} {a1 : Int} {a2 : Int} {a3 : Int} {m0 : List Int} : Ok (z0s a0 a1 a2 a3 m0) (fun r => L 123 [.os 1 a0.length (a0.map fun x0 => .sc (.int .i64 x0)), .sc (.int .i64 a1), .sc (.int .i64 a2), .sc (.int .i64 a3), .cl 80 [.pr [.sl m0.length (m0.map fun x0 => .sc (.int .i64 x0))]]] = some (.tup [], [.os 1 r.length (r.map fun x0 => .sc (.int .i64 x0)), .dead, .dead, .dead, .dead])) := ⟨fun r h => by have h := z4c h; unfold z0s at h; exact z4E zpS zsw zsP⟩
abbrev z1m (a2 : Int) (m0 : List Int) : Int × Int × List Int -> Option ((Int × Int × List Int) ⊕ List Int)
  | (w13, w15, w14) =>
  if w13 = w15 then
    z0k <|
    (z0s w14 (IntKind.i64.wrap (a2 - w13)) a2 w13 m0).bind fun v18 =>
    some v18
  else
    if w15 < w13 then
      (z0s w14 (IntKind.i64.wrap (a2 - w13)) a2 w15 m0).bind fun v19 =>
      z0e (IntKind.i64.wrap (w13 - w15), w15, v19)
    else
      (z0s w14 (IntKind.i64.wrap (a2 - w13)) (IntKind.i64.wrap ((IntKind.i64.wrap (a2 + w15)) - w13)) w13 m0).bind fun v20 =>
      z0e (w13, IntKind.i64.wrap (w15 - w13), v20)
instance {a2 : Int} {m0 : List Int} : Hd (z1m a2 m0) := ⟨fun (w13, w15, w14) => ([(10, xI w13), (11, xI w15)], [(0, .os 1 w14.length (w14.map fun x0 => .sc (.int .i64 x0)))])⟩
def z0E (a0 : List Int) (a1 : Int) (a2 : Int) (a3 : Int) (m0 : List Int) : Option (List Int) :=
  z0o (z1m a2 m0) LFm (IntKind.i64.wrap (a2 - a1), IntKind.i64.wrap (a3 - a2), a0)
instance slices_rotateCmpFunc_int_images_diagram_heights_1_ok {a0 : List Int} {a1 : Int} {a2 : Int} {a3 : Int} {m0 : List Int} : Ok (z0E a0 a1 a2 a3 m0) (fun r => L 115 [.os 1 a0.length (a0.map fun x0 => .sc (.int .i64 x0)), .sc (.int .i64 a1), .sc (.int .i64 a2), .sc (.int .i64 a3), .cl 80 [.pr [.sl m0.length (m0.map fun x0 => .sc (.int .i64 x0))]]] = some (.tup [], [.os 1 r.length (r.map fun x0 => .sc (.int .i64 x0)), .dead, .dead, .dead, .dead])) := ⟨fun r h => by have h := z4c h; unfold z0E at h; exact z4E zpT zsx zsQ⟩
abbrev z1c (w102 : Int) : Int × List Int -> Option ((Int × List Int) ⊕ List Int)
  | (w114, w115) =>
  if w114 < (IntKind.i64.wrap (w102 - 1)) then
    (atI w115 (IntKind.i64.wrap (w114 + 1))).bind fun v120 =>
    (atI w115 w114).bind fun v121 =>
    (atI (w115.set w114.toNat v120) (IntKind.i64.wrap (w114 + 1))).bind fun v123 =>
    z0e (IntKind.i64.wrap (w114 + 1), ((w115.set w114.toNat v120).set (IntKind.i64.wrap (w114 + 1)).toNat v121))
  else
    z0k <|
    some w115
instance {w102 : Int} : Hd (z1c w102) := ⟨fun (w114, w115) => ([(13, xI w114)], [(0, .os 1 w115.length (w115.map fun x0 => .sc (.int .i64 x0)))])⟩
abbrev z1d (a0 : List Int) (a1 : Int) (m0 : List Int) : Int × Int -> Option ((Int × Int) ⊕ List Int)
  | (w102, w103) =>
  if w102 < w103 then
    chk (¬ 1 < 0) <|
    (atI a0 (IntKind.i64.wrap (z0f .u64 (IntKind.u64.wrap (IntKind.i64.wrap (w102 + w103))) 1))).bind fun v107 =>
    (atI a0 a1).bind fun v108 =>
    (z0M v107 v108 m0).bind fun v109 =>
    if v109 < 0 then
      z0e (IntKind.i64.wrap ((IntKind.i64.wrap (z0f .u64 (IntKind.u64.wrap (IntKind.i64.wrap (w102 + w103))) 1)) + 1), w103)
    else
      z0e (w102, IntKind.i64.wrap (z0f .u64 (IntKind.u64.wrap (IntKind.i64.wrap (w102 + w103))) 1))
  else
    z0k <|
    z0o (z1c w102) LFm (a1, a0)
instance {a0 : List Int} {a1 : Int} {m0 : List Int} : Hd (z1d a0 a1 m0) := ⟨fun (w102, w103) => ([(10, xI w102), (11, xI w103)], [])⟩
abbrev z0Z (w128 : Int) : Int × List Int -> Option ((Int × List Int) ⊕ List Int)
  | (w139, w140) =>
  if w128 < w139 then
    (atI w140 (IntKind.i64.wrap (w139 - 1))).bind fun v145 =>
    (atI w140 w139).bind fun v146 =>
    (atI (w140.set w139.toNat v145) (IntKind.i64.wrap (w139 - 1))).bind fun v148 =>
    z0e (IntKind.i64.wrap (w139 - 1), ((w140.set w139.toNat v145).set (IntKind.i64.wrap (w139 - 1)).toNat v146))
  else
    z0k <|
    some w140
instance {w128 : Int} : Hd (z0Z w128) := ⟨fun (w139, w140) => ([(17, xI w139)], [(0, .os 1 w140.length (w140.map fun x0 => .sc (.int .i64 x0)))])⟩
abbrev z1a (a0 : List Int) (a2 : Int) (m0 : List Int) : Int × Int -> Option ((Int × Int) ⊕ List Int)
  | (w128, w127) =>
  if w128 < w127 then
    chk (¬ 1 < 0) <|
    (atI a0 a2).bind fun v132 =>
    (atI a0 (IntKind.i64.wrap (z0f .u64 (IntKind.u64.wrap (IntKind.i64.wrap (w128 + w127))) 1))).bind fun v133 =>
    (z0M v132 v133 m0).bind fun v134 =>
    if v134 < 0 then
      z0e (w128, IntKind.i64.wrap (z0f .u64 (IntKind.u64.wrap (IntKind.i64.wrap (w128 + w127))) 1))
    else
      z0e (IntKind.i64.wrap ((IntKind.i64.wrap (z0f .u64 (IntKind.u64.wrap (IntKind.i64.wrap (w128 + w127))) 1)) + 1), w127)
  else
    z0k <|
    z0o (z0Z w128) LFm (a2, a0)
instance {a0 : List Int} {a2 : Int} {m0 : List Int} : Hd (z1a a0 a2 m0) := ⟨fun (w128, w127) => ([(14, xI w128), (15, xI w127)], [])⟩
abbrev z0Y (a0 : List Int) (a1 : Int) (a2 : Int) (a3 : Int) (m0 : List Int) (rf : List Int -> Int -> Int -> Int -> List Int -> Option (List Int)) : Int × Int -> Option ((Int × Int) ⊕ List Int)
  | (w153, w152) =>
  if w153 < w152 then
    chk (¬ 1 < 0) <|
    (atI a0 (IntKind.i64.wrap ((IntKind.i64.wrap ((IntKind.i64.wrap ((IntKind.i64.wrap (z0f .u64 (IntKind.u64.wrap (IntKind.i64.wrap (a1 + a3))) 1)) + a2)) - 1)) - (IntKind.i64.wrap (z0f .u64 (IntKind.u64.wrap (IntKind.i64.wrap (w153 + w152))) 1))))).bind fun v157 =>
    (atI a0 (IntKind.i64.wrap (z0f .u64 (IntKind.u64.wrap (IntKind.i64.wrap (w153 + w152))) 1))).bind fun v158 =>
    (z0M v157 v158 m0).bind fun v159 =>
    if v159 < 0 then
      z0e (w153, IntKind.i64.wrap (z0f .u64 (IntKind.u64.wrap (IntKind.i64.wrap (w153 + w152))) 1))
    else
      z0e (IntKind.i64.wrap ((IntKind.i64.wrap (z0f .u64 (IntKind.u64.wrap (IntKind.i64.wrap (w153 + w152))) 1)) + 1), w152)
  else
    z0k <|
    if w153 < a2 then
      if a2 < (IntKind.i64.wrap ((IntKind.i64.wrap ((IntKind.i64.wrap (z0f .u64 (IntKind.u64.wrap (IntKind.i64.wrap (a1 + a3))) 1)) + a2)) - w153)) then
        (z0E a0 w153 a2 (IntKind.i64.wrap ((IntKind.i64.wrap ((IntKind.i64.wrap (z0f .u64 (IntKind.u64.wrap (IntKind.i64.wrap (a1 + a3))) 1)) + a2)) - w153)) m0).bind fun v160 =>
        if a1 < w153 then
          if w153 < (IntKind.i64.wrap (z0f .u64 (IntKind.u64.wrap (IntKind.i64.wrap (a1 + a3))) 1)) then
            (rf v160 a1 w153 (IntKind.i64.wrap (z0f .u64 (IntKind.u64.wrap (IntKind.i64.wrap (a1 + a3))) 1)) m0).bind fun v161 =>
            if (IntKind.i64.wrap (z0f .u64 (IntKind.u64.wrap (IntKind.i64.wrap (a1 + a3))) 1)) < (IntKind.i64.wrap ((IntKind.i64.wrap ((IntKind.i64.wrap (z0f .u64 (IntKind.u64.wrap (IntKind.i64.wrap (a1 + a3))) 1)) + a2)) - w153)) then
              if (IntKind.i64.wrap ((IntKind.i64.wrap ((IntKind.i64.wrap (z0f .u64 (IntKind.u64.wrap (IntKind.i64.wrap (a1 + a3))) 1)) + a2)) - w153)) < a3 then
                (rf v161 (IntKind.i64.wrap (z0f .u64 (IntKind.u64.wrap (IntKind.i64.wrap (a1 + a3))) 1)) (IntKind.i64.wrap ((IntKind.i64.wrap ((IntKind.i64.wrap (z0f .u64 (IntKind.u64.wrap (IntKind.i64.wrap (a1 + a3))) 1)) + a2)) - w153)) a3 m0).bind fun v162 =>
                some v162
              else
                some v161
            else
              some v161
          else
            if (IntKind.i64.wrap (z0f .u64 (IntKind.u64.wrap (IntKind.i64.wrap (a1 + a3))) 1)) < (IntKind.i64.wrap ((IntKind.i64.wrap ((IntKind.i64.wrap (z0f .u64 (IntKind.u64.wrap (IntKind.i64.wrap (a1 + a3))) 1)) + a2)) - w153)) then
              if (IntKind.i64.wrap ((IntKind.i64.wrap ((IntKind.i64.wrap (z0f .u64 (IntKind.u64.wrap (IntKind.i64.wrap (a1 + a3))) 1)) + a2)) - w153)) < a3 then
                (rf v160 (IntKind.i64.wrap (z0f .u64 (IntKind.u64.wrap (IntKind.i64.wrap (a1 + a3))) 1)) (IntKind.i64.wrap ((IntKind.i64.wrap ((IntKind.i64.wrap (z0f .u64 (IntKind.u64.wrap (IntKind.i64.wrap (a1 + a3))) 1)) + a2)) - w153)) a3 m0).bind fun v163 =>
                some v163
              else
                some v160
            else
              some v160
        else
          if (IntKind.i64.wrap (z0f .u64 (IntKind.u64.wrap (IntKind.i64.wrap (a1 + a3))) 1)) < (IntKind.i64.wrap ((IntKind.i64.wrap ((IntKind.i64.wrap (z0f .u64 (IntKind.u64.wrap (IntKind.i64.wrap (a1 + a3))) 1)) + a2)) - w153)) then
            if (IntKind.i64.wrap ((IntKind.i64.wrap ((IntKind.i64.wrap (z0f .u64 (IntKind.u64.wrap (IntKind.i64.wrap (a1 + a3))) 1)) + a2)) - w153)) < a3 then
              (rf v160 (IntKind.i64.wrap (z0f .u64 (IntKind.u64.wrap (IntKind.i64.wrap (a1 + a3))) 1)) (IntKind.i64.wrap ((IntKind.i64.wrap ((IntKind.i64.wrap (z0f .u64 (IntKind.u64.wrap (IntKind.i64.wrap (a1 + a3))) 1)) + a2)) - w153)) a3 m0).bind fun v164 =>
              some v164
            else
              some v160
          else
            some v160
      else
        if a1 < w153 then
          if w153 < (IntKind.i64.wrap (z0f .u64 (IntKind.u64.wrap (IntKind.i64.wrap (a1 + a3))) 1)) then
            (rf a0 a1 w153 (IntKind.i64.wrap (z0f .u64 (IntKind.u64.wrap (IntKind.i64.wrap (a1 + a3))) 1)) m0).bind fun v165 =>
            if (IntKind.i64.wrap (z0f .u64 (IntKind.u64.wrap (IntKind.i64.wrap (a1 + a3))) 1)) < (IntKind.i64.wrap ((IntKind.i64.wrap ((IntKind.i64.wrap (z0f .u64 (IntKind.u64.wrap (IntKind.i64.wrap (a1 + a3))) 1)) + a2)) - w153)) then
              if (IntKind.i64.wrap ((IntKind.i64.wrap ((IntKind.i64.wrap (z0f .u64 (IntKind.u64.wrap (IntKind.i64.wrap (a1 + a3))) 1)) + a2)) - w153)) < a3 then
                (rf v165 (IntKind.i64.wrap (z0f .u64 (IntKind.u64.wrap (IntKind.i64.wrap (a1 + a3))) 1)) (IntKind.i64.wrap ((IntKind.i64.wrap ((IntKind.i64.wrap (z0f .u64 (IntKind.u64.wrap (IntKind.i64.wrap (a1 + a3))) 1)) + a2)) - w153)) a3 m0).bind fun v166 =>
                some v166
              else
                some v165
            else
              some v165
          else
            if (IntKind.i64.wrap (z0f .u64 (IntKind.u64.wrap (IntKind.i64.wrap (a1 + a3))) 1)) < (IntKind.i64.wrap ((IntKind.i64.wrap ((IntKind.i64.wrap (z0f .u64 (IntKind.u64.wrap (IntKind.i64.wrap (a1 + a3))) 1)) + a2)) - w153)) then
              if (IntKind.i64.wrap ((IntKind.i64.wrap ((IntKind.i64.wrap (z0f .u64 (IntKind.u64.wrap (IntKind.i64.wrap (a1 + a3))) 1)) + a2)) - w153)) < a3 then
                (rf a0 (IntKind.i64.wrap (z0f .u64 (IntKind.u64.wrap (IntKind.i64.wrap (a1 + a3))) 1)) (IntKind.i64.wrap ((IntKind.i64.wrap ((IntKind.i64.wrap (z0f .u64 (IntKind.u64.wrap (IntKind.i64.wrap (a1 + a3))) 1)) + a2)) - w153)) a3 m0).bind fun v167 =>
                some v167
              else
                some a0
            else
              some a0
        else
          if (IntKind.i64.wrap (z0f .u64 (IntKind.u64.wrap (IntKind.i64.wrap (a1 + a3))) 1)) < (IntKind.i64.wrap ((IntKind.i64.wrap ((IntKind.i64.wrap (z0f .u64 (IntKind.u64.wrap (IntKind.i64.wrap (a1 + a3))) 1)) + a2)) - w153)) then
            if (IntKind.i64.wrap ((IntKind.i64.wrap ((IntKind.i64.wrap (z0f .u64 (IntKind.u64.wrap (IntKind.i64.wrap (a1 + a3))) 1)) + a2)) - w153)) < a3 then
              (rf a0 (IntKind.i64.wrap (z0f .u64 (IntKind.u64.wrap (IntKind.i64.wrap (a1 + a3))) 1)) (IntKind.i64.wrap ((IntKind.i64.wrap ((IntKind.i64.wrap (z0f .u64 (IntKind.u64.wrap (IntKind.i64.wrap (a1 + a3))) 1)) + a2)) - w153)) a3 m0).bind fun v168 =>
              some v168
            else
              some a0
          else
            some a0
    else
      if a1 < w153 then
        if w153 < (IntKind.i64.wrap (z0f .u64 (IntKind.u64.wrap (IntKind.i64.wrap (a1 + a3))) 1)) then
          (rf a0 a1 w153 (IntKind.i64.wrap (z0f .u64 (IntKind.u64.wrap (IntKind.i64.wrap (a1 + a3))) 1)) m0).bind fun v169 =>
          if (IntKind.i64.wrap (z0f .u64 (IntKind.u64.wrap (IntKind.i64.wrap (a1 + a3))) 1)) < (IntKind.i64.wrap ((IntKind.i64.wrap ((IntKind.i64.wrap (z0f .u64 (IntKind.u64.wrap (IntKind.i64.wrap (a1 + a3))) 1)) + a2)) - w153)) then
            if (IntKind.i64.wrap ((IntKind.i64.wrap ((IntKind.i64.wrap (z0f .u64 (IntKind.u64.wrap (IntKind.i64.wrap (a1 + a3))) 1)) + a2)) - w153)) < a3 then
              (rf v169 (IntKind.i64.wrap (z0f .u64 (IntKind.u64.wrap (IntKind.i64.wrap (a1 + a3))) 1)) (IntKind.i64.wrap ((IntKind.i64.wrap ((IntKind.i64.wrap (z0f .u64 (IntKind.u64.wrap (IntKind.i64.wrap (a1 + a3))) 1)) + a2)) - w153)) a3 m0).bind fun v170 =>
              some v170
            else
              some v169
          else
            some v169
        else
          if (IntKind.i64.wrap (z0f .u64 (IntKind.u64.wrap (IntKind.i64.wrap (a1 + a3))) 1)) < (IntKind.i64.wrap ((IntKind.i64.wrap ((IntKind.i64.wrap (z0f .u64 (IntKind.u64.wrap (IntKind.i64.wrap (a1 + a3))) 1)) + a2)) - w153)) then
            if (IntKind.i64.wrap ((IntKind.i64.wrap ((IntKind.i64.wrap (z0f .u64 (IntKind.u64.wrap (IntKind.i64.wrap (a1 + a3))) 1)) + a2)) - w153)) < a3 then
              (rf a0 (IntKind.i64.wrap (z0f .u64 (IntKind.u64.wrap (IntKind.i64.wrap (a1 + a3))) 1)) (IntKind.i64.wrap ((IntKind.i64.wrap ((IntKind.i64.wrap (z0f .u64 (IntKind.u64.wrap (IntKind.i64.wrap (a1 + a3))) 1)) + a2)) - w153)) a3 m0).bind fun v171 =>
              some v171
            else
              some a0
          else
            some a0
      else
        if (IntKind.i64.wrap (z0f .u64 (IntKind.u64.wrap (IntKind.i64.wrap (a1 + a3))) 1)) < (IntKind.i64.wrap ((IntKind.i64.wrap ((IntKind.i64.wrap (z0f .u64 (IntKind.u64.wrap (IntKind.i64.wrap (a1 + a3))) 1)) + a2)) - w153)) then
          if (IntKind.i64.wrap ((IntKind.i64.wrap ((IntKind.i64.wrap (z0f .u64 (IntKind.u64.wrap (IntKind.i64.wrap (a1 + a3))) 1)) + a2)) - w153)) < a3 then
            (rf a0 (IntKind.i64.wrap (z0f .u64 (IntKind.u64.wrap (IntKind.i64.wrap (a1 + a3))) 1)) (IntKind.i64.wrap ((IntKind.i64.wrap ((IntKind.i64.wrap (z0f .u64 (IntKind.u64.wrap (IntKind.i64.wrap (a1 + a3))) 1)) + a2)) - w153)) a3 m0).bind fun v172 =>
            some v172
          else
            some a0
        else
          some a0
instance {a0 : List Int} {a1 : Int} {a2 : Int} {a3 : Int} {m0 : List Int} {rf : List Int -> Int -> Int -> Int -> List Int -> Option (List Int)} : Hd (z0Y a0 a1 a2 a3 m0 rf) := ⟨fun (w153, w152) => ([(20, xI w153), (21, xI w152)], [])⟩
abbrev z0X (a0 : List Int) (a1 : Int) (a2 : Int) (a3 : Int) (m0 : List Int) (rf : List Int -> Int -> Int -> Int -> List Int -> Option (List Int)) : Int × Int -> Option ((Int × Int) ⊕ List Int)
  | (w177, w176) =>
  if w177 < w176 then
    chk (¬ 1 < 0) <|
    (atI a0 (IntKind.i64.wrap ((IntKind.i64.wrap ((IntKind.i64.wrap ((IntKind.i64.wrap (z0f .u64 (IntKind.u64.wrap (IntKind.i64.wrap (a1 + a3))) 1)) + a2)) - 1)) - (IntKind.i64.wrap (z0f .u64 (IntKind.u64.wrap (IntKind.i64.wrap (w177 + w176))) 1))))).bind fun v181 =>
    (atI a0 (IntKind.i64.wrap (z0f .u64 (IntKind.u64.wrap (IntKind.i64.wrap (w177 + w176))) 1))).bind fun v182 =>
    (z0M v181 v182 m0).bind fun v183 =>
    if v183 < 0 then
      z0e (w177, IntKind.i64.wrap (z0f .u64 (IntKind.u64.wrap (IntKind.i64.wrap (w177 + w176))) 1))
    else
      z0e (IntKind.i64.wrap ((IntKind.i64.wrap (z0f .u64 (IntKind.u64.wrap (IntKind.i64.wrap (w177 + w176))) 1)) + 1), w176)
  else
    z0k <|
    if w177 < a2 then
      if a2 < (IntKind.i64.wrap ((IntKind.i64.wrap ((IntKind.i64.wrap (z0f .u64 (IntKind.u64.wrap (IntKind.i64.wrap (a1 + a3))) 1)) + a2)) - w177)) then
        (z0E a0 w177 a2 (IntKind.i64.wrap ((IntKind.i64.wrap ((IntKind.i64.wrap (z0f .u64 (IntKind.u64.wrap (IntKind.i64.wrap (a1 + a3))) 1)) + a2)) - w177)) m0).bind fun v184 =>
        if a1 < w177 then
          if w177 < (IntKind.i64.wrap (z0f .u64 (IntKind.u64.wrap (IntKind.i64.wrap (a1 + a3))) 1)) then
            (rf v184 a1 w177 (IntKind.i64.wrap (z0f .u64 (IntKind.u64.wrap (IntKind.i64.wrap (a1 + a3))) 1)) m0).bind fun v185 =>
            if (IntKind.i64.wrap (z0f .u64 (IntKind.u64.wrap (IntKind.i64.wrap (a1 + a3))) 1)) < (IntKind.i64.wrap ((IntKind.i64.wrap ((IntKind.i64.wrap (z0f .u64 (IntKind.u64.wrap (IntKind.i64.wrap (a1 + a3))) 1)) + a2)) - w177)) then
              if (IntKind.i64.wrap ((IntKind.i64.wrap ((IntKind.i64.wrap (z0f .u64 (IntKind.u64.wrap (IntKind.i64.wrap (a1 + a3))) 1)) + a2)) - w177)) < a3 then
                (rf v185 (IntKind.i64.wrap (z0f .u64 (IntKind.u64.wrap (IntKind.i64.wrap (a1 + a3))) 1)) (IntKind.i64.wrap ((IntKind.i64.wrap ((IntKind.i64.wrap (z0f .u64 (IntKind.u64.wrap (IntKind.i64.wrap (a1 + a3))) 1)) + a2)) - w177)) a3 m0).bind fun v186 =>
                some v186
              else
                some v185
            else
              some v185
          else
            if (IntKind.i64.wrap (z0f .u64 (IntKind.u64.wrap (IntKind.i64.wrap (a1 + a3))) 1)) < (IntKind.i64.wrap ((IntKind.i64.wrap ((IntKind.i64.wrap (z0f .u64 (IntKind.u64.wrap (IntKind.i64.wrap (a1 + a3))) 1)) + a2)) - w177)) then
              if (IntKind.i64.wrap ((IntKind.i64.wrap ((IntKind.i64.wrap (z0f .u64 (IntKind.u64.wrap (IntKind.i64.wrap (a1 + a3))) 1)) + a2)) - w177)) < a3 then
                (rf v184 (IntKind.i64.wrap (z0f .u64 (IntKind.u64.wrap (IntKind.i64.wrap (a1 + a3))) 1)) (IntKind.i64.wrap ((IntKind.i64.wrap ((IntKind.i64.wrap (z0f .u64 (IntKind.u64.wrap (IntKind.i64.wrap (a1 + a3))) 1)) + a2)) - w177)) a3 m0).bind fun v187 =>
                some v187
              else
                some v184
            else
              some v184
        else
          if (IntKind.i64.wrap (z0f .u64 (IntKind.u64.wrap (IntKind.i64.wrap (a1 + a3))) 1)) < (IntKind.i64.wrap ((IntKind.i64.wrap ((IntKind.i64.wrap (z0f .u64 (IntKind.u64.wrap (IntKind.i64.wrap (a1 + a3))) 1)) + a2)) - w177)) then
            if (IntKind.i64.wrap ((IntKind.i64.wrap ((IntKind.i64.wrap (z0f .u64 (IntKind.u64.wrap (IntKind.i64.wrap (a1 + a3))) 1)) + a2)) - w177)) < a3 then
              (rf v184 (IntKind.i64.wrap (z0f .u64 (IntKind.u64.wrap (IntKind.i64.wrap (a1 + a3))) 1)) (IntKind.i64.wrap ((IntKind.i64.wrap ((IntKind.i64.wrap (z0f .u64 (IntKind.u64.wrap (IntKind.i64.wrap (a1 + a3))) 1)) + a2)) - w177)) a3 m0).bind fun v188 =>
              some v188
            else
              some v184
          else
            some v184
      else
        if a1 < w177 then
          if w177 < (IntKind.i64.wrap (z0f .u64 (IntKind.u64.wrap (IntKind.i64.wrap (a1 + a3))) 1)) then
            (rf a0 a1 w177 (IntKind.i64.wrap (z0f .u64 (IntKind.u64.wrap (IntKind.i64.wrap (a1 + a3))) 1)) m0).bind fun v189 =>
            if (IntKind.i64.wrap (z0f .u64 (IntKind.u64.wrap (IntKind.i64.wrap (a1 + a3))) 1)) < (IntKind.i64.wrap ((IntKind.i64.wrap ((IntKind.i64.wrap (z0f .u64 (IntKind.u64.wrap (IntKind.i64.wrap (a1 + a3))) 1)) + a2)) - w177)) then
              if (IntKind.i64.wrap ((IntKind.i64.wrap ((IntKind.i64.wrap (z0f .u64 (IntKind.u64.wrap (IntKind.i64.wrap (a1 + a3))) 1)) + a2)) - w177)) < a3 then
                (rf v189 (IntKind.i64.wrap (z0f .u64 (IntKind.u64.wrap (IntKind.i64.wrap (a1 + a3))) 1)) (IntKind.i64.wrap ((IntKind.i64.wrap ((IntKind.i64.wrap (z0f .u64 (IntKind.u64.wrap (IntKind.i64.wrap (a1 + a3))) 1)) + a2)) - w177)) a3 m0).bind fun v190 =>
                some v190
              else
                some v189
            else
              some v189
          else
            if (IntKind.i64.wrap (z0f .u64 (IntKind.u64.wrap (IntKind.i64.wrap (a1 + a3))) 1)) < (IntKind.i64.wrap ((IntKind.i64.wrap ((IntKind.i64.wrap (z0f .u64 (IntKind.u64.wrap (IntKind.i64.wrap (a1 + a3))) 1)) + a2)) - w177)) then
              if (IntKind.i64.wrap ((IntKind.i64.wrap ((IntKind.i64.wrap (z0f .u64 (IntKind.u64.wrap (IntKind.i64.wrap (a1 + a3))) 1)) + a2)) - w177)) < a3 then
                (rf a0 (IntKind.i64.wrap (z0f .u64 (IntKind.u64.wrap (IntKind.i64.wrap (a1 + a3))) 1)) (IntKind.i64.wrap ((IntKind.i64.wrap ((IntKind.i64.wrap (z0f .u64 (IntKind.u64.wrap (IntKind.i64.wrap (a1 + a3))) 1)) + a2)) - w177)) a3 m0).bind fun v191 =>
                some v191
              else
                some a0
            else
              some a0
        else
          if (IntKind.i64.wrap (z0f .u64 (IntKind.u64.wrap (IntKind.i64.wrap (a1 + a3))) 1)) < (IntKind.i64.wrap ((IntKind.i64.wrap ((IntKind.i64.wrap (z0f .u64 (IntKind.u64.wrap (IntKind.i64.wrap (a1 + a3))) 1)) + a2)) - w177)) then
            if (IntKind.i64.wrap ((IntKind.i64.wrap ((IntKind.i64.wrap (z0f .u64 (IntKind.u64.wrap (IntKind.i64.wrap (a1 + a3))) 1)) + a2)) - w177)) < a3 then
              (rf a0 (IntKind.i64.wrap (z0f .u64 (IntKind.u64.wrap (IntKind.i64.wrap (a1 + a3))) 1)) (IntKind.i64.wrap ((IntKind.i64.wrap ((IntKind.i64.wrap (z0f .u64 (IntKind.u64.wrap (IntKind.i64.wrap (a1 + a3))) 1)) + a2)) - w177)) a3 m0).bind fun v192 =>
              some v192
            else
              some a0
          else
            some a0
    else
      if a1 < w177 then
        if w177 < (IntKind.i64.wrap (z0f .u64 (IntKind.u64.wrap (IntKind.i64.wrap (a1 + a3))) 1)) then
          (rf a0 a1 w177 (IntKind.i64.wrap (z0f .u64 (IntKind.u64.wrap (IntKind.i64.wrap (a1 + a3))) 1)) m0).bind fun v193 =>
          if (IntKind.i64.wrap (z0f .u64 (IntKind.u64.wrap (IntKind.i64.wrap (a1 + a3))) 1)) < (IntKind.i64.wrap ((IntKind.i64.wrap ((IntKind.i64.wrap (z0f .u64 (IntKind.u64.wrap (IntKind.i64.wrap (a1 + a3))) 1)) + a2)) - w177)) then
            if (IntKind.i64.wrap ((IntKind.i64.wrap ((IntKind.i64.wrap (z0f .u64 (IntKind.u64.wrap (IntKind.i64.wrap (a1 + a3))) 1)) + a2)) - w177)) < a3 then
              (rf v193 (IntKind.i64.wrap (z0f .u64 (IntKind.u64.wrap (IntKind.i64.wrap (a1 + a3))) 1)) (IntKind.i64.wrap ((IntKind.i64.wrap ((IntKind.i64.wrap (z0f .u64 (IntKind.u64.wrap (IntKind.i64.wrap (a1 + a3))) 1)) + a2)) - w177)) a3 m0).bind fun v194 =>
              some v194
            else
              some v193
          else
            some v193
        else
          if (IntKind.i64.wrap (z0f .u64 (IntKind.u64.wrap (IntKind.i64.wrap (a1 + a3))) 1)) < (IntKind.i64.wrap ((IntKind.i64.wrap ((IntKind.i64.wrap (z0f .u64 (IntKind.u64.wrap (IntKind.i64.wrap (a1 + a3))) 1)) + a2)) - w177)) then
            if (IntKind.i64.wrap ((IntKind.i64.wrap ((IntKind.i64.wrap (z0f .u64 (IntKind.u64.wrap (IntKind.i64.wrap (a1 + a3))) 1)) + a2)) - w177)) < a3 then
              (rf a0 (IntKind.i64.wrap (z0f .u64 (IntKind.u64.wrap (IntKind.i64.wrap (a1 + a3))) 1)) (IntKind.i64.wrap ((IntKind.i64.wrap ((IntKind.i64.wrap (z0f .u64 (IntKind.u64.wrap (IntKind.i64.wrap (a1 + a3))) 1)) + a2)) - w177)) a3 m0).bind fun v195 =>
              some v195
            else
              some a0
          else
            some a0
      else
        if (IntKind.i64.wrap (z0f .u64 (IntKind.u64.wrap (IntKind.i64.wrap (a1 + a3))) 1)) < (IntKind.i64.wrap ((IntKind.i64.wrap ((IntKind.i64.wrap (z0f .u64 (IntKind.u64.wrap (IntKind.i64.wrap (a1 + a3))) 1)) + a2)) - w177)) then
          if (IntKind.i64.wrap ((IntKind.i64.wrap ((IntKind.i64.wrap (z0f .u64 (IntKind.u64.wrap (IntKind.i64.wrap (a1 + a3))) 1)) + a2)) - w177)) < a3 then
            (rf a0 (IntKind.i64.wrap (z0f .u64 (IntKind.u64.wrap (IntKind.i64.wrap (a1 + a3))) 1)) (IntKind.i64.wrap ((IntKind.i64.wrap ((IntKind.i64.wrap (z0f .u64 (IntKind.u64.wrap (IntKind.i64.wrap (a1 + a3))) 1)) + a2)) - w177)) a3 m0).bind fun v196 =>
            some v196
          else
            some a0
        else
          some a0
instance {a0 : List Int} {a1 : Int} {a2 : Int} {a3 : Int} {m0 : List Int} {rf : List Int -> Int -> Int -> Int -> List Int -> Option (List Int)} : Hd (z0X a0 a1 a2 a3 m0 rf) := ⟨fun (w177, w176) => ([(20, xI w177), (21, xI w176)], [])⟩
def z0y (rf : List Int -> Int -> Int -> Int -> List Int -> Option (List Int)) (a0 : List Int) (a1 : Int) (a2 : Int) (a3 : Int) (m0 : List Int) : Option (List Int) :=
  if (IntKind.i64.wrap (a2 - a1)) = 1 then
    z0o (z1d a0 a1 m0) LFm (a2, a3)
  else
    if (IntKind.i64.wrap (a3 - a2)) = 1 then
      z0o (z1a a0 a2 m0) LFm (a1, a2)
    else
      chk (¬ 1 < 0) <|
      if (IntKind.i64.wrap (z0f .u64 (IntKind.u64.wrap (IntKind.i64.wrap (a1 + a3))) 1)) < a2 then
        z0o (z0Y a0 a1 a2 a3 m0 rf) LFm (IntKind.i64.wrap ((IntKind.i64.wrap ((IntKind.i64.wrap (z0f .u64 (IntKind.u64.wrap (IntKind.i64.wrap (a1 + a3))) 1)) + a2)) - a3), IntKind.i64.wrap (z0f .u64 (IntKind.u64.wrap (IntKind.i64.wrap (a1 + a3))) 1))
      else
        z0o (z0X a0 a1 a2 a3 m0 rf) LFm (a1, a2)
theorem z2w {rf : List Int -> Int -> Int -> Int -> List Int -> Option (List Int)} [ih : ∀ (a0 : List Int) (a1 : Int) (a2 : Int) (a3 : Int) (m0 : List Int), Ok (rf a0 a1 a2 a3 m0) (fun r => L 99 [.os 1 a0.length (a0.map fun x0 => .sc (.int .i64 x0)), .sc (.int .i64 a1), .sc (.int .i64 a2), .sc (.int .i64 a3), .cl 80 [.pr [.sl m0.length (m0.map fun x0 => .sc (.int .i64 x0))]]] = some (.tup [], [.os 1 r.length (r.map fun x0 => .sc (.int .i64 x0)), .dead, .dead, .dead, .dead]))] {a0 : List Int} {a1 : Int} {a2 : Int} {a3 : Int} {m0 : List Int} : Ok (z0y rf a0 a1 a2 a3 m0) (fun r => L 99 [.os 1 a0.length (a0.map fun x0 => .sc (.int .i64 x0)), .sc (.int .i64 a1), .sc (.int .i64 a2), .sc (.int .i64 a3), .cl 80 [.pr [.sl m0.length (m0.map fun x0 => .sc (.int .i64 x0))]]] = some (.tup [], [.os 1 r.length (r.map fun x0 => .sc (.int .i64 x0)), .dead, .dead, .dead, .dead])) := ⟨fun r h => by have h := z4c h; unfold z0y at h; exact z4E zsI zwg zwn⟩
def z0g : Nat -> List Int -> Int -> Int -> Int -> List Int -> Option (List Int)
  | 0 => fun _ _ _ _ _ => none
  | k + 1 => z0y (z0g k)
instance slices_symMergeCmpFunc_int_images_diagram_heights_1_ok : ∀ {k : Nat} {a0 : List Int} {a1 : Int} {a2 : Int} {a3 : Int} {m0 : List Int}, Ok (z0g k a0 a1 a2 a3 m0) (fun r => L 99 [.os 1 a0.length (a0.map fun x0 => .sc (.int .i64 x0)), .sc (.int .i64 a1), .sc (.int .i64 a2), .sc (.int .i64 a3), .cl 80 [.pr [.sl m0.length (m0.map fun x0 => .sc (.int .i64 x0))]]] = some (.tup [], [.os 1 r.length (r.map fun x0 => .sc (.int .i64 x0)), .dead, .dead, .dead, .dead])) := by
  intro k
  induction k with
  | zero => intros; exact ⟨fun r h => by cases h⟩
  | succ k ih => intros; have ih2 := @ih; exact z2w (rf := z0g k)
abbrev z0z (a1 : Int) (m2 : List Int) (w45 : Int) : Int × Int × List Int -> Option ((Int × Int × List Int) ⊕ ((Int × List Int) ⊕ List Int))
  | (w55, w56, w57) =>
  if w56 <= a1 then
    (z0g 5000 w57 w55 (IntKind.i64.wrap (w55 + w45)) w56 m2).bind fun v59 =>
    z0e (w56, IntKind.i64.wrap (w56 + (IntKind.i64.wrap (2 * w45))), v59)
  else
    z0k <|
    if (IntKind.i64.wrap (w55 + w45)) < a1 then
      (z0g 5000 w57 w55 (IntKind.i64.wrap (w55 + w45)) a1 m2).bind fun v60 =>
      z0e (IntKind.i64.wrap (w45 * 2), v60)
    else
      z0e (IntKind.i64.wrap (w45 * 2), w57)
instance {a1 : Int} {m2 : List Int} {w45 : Int} : Hd (z0z a1 m2 w45) := ⟨fun (w55, w56, w57) => ([(7, xI w55), (8, xI w56)], [(0, .os 1 w57.length (w57.map fun x0 => .sc (.int .i64 x0)))])⟩
abbrev z0A (a1 : Int) (m2 : List Int) : Int × List Int -> Option ((Int × List Int) ⊕ List Int)
  | (w45, w46) =>
  if w45 < a1 then
    z0o (z0z a1 m2 w45) LFm (0, IntKind.i64.wrap (2 * w45), w46)
  else
    z0k <|
    some w46
instance {a1 : Int} {m2 : List Int} : Hd (z0A a1 m2) := ⟨fun (w45, w46) => ([(6, xI w45)], [(0, .os 1 w46.length (w46.map fun x0 => .sc (.int .i64 x0)))])⟩
abbrev z0B (a1 : Int) (m2 : List Int) : Int × Int × List Int -> Option ((Int × Int × List Int) ⊕ List Int)
  | (w32, w33, w34) =>
  if w33 <= a1 then
    (z0u w34 w32 w33 m2).bind fun v36 =>
    z0e (w33, IntKind.i64.wrap (w33 + 20), v36)
  else
    z0k <|
    (z0u w34 w32 a1 m2).bind fun v37 =>
    z0o (z0A a1 m2) LFm (20, v37)
instance {a1 : Int} {m2 : List Int} : Hd (z0B a1 m2) := ⟨fun (w32, w33, w34) => ([(7, xI w32), (8, xI w33)], [(0, .os 1 w34.length (w34.map fun x0 => .sc (.int .i64 x0)))])⟩
def z0D (a0 : List Int) (a1 : Int) (m2 : List Int) : Option (List Int) :=
  z0o (z0B a1 m2) LFm (0, 20, a0)
instance slices_stableCmpFunc_int_images_diagram_heights_1_ok {a0 : List Int} {a1 : Int} {m2 : List Int} : Ok (z0D a0 a1 m2) (fun r => L 81 [.os 1 a0.length (a0.map fun x0 => .sc (.int .i64 x0)), .sc (.int .i64 a1), .cl 80 [.pr [.sl m2.length (m2.map fun x0 => .sc (.int .i64 x0))]]] = some (.tup [], [.os 1 r.length (r.map fun x0 => .sc (.int .i64 x0)), .dead, .dead])) := ⟨fun r h => by have h := z4c h; unfold z0D at h; exact z4E zsK zwi zwp⟩
def z0i (a0 : List Int) (m4 : List Int) : Option (List Int) :=
  (z0D a0 (a0.length : Int) m4).bind fun v2 =>
  some v2
instance slices_SortStableFunc_Lint_int_images_diagram_heights_1_ok {a0 : List Int} {m4 : List Int} : Ok (z0i a0 m4) (fun r => L 57 [.os 1 a0.length (a0.map fun x0 => .sc (.int .i64 x0)), .cl 80 [.pr [.sl m4.length (m4.map fun x0 => .sc (.int .i64 x0))]]] = some (.tup [], [.os 1 r.length (r.map fun x0 => .sc (.int .i64 x0)), .dead])) := ⟨fun r h => by have h := z4c h; unfold z0i at h; exact z4E zsL zwj zwq⟩
abbrev z1D (a0 : Dgm) (w136 : Int) (w138 : List Int) : Int × List Int -> Option ((Int × List Int) ⊕ ((Int × List Int × List Int) ⊕ List Int))
  | (w159, w160) =>
  if w159 < (a0.sets.length : Int) then
    (atI a0.below w159).bind fun v165 =>
    (atI v165 w136).bind fun v166 =>
    if v166 = true then
      (atI w160 w136).bind fun v167 =>
      z0e (IntKind.i64.wrap (w159 + 1), (w160.set w136.toNat (IntKind.i64.wrap (v167 + 1))))
    else
      z0e (IntKind.i64.wrap (w159 + 1), w160)
  else
    z0k <|
    z0e (IntKind.i64.wrap (w136 + 1), w160, (w138.set w136.toNat w136))
instance {a0 : Dgm} {w136 : Int} {w138 : List Int} : Hd (z1D a0 w136 w138) := ⟨fun (w159, w160) => ([(34, xI w159)], [(5, .vr [.os 1 w160.length (w160.map fun x0 => .sc (.int .i64 x0))])])⟩
abbrev z1v (a0 : Dgm) (a1 : List Int) (w193 : Int) (v221 : Int) : Int × List Int -> Option ((Int × List Int) ⊕ ((Int × List Int) ⊕ List Int))
  | (w231, w232) =>
  if w231 < (a0.sets.length : Int) then
    (atI a0.below w231).bind fun v240 =>
    (atI v240 v221).bind fun v241 =>
    if v241 = true then
      (atI a1 w231).bind fun v242 =>
      (atI a1 v221).bind fun v243 =>
      if v242 = v243 then
        z0e (IntKind.i64.wrap (w231 + 1), w232)
      else
        (atI w232 v221).bind fun v244 =>
        (atI w232 w231).bind fun v245 =>
        z0e (IntKind.i64.wrap (w231 + 1), (w232.set v221.toNat (if v244 < (IntKind.i64.wrap (v245 + 1)) then (IntKind.i64.wrap (v245 + 1)) else v244)))
    else
      z0e (IntKind.i64.wrap (w231 + 1), w232)
  else
    z0k <|
    z0e (IntKind.i64.wrap (w193 + 1), w232)
instance {a0 : Dgm} {a1 : List Int} {w193 : Int} {v221 : Int} : Hd (z1v a0 a1 w193 v221) := ⟨fun (w231, w232) => ([(76, xI w231)], [(9, .os 1 w232.length (w232.map fun x0 => .sc (.int .i64 x0)))])⟩
abbrev z1X (a0 : Dgm) (a1 : List Int) (v169 : List Int) : Int × List Int -> Option ((Int × List Int) ⊕ List Int)
  | (w193, w194) =>
  if w193 < (v169.length : Int) then
    (atI v169 w193).bind fun v221 =>
    (atI a0.sets v221).bind fun v222 =>
    (z5b v222).bind fun v223 =>
    if v223 = 1 then
      z0e (IntKind.i64.wrap (w193 + 1), w194)
    else
      z0o (z1v a0 a1 w193 v221) LFm (0, w194)
  else
    z0k <|
    some w194
instance {a0 : Dgm} {a1 : List Int} {v169 : List Int} : Hd (z1X a0 a1 v169) := ⟨fun (w193, w194) => ([(62, xI w193)], [(9, .os 1 w194.length (w194.map fun x0 => .sc (.int .i64 x0)))])⟩
abbrev z2k (a0 : Dgm) (a1 : List Int) : Int × List Int × List Int -> Option ((Int × List Int × List Int) ⊕ List Int)
  | (w136, w137, w138) =>
  if w136 < (a0.sets.length : Int) then
    (atI w138 w136).bind fun v154 =>
    z0o (z1D a0 w136 w138) LFm (0, w137)
  else
    z0k <|
    (z0i w138 w137).bind fun v169 =>
    chk (z1i 8 (a0.sets.length : Int)) <|
    z0o (z1X a0 a1 v169) LFm (0, List.replicate (a0.sets.length : Int).toNat (0 : Int))
instance {a0 : Dgm} {a1 : List Int} : Hd (z2k a0 a1) := ⟨fun (w136, w137, w138) => ([(24, xI w136)], [(5, .vr [.os 1 w137.length (w137.map fun x0 => .sc (.int .i64 x0))]), (6, .os 1 w138.length (w138.map fun x0 => .sc (.int .i64 x0)))])⟩
def z1Z (a0 : Dgm) (a1 : List Int) : Option (List Int) :=
  chk (z1i 8 (a0.sets.length : Int)) <|
  z0o (z2k a0 a1) LFm (0, List.replicate (a0.sets.length : Int).toNat (0 : Int), List.replicate (a0.sets.length : Int).toNat (0 : Int))
instance images_diagram_heights_ok {a0 : Dgm} {a1 : List Int} : Ok (z1Z a0 a1) (fun r => L 54 [.agg [.sl a0.sets.length (a0.sets.map fun x0 => .sc (.int .i64 x0)), .sl a0.next.length (a0.next.map fun x0 => .sl x0.length (x0.map fun x1 => .sc (.int .i64 x1))), .sl a0.below.length (a0.below.map fun x0 => .sl x0.length (x0.map fun x1 => .sc (.bool x1)))], .sl a1.length (a1.map fun x0 => .sc (.int .i64 x0))] = some (.os 1 r.length (r.map fun x0 => .sc (.int .i64 x0)), [.dead, .dead])) := ⟨fun r h => by have h := z4c h; unfold z1Z at h; exact z4E zvs zxj zzf⟩
end
end
section
open Go
structure TapeOk (t : Tape) : Prop where
  a0 : 0 <= t.at_
  a1 : t.at_ <= t.l.length
  a2 : t.l.length <= 80
theorem zhF (x n : Int) (h1 : 1 <= n) (h2 : n < 4611686018427387904) : ∃ v, za4 x n = some v /\ 0 <= v /\ v < n := by
  have hx : x.tmod n < n := Int.tmod_lt_of_pos _ (by omega)
  have hy : -n < x.tmod n := Int.lt_tmod_of_pos x (by omega)
  unfold za4
  rw [if_neg (by omega), z0n _ (by omega)]
  split
  · rw [z1N (by omega) (by omega)]; exact ⟨_, rfl, by omega, by omega⟩
  · exact ⟨_, rfl, by omega, by omega⟩
theorem z4J {t : Tape} (ht : TapeOk t) (n : Int) (h1 : 1 <= n) (h2 : n < 4611686018427387904) : ∃ v t', z0N t n = some (v, t') /\ 0 <= v /\ v < n /\ TapeOk t' := by
  obtain ⟨a0, a1, a2⟩ := ht
  unfold z0N
  split
  · exact ⟨_, _, rfl, by omega, by omega, a0, a1, a2⟩
  · rename_i hlt
    rw [z1N (x := t.at_ + 1) (by omega) (by omega), z1N (by omega) (by omega)]
    obtain ⟨k, hk⟩ := Int.eq_ofNat_of_zero_le a0
    have e : t.at_ + 1 - 1 = (k : Int) := by omega
    rw [e, z0S (by omega)]
    obtain ⟨v, hv, h3, h4⟩ := zhF t.l[k] n h1 h2
    simp only [Option.bind_some, hv]
    exact ⟨_, _, rfl, h3, h4, by simp only; omega, by simp only; omega, a2⟩
theorem zpA (l : List Int) : ∃ t, z8E l = some t /\ TapeOk t := by
  unfold z8E
  split
  · rename_i h
    have := zgi (xs := l) (k := 80) (by omega)
    simp only [Int.cast_ofNat_Int] at this
    rw [this]
    exact ⟨_, rfl, by simp, by simp, by simp only [List.length_take]; omega⟩
  · exact ⟨_, rfl, by simp, by simp, by simp; omega⟩
def zeB (m : Int) (w : ByteArray) : Prop := ∀ k, ∀ h : k < w.size, 97 <= (w[k].toNat : Int) /\ (w[k].toNat : Int) < 97 + m
theorem z8g (l : List Int) : (z1l l).size = l.length := by simp [z1l, ByteArray.size]
theorem zi4 (l : List Int) (k : Nat) (h : k < (z1l l).size) : (z1l l)[k] = UInt8.ofNat (l[k]'(by rw [z8g] at h; exact h)).toNat := by
  simp [z1l, ByteArray.getElem_eq_getElem_data]
theorem zq3 {t : Tape} (ht : TapeOk t) (m most : Int) (hm : 1 <= m /\ m <= 26) (hk : 0 <= most /\ most < 1000) : ∃ w t', z4p t m most = some (w, t') /\ zeB m w /\ (w.size : Int) <= most /\ TapeOk t' := by
  unfold z4p
  rw [z1N (by omega) (by omega)]
  obtain ⟨n, t1, e1, n0, n1, ht1⟩ := z4J ht (most + 1) (by omega) (by omega)
  simp only [e1, Option.bind_some]
  refine Exists.elim (z1z (b := z4d m) (fun s => 0 <= s.1 /\ s.1 + s.2.2.2.length = n /\ TapeOk ⟨s.2.1, s.2.2.1⟩ /\ ∀ x ∈ s.2.2.2, 97 <= x /\ x < 97 + m) (fun s => s.1.toNat) (fun r => zeB m r.1 /\ (r.1.size : Int) <= most /\ TapeOk r.2) ?_ LFm (n, t1.l, t1.at_, []) ⟨n0, by simp, ht1, by simp⟩ (by simp only [LFm]; omega)) fun r h => ⟨r.1, r.2, h⟩
  rintro ⟨q, l, a, b⟩ ⟨i1, i2, i3, i4⟩
  simp only at i1 i2 i3 i4 ⊢
  simp only [z4d]
  by_cases hq : 0 < q
  · left
    obtain ⟨v, t2, e2, v0, v1, ht2⟩ := z4J i3 m (by omega) (by omega)
    rw [if_pos hq, e2]
    simp only [Option.bind_some]
    rw [z0n _ (by unfold z1q; omega), z1N (x := q - 1) (by omega) (by omega), z1N (x := 97 + v) (by omega) (by omega), zpZ (by omega) (by omega)]
    refine ⟨_, rfl, ⟨by simp only; omega, by simp only [List.length_append, List.length_singleton]; omega, ht2, ?_⟩, by simp only; omega⟩
    intro x hx
    rcases List.mem_append.1 hx with h | h
    · exact i4 x h
    · have : x = 97 + v := by simpa using h
      omega
  · right
    rw [if_neg hq]
    refine ⟨_, rfl, fun k hk => ?_, by rw [z8g]; omega, i3⟩
    rw [zi4]
    have := i4 _ (List.getElem_mem (by rw [z8g] at hk; exact hk))
    generalize b[k]'_ = z at this
    simp only [UInt8.toNat_ofNat']
    omega
end
section
open Go
def z7k (m n : Nat) (r : List Int) : Prop := r.length = m /\ ∀ x ∈ r, 0 <= x /\ x < n
structure DfaOk (d : DFA) (m n : Nat) : Prop where
  lt : d.letters = m
  m1 : 1 <= m
  m6 : m <= 6
  n1 : 1 <= n
  fin : d.final.length = n
  nl : d.next.length = n
  s0 : 0 <= d.start
  s1 : d.start < n
  row : ∀ r ∈ d.next, z7k m n r
theorem zey {σ τ ρ : Type} {b : σ -> Option (σ ⊕ (τ ⊕ ρ))} (I : σ -> Prop) (m : σ -> Nat) (Post : τ -> Prop) {s : σ} (hI : I s) (hm : m s < LFm)
    (step : ∀ s, I s -> (∃ s', b s = some (.inl s') /\ I s' /\ m s' < m s) ∨ (∃ r, b s = some (.inr (.inl r)) /\ Post r)) : ∃ r, z0o b LFm s = some (.inl r) /\ Post r := by
  obtain ⟨r, h1, r', h2, h3⟩ := z1z I m (fun r => ∃ t, r = .inl t /\ Post t) (fun s hs => (step s hs).imp id fun ⟨r, h, hp⟩ => ⟨_, h, r, rfl, hp⟩) LFm s hI hm
  exact ⟨r', by rw [h1, h2], h3⟩
theorem za0 {α : Type} {l : List α} {x y : α} : y ∈ l ++ [x] ↔ y ∈ l ∨ y = x := by simp
theorem zpM {t : Tape} (ht : TapeOk t) (m most : Nat) (hm : 1 <= m /\ m <= 6) (hk : 1 <= most /\ most <= 1000) : ∃ d t' n, z3C t m most = some (d, t') /\ DfaOk d m n /\ n <= most /\ TapeOk t' := by
  unfold z3C
  obtain ⟨v, t1, e1, v0, v1, ht1⟩ := z4J ht (most : Int) (by omega) (by omega)
  simp only [e1, Option.bind_some]
  obtain ⟨k, rfl⟩ := Int.eq_ofNat_of_zero_le v0
  have hw : IntKind.i64.wrap (1 + (k : Int)) = ((k + 1 : Nat) : Int) := by rw [z1N (by omega) (by omega)]; omega
  rw [hw]
  obtain ⟨s, t2, e2, s0, s1, ht2⟩ := z4J ht1 ((k + 1 : Nat) : Int) (by omega) (by omega)
  simp only [e2, Option.bind_some]
  refine Exists.elim (z1z (b := z4u m ((k : Int), t1) (s, t2)) (fun z => 0 <= z.1 /\ z.1 <= (k + 1 : Nat) /\ TapeOk ⟨z.2.1, z.2.2.1⟩ /\ (z.2.2.2.1.length : Int) = z.1 /\ (z.2.2.2.2.length : Int) = z.1 /\ ∀ r ∈ z.2.2.2.2, z7k m (k + 1) r) (fun z => k + 2 - z.1.toNat)
    (fun r => DfaOk r.1 m (k + 1) /\ TapeOk r.2) ?_ LFm (0, t2.l, t2.at_, [], []) ⟨by simp, by simp; omega, ht2, by simp, by simp, by simp⟩ (by simp only [LFm]; omega)) fun r h => ⟨r.1, r.2, k + 1, h.1, h.2.1, by omega, h.2.2⟩
  rintro ⟨i, tl, ta, fs, rs⟩ ⟨i0, i1, i2, i3, i4, i5⟩
  simp only at i0 i1 i2 i3 i4 i5 ⊢
  simp only [z4u, hw]
  by_cases hi : i < ((k + 1 : Nat) : Int)
  · left
    rw [if_pos hi]
    obtain ⟨u, t3, e3, u0, u1, ht3⟩ := z4J i2 2 (by omega) (by omega)
    simp only [e3, Option.bind_some]
    rw [z0n _ (by unfold z1q; omega)]
    refine Exists.elim (zey (b := z4e m ((k : Int), t1) i fs rs (u, t3)) (fun z => 0 <= z.1 /\ z.1 <= m /\ TapeOk ⟨z.2.1, z.2.2.1⟩ /\ (z.2.2.2.length : Int) = z.1 /\ ∀ x ∈ z.2.2.2, 0 <= x /\ x < (k + 1 : Nat)) (fun z => m + 1 - z.1.toNat)
      (fun z => z.1 = i + 1 /\ TapeOk ⟨z.2.1, z.2.2.1⟩ /\ (z.2.2.2.1.length : Int) = i + 1 /\ (z.2.2.2.2.length : Int) = i + 1 /\ ∀ r ∈ z.2.2.2.2, z7k m (k + 1) r) (s := (0, t3.l, t3.at_, [])) ⟨by simp, by simp, ht3, by simp, by simp⟩ (by simp only [LFm]; omega) ?_) fun r h => ⟨_, h.1, ⟨by have := h.2.1; omega, by have := h.2.1; omega, h.2.2.1, by have := h.2.1; have := h.2.2.2.1; omega, by have := h.2.1; have := h.2.2.2.2.1; omega, h.2.2.2.2.2⟩, by have := h.2.1; omega⟩
    rintro ⟨j, ul, ua, row⟩ ⟨j0, j1, j2, j3, j4⟩
    simp only at j0 j1 j2 j3 j4 ⊢
    simp only [z4e, hw]
    by_cases hj : j < (m : Int)
    · left
      rw [if_pos hj]
      obtain ⟨x, t4, e4, x0, x1, ht4⟩ := z4J j2 ((k + 1 : Nat) : Int) (by omega) (by omega)
      simp only [e4, Option.bind_some]
      rw [z0n _ (by unfold z1q; omega), z1N (by omega) (by omega)]
      refine ⟨_, rfl, ⟨by simp only; omega, by simp only; omega, ht4, by simp only [List.length_append, List.length_singleton]; omega, fun y hy => ?_⟩, by simp only; omega⟩
      rcases za0.1 hy with h | rfl
      · exact j4 y h
      · exact ⟨x0, x1⟩
    · right
      rw [if_neg hj, z0n _ (by unfold z1q; omega), z1N (by omega) (by omega)]
      refine ⟨_, rfl, by simp only, j2, by simp only [List.length_append, List.length_singleton]; omega, by simp only [List.length_append, List.length_singleton]; omega, fun y hy => ?_⟩
      rcases za0.1 hy with h | rfl
      · exact i5 y h
      · exact ⟨by omega, j4⟩
  · right
    rw [if_neg hi]
    exact ⟨_, rfl, ⟨rfl, hm.1, hm.2, by omega, by simp only; omega, by simp only; omega, s0, s1, i5⟩, i2⟩
theorem zkl {t : Tape} (ht : TapeOk t) : ∃ m t', z3u t = some (((m : Nat) : Int), t') /\ 1 <= m /\ m <= 2 /\ TapeOk t' := by
  unfold z3u
  obtain ⟨v, t1, e1, v0, v1, ht1⟩ := z4J ht 8 (by omega) (by omega)
  simp only [e1, Option.bind_some]
  obtain ⟨k, rfl⟩ := Int.eq_ofNat_of_zero_le v0
  have : zsX .i64 (k : Int) 7 = ((k / 7 : Nat) : Int) := by
    unfold zsX
    rw [show ((k : Int).tdiv 7) = ((k / 7 : Nat) : Int) by rfl, z1N (by omega) (by omega)]
  rw [this, z1N (by omega) (by omega)]
  exact ⟨2 - k / 7, t1, by congr 2; omega, by omega, by omega, ht1⟩
end
section
open Go
set_option maxRecDepth 100000
theorem ziH {m n : Nat} {rs : List (List Int)} (h : ∀ r ∈ rs, z7k m n r) {r' : List Int} (hr : z7k m n r') (i : Nat) : ∀ r ∈ rs.set i r', z7k m n r := fun r hm => by
  rcases List.mem_or_eq_of_mem_set hm with h' | rfl
  · exact h r h'
  · exact hr
theorem zml {m n : Nat} {r : List Int} (h : z7k m n r) {x : Int} (hx : 0 <= x /\ x < n) (j : Nat) : z7k m n (r.set j x) := ⟨by simp [h.1], fun y hy => by
  rcases List.mem_or_eq_of_mem_set hy with h' | rfl
  · exact h.2 y h'
  · exact hx⟩
theorem zmm {m n : Nat} {rs : List (List Int)} (h : ∀ r ∈ rs, z7k m n r) {k : Nat} (hk : k < rs.length) : z7k m n rs[k] := h _ (List.getElem_mem hk)
theorem zke {t : Tape} (ht : TapeOk t) (m most : Nat) (hm : 1 <= m /\ m <= 6) (hk : 1 <= most /\ most <= 1000) : ∃ d t' n, z2H t m most = some (d, t') /\ DfaOk d m n /\ n <= most /\ TapeOk t' := by
  unfold z2H
  obtain ⟨d, t1, n, e1, hd, hn, ht1⟩ := zpM ht m most hm hk
  simp only [e1, Option.bind_some]
  refine Exists.elim (z1z (b := z3l (d, t1)) (fun z => 0 <= z.1 /\ z.1 <= n /\ z.2.length = n /\ ∀ r ∈ z.2, z7k m n r) (fun z => n + 1 - z.1.toNat) (fun r => DfaOk r.1 m n /\ TapeOk r.2) ?_ LFm (0, d.next) ⟨by simp, by simp, hd.nl, hd.row⟩ (by simp only [LFm]; omega)) fun r h => ⟨r.1, r.2, n, h.1, h.2.1, hn, h.2.2⟩
  rintro ⟨i, rs⟩ ⟨i0, i1, i2, i3⟩
  simp only at i0 i1 i2 i3 ⊢
  simp only [z3l, hd.nl]
  obtain ⟨i, rfl⟩ := Int.eq_ofNat_of_zero_le i0
  by_cases hi : (i : Int) < n
  · left
    rw [if_pos hi, z0S (by omega)]
    simp only [Option.bind_some]
    have hri := zmm i3 (show i < rs.length by omega)
    refine Exists.elim (zey (b := z3k (i : Int) rs[i] _) (fun z => 0 <= z.1 /\ z.1 <= m /\ z.2.length = n /\ ∀ r ∈ z.2, z7k m n r) (fun z => m + 1 - z.1.toNat) (fun z => z.1 = (i : Int) + 1 /\ z.2.length = n /\ ∀ r ∈ z.2, z7k m n r) (s := (0, rs)) ⟨by simp, by simp, i2, i3⟩ (by simp only [LFm]; omega) ?_) fun r h => ⟨_, h.1, ⟨by have := h.2.1; omega, by have := h.2.1; omega, h.2.2.1, h.2.2.2⟩, by have := h.2.1; omega⟩
    rintro ⟨j, us⟩ ⟨j0, j1, j2, j3⟩
    simp only at j0 j1 j2 j3 ⊢
    obtain ⟨j, rfl⟩ := Int.eq_ofNat_of_zero_le j0
    simp only [z3k, hri.1]
    rw [z0S (by omega)]
    simp only [Option.bind_some]
    have hui := zmm j3 (show i < us.length by omega)
    by_cases hj : (j : Int) < m
    · left
      rw [if_pos hj, z0S (by rw [hui.1]; omega), z1N (by omega) (by omega)]
      simp only [Option.bind_some]
      refine ⟨_, rfl, ⟨by simp only; omega, by simp only; omega, by simp only [List.length_set]; exact j2, ziH j3 (zml hui ?_ _) _⟩, by simp only; omega⟩
      have := hui.2 _ (List.getElem_mem (show j < us[i].length by rw [hui.1]; omega))
      split <;> omega
    · right
      rw [if_neg hj, z1N (by omega) (by omega)]
      exact ⟨_, rfl, rfl, j2, j3⟩
  · right
    rw [if_neg hi]
    exact ⟨_, rfl, ⟨hd.lt, hd.m1, hd.m6, hd.n1, hd.fin, by simp only; omega, by simp, by simp only; have := hd.n1; omega, i3⟩, ht1⟩
theorem zor (m n : Nat) (hn : 1 <= n) : z7k m n (List.replicate m 0) := ⟨by simp, fun x hx => by rw [(List.mem_replicate.1 hx).2]; omega⟩
theorem zqr {xs : List Int} {k : Nat} (h : k < xs.length) : z5v xs 0 (k : Int) = some (xs.take k) := zgi (by omega)
theorem zqq {xs : List Int} {k : Nat} (h : k < xs.length) : z5v xs ((k : Int) + 1) (xs.length : Int) = some (xs.drop (k + 1)) := by
  have := zht (xs := xs) (k := k + 1) (by omega)
  rwa [show ((k + 1 : Nat) : Int) = (k : Int) + 1 by omega] at this
theorem zoy {t : Tape} (ht : TapeOk t) (m most : Nat) (hm : 1 <= m /\ m <= 6) (hk : 1 <= most /\ most <= 1000) : ∃ d t' n, z1Y t m most = some (d, t') /\ DfaOk d m n /\ n <= most /\ TapeOk t' := by
  unfold z1Y
  obtain ⟨v, t1, e1, v0, v1, ht1⟩ := z4J ht (most : Int) (by omega) (by omega)
  simp only [e1, Option.bind_some]
  obtain ⟨k, rfl⟩ := Int.eq_ofNat_of_zero_le v0
  have hw : IntKind.i64.wrap (1 + (k : Int)) = ((k + 1 : Nat) : Int) := by rw [z1N (by omega) (by omega)]; omega
  rw [hw]
  obtain ⟨s, t2, e2, s0, s1, ht2⟩ := z4J ht1 ((k + 1 : Nat) : Int) (by omega) (by omega)
  simp only [e2, Option.bind_some]
  refine Exists.elim (z1z (b := z2j m ((k : Int), t1) (s, t2)) (fun z => 0 <= z.1 /\ z.1 <= (k + 1 : Nat) /\ TapeOk ⟨z.2.1, z.2.2.1⟩ /\ (z.2.2.2.1.length : Int) = z.1 /\ (z.2.2.2.2.length : Int) = z.1 /\ ∀ r ∈ z.2.2.2.2, z7k m (k + 1) r) (fun z => k + 2 - z.1.toNat)
    (fun r => DfaOk r.1 m (k + 1) /\ TapeOk r.2) ?_ LFm (0, t2.l, t2.at_, [], []) ⟨by simp, by simp; omega, ht2, by simp, by simp, by simp⟩ (by simp only [LFm]; omega)) fun r h => ⟨r.1, r.2, k + 1, h.1, h.2.1, by omega, h.2.2⟩
  rintro ⟨i, tl, ta, fs, rs⟩ ⟨i0, i1, i2, i3, i4, i5⟩
  simp only at i0 i1 i2 i3 i4 i5 ⊢
  simp only [z2j, hw]
  by_cases hi : i < ((k + 1 : Nat) : Int)
  · left
    rw [if_pos hi]
    obtain ⟨u, t3, e3, u0, u1, ht3⟩ := z4J i2 2 (by omega) (by omega)
    simp only [e3, Option.bind_some]
    rw [z0n _ (by unfold z1q; omega), z0n _ (by unfold z1i; omega), z0n _ (by unfold z1q; omega), z1N (by omega) (by omega)]
    refine ⟨_, rfl, ⟨by simp only; omega, by simp only; omega, ht3, by simp only [List.length_append, List.length_singleton]; omega, by simp only [List.length_append, List.length_singleton]; omega, fun y hy => ?_⟩, by simp only; omega⟩
    rcases za0.1 hy with h | rfl
    · exact i5 y h
    · exact zor m (k + 1) (by omega)
  · right
    rw [if_neg hi]
    refine Exists.elim (z1z (b := z2i m ((k : Int), t1) (s, t2) fs) (fun z => 0 <= z.1 /\ z.1 <= m /\ TapeOk ⟨z.2.1, z.2.2.1⟩ /\ z.2.2.2.length = k + 1 /\ ∀ r ∈ z.2.2.2, z7k m (k + 1) r) (fun z => m + 1 - z.1.toNat)
      (fun r => DfaOk r.1 m (k + 1) /\ TapeOk r.2) ?_ LFm (0, tl, ta, rs) ⟨by simp, by simp, i2, by simp only; omega, i5⟩ (by simp only [LFm]; omega)) fun r h => ⟨r, by rw [h.1]; rfl, h.2⟩
    rintro ⟨a, ul, ua, us⟩ ⟨a0, a1, a2, a3, a4⟩
    simp only at a0 a1 a2 a3 a4 ⊢
    obtain ⟨a, rfl⟩ := Int.eq_ofNat_of_zero_le a0
    simp only [z2i]
    by_cases ha : (a : Int) < m
    · left
      rw [if_pos ha]
      refine Exists.elim (zey (b := z1W ((k : Int), t1) (a : Int) ul ua us) (fun z => 0 <= z.1 /\ z.1 <= (k + 1 : Nat) /\ (z.2.length : Int) = z.1 /\ ∀ x ∈ z.2, 0 <= x /\ x < (k + 1 : Nat)) (fun z => k + 2 - z.1.toNat)
        (fun z => z.1 = (a : Int) + 1 /\ TapeOk ⟨z.2.1, z.2.2.1⟩ /\ z.2.2.2.length = k + 1 /\ ∀ r ∈ z.2.2.2, z7k m (k + 1) r) (s := (0, [])) ⟨by simp, by simp; omega, by simp, by simp⟩ (by simp only [LFm]; omega) ?_) fun r h => ⟨_, h.1, ⟨by have := h.2.1; omega, by have := h.2.1; omega, h.2.2.1, h.2.2.2.1, h.2.2.2.2⟩, by have := h.2.1; omega⟩
      rintro ⟨q, left⟩ ⟨q0, q1, q2, q3⟩
      simp only at q0 q1 q2 q3 ⊢
      simp only [z1W, hw]
      by_cases hq : q < ((k + 1 : Nat) : Int)
      · left
        rw [if_pos hq, z0n _ (by unfold z1q; omega), z1N (by omega) (by omega)]
        refine ⟨_, rfl, ⟨by simp only; omega, by simp only; omega, by simp only [List.length_append, List.length_singleton]; omega, fun y hy => ?_⟩, by simp only; omega⟩
        rcases za0.1 hy with h | rfl
        · exact q3 y h
        · omega
      · right
        rw [if_neg hq]
        refine Exists.elim (zey (b := z1V ((k : Int), t1) (a : Int)) (fun z => 0 <= z.1 /\ z.1 <= (k + 1 : Nat) /\ TapeOk ⟨z.2.1, z.2.2.1⟩ /\ z.2.2.2.1.length = k + 1 /\ (∀ r ∈ z.2.2.2.1, z7k m (k + 1) r) /\ (z.2.2.2.2.length : Int) = (k + 1 : Nat) - z.1 /\ ∀ x ∈ z.2.2.2.2, 0 <= x /\ x < (k + 1 : Nat)) (fun z => k + 2 - z.1.toNat)
          (fun z => z.1 = (a : Int) + 1 /\ TapeOk ⟨z.2.1, z.2.2.1⟩ /\ z.2.2.2.length = k + 1 /\ ∀ r ∈ z.2.2.2, z7k m (k + 1) r) (s := (0, ul, ua, us, left)) ⟨by simp, by simp; omega, a2, a3, a4, by simp only; omega, q3⟩ (by simp only [LFm]; omega) ?_) fun r h => ⟨r, by rw [h.1]; rfl, h.2⟩
        rintro ⟨p, xl, xa, xs, lf⟩ ⟨p0, p1, p2, p3, p4, p5, p6⟩
        simp only at p0 p1 p2 p3 p4 p5 p6 ⊢
        obtain ⟨p, rfl⟩ := Int.eq_ofNat_of_zero_le p0
        simp only [z1V, hw]
        by_cases hp : (p : Int) < ((k + 1 : Nat) : Int)
        · left
          rw [if_pos hp]
          obtain ⟨x, t4, e4, x0, x1, ht4⟩ := z4J p2 (lf.length : Int) (by omega) (by omega)
          obtain ⟨x, rfl⟩ := Int.eq_ofNat_of_zero_le x0
          have hrp := zmm p4 (show p < xs.length by omega)
          have hlx : x < lf.length := by omega
          simp only [e4, Option.bind_some]
          rw [z0S (show p < xs.length by omega)]
          simp only [Option.bind_some]
          rw [z0S hlx]
          simp only [Option.bind_some]
          rw [z0S (show a < xs[p].length by rw [hrp.1]; omega), z1N (x := (x : Int) + 1) (by omega) (by omega), zqr hlx]
          simp only [Option.bind_some]
          rw [zqq hlx]
          simp only [Option.bind_some]
          rw [z0n _ (by unfold z1q; simp only [List.length_take]; omega), z0n _ (by unfold z1q; simp only [List.length_take, List.length_drop]; omega), z1N (by omega) (by omega)]
          refine ⟨_, rfl, ⟨by simp only; omega, by simp only; omega, ht4, by simp only [List.length_set]; exact p3, ziH p4 (zml hrp (p6 _ (List.getElem_mem hlx)) _) _, by simp only [List.length_append, List.length_take, List.length_drop]; omega, fun y hy => ?_⟩, by simp only; omega⟩
          rcases List.mem_append.1 hy with h | h
          · exact p6 y (List.mem_of_mem_take h)
          · exact p6 y (List.mem_of_mem_drop h)
        · right
          rw [if_neg hp, z1N (by omega) (by omega)]
          exact ⟨_, rfl, rfl, p2, p3, p4⟩
    · right
      rw [if_neg ha]
      exact ⟨_, rfl, ⟨rfl, hm.1, hm.2, by omega, by simp only; omega, a3, s0, s1, a4⟩, a2⟩
end
section
open Go
set_option maxRecDepth 100000
theorem zbh {a : Nat} (h : a < 2 ^ 62) : IntKind.i64.wrap (a : Int) = (a : Int) := z1N (by omega) (by omega)
theorem zpm {a b : Nat} (ha : a < 2 ^ 62) (hb : b < 2 ^ 62) : z2b .i64 (a : Int) (b : Int) = ((a &&& b : Nat) : Int) := by
  unfold z2b
  have e : (BitVec.ofInt IntKind.i64.bits (a : Int) &&& BitVec.ofInt IntKind.i64.bits (b : Int)).toNat = a &&& b := by
    show (BitVec.ofInt 64 (a : Int) &&& BitVec.ofInt 64 (b : Int)).toNat = _
    rw [BitVec.toNat_and, BitVec.toNat_ofInt, BitVec.toNat_ofInt]
    have h1 : ((a : Int) % ((2 ^ 64 : Nat) : Int)).toNat = a := by omega
    have h2 : ((b : Int) % ((2 ^ 64 : Nat) : Int)).toNat = b := by omega
    rw [h1, h2]
  rw [e]
  exact zbh (Nat.lt_of_le_of_lt Nat.and_le_left ha)
theorem zqv {a b k : Nat} (ha : a < 2 ^ k) (hb : b < 2 ^ k) : a ||| b < 2 ^ k := Nat.or_lt_two_pow ha hb
theorem zhw {a b : Nat} (ha : a < 2 ^ 62) (hb : b < 2 ^ 62) : orI .i64 (a : Int) (b : Int) = ((a ||| b : Nat) : Int) := by
  unfold orI
  have e : (BitVec.ofInt IntKind.i64.bits (a : Int) ||| BitVec.ofInt IntKind.i64.bits (b : Int)).toNat = a ||| b := by
    show (BitVec.ofInt 64 (a : Int) ||| BitVec.ofInt 64 (b : Int)).toNat = _
    rw [BitVec.toNat_or, BitVec.toNat_ofInt, BitVec.toNat_ofInt]
    have h1 : ((a : Int) % ((2 ^ 64 : Nat) : Int)).toNat = a := by omega
    have h2 : ((b : Int) % ((2 ^ 64 : Nat) : Int)).toNat = b := by omega
    rw [h1, h2]
  rw [e]
  exact zbh (zqv ha hb)
theorem zi8 {a b : Nat} (ha : a < 2 ^ 62) (hb : b < 2 ^ 62) : zfa .i64 (a : Int) (b : Int) = 0 ↔ a &&& b = a := by
  unfold zfa
  have e : (BitVec.ofInt IntKind.i64.bits (a : Int) &&& ~~~ BitVec.ofInt IntKind.i64.bits (b : Int)).toNat = (BitVec.ofNat 64 a &&& ~~~ BitVec.ofNat 64 b).toNat := by
    show (BitVec.ofInt 64 (a : Int) &&& ~~~ BitVec.ofInt 64 (b : Int)).toNat = _
    congr 2
  rw [e]
  have hle : (BitVec.ofNat 64 a &&& ~~~ BitVec.ofNat 64 b).toNat <= a := by
    rw [BitVec.toNat_and]
    refine Nat.le_trans Nat.and_le_left ?_
    simp only [BitVec.toNat_ofNat]
    omega
  rw [zbh (by omega)]
  have ta : ∀ i, (BitVec.ofNat 64 a).toNat.testBit i = a.testBit i := fun i => by
    rw [BitVec.toNat_ofNat, Nat.mod_eq_of_lt (by omega)]
  have tb : ∀ i, (BitVec.ofNat 64 b).toNat.testBit i = b.testBit i := fun i => by
    rw [BitVec.toNat_ofNat, Nat.mod_eq_of_lt (by omega)]
  have hz : ∀ i, (BitVec.ofNat 64 a &&& ~~~ BitVec.ofNat 64 b).toNat.testBit i = (a.testBit i && !(b.testBit i)) := fun i => by
    rw [BitVec.testBit_toNat, BitVec.getLsbD_and, BitVec.getLsbD_not]
    by_cases hi : i < 64
    · simp only [hi, decide_true, Bool.true_and]
      rw [← BitVec.testBit_toNat, ← BitVec.testBit_toNat, ta, tb]
    · have : a.testBit i = false := Nat.testBit_lt_two_pow (Nat.lt_of_lt_of_le ha (Nat.pow_le_pow_right (by omega) (by omega)))
      rw [← BitVec.testBit_toNat, ta, this]; simp
  constructor
  · intro h
    have h0 : (BitVec.ofNat 64 a &&& ~~~ BitVec.ofNat 64 b).toNat = 0 := by omega
    apply Nat.eq_of_testBit_eq
    intro i
    have := hz i
    rw [h0, Nat.zero_testBit] at this
    rw [Nat.testBit_and]
    revert this
    cases a.testBit i <;> cases b.testBit i <;> simp
  · intro h
    have : (BitVec.ofNat 64 a &&& ~~~ BitVec.ofNat 64 b).toNat = 0 := by
      apply Nat.eq_of_testBit_eq
      intro i
      have e2 : (a &&& b).testBit i = a.testBit i := by rw [h]
      rw [Nat.testBit_and] at e2
      rw [hz, Nat.zero_testBit]
      revert e2
      cases a.testBit i <;> cases b.testBit i <;> simp
    omega
theorem ziE {a q : Nat} (hq : q <= 64) : z0f .i64 (a : Int) (q : Int) = ((a >>> q : Nat) : Int) := by
  unfold z0f
  have e : min ((q : Int).toNat) IntKind.i64.bits = q := by
    show min ((q : Int).toNat) 64 = q
    omega
  rw [e, Nat.shiftRight_eq_div_pow, Int.fdiv_eq_ediv_of_nonneg _ (by exact Int.pow_nonneg (by omega))]
  simp
theorem z6y {q : Nat} (hq : q <= 61) : zhl .i64 1 (q : Int) = ((2 ^ q : Nat) : Int) := by
  rw [zma]
  have e : min ((q : Int).toNat) IntKind.i64.bits = q := by
    show min ((q : Int).toNat) 64 = q
    omega
  rw [e, Int.one_mul]
  have : ((2 : Int) ^ q) = ((2 ^ q : Nat) : Int) := by simp
  rw [this]
  exact zbh (Nat.pow_lt_pow_right (by omega) (by omega))
theorem zd4 {a q : Nat} (ha : a < 2 ^ 62) (hq : q <= 64) : (z2b .i64 (z0f .i64 (a : Int) (q : Int)) 1 = 1) ↔ a.testBit q = true := by
  rw [ziE hq, show (1 : Int) = ((1 : Nat) : Int) from rfl, zpm (by rw [Nat.shiftRight_eq_div_pow]; exact Nat.lt_of_le_of_lt (Nat.div_le_self _ _) ha) (by decide), Nat.testBit]
  have : (1 &&& a >>> q) = (a >>> q) &&& 1 := Nat.and_comm ..
  rw [this]
  have h2 := Nat.and_one_is_mod (a >>> q)
  rw [h2]
  simp only [bne_iff_ne, ne_eq]
  omega
theorem zpY {q : Nat} (h : q < 2 ^ 62) : IntKind.u64.wrap (q : Int) = (q : Int) := by rw [IntKind.wrap_u64]; omega
def zgp (rows : List (List Int)) (s a : Nat) : Nat -> Nat
  | 0 => 0
  | q + 1 => if s.testBit q = true then zgp rows s a q ||| 2 ^ ((rows.getD q []).getD a 0).toNat else zgp rows s a q
def mvN (d : DFA) (s a : Nat) : Nat := zgp d.next s a d.next.length
theorem zaJ {d : DFA} {m n : Nat} (hd : DfaOk d m n) {q a : Nat} (hq : q < n) (ha : a < m) : ∃ h1 : q < d.next.length, ∃ h2 : a < d.next[q].length, (d.next.getD q []).getD a 0 = d.next[q][a] /\ 0 <= d.next[q][a] /\ d.next[q][a] < n := by
  have h1 : q < d.next.length := by rw [hd.nl]; exact hq
  have hr := hd.row _ (List.getElem_mem h1)
  have h2 : a < d.next[q].length := by rw [hr.1]; exact ha
  exact ⟨h1, h2, by simp [List.getD, h1, h2], hr.2 _ (List.getElem_mem h2)⟩
theorem ziR {d : DFA} {m n : Nat} (hd : DfaOk d m n) {s a : Nat} (ha : a < m) (p : Nat) : ∀ q, q <= n -> ((zgp d.next s a q).testBit p = true ↔ ∃ i, i < q /\ s.testBit i = true /\ ((d.next.getD i []).getD a 0).toNat = p)
  | 0, _ => by simp [zgp]
  | q + 1, hq => by
    have ih := ziR hd (s := s) ha p q (by omega)
    unfold zgp
    by_cases hb : s.testBit q = true
    · rw [if_pos hb, Nat.testBit_or, Bool.or_eq_true, ih, Nat.testBit_two_pow]
      constructor
      · rintro (⟨i, h1, h2, h3⟩ | h)
        · exact ⟨i, by omega, h2, h3⟩
        · exact ⟨q, by omega, hb, by simpa using h⟩
      · rintro ⟨i, h1, h2, h3⟩
        by_cases e : i = q
        · subst e; right; simpa using h3
        · left; exact ⟨i, by omega, h2, h3⟩
    · rw [if_neg hb, ih]
      constructor
      · rintro ⟨i, h1, h2, h3⟩; exact ⟨i, by omega, h2, h3⟩
      · rintro ⟨i, h1, h2, h3⟩
        by_cases e : i = q
        · subst e; exact absurd h2 hb
        · exact ⟨i, by omega, h2, h3⟩
theorem zct {d : DFA} {m n : Nat} (hd : DfaOk d m n) {s a : Nat} (ha : a < m) : ∀ q, q <= n -> zgp d.next s a q < 2 ^ n
  | 0, _ => Nat.two_pow_pos n
  | q + 1, hq => by
    have ih := zct hd (s := s) ha q (by omega)
    unfold zgp
    split
    · obtain ⟨h1, h2, e, h3, h4⟩ := zaJ hd (q := q) (by omega) ha
      refine zqv ih (Nat.pow_lt_pow_right (by omega) ?_)
      rw [e]; omega
    · exact ih
theorem z7x {d : DFA} {m n : Nat} (hd : DfaOk d m n) {s a : Nat} (ha : a < m) (p : Nat) : (mvN d s a).testBit p = true ↔ ∃ i, i < n /\ s.testBit i = true /\ ((d.next.getD i []).getD a 0).toNat = p := by
  unfold mvN; rw [hd.nl]; exact ziR hd ha p n (Nat.le_refl _)
theorem zcu {d : DFA} {m n : Nat} (hd : DfaOk d m n) {s a : Nat} (ha : a < m) : mvN d s a < 2 ^ n := by
  unfold mvN; rw [hd.nl]; exact zct hd ha n (Nat.le_refl _)
theorem zdh {n : Nat} (h : n <= 12) : 2 ^ n <= 4096 := Nat.pow_le_pow_right (n := 2) (by omega) h
theorem zhz {d : DFA} {m n : Nat} (hd : DfaOk d m n) (hn : n <= 12) {s a : Nat} (hs : s < 2 ^ n) (ha : a < m) : z4y d (s : Int) (a : Int) = some ((mvN d s a : Nat) : Int) := by
  have h12 := zdh hn
  unfold z4y mvN
  refine z0K (s := ((0 : Int), (0 : Int))) n (fun q => (((zgp d.next s a q : Nat) : Int), (q : Int))) rfl (by simp only [LFm]; omega) (fun q hq => ?_) ?_
  · have hlt := zct hd (s := s) ha q (by omega)
    obtain ⟨h1, h2, e, h3, h4⟩ := zaJ hd (q := q) hq ha
    simp only [z5p]
    rw [if_pos (by omega), z0S h1]
    simp only [Option.bind_some]
    rw [z0n _ (by omega), z0W (by omega)]
    by_cases hb : s.testBit q = true
    · rw [if_pos ((zd4 (by omega) (by omega)).2 hb), z0S h2]
      simp only [Option.bind_some]
      obtain ⟨v, hv⟩ := Int.eq_ofNat_of_zero_le h3
      rw [z0n _ (by omega), hv, z6y (by omega), zhw (by omega) (Nat.pow_lt_pow_right (by omega) (by omega))]
      simp only [zgp]
      rw [if_pos hb, e, hv, Int.toNat_natCast]
    · rw [if_neg (fun h => hb ((zd4 (by omega) (by omega)).1 h))]
      simp only [zgp]
      rw [if_neg hb]
  · simp only [z5p]
    rw [if_neg (by rw [hd.nl]; omega), hd.nl]
theorem znG {d : DFA} {m n : Nat} (hd : DfaOk d m n) (hn : n <= 12) {s a : Nat} (hs : s < 2 ^ n) (ha : a < m) : z5u d (s : Int) (a : Int) = some ((mvN d s a : Nat) : Int) := by
  have h12 := zdh hn
  unfold z5u mvN
  refine z0K (s := ((0 : Int), (0 : Int))) n (fun q => (((zgp d.next s a q : Nat) : Int), (q : Int))) rfl (by simp only [LFm]; omega) (fun q hq => ?_) ?_
  · have hlt := zct hd (s := s) ha q (by omega)
    obtain ⟨h1, h2, e, h3, h4⟩ := zaJ hd (q := q) hq ha
    simp only [z4H]
    rw [if_pos (by rw [hd.fin]; omega), zpY (by omega), z0n _ (by omega), z0W (by omega)]
    by_cases hb : s.testBit q = true
    · rw [if_pos ((zd4 (by omega) (by omega)).2 hb), z0S h1]
      simp only [Option.bind_some]
      rw [z0S h2]
      simp only [Option.bind_some]
      obtain ⟨v, hv⟩ := Int.eq_ofNat_of_zero_le h3
      rw [hv, zpY (by omega), z0n _ (by omega), z6y (by omega), zhw (by omega) (Nat.pow_lt_pow_right (by omega) (by omega))]
      simp only [zgp]
      rw [if_pos hb, e, hv, Int.toNat_natCast]
    · rw [if_neg (fun h => hb ((zd4 (by omega) (by omega)).1 h))]
      simp only [zgp]
      rw [if_neg hb]
  · simp only [z4H]
    rw [if_neg (by rw [hd.fin]; omega), hd.nl]
end
section
open Go
set_option maxRecDepth 100000
def zrs (d : DFA) (r : List Int) : Bool := decide ((r.length : Int) = d.letters) && r.all fun x => decide (0 <= x /\ x < (d.final.length : Int))
def zdB (d : DFA) : Bool := decide (d.next.length = d.final.length) && decide (0 <= d.start /\ d.start < (d.final.length : Int)) && d.next.all (zrs d)
def zro (d : DFA) : Int := if d.letters < 1 ∨ 6 < d.letters then 1 else if 512 < d.final.length then 3 else if zdB d = true then 0 else 4
def ztc (d : DFA) : Prop := d.final.length < 2 ^ 61 /\ d.next.length < 2 ^ 61 /\ ∀ r ∈ d.next, r.length < 2 ^ 61
theorem znT {d : DFA} (hc : ztc d) : z0o (z3X d) LFm 0 = some (if d.next.all (zrs d) = true then 0 else 4) := by
  rw [zcB (l := d.next) ([] : List Int) (zrs d) (A := some 4) (B := some 0) (by have := hc.2.1; omega) (fun k hk => ?_) ?_]
  · split <;> rfl
  · simp only [z3X]
    rw [if_neg (by omega)]
  · simp only [z3X]
    have hkl := hc.2.1
    have hrl := hc.2.2 _ (List.getElem_mem hk)
    rw [if_pos (by omega), z0S hk]
    simp only [Option.bind_some, List.getD, List.getElem?_eq_getElem hk, Option.getD_some]
    by_cases hl : (d.next[k].length : Int) = d.letters
    · rw [if_pos hl]
      rw [zcB (l := d.next[k]) (0 : Int) (fun x => decide (0 <= x /\ x < (d.final.length : Int))) (A := z0k (some 4)) (B := z0e ((k + 1 : Nat) : Int)) (by omega) (fun j hj => ?_) ?_]
      · simp only [zrs, hl, decide_true, Bool.true_and]
      · simp only [z4x]
        rw [if_neg (by omega), z0W (by omega)]
      · simp only [z4x]
        rw [if_pos (by omega), z0S hj]
        simp only [Option.bind_some, List.getD, List.getElem?_eq_getElem hj, Option.getD_some]
        by_cases h1 : d.next[k][j] < 0
        · rw [if_pos h1, if_neg (by simp; omega)]
        · rw [if_neg h1]
          by_cases h2 : (d.final.length : Int) <= d.next[k][j]
          · rw [if_pos h2, if_neg (by simp; omega)]
          · rw [if_neg h2, if_pos (by simp; omega), z0W (by omega)]
    · rw [if_neg hl]
      rw [if_neg (by simp [zrs, hl])]
theorem znf {d : DFA} (hc : ztc d) : z5B d = some (zro d) := by
  unfold z5B zro
  by_cases h1 : d.letters < 1
  · rw [if_pos h1, if_pos (.inl h1)]
  rw [if_neg h1]
  by_cases h2 : 6 < d.letters
  · rw [if_pos h2, if_pos (.inr h2)]
  have hno : ¬ (d.letters < 1 ∨ 6 < d.letters) := by omega
  rw [if_neg h2, if_neg hno]
  by_cases h3 : 512 < (d.final.length : Int)
  · have h3' : 512 < d.final.length := by omega
    rw [if_pos h3, if_pos h3']
  have h3' : ¬ 512 < d.final.length := by omega
  rw [if_neg h3, if_neg h3']
  by_cases h4 : (d.next.length : Int) = (d.final.length : Int)
  · rw [if_pos h4]
    by_cases h5 : d.start < 0
    · rw [if_pos h5, if_neg (by simp [zdB]; omega)]
    rw [if_neg h5]
    by_cases h6 : (d.final.length : Int) <= d.start
    · rw [if_pos h6, if_neg (by simp [zdB]; omega)]
    rw [if_neg h6, znT hc]
    congr 1
    have e1 : decide (d.next.length = d.final.length) = true := by simp; omega
    have e2 : decide (0 <= d.start /\ d.start < (d.final.length : Int)) = true := by simp; omega
    simp only [zdB, e1, e2, Bool.true_and]
  · rw [if_neg h4, if_neg (by simp [zdB]; omega)]
def zsZ (d : DFA) : Int := if zro d = 0 then (if 12 < d.final.length then 3 else 0) else zro d
theorem zbM {d : DFA} (hc : ztc d) : z3v d = some (zsZ d) := by
  unfold z3v zsZ
  rw [znf hc]
  simp only [Option.bind_some]
  split
  · split
    · rw [if_pos (by omega)]
    · rw [if_neg (by omega)]
  · rfl
theorem zrE {d : DFA} {m n : Nat} (hd : DfaOk d m n) (hn : n <= 512) : zro d = 0 := by
  have h1 := hd.lt
  have h2 := hd.m1
  have h3 := hd.m6
  have hf := hd.fin
  have hl := hd.nl
  unfold zro
  rw [if_neg (by omega), if_neg (by omega), if_pos]
  have e1 : decide (d.next.length = d.final.length) = true := by simp; omega
  have e2 : decide (0 <= d.start /\ d.start < (d.final.length : Int)) = true := by have := hd.s0; have := hd.s1; simp; omega
  simp only [zdB, e1, e2, Bool.true_and, List.all_eq_true]
  intro r hr
  obtain ⟨a, b⟩ := hd.row r hr
  have e3 : decide ((r.length : Int) = d.letters) = true := by simp; omega
  simp only [zrs, e3, Bool.true_and, List.all_eq_true, decide_eq_true_eq]
  intro x hx
  have := b x hx
  omega
theorem zpC {d : DFA} {m n : Nat} (hd : DfaOk d m n) (hn : n <= 12) : zsZ d = 0 := by
  have hf := hd.fin
  unfold zsZ
  rw [zrE hd (by omega), if_pos rfl, if_neg (by omega)]
theorem zpN {d : DFA} {m n : Nat} (hd : DfaOk d m n) (hn : n <= 12) : ztc d := ⟨by rw [hd.fin]; omega, by rw [hd.nl]; omega, fun r hr => by have := (hd.row r hr).1; have := hd.m6; omega⟩
def z6l (m : Int) (c : UInt8) : Bool := decide (97 <= c.toNat) && decide ((c.toNat : Int) < 97 + m)
theorem zao {k : Nat} (h : 97 <= k) (h2 : k < 256) : IntKind.i64.wrap (IntKind.u8.wrap ((k : Int) - 97)) = ((k - 97 : Nat) : Int) := by
  rw [zpZ (by omega) (by omega), z1N (by omega) (by omega)]; omega
theorem z8h {w : ByteArray} {k : Nat} (h : k < w.size) : w[k] = w.data.toList.getD k 0 := by
  have h' : k < w.data.toList.length := by rw [Array.length_toList]; exact h
  rw [List.getD, List.getElem?_eq_getElem h', Option.getD_some, Array.getElem_toList]
  rfl
def zdV (m : Nat) (w : ByteArray) : Prop := w.size <= 2048 /\ ∀ c ∈ w.data.toList, 97 <= c.toNat /\ c.toNat < 97 + m
instance (m : Nat) (w : ByteArray) : Decidable (zdV m w) := by unfold zdV; exact inferInstance
theorem zoT {d : DFA} {m n : Nat} (hd : DfaOk d m n) (hn : n <= 12) (s : Int) : z5z d s = some (decide (0 <= s /\ s < ((2 ^ n : Nat) : Int))) := by
  unfold z5z
  rw [hd.fin]
  by_cases h : 0 <= s
  · rw [if_pos h, z0n _ (by omega), z6y (by omega)]
    congr 1
    rw [Bool.eq_iff_iff]; simp only [decide_eq_true_eq]; omega
  · rw [if_neg h]
    congr 1
    symm
    simp only [decide_eq_false_iff_not]; omega
theorem z9x {r p : Nat} (hr : r < 2 ^ 62) (hp : p < 2 ^ 62) : z2K (r : Int) (p : Int) = some (decide (p &&& r = p)) := by
  unfold z2K
  congr 1
  rw [Bool.eq_iff_iff]; simp only [decide_eq_true_eq]
  exact zi8 hp hr
def z2U (d : DFA) : Nat -> List UInt8 -> Nat
  | s, [] => s
  | s, c :: w => z2U d (mvN d s (c.toNat - 97)) w
theorem z2c (d : DFA) : ∀ (s : Nat) (u v : List UInt8), z2U d s (u ++ v) = z2U d (z2U d s u) v
  | s, [], v => rfl
  | s, c :: u, v => by simp only [List.cons_append, z2U, z2c]
theorem zaI {d : DFA} {m n : Nat} (hd : DfaOk d m n) : ∀ {w : List UInt8} {s : Nat}, s < 2 ^ n -> (∀ c ∈ w, 97 <= c.toNat /\ c.toNat < 97 + m) -> z2U d s w < 2 ^ n
  | [], s, hs, _ => hs
  | c :: w, s, hs, hw => by
    have hc := hw c (List.mem_cons_self ..)
    exact zaI (w := w) (s := mvN d s (c.toNat - 97)) hd (zcu hd (by omega)) fun c' hc' => hw c' (List.mem_cons_of_mem _ hc')
theorem z9O {α : Type} {l : List α} {k : Nat} (h : k < l.length) : l.take (k + 1) = l.take k ++ [l[k]] := by rw [List.take_succ_eq_append_getElem h]
theorem zrl {d : DFA} {m n : Nat} (hd : DfaOk d m n) (hn : n <= 12) {s : Nat} (hs : s < 2 ^ n) {w : ByteArray} (hw : zdV m w) : z6W d (s : Int) w = some ((z2U d s w.data.toList : Nat) : Int) := by
  have hl : w.data.toList.length = w.size := by rw [Array.length_toList]; rfl
  have h48 := hw.1
  unfold z6W
  refine z0K (s := ((s : Int), (0 : Int))) w.size (fun k => (((z2U d s (w.data.toList.take k) : Nat) : Int), (k : Int))) rfl (by simp only [LFm]; omega) (fun k hk => ?_) ?_
  · have hk' : k < w.data.toList.length := by omega
    have hc := hw.2 _ (List.getElem_mem hk')
    have hb : w[k] = w.data.toList[k] := by rw [z8h hk, List.getD, List.getElem?_eq_getElem hk', Option.getD_some]
    have h256 : w[k].toNat < 256 := w[k].toNat_lt
    simp only [z5L]
    rw [if_pos (by omega), zam hk]
    simp only [Option.bind_some]
    rw [hb] at *
    rw [zao hc.1 h256, znG hd hn (zaI hd hs fun c hc => hw.2 c (List.mem_of_mem_take hc)) (by omega)]
    simp only [Option.bind_some]
    rw [z0W (by omega), z9O hk', z2c]
    rfl
  · simp only [z5L]
    rw [if_neg (by omega), ← hl, List.take_length]
theorem zh0 {d : DFA} {m n : Nat} (hd : DfaOk d m n) (hn : n <= 12) {s : Nat} (hs : s < 2 ^ n) {w : ByteArray} (hw : zdV m w) : z0o (z3V d w) LFm ((s : Int), 0) = some (((z2U d s w.data.toList : Nat) : Int), 0) := by
  have hl : w.data.toList.length = w.size := by rw [Array.length_toList]; rfl
  have h48 := hw.1
  refine z0K (s := ((s : Int), (0 : Int))) w.size (fun k => (((z2U d s (w.data.toList.take k) : Nat) : Int), (k : Int))) rfl (by simp only [LFm]; omega) (fun k hk => ?_) ?_
  · have hk' : k < w.data.toList.length := by omega
    have hc := hw.2 _ (List.getElem_mem hk')
    have hb : w[k] = w.data.toList[k] := by rw [z8h hk, List.getD, List.getElem?_eq_getElem hk', Option.getD_some]
    have h256 : w[k].toNat < 256 := w[k].toNat_lt
    simp only [z3V]
    rw [if_pos (by omega), zam hk]
    simp only [Option.bind_some]
    rw [hb] at *
    rw [zao hc.1 h256, zhz hd hn (zaI hd hs fun c hc => hw.2 c (List.mem_of_mem_take hc)) (by omega)]
    simp only [Option.bind_some]
    rw [z0W (by omega), z9O hk', z2c]
    rfl
  · simp only [z3V]
    rw [if_neg (by omega), ← hl, List.take_length]
end
section
open Go
set_option maxRecDepth 100000
def ziX (a : Nat) : ByteArray := ⟨#[UInt8.ofNat (97 + a)]⟩
abbrev RS := List Nat × List ByteArray
def zde (d : DFA) (i a : Nat) (st : RS) : RS := if mvN d (st.1.getD i 0) a ∈ st.1 then st else (st.1 ++ [mvN d (st.1.getD i 0) a], st.2 ++ [st.2.getD i ByteArray.empty ++ ziX a])
def z7y (d : DFA) (i : Nat) (st : RS) : Nat -> RS
  | 0 => st
  | a + 1 => zde d i a (z7y d i st a)
def z5F (d : DFA) (m s : Nat) : Nat -> RS
  | 0 => ([s], [ByteArray.empty])
  | k + 1 => if k < (z5F d m s k).1.length then z7y d k (z5F d m s k) m else z5F d m s k
structure RInv (d : DFA) (m n s : Nat) (st : RS) : Prop where
  nd : st.1.Nodup
  lt : ∀ x ∈ st.1, x < 2 ^ n
  len : st.2.length = st.1.length
  f0 : st.1[0]? = some s
  w0 : st.2[0]? = some ByteArray.empty
  ok : ∀ i, i < st.1.length -> (st.2.getD i ByteArray.empty).size <= i /\ (∀ c ∈ (st.2.getD i ByteArray.empty).data.toList, 97 <= c.toNat /\ c.toNat < 97 + m) /\ z2U d s (st.2.getD i ByteArray.empty).data.toList = st.1.getD i 0
theorem z3G {α : Type} {l r : List α} {i : Nat} (d : α) (h : i < l.length) : (l ++ r).getD i d = l.getD i d := by
  rw [List.getD, List.getD, List.getElem?_append_left h]
theorem z6s {α : Type} {l : List α} {x d : α} {i : Nat} (h : i = l.length) : (l ++ [x]).getD i d = x := by
  subst h; simp [List.getD]
theorem z0h {l : List Nat} {i : Nat} (h : i < l.length) : l.getD i 0 ∈ l := by
  rw [List.getD, List.getElem?_eq_getElem h]; exact List.getElem_mem h
theorem z9t {α : Type} : ∀ {l r : List α}, l.Nodup -> (∀ x ∈ l, x ∈ r) -> l.length <= r.length
  | [], r, _, _ => by simp
  | x :: l, r, hn, hs => by
    obtain ⟨a, b, rfl⟩ := List.append_of_mem (hs x (List.mem_cons_self ..))
    have hn' := List.nodup_cons.1 hn
    have := z9t (r := a ++ b) hn'.2 fun y hy => by
      have h1 := hs y (List.mem_cons_of_mem _ hy)
      have hne : y ≠ x := fun e => hn'.1 (e ▸ hy)
      rcases List.mem_append.1 h1 with h | h
      · exact List.mem_append.2 (.inl h)
      · rcases List.mem_cons.1 h with h | h
        · exact absurd h hne
        · exact List.mem_append.2 (.inr h)
    simp only [List.length_cons, List.length_append] at *
    omega
theorem z1C {l : List Nat} {N : Nat} (hn : l.Nodup) (hl : ∀ x ∈ l, x < N) : l.length <= N := by
  have := z9t hn (r := List.range N) fun x hx => List.mem_range.2 (hl x hx)
  simpa using this
theorem z6n (a : Nat) : (ziX a).data.toList = [UInt8.ofNat (97 + a)] := rfl
theorem z6F (u v : ByteArray) : (u ++ v).data.toList = u.data.toList ++ v.data.toList := by simp
theorem zbH (u v : ByteArray) : (u ++ v).size = u.size + v.size := by simp
theorem z6m (a : Nat) : (ziX a).size = 1 := rfl
theorem z8F {a : Nat} (h : a < 26) : (UInt8.ofNat (97 + a)).toNat = 97 + a := by simp [UInt8.toNat_ofNat']; omega
theorem zof {d : DFA} {m n s : Nat} (hd : DfaOk d m n) {st : RS} (h : RInv d m n s st) {i a : Nat} (hi : i < st.1.length) (ha : a < m) :
    RInv d m n s (zde d i a st) /\ mvN d (st.1.getD i 0) a ∈ (zde d i a st).1 /\ ∃ S W, (zde d i a st).1 = st.1 ++ S /\ (zde d i a st).2 = st.2 ++ W := by
  have hm6 := hd.m6
  unfold zde
  split
  · rename_i hm
    exact ⟨h, hm, [], [], by simp, by simp⟩
  · rename_i hm
    obtain ⟨o1, o2, o3⟩ := h.ok i hi
    refine ⟨⟨?_, ?_, by simp [h.len], ?_, ?_, ?_⟩, by simp, _, _, rfl, rfl⟩
    · refine List.nodup_append.2 ⟨h.nd, by simp, fun x hx y hy => ?_⟩
      obtain rfl : y = _ := by simpa using hy
      exact fun e => hm (e ▸ hx)
    · intro x hx
      rcases List.mem_append.1 hx with hx | hx
      · exact h.lt x hx
      · obtain rfl : x = _ := by simpa using hx
        exact zcu hd ha
    · rw [List.getElem?_append_left (by omega)]; exact h.f0
    · rw [List.getElem?_append_left (by rw [h.len]; omega)]; exact h.w0
    · intro j hj
      simp only [List.length_append, List.length_singleton] at hj
      by_cases e : j = st.1.length
      · rw [z6s e, z6s (by rw [h.len]; exact e), zbH, z6F, z6n, z6m, z2c, o3]
        refine ⟨by omega, fun c hc => ?_, ?_⟩
        · rcases List.mem_append.1 hc with hc | hc
          · exact o2 c hc
          · obtain rfl := List.mem_singleton.1 hc
            rw [z8F (by omega)]; omega
        · simp only [z2U]
          rw [z8F (by omega), Nat.add_sub_cancel_left]
      · rw [z3G _ (show j < st.2.length by rw [h.len]; omega), z3G _ (show j < st.1.length by omega)]
        exact h.ok j (by omega)
theorem zcK {d : DFA} {m n s : Nat} (hd : DfaOk d m n) {st : RS} (h : RInv d m n s st) {i : Nat} (hi : i < st.1.length) : ∀ a, a <= m ->
    RInv d m n s (z7y d i st a) /\ (∀ b, b < a -> mvN d (st.1.getD i 0) b ∈ (z7y d i st a).1) /\ (∃ S W, (z7y d i st a).1 = st.1 ++ S /\ (z7y d i st a).2 = st.2 ++ W)
  | 0, _ => ⟨h, fun b hb => by omega, [], [], by simp [z7y], by simp [z7y]⟩
  | a + 1, ha => by
    obtain ⟨h1, h2, S, W, h3, h4⟩ := zcK hd h hi a (by omega)
    have hi' : i < (z7y d i st a).1.length := by rw [h3, List.length_append]; omega
    obtain ⟨k1, k2, S', W', k3, k4⟩ := zof hd h1 hi' (show a < m by omega)
    have e : (z7y d i st a).1.getD i 0 = st.1.getD i 0 := by rw [h3, z3G _ hi]
    rw [e] at k2
    refine ⟨k1, fun b hb => ?_, S ++ S', W ++ W', by rw [z7y, k3, h3, List.append_assoc], by rw [z7y, k4, h4, List.append_assoc]⟩
    by_cases hb' : b = a
    · subst hb'; exact k2
    · rw [z7y, k3]; exact List.mem_append.2 (.inl (h2 b (by omega)))
theorem z7M {d : DFA} {m n s : Nat} (hd : DfaOk d m n) (hs : s < 2 ^ n) : ∀ k, RInv d m n s (z5F d m s k) /\ ∀ j, j < k -> j < (z5F d m s k).1.length -> ∀ a, a < m -> mvN d ((z5F d m s k).1.getD j 0) a ∈ (z5F d m s k).1
  | 0 => ⟨⟨by simp [z5F], by simpa [z5F] using hs, rfl, rfl, rfl, fun i hi => by
      obtain rfl : i = 0 := by simpa [z5F] using hi
      exact ⟨Nat.le_refl _, fun c hc => by simp [z5F, List.getD] at hc, rfl⟩⟩, fun j hj => by omega⟩
  | k + 1 => by
    obtain ⟨h1, h2⟩ := z7M hd hs k
    unfold z5F
    split
    · rename_i hk
      obtain ⟨k1, k2, S, W, k3, k4⟩ := zcK hd h1 hk m (Nat.le_refl _)
      refine ⟨k1, fun j hj hjl a ha => ?_⟩
      by_cases e : j = k
      · subst e
        have := k2 a ha
        rwa [show (z7y d j (z5F d m s j) m).1.getD j 0 = (z5F d m s j).1.getD j 0 by rw [k3, z3G _ hk]]
      · have hj' : j < (z5F d m s k).1.length := by omega
        have := h2 j (by omega) hj' a ha
        rw [show (z7y d k (z5F d m s k) m).1.getD j 0 = (z5F d m s k).1.getD j 0 by rw [k3, z3G _ hj'], k3]
        exact List.mem_append.2 (.inl this)
    · rename_i hk
      exact ⟨h1, fun j hj hjl a ha => h2 j (by omega) hjl a ha⟩
theorem zhn {d : DFA} {m n s : Nat} (hd : DfaOk d m n) (hs : s < 2 ^ n) (k : Nat) : (z5F d m s k).1.length <= 2 ^ n := z1C (z7M hd hs k).1.nd (z7M hd hs k).1.lt
theorem zeo {d : DFA} {m s : Nat} {k : Nat} (h : ¬ k < (z5F d m s k).1.length) : ∀ j, k <= j -> z5F d m s j = z5F d m s k
  | 0, hj => by
    obtain rfl : k = 0 := by omega
    rfl
  | j + 1, hj => by
    by_cases e : k = j + 1
    · rw [e]
    · have ih := zeo h j (by omega)
      rw [z5F, ih, if_neg (by omega)]
def z0L (d : DFA) (m n s : Nat) : RS := z5F d m s (2 ^ n)
theorem zb6 {d : DFA} {m n s : Nat} (hd : DfaOk d m n) (hs : s < 2 ^ n) {x a : Nat} (hx : x ∈ (z0L d m n s).1) (ha : a < m) : mvN d x a ∈ (z0L d m n s).1 := by
  obtain ⟨i, hi, rfl⟩ := List.getElem_of_mem hx
  have hl := zhn hd hs (2 ^ n)
  have := (z7M hd hs (2 ^ n)).2 i (by unfold z0L at hi; omega) hi a ha
  have e : (z5F d m s (2 ^ n)).1.getD i 0 = (z0L d m n s).1[i] := by
    show (z0L d m n s).1.getD i 0 = _
    rw [List.getD, List.getElem?_eq_getElem hi, Option.getD_some]
  rw [e] at this
  exact this
theorem z4I {d : DFA} {m n s : Nat} (hd : DfaOk d m n) (hs : s < 2 ^ n) : RInv d m n s (z0L d m n s) := (z7M hd hs _).1
def toI (l : List Nat) : List Int := l.map fun x => ((x : Nat) : Int)
theorem z0d (l : List Nat) : (toI l).length = l.length := by simp [toI]
theorem z5j (l : List Nat) (x : Nat) : toI (l ++ [x]) = toI l ++ [((x : Nat) : Int)] := by simp [toI]
theorem z2f {l : List Nat} {i : Nat} (h : i < l.length) : atI (toI l) (i : Int) = some ((l.getD i 0 : Nat) : Int) := by
  rw [z0S (by rw [z0d]; exact h)]
  simp [toI, List.getD, h]
theorem zqe {l : List ByteArray} {i : Nat} (h : i < l.length) : atI l (i : Int) = some (l.getD i ByteArray.empty) := by
  rw [z0S h, List.getD, List.getElem?_eq_getElem h, Option.getD_some]
def zgq (n : Nat) (S : List Nat) : List Bool := (List.range (2 ^ n)).map fun x => decide (x ∈ S)
theorem zsf {n : Nat} {S : List Nat} {x : Nat} (h : x < 2 ^ n) : atI (zgq n S) (x : Int) = some (decide (x ∈ S)) := by
  rw [z0S (by simpa [zgq] using h)]; simp [zgq]
theorem zmz {n : Nat} {S : List Nat} {x : Nat} : (zgq n S).set x true = zgq n (S ++ [x]) := by
  apply List.ext_getElem (by simp [zgq])
  intro i h1 h2
  simp only [zgq, List.getElem_set, List.getElem_map, List.getElem_range, List.mem_append, List.mem_singleton]
  by_cases e : x = i
  · subst e; simp
  · rw [if_neg e]
    have : ¬ i = x := fun h => e h.symm
    simp [this]
theorem zmA {n s : Nat} : (List.replicate (2 ^ n) false).set s true = zgq n [s] := by
  have : List.replicate (2 ^ n) false = zgq n [] := by
    apply List.ext_getElem (by simp [zgq])
    intro i h1 h2
    simp [zgq]
  rw [this, zmz]; rfl
def ztK (S : List Nat) : List (Int × Bool) := S.map fun x => (((x : Nat) : Int), true)
theorem map_set {x : Nat} : ∀ {S : List Nat}, x ∉ S -> z9R ((x : Nat) : Int) true (ztK S) = ztK (S ++ [x])
  | [], _ => rfl
  | y :: S, h => by
    have ih := map_set (x := x) (S := S) (fun hh => h (List.mem_cons_of_mem _ hh))
    have hne : y ≠ x := fun e => h (by simp [e])
    simp only [ztK, List.map_cons, z9R, List.cons_append]
    rw [if_neg (by omega)]
    congr 1
theorem zhI {a : Nat} (h : a < 26) : (⟨#[UInt8.ofNat (IntKind.u8.wrap (IntKind.i64.wrap (97 + (a : Int)))).toNat]⟩ : ByteArray) = ziX a := by
  rw [z1N (by omega) (by omega), zpZ (by omega) (by omega)]
  have : (97 + (a : Int)).toNat = 97 + a := by omega
  rw [this]; rfl
theorem zhM {d : DFA} {m n s : Nat} (hd : DfaOk d m n) (hn : n <= 12) {st : RS} (h : RInv d m n s st) {i : Nat} (hi : i < st.1.length) :
    z0o (z3U d i) LFm (0, zgq n st.1, toI st.1, st.2) = z0e (((i + 1 : Nat) : Int), zgq n (z7y d i st m).1, toI (z7y d i st m).1, (z7y d i st m).2) := by
  have h12 := zdh hn
  have hm6 := hd.m6
  have hl := z1C h.nd h.lt
  refine z0K (s := ((0 : Int), zgq n st.1, toI st.1, st.2)) m (fun a => ((a : Int), zgq n (z7y d i st a).1, toI (z7y d i st a).1, (z7y d i st a).2)) rfl (by simp only [LFm]; omega) (fun a ha => ?_) ?_
  · obtain ⟨k1, _, S, W, k3, k4⟩ := zcK hd h hi a (by omega)
    have hl2 := z1C k1.nd k1.lt
    have hi' : i < (z7y d i st a).1.length := by rw [k3, List.length_append]; omega
    have hx : (z7y d i st a).1.getD i 0 < 2 ^ n := k1.lt _ (z0h hi')
    obtain ⟨o1, _, _⟩ := k1.ok i hi'
    simp only [z3U]
    rw [if_pos (by rw [hd.lt]; omega), z2f hi']
    simp only [Option.bind_some]
    rw [zhz hd hn hx ha]
    simp only [Option.bind_some]
    rw [zsf (zcu hd ha)]
    simp only [Option.bind_some, decide_eq_true_eq]
    rw [z0W (by omega), z7y]
    unfold zde
    have hml := zcu hd (s := (z7y d i st a).1.getD i 0) ha
    have hlt := hd.lt
    clear hd h k3 k4
    revert hml
    generalize z7y d i st a = st' at *
    generalize mvN d (st'.1.getD i 0) a = x
    intro hml
    by_cases hm : x ∈ st'.1
    · rw [if_pos hm, if_pos hm]
    · rw [if_neg hm, if_neg hm, z0n _ (by unfold z1q; rw [z0d]; omega), zqe (by rw [k1.len]; exact hi'), Option.bind_some]
      rw [zhI (by omega), z0n _ (by unfold z7G; rw [z6m]; omega), z0n _ (by unfold z1q; rw [k1.len]; omega), Int.toNat_natCast, zmz]
      rw [z5j]
  · simp only [z3U]
    rw [if_neg (by rw [hd.lt]; omega), z0W (by omega)]
theorem zov {d : DFA} {m n s : Nat} (hd : DfaOk d m n) (hn : n <= 12) (hs : s < 2 ^ n) : z5y d (s : Int) = some (toI (z0L d m n s).1, (z0L d m n s).2) := by
  have h12 := zdh hn
  have hp := Nat.two_pow_pos n
  unfold z5y
  rw [hd.fin, z0n _ (by omega), z6y (by omega), z0n _ (by unfold z1i; omega), z0n _ (by omega), Int.toNat_natCast, Int.toNat_natCast, zmA]
  refine zez (s := ((0 : Int), zgq n [s], [(s : Int)], [ByteArray.empty])) (fun z => ∃ k : Nat, k <= 2 ^ n /\ z = ((k : Int), zgq n (z5F d m s k).1, toI (z5F d m s k).1, (z5F d m s k).2)) (fun z => 2 ^ n + 1 - z.1.toNat) ⟨0, by omega, rfl⟩ (by simp only [LFm]; omega) ?_
  rintro z ⟨k, hk, rfl⟩
  have hl := zhn hd hs k
  simp only [z6o]
  by_cases h : k < (z5F d m s k).1.length
  · left
    rw [if_pos (by rw [z0d]; omega), zhM hd hn (z7M hd hs k).1 h]
    refine ⟨_, rfl, ⟨k + 1, by omega, ?_⟩, by simp only; omega⟩
    rw [z5F, if_pos h]
  · right
    rw [if_neg (by rw [z0d]; omega)]
    unfold z0L
    rw [zeo h _ hk]
end
section
open Go
set_option maxRecDepth 100000
theorem zpO (x y : Int) : ∃ c, cmp_Compare_int x y = some c /\ (c < 0 ↔ x < y) := by
  simp only [cmp_Compare_int, cmp_isNaN_int, decide_true, Bool.not_true, Option.bind_some, Bool.false_eq_true, if_false]
  by_cases h1 : x < y
  · rw [if_pos h1]; exact ⟨_, rfl, by omega⟩
  · rw [if_neg h1]
    by_cases h2 : y < x
    · rw [if_pos h2]; exact ⟨_, rfl, by omega⟩
    · rw [if_neg h2]; exact ⟨_, rfl, by omega⟩
def kv (K : List Int) (x : Int) : Int := K.getD x.toNat 0
def zw9 (K : List Int) (x : Int) : Prop := 0 <= x /\ x < K.length
abbrev zwt (K : List Int) (l : List Int) : Prop := ∀ x ∈ l, zw9 K x
abbrev zzI (K : List Int) (l : List Int) : Prop := l.Pairwise fun x y => kv K x <= kv K y
def zra (K : List Int) : SrtC where
  cmp x y := z0M x y K
  key x := kv K x * 1048576 + x
  ok x := zw9 K x /\ x < 1048576
  law x y hx hy h := by
    obtain ⟨i, rfl⟩ := Int.eq_ofNat_of_zero_le hx.1.1
    obtain ⟨j, rfl⟩ := Int.eq_ofNat_of_zero_le hy.1.1
    have hi : i < K.length := by have := hx.1.2; omega
    have hj : j < K.length := by have := hy.1.2; omega
    obtain ⟨c, h1, h2⟩ := zpO K[i] K[j]
    refine ⟨c, ?_, ?_⟩
    · unfold z0M
      rw [z0S hi, Option.bind_some, z0S hj, Option.bind_some, h1]; rfl
    · rw [h2]
      have e1 : kv K (i : Int) = K[i] := by simp [kv, List.getD, hi]
      have e2 : kv K (j : Int) = K[j] := by simp [kv, List.getD, hj]
      have := hx.2
      have := hy.2
      omega
theorem ziA : ∀ k, z0g k = fun l a m b K => zpJ k l a m b (zra K)
  | 0 => rfl
  | k + 1 => by
    show z0y (z0g k) = _
    rw [ziA k]
    rfl
theorem zog (l K : List Int) : z0i l K = zt4 l (zra K) := by
  have h9 : z0z = fun a K w => zaR a (zra K) w := by
    unfold z0z
    rw [ziA]
    all_goals rfl
  have h7 : z0A = fun a K => zcP a (zra K) := by
    unfold z0A
    rw [h9]
    all_goals rfl
  have h2 : z0B = fun a K => zcQ a (zra K) := by
    unfold z0B
    rw [h7]
    all_goals rfl
  unfold z0i z0D
  rw [h2]
  all_goals rfl
theorem znA (n : Nat) : ((List.range n).map fun x => ((x : Nat) : Int)).Pairwise (· < ·) := List.Pairwise.map _ (fun a b (h : a < b) => by omega) List.pairwise_lt_range
theorem zm3 {K : List Int} {n : Nat} (hv : zwt K (toI (List.range n))) (hn : (toI (List.range n)).length <= 5000) : ∃ S, z0i (toI (List.range n)) K = some S /\ zzI K S /\ S.Perm (toI (List.range n)) := by
  have hok : ∀ x ∈ toI (List.range n), (zra K).ok x := fun x hx => ⟨hv x hx, by
    rw [z0d, List.length_range] at hn
    obtain ⟨i, hi, rfl⟩ := List.mem_map.1 hx
    have := List.mem_range.1 hi
    omega⟩
  obtain ⟨S, e, h1, h2⟩ := zm4 (K := zra K) hok (znA n) hn
  refine ⟨S, by rw [zog, e], ?_, h2⟩
  refine List.Pairwise.imp_of_mem (fun {x y} hx hy h => ?_) h1
  have o1 := hok x (h2.mem_iff.1 hx)
  have o2 := hok y (h2.mem_iff.1 hy)
  have a1 := o1.1.1
  have a2 := o1.2
  have b1 := o2.1.1
  have b2 := o2.2
  have h3 : kv K x * 1048576 + x <= kv K y * 1048576 + y := h
  show kv K x <= kv K y
  omega
end
section
open Go
noncomputable section
set_option maxRecDepth 100000
set_option maxHeartbeats 6000000
def z1j (a0 : Int) (a1 : Int) (m0 : List Int) (m9 : List Int) (p4 : List Int) (q2 : List (List Int)) (q3 : List ByteArray) (q4 : List ByteArray) (m1 : List (List Int)) : Option (Int) :=
  (atI m1 a1).bind fun v8 =>
  (atI v8 0).bind fun v9 =>
  (atI p4 v9).bind fun v10 =>
  (atI m1 a0).bind fun v11 =>
  (atI v11 0).bind fun v12 =>
  (atI p4 v12).bind fun v13 =>
  (cmp_Compare_int v10 v13).bind fun v14 =>
  some v14
instance holonomy_classes_1_ok {a0 : Int} {a1 : Int} {m0 : List Int} {m9 : List Int} {p4 : List Int} {q2 : List (List Int)} {q3 : List ByteArray} {q4 : List ByteArray} {m1 : List (List Int)} : Ok (z1j a0 a1 m0 m9 p4 q2 q3 q4 m1) (fun r => L 58 [.sc (.int .i64 a0), .sc (.int .i64 a1), .pr [.sl m0.length (m0.map fun x0 => .sc (.int .i64 x0)), .sl m9.length (m9.map fun x0 => .sc (.int .i64 x0)), .sl p4.length (p4.map fun x0 => .sc (.int .i64 x0)), .sl q2.length (q2.map fun x0 => .sl x0.length (x0.map fun x1 => .sc (.int .i64 x1))), .sl q3.length (q3.map fun x0 => .sc (.string x0)), .sl q4.length (q4.map fun x0 => .sc (.string x0))], .pr [.sl m1.length (m1.map fun x0 => .sl x0.length (x0.map fun x1 => .sc (.int .i64 x1)))]] = some (.sc (.int .i64 r), [.dead, .dead, .dead, .dead])) := ⟨fun r h => by have h := z4c h; unfold z1j at h; exact z4E zvp zxg zzc⟩
abbrev z1f (a1 : Int) (n7 : List Int) (n8 : List Int) (n9 : List Int) (p0 : List (List Int)) (p1 : List ByteArray) (p2 : List ByteArray) (p3 : List (List Int)) (w95 : Int) : Int × List Int -> Option ((Int × List Int) ⊕ ((Int × List Int) ⊕ List Int))
  | (w127, w128) =>
  if a1 < w127 then
    (atI w128 w127).bind fun v136 =>
    (atI w128 (IntKind.i64.wrap (w127 - 1))).bind fun v137 =>
    (z1j v136 v137 n7 n8 n9 p0 p1 p2 p3).bind fun v138 =>
    if v138 < 0 then
      (atI (w128.set w127.toNat v137) (IntKind.i64.wrap (w127 - 1))).bind fun v142 =>
      z0e (IntKind.i64.wrap (w127 - 1), ((w128.set w127.toNat v137).set (IntKind.i64.wrap (w127 - 1)).toNat v136))
    else
      z0k <|
      z0e (IntKind.i64.wrap (w95 + 1), w128)
  else
    z0k <|
    z0e (IntKind.i64.wrap (w95 + 1), w128)
instance {a1 : Int} {n7 : List Int} {n8 : List Int} {n9 : List Int} {p0 : List (List Int)} {p1 : List ByteArray} {p2 : List ByteArray} {p3 : List (List Int)} {w95 : Int} : Hd (z1f a1 n7 n8 n9 p0 p1 p2 p3 w95) := ⟨fun (w127, w128) => ([(9, xI w127)], [(0, .os 1 w128.length (w128.map fun x0 => .sc (.int .i64 x0)))])⟩
abbrev z1g (a1 : Int) (a2 : Int) (n7 : List Int) (n8 : List Int) (n9 : List Int) (p0 : List (List Int)) (p1 : List ByteArray) (p2 : List ByteArray) (p3 : List (List Int)) : Int × List Int -> Option ((Int × List Int) ⊕ List Int)
  | (w95, w96) =>
  if w95 < a2 then
    z0o (z1f a1 n7 n8 n9 p0 p1 p2 p3 w95) LFm (w95, w96)
  else
    z0k <|
    some w96
instance {a1 : Int} {a2 : Int} {n7 : List Int} {n8 : List Int} {n9 : List Int} {p0 : List (List Int)} {p1 : List ByteArray} {p2 : List ByteArray} {p3 : List (List Int)} : Hd (z1g a1 a2 n7 n8 n9 p0 p1 p2 p3) := ⟨fun (w95, w96) => ([(8, xI w95)], [(0, .os 1 w96.length (w96.map fun x0 => .sc (.int .i64 x0)))])⟩
def z0C (a0 : List Int) (a1 : Int) (a2 : Int) (n7 : List Int) (n8 : List Int) (n9 : List Int) (p0 : List (List Int)) (p1 : List ByteArray) (p2 : List ByteArray) (p3 : List (List Int)) : Option (List Int) :=
  z0o (z1g a1 a2 n7 n8 n9 p0 p1 p2 p3) LFm (IntKind.i64.wrap (a1 + 1), a0)
instance slices_insertionSortCmpFunc_int_holonomy_classes_1_ok {a0 : List Int} {a1 : Int} {a2 : Int} {n7 : List Int} {n8 : List Int} {n9 : List Int} {p0 : List (List Int)} {p1 : List ByteArray} {p2 : List ByteArray} {p3 : List (List Int)} : Ok (z0C a0 a1 a2 n7 n8 n9 p0 p1 p2 p3) (fun r => L 98 [.os 1 a0.length (a0.map fun x0 => .sc (.int .i64 x0)), .sc (.int .i64 a1), .sc (.int .i64 a2), .cl 58 [.pr [.sl n7.length (n7.map fun x0 => .sc (.int .i64 x0)), .sl n8.length (n8.map fun x0 => .sc (.int .i64 x0)), .sl n9.length (n9.map fun x0 => .sc (.int .i64 x0)), .sl p0.length (p0.map fun x0 => .sl x0.length (x0.map fun x1 => .sc (.int .i64 x1))), .sl p1.length (p1.map fun x0 => .sc (.string x0)), .sl p2.length (p2.map fun x0 => .sc (.string x0))], .pr [.sl p3.length (p3.map fun x0 => .sl x0.length (x0.map fun x1 => .sc (.int .i64 x1)))]]] = some (.tup [], [.os 1 r.length (r.map fun x0 => .sc (.int .i64 x0)), .dead, .dead, .dead])) := ⟨fun r h => by have h := z4c h; unfold z0C at h; exact z4E zsJ zwh zwo⟩
abbrev z1u (a1 : Int) (a2 : Int) (a3 : Int) : Int × List Int -> Option ((Int × List Int) ⊕ List Int)
  | (w19, w20) =>
  if w19 < a3 then
    (atI w20 (IntKind.i64.wrap (a2 + w19))).bind fun v25 =>
    (atI w20 (IntKind.i64.wrap (a1 + w19))).bind fun v26 =>
    (atI (w20.set (IntKind.i64.wrap (a1 + w19)).toNat v25) (IntKind.i64.wrap (a2 + w19))).bind fun v28 =>
    z0e (IntKind.i64.wrap (w19 + 1), ((w20.set (IntKind.i64.wrap (a1 + w19)).toNat v25).set (IntKind.i64.wrap (a2 + w19)).toNat v26))
  else
    z0k <|
    some w20
instance {a1 : Int} {a2 : Int} {a3 : Int} : Hd (z1u a1 a2 a3) := ⟨fun (w19, w20) => ([(10, xI w19)], [(0, .os 1 w20.length (w20.map fun x0 => .sc (.int .i64 x0)))])⟩
def z0x (a0 : List Int) (a1 : Int) (a2 : Int) (a3 : Int) (m2 : List Int) (m3 : List Int) (m4 : List Int) (m5 : List (List Int)) (m6 : List ByteArray) (m7 : List ByteArray) (m8 : List (List Int)) : Option (List Int) :=
  z0o (z1u a1 a2 a3) LFm (0, a0)
instance slices_swapRangeCmpFunc_int_holonomy_classes_1_ok {a0 : List Int} {a1 : Int} {a2 : Int} {a3 : Int} {m2 : List Int} {m3 : List Int} {m4 : List Int} {m5 : List (List Int)} {m6 : List ByteArray} {m7 : List ByteArray} {m8 : List (List Int)} : Ok (z0x a0 a1 a2 a3 m2 m3 m4 m5 m6 m7 m8) (fun r => L 123 [.os 1 a0.length (a0.map fun x0 => .sc (.int .i64 x0)), .sc (.int .i64 a1), .sc (.int .i64 a2), .sc (.int .i64 a3), .cl 58 [.pr [.sl m2.length (m2.map fun x0 => .sc (.int .i64 x0)), .sl m3.length (m3.map fun x0 => .sc (.int .i64 x0)), .sl m4.length (m4.map fun x0 => .sc (.int .i64 x0)), .sl m5.length (m5.map fun x0 => .sl x0.length (x0.map fun x1 => .sc (.int .i64 x1))), .sl m6.length (m6.map fun x0 => .sc (.string x0)), .sl m7.length (m7.map fun x0 => .sc (.string x0))], .pr [.sl m8.length (m8.map fun x0 => .sl x0.length (x0.map fun x1 => .sc (.int .i64 x1)))]]] = some (.tup [], [.os 1 r.length (r.map fun x0 => .sc (.int .i64 x0)), .dead, .dead, .dead, .dead])) := ⟨fun r h => by have h := z4c h; unfold z0x at h; exact z4E zpS zsw zsP⟩
abbrev z1F (a2 : Int) (m2 : List Int) (m3 : List Int) (m4 : List Int) (m5 : List (List Int)) (m6 : List ByteArray) (m7 : List ByteArray) (m8 : List (List Int)) : Int × Int × List Int -> Option ((Int × Int × List Int) ⊕ List Int)
  | (w13, w15, w14) =>
  if w13 = w15 then
    z0k <|
    (z0x w14 (IntKind.i64.wrap (a2 - w13)) a2 w13 m2 m3 m4 m5 m6 m7 m8).bind fun v18 =>
    some v18
  else
    if w15 < w13 then
      (z0x w14 (IntKind.i64.wrap (a2 - w13)) a2 w15 m2 m3 m4 m5 m6 m7 m8).bind fun v19 =>
      z0e (IntKind.i64.wrap (w13 - w15), w15, v19)
    else
      (z0x w14 (IntKind.i64.wrap (a2 - w13)) (IntKind.i64.wrap ((IntKind.i64.wrap (a2 + w15)) - w13)) w13 m2 m3 m4 m5 m6 m7 m8).bind fun v20 =>
      z0e (w13, IntKind.i64.wrap (w15 - w13), v20)
instance {a2 : Int} {m2 : List Int} {m3 : List Int} {m4 : List Int} {m5 : List (List Int)} {m6 : List ByteArray} {m7 : List ByteArray} {m8 : List (List Int)} : Hd (z1F a2 m2 m3 m4 m5 m6 m7 m8) := ⟨fun (w13, w15, w14) => ([(10, xI w13), (11, xI w15)], [(0, .os 1 w14.length (w14.map fun x0 => .sc (.int .i64 x0)))])⟩
def z0P (a0 : List Int) (a1 : Int) (a2 : Int) (a3 : Int) (m2 : List Int) (m3 : List Int) (m4 : List Int) (m5 : List (List Int)) (m6 : List ByteArray) (m7 : List ByteArray) (m8 : List (List Int)) : Option (List Int) :=
  z0o (z1F a2 m2 m3 m4 m5 m6 m7 m8) LFm (IntKind.i64.wrap (a2 - a1), IntKind.i64.wrap (a3 - a2), a0)
instance slices_rotateCmpFunc_int_holonomy_classes_1_ok {a0 : List Int} {a1 : Int} {a2 : Int} {a3 : Int} {m2 : List Int} {m3 : List Int} {m4 : List Int} {m5 : List (List Int)} {m6 : List ByteArray} {m7 : List ByteArray} {m8 : List (List Int)} : Ok (z0P a0 a1 a2 a3 m2 m3 m4 m5 m6 m7 m8) (fun r => L 115 [.os 1 a0.length (a0.map fun x0 => .sc (.int .i64 x0)), .sc (.int .i64 a1), .sc (.int .i64 a2), .sc (.int .i64 a3), .cl 58 [.pr [.sl m2.length (m2.map fun x0 => .sc (.int .i64 x0)), .sl m3.length (m3.map fun x0 => .sc (.int .i64 x0)), .sl m4.length (m4.map fun x0 => .sc (.int .i64 x0)), .sl m5.length (m5.map fun x0 => .sl x0.length (x0.map fun x1 => .sc (.int .i64 x1))), .sl m6.length (m6.map fun x0 => .sc (.string x0)), .sl m7.length (m7.map fun x0 => .sc (.string x0))], .pr [.sl m8.length (m8.map fun x0 => .sl x0.length (x0.map fun x1 => .sc (.int .i64 x1)))]]] = some (.tup [], [.os 1 r.length (r.map fun x0 => .sc (.int .i64 x0)), .dead, .dead, .dead, .dead])) := ⟨fun r h => by have h := z4c h; unfold z0P at h; exact z4E zpT zsx zsQ⟩
abbrev z1x (w102 : Int) : Int × List Int -> Option ((Int × List Int) ⊕ List Int)
  | (w114, w115) =>
  if w114 < (IntKind.i64.wrap (w102 - 1)) then
    (atI w115 (IntKind.i64.wrap (w114 + 1))).bind fun v120 =>
    (atI w115 w114).bind fun v121 =>
    (atI (w115.set w114.toNat v120) (IntKind.i64.wrap (w114 + 1))).bind fun v123 =>
    z0e (IntKind.i64.wrap (w114 + 1), ((w115.set w114.toNat v120).set (IntKind.i64.wrap (w114 + 1)).toNat v121))
  else
    z0k <|
    some w115
instance {w102 : Int} : Hd (z1x w102) := ⟨fun (w114, w115) => ([(13, xI w114)], [(0, .os 1 w115.length (w115.map fun x0 => .sc (.int .i64 x0)))])⟩
abbrev z1y (a0 : List Int) (a1 : Int) (m2 : List Int) (m3 : List Int) (m4 : List Int) (m5 : List (List Int)) (m6 : List ByteArray) (m7 : List ByteArray) (m8 : List (List Int)) : Int × Int -> Option ((Int × Int) ⊕ List Int)
  | (w102, w103) =>
  if w102 < w103 then
    chk (¬ 1 < 0) <|
    (atI a0 (IntKind.i64.wrap (z0f .u64 (IntKind.u64.wrap (IntKind.i64.wrap (w102 + w103))) 1))).bind fun v107 =>
    (atI a0 a1).bind fun v108 =>
    (z1j v107 v108 m2 m3 m4 m5 m6 m7 m8).bind fun v109 =>
    if v109 < 0 then
      z0e (IntKind.i64.wrap ((IntKind.i64.wrap (z0f .u64 (IntKind.u64.wrap (IntKind.i64.wrap (w102 + w103))) 1)) + 1), w103)
    else
      z0e (w102, IntKind.i64.wrap (z0f .u64 (IntKind.u64.wrap (IntKind.i64.wrap (w102 + w103))) 1))
  else
    z0k <|
    z0o (z1x w102) LFm (a1, a0)
instance {a0 : List Int} {a1 : Int} {m2 : List Int} {m3 : List Int} {m4 : List Int} {m5 : List (List Int)} {m6 : List ByteArray} {m7 : List ByteArray} {m8 : List (List Int)} : Hd (z1y a0 a1 m2 m3 m4 m5 m6 m7 m8) := ⟨fun (w102, w103) => ([(10, xI w102), (11, xI w103)], [])⟩
abbrev z1s (w128 : Int) : Int × List Int -> Option ((Int × List Int) ⊕ List Int)
  | (w139, w140) =>
  if w128 < w139 then
    (atI w140 (IntKind.i64.wrap (w139 - 1))).bind fun v145 =>
    (atI w140 w139).bind fun v146 =>
    (atI (w140.set w139.toNat v145) (IntKind.i64.wrap (w139 - 1))).bind fun v148 =>
    z0e (IntKind.i64.wrap (w139 - 1), ((w140.set w139.toNat v145).set (IntKind.i64.wrap (w139 - 1)).toNat v146))
  else
    z0k <|
    some w140
instance {w128 : Int} : Hd (z1s w128) := ⟨fun (w139, w140) => ([(17, xI w139)], [(0, .os 1 w140.length (w140.map fun x0 => .sc (.int .i64 x0)))])⟩
abbrev z1t (a0 : List Int) (a2 : Int) (m2 : List Int) (m3 : List Int) (m4 : List Int) (m5 : List (List Int)) (m6 : List ByteArray) (m7 : List ByteArray) (m8 : List (List Int)) : Int × Int -> Option ((Int × Int) ⊕ List Int)
  | (w128, w127) =>
  if w128 < w127 then
    chk (¬ 1 < 0) <|
    (atI a0 a2).bind fun v132 =>
    (atI a0 (IntKind.i64.wrap (z0f .u64 (IntKind.u64.wrap (IntKind.i64.wrap (w128 + w127))) 1))).bind fun v133 =>
    (z1j v132 v133 m2 m3 m4 m5 m6 m7 m8).bind fun v134 =>
    if v134 < 0 then
      z0e (w128, IntKind.i64.wrap (z0f .u64 (IntKind.u64.wrap (IntKind.i64.wrap (w128 + w127))) 1))
    else
      z0e (IntKind.i64.wrap ((IntKind.i64.wrap (z0f .u64 (IntKind.u64.wrap (IntKind.i64.wrap (w128 + w127))) 1)) + 1), w127)
  else
    z0k <|
    z0o (z1s w128) LFm (a2, a0)
instance {a0 : List Int} {a2 : Int} {m2 : List Int} {m3 : List Int} {m4 : List Int} {m5 : List (List Int)} {m6 : List ByteArray} {m7 : List ByteArray} {m8 : List (List Int)} : Hd (z1t a0 a2 m2 m3 m4 m5 m6 m7 m8) := ⟨fun (w128, w127) => ([(14, xI w128), (15, xI w127)], [])⟩
abbrev z1r (a0 : List Int) (a1 : Int) (a2 : Int) (a3 : Int) (m2 : List Int) (m3 : List Int) (m4 : List Int) (m5 : List (List Int)) (m6 : List ByteArray) (m7 : List ByteArray) (m8 : List (List Int)) (rf : List Int -> Int -> Int -> Int -> List Int -> List Int -> List Int -> List (List Int) -> List ByteArray -> List ByteArray -> List (List Int) -> Option (List Int)) : Int × Int -> Option ((Int × Int) ⊕ List Int)
  | (w153, w152) =>
  if w153 < w152 then
    chk (¬ 1 < 0) <|
    (atI a0 (IntKind.i64.wrap ((IntKind.i64.wrap ((IntKind.i64.wrap ((IntKind.i64.wrap (z0f .u64 (IntKind.u64.wrap (IntKind.i64.wrap (a1 + a3))) 1)) + a2)) - 1)) - (IntKind.i64.wrap (z0f .u64 (IntKind.u64.wrap (IntKind.i64.wrap (w153 + w152))) 1))))).bind fun v157 =>
    (atI a0 (IntKind.i64.wrap (z0f .u64 (IntKind.u64.wrap (IntKind.i64.wrap (w153 + w152))) 1))).bind fun v158 =>
    (z1j v157 v158 m2 m3 m4 m5 m6 m7 m8).bind fun v159 =>
    if v159 < 0 then
      z0e (w153, IntKind.i64.wrap (z0f .u64 (IntKind.u64.wrap (IntKind.i64.wrap (w153 + w152))) 1))
    else
      z0e (IntKind.i64.wrap ((IntKind.i64.wrap (z0f .u64 (IntKind.u64.wrap (IntKind.i64.wrap (w153 + w152))) 1)) + 1), w152)
  else
    z0k <|
    if w153 < a2 then
      if a2 < (IntKind.i64.wrap ((IntKind.i64.wrap ((IntKind.i64.wrap (z0f .u64 (IntKind.u64.wrap (IntKind.i64.wrap (a1 + a3))) 1)) + a2)) - w153)) then
        (z0P a0 w153 a2 (IntKind.i64.wrap ((IntKind.i64.wrap ((IntKind.i64.wrap (z0f .u64 (IntKind.u64.wrap (IntKind.i64.wrap (a1 + a3))) 1)) + a2)) - w153)) m2 m3 m4 m5 m6 m7 m8).bind fun v160 =>
        if a1 < w153 then
          if w153 < (IntKind.i64.wrap (z0f .u64 (IntKind.u64.wrap (IntKind.i64.wrap (a1 + a3))) 1)) then
            (rf v160 a1 w153 (IntKind.i64.wrap (z0f .u64 (IntKind.u64.wrap (IntKind.i64.wrap (a1 + a3))) 1)) m2 m3 m4 m5 m6 m7 m8).bind fun v161 =>
            if (IntKind.i64.wrap (z0f .u64 (IntKind.u64.wrap (IntKind.i64.wrap (a1 + a3))) 1)) < (IntKind.i64.wrap ((IntKind.i64.wrap ((IntKind.i64.wrap (z0f .u64 (IntKind.u64.wrap (IntKind.i64.wrap (a1 + a3))) 1)) + a2)) - w153)) then
              if (IntKind.i64.wrap ((IntKind.i64.wrap ((IntKind.i64.wrap (z0f .u64 (IntKind.u64.wrap (IntKind.i64.wrap (a1 + a3))) 1)) + a2)) - w153)) < a3 then
                (rf v161 (IntKind.i64.wrap (z0f .u64 (IntKind.u64.wrap (IntKind.i64.wrap (a1 + a3))) 1)) (IntKind.i64.wrap ((IntKind.i64.wrap ((IntKind.i64.wrap (z0f .u64 (IntKind.u64.wrap (IntKind.i64.wrap (a1 + a3))) 1)) + a2)) - w153)) a3 m2 m3 m4 m5 m6 m7 m8).bind fun v162 =>
                some v162
              else
                some v161
            else
              some v161
          else
            if (IntKind.i64.wrap (z0f .u64 (IntKind.u64.wrap (IntKind.i64.wrap (a1 + a3))) 1)) < (IntKind.i64.wrap ((IntKind.i64.wrap ((IntKind.i64.wrap (z0f .u64 (IntKind.u64.wrap (IntKind.i64.wrap (a1 + a3))) 1)) + a2)) - w153)) then
              if (IntKind.i64.wrap ((IntKind.i64.wrap ((IntKind.i64.wrap (z0f .u64 (IntKind.u64.wrap (IntKind.i64.wrap (a1 + a3))) 1)) + a2)) - w153)) < a3 then
                (rf v160 (IntKind.i64.wrap (z0f .u64 (IntKind.u64.wrap (IntKind.i64.wrap (a1 + a3))) 1)) (IntKind.i64.wrap ((IntKind.i64.wrap ((IntKind.i64.wrap (z0f .u64 (IntKind.u64.wrap (IntKind.i64.wrap (a1 + a3))) 1)) + a2)) - w153)) a3 m2 m3 m4 m5 m6 m7 m8).bind fun v163 =>
                some v163
              else
                some v160
            else
              some v160
        else
          if (IntKind.i64.wrap (z0f .u64 (IntKind.u64.wrap (IntKind.i64.wrap (a1 + a3))) 1)) < (IntKind.i64.wrap ((IntKind.i64.wrap ((IntKind.i64.wrap (z0f .u64 (IntKind.u64.wrap (IntKind.i64.wrap (a1 + a3))) 1)) + a2)) - w153)) then
            if (IntKind.i64.wrap ((IntKind.i64.wrap ((IntKind.i64.wrap (z0f .u64 (IntKind.u64.wrap (IntKind.i64.wrap (a1 + a3))) 1)) + a2)) - w153)) < a3 then
              (rf v160 (IntKind.i64.wrap (z0f .u64 (IntKind.u64.wrap (IntKind.i64.wrap (a1 + a3))) 1)) (IntKind.i64.wrap ((IntKind.i64.wrap ((IntKind.i64.wrap (z0f .u64 (IntKind.u64.wrap (IntKind.i64.wrap (a1 + a3))) 1)) + a2)) - w153)) a3 m2 m3 m4 m5 m6 m7 m8).bind fun v164 =>
              some v164
            else
              some v160
          else
            some v160
      else
        if a1 < w153 then
          if w153 < (IntKind.i64.wrap (z0f .u64 (IntKind.u64.wrap (IntKind.i64.wrap (a1 + a3))) 1)) then
            (rf a0 a1 w153 (IntKind.i64.wrap (z0f .u64 (IntKind.u64.wrap (IntKind.i64.wrap (a1 + a3))) 1)) m2 m3 m4 m5 m6 m7 m8).bind fun v165 =>
            if (IntKind.i64.wrap (z0f .u64 (IntKind.u64.wrap (IntKind.i64.wrap (a1 + a3))) 1)) < (IntKind.i64.wrap ((IntKind.i64.wrap ((IntKind.i64.wrap (z0f .u64 (IntKind.u64.wrap (IntKind.i64.wrap (a1 + a3))) 1)) + a2)) - w153)) then
              if (IntKind.i64.wrap ((IntKind.i64.wrap ((IntKind.i64.wrap (z0f .u64 (IntKind.u64.wrap (IntKind.i64.wrap (a1 + a3))) 1)) + a2)) - w153)) < a3 then
                (rf v165 (IntKind.i64.wrap (z0f .u64 (IntKind.u64.wrap (IntKind.i64.wrap (a1 + a3))) 1)) (IntKind.i64.wrap ((IntKind.i64.wrap ((IntKind.i64.wrap (z0f .u64 (IntKind.u64.wrap (IntKind.i64.wrap (a1 + a3))) 1)) + a2)) - w153)) a3 m2 m3 m4 m5 m6 m7 m8).bind fun v166 =>
                some v166
              else
                some v165
            else
              some v165
          else
            if (IntKind.i64.wrap (z0f .u64 (IntKind.u64.wrap (IntKind.i64.wrap (a1 + a3))) 1)) < (IntKind.i64.wrap ((IntKind.i64.wrap ((IntKind.i64.wrap (z0f .u64 (IntKind.u64.wrap (IntKind.i64.wrap (a1 + a3))) 1)) + a2)) - w153)) then
              if (IntKind.i64.wrap ((IntKind.i64.wrap ((IntKind.i64.wrap (z0f .u64 (IntKind.u64.wrap (IntKind.i64.wrap (a1 + a3))) 1)) + a2)) - w153)) < a3 then
                (rf a0 (IntKind.i64.wrap (z0f .u64 (IntKind.u64.wrap (IntKind.i64.wrap (a1 + a3))) 1)) (IntKind.i64.wrap ((IntKind.i64.wrap ((IntKind.i64.wrap (z0f .u64 (IntKind.u64.wrap (IntKind.i64.wrap (a1 + a3))) 1)) + a2)) - w153)) a3 m2 m3 m4 m5 m6 m7 m8).bind fun v167 =>
                some v167
              else
                some a0
            else
              some a0
        else
          if (IntKind.i64.wrap (z0f .u64 (IntKind.u64.wrap (IntKind.i64.wrap (a1 + a3))) 1)) < (IntKind.i64.wrap ((IntKind.i64.wrap ((IntKind.i64.wrap (z0f .u64 (IntKind.u64.wrap (IntKind.i64.wrap (a1 + a3))) 1)) + a2)) - w153)) then
            if (IntKind.i64.wrap ((IntKind.i64.wrap ((IntKind.i64.wrap (z0f .u64 (IntKind.u64.wrap (IntKind.i64.wrap (a1 + a3))) 1)) + a2)) - w153)) < a3 then
              (rf a0 (IntKind.i64.wrap (z0f .u64 (IntKind.u64.wrap (IntKind.i64.wrap (a1 + a3))) 1)) (IntKind.i64.wrap ((IntKind.i64.wrap ((IntKind.i64.wrap (z0f .u64 (IntKind.u64.wrap (IntKind.i64.wrap (a1 + a3))) 1)) + a2)) - w153)) a3 m2 m3 m4 m5 m6 m7 m8).bind fun v168 =>
              some v168
            else
              some a0
          else
            some a0
    else
      if a1 < w153 then
        if w153 < (IntKind.i64.wrap (z0f .u64 (IntKind.u64.wrap (IntKind.i64.wrap (a1 + a3))) 1)) then
          (rf a0 a1 w153 (IntKind.i64.wrap (z0f .u64 (IntKind.u64.wrap (IntKind.i64.wrap (a1 + a3))) 1)) m2 m3 m4 m5 m6 m7 m8).bind fun v169 =>
          if (IntKind.i64.wrap (z0f .u64 (IntKind.u64.wrap (IntKind.i64.wrap (a1 + a3))) 1)) < (IntKind.i64.wrap ((IntKind.i64.wrap ((IntKind.i64.wrap (z0f .u64 (IntKind.u64.wrap (IntKind.i64.wrap (a1 + a3))) 1)) + a2)) - w153)) then
            if (IntKind.i64.wrap ((IntKind.i64.wrap ((IntKind.i64.wrap (z0f .u64 (IntKind.u64.wrap (IntKind.i64.wrap (a1 + a3))) 1)) + a2)) - w153)) < a3 then
              (rf v169 (IntKind.i64.wrap (z0f .u64 (IntKind.u64.wrap (IntKind.i64.wrap (a1 + a3))) 1)) (IntKind.i64.wrap ((IntKind.i64.wrap ((IntKind.i64.wrap (z0f .u64 (IntKind.u64.wrap (IntKind.i64.wrap (a1 + a3))) 1)) + a2)) - w153)) a3 m2 m3 m4 m5 m6 m7 m8).bind fun v170 =>
              some v170
            else
              some v169
          else
            some v169
        else
          if (IntKind.i64.wrap (z0f .u64 (IntKind.u64.wrap (IntKind.i64.wrap (a1 + a3))) 1)) < (IntKind.i64.wrap ((IntKind.i64.wrap ((IntKind.i64.wrap (z0f .u64 (IntKind.u64.wrap (IntKind.i64.wrap (a1 + a3))) 1)) + a2)) - w153)) then
            if (IntKind.i64.wrap ((IntKind.i64.wrap ((IntKind.i64.wrap (z0f .u64 (IntKind.u64.wrap (IntKind.i64.wrap (a1 + a3))) 1)) + a2)) - w153)) < a3 then
              (rf a0 (IntKind.i64.wrap (z0f .u64 (IntKind.u64.wrap (IntKind.i64.wrap (a1 + a3))) 1)) (IntKind.i64.wrap ((IntKind.i64.wrap ((IntKind.i64.wrap (z0f .u64 (IntKind.u64.wrap (IntKind.i64.wrap (a1 + a3))) 1)) + a2)) - w153)) a3 m2 m3 m4 m5 m6 m7 m8).bind fun v171 =>
              some v171
            else
              some a0
          else
            some a0
      else
        if (IntKind.i64.wrap (z0f .u64 (IntKind.u64.wrap (IntKind.i64.wrap (a1 + a3))) 1)) < (IntKind.i64.wrap ((IntKind.i64.wrap ((IntKind.i64.wrap (z0f .u64 (IntKind.u64.wrap (IntKind.i64.wrap (a1 + a3))) 1)) + a2)) - w153)) then
          if (IntKind.i64.wrap ((IntKind.i64.wrap ((IntKind.i64.wrap (z0f .u64 (IntKind.u64.wrap (IntKind.i64.wrap (a1 + a3))) 1)) + a2)) - w153)) < a3 then
            (rf a0 (IntKind.i64.wrap (z0f .u64 (IntKind.u64.wrap (IntKind.i64.wrap (a1 + a3))) 1)) (IntKind.i64.wrap ((IntKind.i64.wrap ((IntKind.i64.wrap (z0f .u64 (IntKind.u64.wrap (IntKind.i64.wrap (a1 + a3))) 1)) + a2)) - w153)) a3 m2 m3 m4 m5 m6 m7 m8).bind fun v172 =>
            some v172
          else
            some a0
        else
          some a0
instance {a0 : List Int} {a1 : Int} {a2 : Int} {a3 : Int} {m2 : List Int} {m3 : List Int} {m4 : List Int} {m5 : List (List Int)} {m6 : List ByteArray} {m7 : List ByteArray} {m8 : List (List Int)} {rf : List Int -> Int -> Int -> Int -> List Int -> List Int -> List Int -> List (List Int) -> List ByteArray -> List ByteArray -> List (List Int) -> Option (List Int)} : Hd (z1r a0 a1 a2 a3 m2 m3 m4 m5 m6 m7 m8 rf) := ⟨fun (w153, w152) => ([(20, xI w153), (21, xI w152)], [])⟩
abbrev z1p (a0 : List Int) (a1 : Int) (a2 : Int) (a3 : Int) (m2 : List Int) (m3 : List Int) (m4 : List Int) (m5 : List (List Int)) (m6 : List ByteArray) (m7 : List ByteArray) (m8 : List (List Int)) (rf : List Int -> Int -> Int -> Int -> List Int -> List Int -> List Int -> List (List Int) -> List ByteArray -> List ByteArray -> List (List Int) -> Option (List Int)) : Int × Int -> Option ((Int × Int) ⊕ List Int)
  | (w177, w176) =>
  if w177 < w176 then
    chk (¬ 1 < 0) <|
    (atI a0 (IntKind.i64.wrap ((IntKind.i64.wrap ((IntKind.i64.wrap ((IntKind.i64.wrap (z0f .u64 (IntKind.u64.wrap (IntKind.i64.wrap (a1 + a3))) 1)) + a2)) - 1)) - (IntKind.i64.wrap (z0f .u64 (IntKind.u64.wrap (IntKind.i64.wrap (w177 + w176))) 1))))).bind fun v181 =>
    (atI a0 (IntKind.i64.wrap (z0f .u64 (IntKind.u64.wrap (IntKind.i64.wrap (w177 + w176))) 1))).bind fun v182 =>
    (z1j v181 v182 m2 m3 m4 m5 m6 m7 m8).bind fun v183 =>
    if v183 < 0 then
      z0e (w177, IntKind.i64.wrap (z0f .u64 (IntKind.u64.wrap (IntKind.i64.wrap (w177 + w176))) 1))
    else
      z0e (IntKind.i64.wrap ((IntKind.i64.wrap (z0f .u64 (IntKind.u64.wrap (IntKind.i64.wrap (w177 + w176))) 1)) + 1), w176)
  else
    z0k <|
    if w177 < a2 then
      if a2 < (IntKind.i64.wrap ((IntKind.i64.wrap ((IntKind.i64.wrap (z0f .u64 (IntKind.u64.wrap (IntKind.i64.wrap (a1 + a3))) 1)) + a2)) - w177)) then
        (z0P a0 w177 a2 (IntKind.i64.wrap ((IntKind.i64.wrap ((IntKind.i64.wrap (z0f .u64 (IntKind.u64.wrap (IntKind.i64.wrap (a1 + a3))) 1)) + a2)) - w177)) m2 m3 m4 m5 m6 m7 m8).bind fun v184 =>
        if a1 < w177 then
          if w177 < (IntKind.i64.wrap (z0f .u64 (IntKind.u64.wrap (IntKind.i64.wrap (a1 + a3))) 1)) then
            (rf v184 a1 w177 (IntKind.i64.wrap (z0f .u64 (IntKind.u64.wrap (IntKind.i64.wrap (a1 + a3))) 1)) m2 m3 m4 m5 m6 m7 m8).bind fun v185 =>
            if (IntKind.i64.wrap (z0f .u64 (IntKind.u64.wrap (IntKind.i64.wrap (a1 + a3))) 1)) < (IntKind.i64.wrap ((IntKind.i64.wrap ((IntKind.i64.wrap (z0f .u64 (IntKind.u64.wrap (IntKind.i64.wrap (a1 + a3))) 1)) + a2)) - w177)) then
              if (IntKind.i64.wrap ((IntKind.i64.wrap ((IntKind.i64.wrap (z0f .u64 (IntKind.u64.wrap (IntKind.i64.wrap (a1 + a3))) 1)) + a2)) - w177)) < a3 then
                (rf v185 (IntKind.i64.wrap (z0f .u64 (IntKind.u64.wrap (IntKind.i64.wrap (a1 + a3))) 1)) (IntKind.i64.wrap ((IntKind.i64.wrap ((IntKind.i64.wrap (z0f .u64 (IntKind.u64.wrap (IntKind.i64.wrap (a1 + a3))) 1)) + a2)) - w177)) a3 m2 m3 m4 m5 m6 m7 m8).bind fun v186 =>
                some v186
              else
                some v185
            else
              some v185
          else
            if (IntKind.i64.wrap (z0f .u64 (IntKind.u64.wrap (IntKind.i64.wrap (a1 + a3))) 1)) < (IntKind.i64.wrap ((IntKind.i64.wrap ((IntKind.i64.wrap (z0f .u64 (IntKind.u64.wrap (IntKind.i64.wrap (a1 + a3))) 1)) + a2)) - w177)) then
              if (IntKind.i64.wrap ((IntKind.i64.wrap ((IntKind.i64.wrap (z0f .u64 (IntKind.u64.wrap (IntKind.i64.wrap (a1 + a3))) 1)) + a2)) - w177)) < a3 then
                (rf v184 (IntKind.i64.wrap (z0f .u64 (IntKind.u64.wrap (IntKind.i64.wrap (a1 + a3))) 1)) (IntKind.i64.wrap ((IntKind.i64.wrap ((IntKind.i64.wrap (z0f .u64 (IntKind.u64.wrap (IntKind.i64.wrap (a1 + a3))) 1)) + a2)) - w177)) a3 m2 m3 m4 m5 m6 m7 m8).bind fun v187 =>
                some v187
              else
                some v184
            else
              some v184
        else
          if (IntKind.i64.wrap (z0f .u64 (IntKind.u64.wrap (IntKind.i64.wrap (a1 + a3))) 1)) < (IntKind.i64.wrap ((IntKind.i64.wrap ((IntKind.i64.wrap (z0f .u64 (IntKind.u64.wrap (IntKind.i64.wrap (a1 + a3))) 1)) + a2)) - w177)) then
            if (IntKind.i64.wrap ((IntKind.i64.wrap ((IntKind.i64.wrap (z0f .u64 (IntKind.u64.wrap (IntKind.i64.wrap (a1 + a3))) 1)) + a2)) - w177)) < a3 then
              (rf v184 (IntKind.i64.wrap (z0f .u64 (IntKind.u64.wrap (IntKind.i64.wrap (a1 + a3))) 1)) (IntKind.i64.wrap ((IntKind.i64.wrap ((IntKind.i64.wrap (z0f .u64 (IntKind.u64.wrap (IntKind.i64.wrap (a1 + a3))) 1)) + a2)) - w177)) a3 m2 m3 m4 m5 m6 m7 m8).bind fun v188 =>
              some v188
            else
              some v184
          else
            some v184
      else
        if a1 < w177 then
          if w177 < (IntKind.i64.wrap (z0f .u64 (IntKind.u64.wrap (IntKind.i64.wrap (a1 + a3))) 1)) then
            (rf a0 a1 w177 (IntKind.i64.wrap (z0f .u64 (IntKind.u64.wrap (IntKind.i64.wrap (a1 + a3))) 1)) m2 m3 m4 m5 m6 m7 m8).bind fun v189 =>
            if (IntKind.i64.wrap (z0f .u64 (IntKind.u64.wrap (IntKind.i64.wrap (a1 + a3))) 1)) < (IntKind.i64.wrap ((IntKind.i64.wrap ((IntKind.i64.wrap (z0f .u64 (IntKind.u64.wrap (IntKind.i64.wrap (a1 + a3))) 1)) + a2)) - w177)) then
              if (IntKind.i64.wrap ((IntKind.i64.wrap ((IntKind.i64.wrap (z0f .u64 (IntKind.u64.wrap (IntKind.i64.wrap (a1 + a3))) 1)) + a2)) - w177)) < a3 then
                (rf v189 (IntKind.i64.wrap (z0f .u64 (IntKind.u64.wrap (IntKind.i64.wrap (a1 + a3))) 1)) (IntKind.i64.wrap ((IntKind.i64.wrap ((IntKind.i64.wrap (z0f .u64 (IntKind.u64.wrap (IntKind.i64.wrap (a1 + a3))) 1)) + a2)) - w177)) a3 m2 m3 m4 m5 m6 m7 m8).bind fun v190 =>
                some v190
              else
                some v189
            else
              some v189
          else
            if (IntKind.i64.wrap (z0f .u64 (IntKind.u64.wrap (IntKind.i64.wrap (a1 + a3))) 1)) < (IntKind.i64.wrap ((IntKind.i64.wrap ((IntKind.i64.wrap (z0f .u64 (IntKind.u64.wrap (IntKind.i64.wrap (a1 + a3))) 1)) + a2)) - w177)) then
              if (IntKind.i64.wrap ((IntKind.i64.wrap ((IntKind.i64.wrap (z0f .u64 (IntKind.u64.wrap (IntKind.i64.wrap (a1 + a3))) 1)) + a2)) - w177)) < a3 then
                (rf a0 (IntKind.i64.wrap (z0f .u64 (IntKind.u64.wrap (IntKind.i64.wrap (a1 + a3))) 1)) (IntKind.i64.wrap ((IntKind.i64.wrap ((IntKind.i64.wrap (z0f .u64 (IntKind.u64.wrap (IntKind.i64.wrap (a1 + a3))) 1)) + a2)) - w177)) a3 m2 m3 m4 m5 m6 m7 m8).bind fun v191 =>
                some v191
              else
                some a0
            else
              some a0
        else
          if (IntKind.i64.wrap (z0f .u64 (IntKind.u64.wrap (IntKind.i64.wrap (a1 + a3))) 1)) < (IntKind.i64.wrap ((IntKind.i64.wrap ((IntKind.i64.wrap (z0f .u64 (IntKind.u64.wrap (IntKind.i64.wrap (a1 + a3))) 1)) + a2)) - w177)) then
            if (IntKind.i64.wrap ((IntKind.i64.wrap ((IntKind.i64.wrap (z0f .u64 (IntKind.u64.wrap (IntKind.i64.wrap (a1 + a3))) 1)) + a2)) - w177)) < a3 then
              (rf a0 (IntKind.i64.wrap (z0f .u64 (IntKind.u64.wrap (IntKind.i64.wrap (a1 + a3))) 1)) (IntKind.i64.wrap ((IntKind.i64.wrap ((IntKind.i64.wrap (z0f .u64 (IntKind.u64.wrap (IntKind.i64.wrap (a1 + a3))) 1)) + a2)) - w177)) a3 m2 m3 m4 m5 m6 m7 m8).bind fun v192 =>
              some v192
            else
              some a0
          else
            some a0
    else
      if a1 < w177 then
        if w177 < (IntKind.i64.wrap (z0f .u64 (IntKind.u64.wrap (IntKind.i64.wrap (a1 + a3))) 1)) then
          (rf a0 a1 w177 (IntKind.i64.wrap (z0f .u64 (IntKind.u64.wrap (IntKind.i64.wrap (a1 + a3))) 1)) m2 m3 m4 m5 m6 m7 m8).bind fun v193 =>
          if (IntKind.i64.wrap (z0f .u64 (IntKind.u64.wrap (IntKind.i64.wrap (a1 + a3))) 1)) < (IntKind.i64.wrap ((IntKind.i64.wrap ((IntKind.i64.wrap (z0f .u64 (IntKind.u64.wrap (IntKind.i64.wrap (a1 + a3))) 1)) + a2)) - w177)) then
            if (IntKind.i64.wrap ((IntKind.i64.wrap ((IntKind.i64.wrap (z0f .u64 (IntKind.u64.wrap (IntKind.i64.wrap (a1 + a3))) 1)) + a2)) - w177)) < a3 then
              (rf v193 (IntKind.i64.wrap (z0f .u64 (IntKind.u64.wrap (IntKind.i64.wrap (a1 + a3))) 1)) (IntKind.i64.wrap ((IntKind.i64.wrap ((IntKind.i64.wrap (z0f .u64 (IntKind.u64.wrap (IntKind.i64.wrap (a1 + a3))) 1)) + a2)) - w177)) a3 m2 m3 m4 m5 m6 m7 m8).bind fun v194 =>
              some v194
            else
              some v193
          else
            some v193
        else
          if (IntKind.i64.wrap (z0f .u64 (IntKind.u64.wrap (IntKind.i64.wrap (a1 + a3))) 1)) < (IntKind.i64.wrap ((IntKind.i64.wrap ((IntKind.i64.wrap (z0f .u64 (IntKind.u64.wrap (IntKind.i64.wrap (a1 + a3))) 1)) + a2)) - w177)) then
            if (IntKind.i64.wrap ((IntKind.i64.wrap ((IntKind.i64.wrap (z0f .u64 (IntKind.u64.wrap (IntKind.i64.wrap (a1 + a3))) 1)) + a2)) - w177)) < a3 then
              (rf a0 (IntKind.i64.wrap (z0f .u64 (IntKind.u64.wrap (IntKind.i64.wrap (a1 + a3))) 1)) (IntKind.i64.wrap ((IntKind.i64.wrap ((IntKind.i64.wrap (z0f .u64 (IntKind.u64.wrap (IntKind.i64.wrap (a1 + a3))) 1)) + a2)) - w177)) a3 m2 m3 m4 m5 m6 m7 m8).bind fun v195 =>
              some v195
            else
              some a0
          else
            some a0
      else
        if (IntKind.i64.wrap (z0f .u64 (IntKind.u64.wrap (IntKind.i64.wrap (a1 + a3))) 1)) < (IntKind.i64.wrap ((IntKind.i64.wrap ((IntKind.i64.wrap (z0f .u64 (IntKind.u64.wrap (IntKind.i64.wrap (a1 + a3))) 1)) + a2)) - w177)) then
          if (IntKind.i64.wrap ((IntKind.i64.wrap ((IntKind.i64.wrap (z0f .u64 (IntKind.u64.wrap (IntKind.i64.wrap (a1 + a3))) 1)) + a2)) - w177)) < a3 then
            (rf a0 (IntKind.i64.wrap (z0f .u64 (IntKind.u64.wrap (IntKind.i64.wrap (a1 + a3))) 1)) (IntKind.i64.wrap ((IntKind.i64.wrap ((IntKind.i64.wrap (z0f .u64 (IntKind.u64.wrap (IntKind.i64.wrap (a1 + a3))) 1)) + a2)) - w177)) a3 m2 m3 m4 m5 m6 m7 m8).bind fun v196 =>
            some v196
          else
            some a0
        else
          some a0
instance {a0 : List Int} {a1 : Int} {a2 : Int} {a3 : Int} {m2 : List Int} {m3 : List Int} {m4 : List Int} {m5 : List (List Int)} {m6 : List ByteArray} {m7 : List ByteArray} {m8 : List (List Int)} {rf : List Int -> Int -> Int -> Int -> List Int -> List Int -> List Int -> List (List Int) -> List ByteArray -> List ByteArray -> List (List Int) -> Option (List Int)} : Hd (z1p a0 a1 a2 a3 m2 m3 m4 m5 m6 m7 m8 rf) := ⟨fun (w177, w176) => ([(20, xI w177), (21, xI w176)], [])⟩
def z0G (rf : List Int -> Int -> Int -> Int -> List Int -> List Int -> List Int -> List (List Int) -> List ByteArray -> List ByteArray -> List (List Int) -> Option (List Int)) (a0 : List Int) (a1 : Int) (a2 : Int) (a3 : Int) (m2 : List Int) (m3 : List Int) (m4 : List Int) (m5 : List (List Int)) (m6 : List ByteArray) (m7 : List ByteArray) (m8 : List (List Int)) : Option (List Int) :=
  if (IntKind.i64.wrap (a2 - a1)) = 1 then
    z0o (z1y a0 a1 m2 m3 m4 m5 m6 m7 m8) LFm (a2, a3)
  else
    if (IntKind.i64.wrap (a3 - a2)) = 1 then
      z0o (z1t a0 a2 m2 m3 m4 m5 m6 m7 m8) LFm (a1, a2)
    else
      chk (¬ 1 < 0) <|
      if (IntKind.i64.wrap (z0f .u64 (IntKind.u64.wrap (IntKind.i64.wrap (a1 + a3))) 1)) < a2 then
        z0o (z1r a0 a1 a2 a3 m2 m3 m4 m5 m6 m7 m8 rf) LFm (IntKind.i64.wrap ((IntKind.i64.wrap ((IntKind.i64.wrap (z0f .u64 (IntKind.u64.wrap (IntKind.i64.wrap (a1 + a3))) 1)) + a2)) - a3), IntKind.i64.wrap (z0f .u64 (IntKind.u64.wrap (IntKind.i64.wrap (a1 + a3))) 1))
      else
        z0o (z1p a0 a1 a2 a3 m2 m3 m4 m5 m6 m7 m8 rf) LFm (a1, a2)
theorem z2R {rf : List Int -> Int -> Int -> Int -> List Int -> List Int -> List Int -> List (List Int) -> List ByteArray -> List ByteArray -> List (List Int) -> Option (List Int)} [ih : ∀ (a0 : List Int) (a1 : Int) (a2 : Int) (a3 : Int) (m2 : List Int) (m3 : List Int) (m4 : List Int) (m5 : List (List Int)) (m6 : List ByteArray) (m7 : List ByteArray) (m8 : List (List Int)), Ok (rf a0 a1 a2 a3 m2 m3 m4 m5 m6 m7 m8) (fun r => L 99 [.os 1 a0.length (a0.map fun x0 => .sc (.int .i64 x0)), .sc (.int .i64 a1), .sc (.int .i64 a2), .sc (.int .i64 a3), .cl 58 [.pr [.sl m2.length (m2.map fun x0 => .sc (.int .i64 x0)), .sl m3.length (m3.map fun x0 => .sc (.int .i64 x0)), .sl m4.length (m4.map fun x0 => .sc (.int .i64 x0)), .sl m5.length (m5.map fun x0 => .sl x0.length (x0.map fun x1 => .sc (.int .i64 x1))), .sl m6.length (m6.map fun x0 => .sc (.string x0)), .sl m7.length (m7.map fun x0 => .sc (.string x0))], .pr [.sl m8.length (m8.map fun x0 => .sl x0.length (x0.map fun x1 => .sc (.int .i64 x1)))]]] = some (.tup [], [.os 1 r.length (r.map fun x0 => .sc (.int .i64 x0)), .dead, .dead, .dead, .dead]))] {a0 : List Int} {a1 : Int} {a2 : Int} {a3 : Int} {m2 : List Int} {m3 : List Int} {m4 : List Int} {m5 : List (List Int)} {m6 : List ByteArray} {m7 : List ByteArray} {m8 : List (List Int)} : Ok (z0G rf a0 a1 a2 a3 m2 m3 m4 m5 m6 m7 m8) (fun r => L 99 [.os 1 a0.length (a0.map fun x0 => .sc (.int .i64 x0)), .sc (.int .i64 a1), .sc (.int .i64 a2), .sc (.int .i64 a3), .cl 58 [.pr [.sl m2.length (m2.map fun x0 => .sc (.int .i64 x0)), .sl m3.length (m3.map fun x0 => .sc (.int .i64 x0)), .sl m4.length (m4.map fun x0 => .sc (.int .i64 x0)), .sl m5.length (m5.map fun x0 => .sl x0.length (x0.map fun x1 => .sc (.int .i64 x1))), .sl m6.length (m6.map fun x0 => .sc (.string x0)), .sl m7.length (m7.map fun x0 => .sc (.string x0))], .pr [.sl m8.length (m8.map fun x0 => .sl x0.length (x0.map fun x1 => .sc (.int .i64 x1)))]]] = some (.tup [], [.os 1 r.length (r.map fun x0 => .sc (.int .i64 x0)), .dead, .dead, .dead, .dead])) := ⟨fun r h => by have h := z4c h; unfold z0G at h; exact z4E zsI zwg zwn⟩
def z0m : Nat -> List Int -> Int -> Int -> Int -> List Int -> List Int -> List Int -> List (List Int) -> List ByteArray -> List ByteArray -> List (List Int) -> Option (List Int)
  | 0 => fun _ _ _ _ _ _ _ _ _ _ _ => none
  | k + 1 => z0G (z0m k)
instance slices_symMergeCmpFunc_int_holonomy_classes_1_ok : ∀ {k : Nat} {a0 : List Int} {a1 : Int} {a2 : Int} {a3 : Int} {m2 : List Int} {m3 : List Int} {m4 : List Int} {m5 : List (List Int)} {m6 : List ByteArray} {m7 : List ByteArray} {m8 : List (List Int)}, Ok (z0m k a0 a1 a2 a3 m2 m3 m4 m5 m6 m7 m8) (fun r => L 99 [.os 1 a0.length (a0.map fun x0 => .sc (.int .i64 x0)), .sc (.int .i64 a1), .sc (.int .i64 a2), .sc (.int .i64 a3), .cl 58 [.pr [.sl m2.length (m2.map fun x0 => .sc (.int .i64 x0)), .sl m3.length (m3.map fun x0 => .sc (.int .i64 x0)), .sl m4.length (m4.map fun x0 => .sc (.int .i64 x0)), .sl m5.length (m5.map fun x0 => .sl x0.length (x0.map fun x1 => .sc (.int .i64 x1))), .sl m6.length (m6.map fun x0 => .sc (.string x0)), .sl m7.length (m7.map fun x0 => .sc (.string x0))], .pr [.sl m8.length (m8.map fun x0 => .sl x0.length (x0.map fun x1 => .sc (.int .i64 x1)))]]] = some (.tup [], [.os 1 r.length (r.map fun x0 => .sc (.int .i64 x0)), .dead, .dead, .dead, .dead])) := by
  intro k
  induction k with
  | zero => intros; exact ⟨fun r h => by cases h⟩
  | succ k ih => intros; have ih2 := @ih; exact z2R (rf := z0m k)
abbrev z0H (a1 : Int) (n0 : List Int) (n1 : List Int) (n2 : List Int) (n3 : List (List Int)) (n4 : List ByteArray) (n5 : List ByteArray) (n6 : List (List Int)) (w45 : Int) : Int × Int × List Int -> Option ((Int × Int × List Int) ⊕ ((Int × List Int) ⊕ List Int))
  | (w55, w56, w57) =>
  if w56 <= a1 then
    (z0m 5000 w57 w55 (IntKind.i64.wrap (w55 + w45)) w56 n0 n1 n2 n3 n4 n5 n6).bind fun v59 =>
    z0e (w56, IntKind.i64.wrap (w56 + (IntKind.i64.wrap (2 * w45))), v59)
  else
    z0k <|
    if (IntKind.i64.wrap (w55 + w45)) < a1 then
      (z0m 5000 w57 w55 (IntKind.i64.wrap (w55 + w45)) a1 n0 n1 n2 n3 n4 n5 n6).bind fun v60 =>
      z0e (IntKind.i64.wrap (w45 * 2), v60)
    else
      z0e (IntKind.i64.wrap (w45 * 2), w57)
instance {a1 : Int} {n0 : List Int} {n1 : List Int} {n2 : List Int} {n3 : List (List Int)} {n4 : List ByteArray} {n5 : List ByteArray} {n6 : List (List Int)} {w45 : Int} : Hd (z0H a1 n0 n1 n2 n3 n4 n5 n6 w45) := ⟨fun (w55, w56, w57) => ([(7, xI w55), (8, xI w56)], [(0, .os 1 w57.length (w57.map fun x0 => .sc (.int .i64 x0)))])⟩
abbrev z0I (a1 : Int) (n0 : List Int) (n1 : List Int) (n2 : List Int) (n3 : List (List Int)) (n4 : List ByteArray) (n5 : List ByteArray) (n6 : List (List Int)) : Int × List Int -> Option ((Int × List Int) ⊕ List Int)
  | (w45, w46) =>
  if w45 < a1 then
    z0o (z0H a1 n0 n1 n2 n3 n4 n5 n6 w45) LFm (0, IntKind.i64.wrap (2 * w45), w46)
  else
    z0k <|
    some w46
instance {a1 : Int} {n0 : List Int} {n1 : List Int} {n2 : List Int} {n3 : List (List Int)} {n4 : List ByteArray} {n5 : List ByteArray} {n6 : List (List Int)} : Hd (z0I a1 n0 n1 n2 n3 n4 n5 n6) := ⟨fun (w45, w46) => ([(6, xI w45)], [(0, .os 1 w46.length (w46.map fun x0 => .sc (.int .i64 x0)))])⟩
abbrev z0J (a1 : Int) (n0 : List Int) (n1 : List Int) (n2 : List Int) (n3 : List (List Int)) (n4 : List ByteArray) (n5 : List ByteArray) (n6 : List (List Int)) : Int × Int × List Int -> Option ((Int × Int × List Int) ⊕ List Int)
  | (w32, w33, w34) =>
  if w33 <= a1 then
    (z0C w34 w32 w33 n0 n1 n2 n3 n4 n5 n6).bind fun v36 =>
    z0e (w33, IntKind.i64.wrap (w33 + 20), v36)
  else
    z0k <|
    (z0C w34 w32 a1 n0 n1 n2 n3 n4 n5 n6).bind fun v37 =>
    z0o (z0I a1 n0 n1 n2 n3 n4 n5 n6) LFm (20, v37)
instance {a1 : Int} {n0 : List Int} {n1 : List Int} {n2 : List Int} {n3 : List (List Int)} {n4 : List ByteArray} {n5 : List ByteArray} {n6 : List (List Int)} : Hd (z0J a1 n0 n1 n2 n3 n4 n5 n6) := ⟨fun (w32, w33, w34) => ([(7, xI w32), (8, xI w33)], [(0, .os 1 w34.length (w34.map fun x0 => .sc (.int .i64 x0)))])⟩
def z0O (a0 : List Int) (a1 : Int) (n0 : List Int) (n1 : List Int) (n2 : List Int) (n3 : List (List Int)) (n4 : List ByteArray) (n5 : List ByteArray) (n6 : List (List Int)) : Option (List Int) :=
  z0o (z0J a1 n0 n1 n2 n3 n4 n5 n6) LFm (0, 20, a0)
instance slices_stableCmpFunc_int_holonomy_classes_1_ok {a0 : List Int} {a1 : Int} {n0 : List Int} {n1 : List Int} {n2 : List Int} {n3 : List (List Int)} {n4 : List ByteArray} {n5 : List ByteArray} {n6 : List (List Int)} : Ok (z0O a0 a1 n0 n1 n2 n3 n4 n5 n6) (fun r => L 81 [.os 1 a0.length (a0.map fun x0 => .sc (.int .i64 x0)), .sc (.int .i64 a1), .cl 58 [.pr [.sl n0.length (n0.map fun x0 => .sc (.int .i64 x0)), .sl n1.length (n1.map fun x0 => .sc (.int .i64 x0)), .sl n2.length (n2.map fun x0 => .sc (.int .i64 x0)), .sl n3.length (n3.map fun x0 => .sl x0.length (x0.map fun x1 => .sc (.int .i64 x1))), .sl n4.length (n4.map fun x0 => .sc (.string x0)), .sl n5.length (n5.map fun x0 => .sc (.string x0))], .pr [.sl n6.length (n6.map fun x0 => .sl x0.length (x0.map fun x1 => .sc (.int .i64 x1)))]]] = some (.tup [], [.os 1 r.length (r.map fun x0 => .sc (.int .i64 x0)), .dead, .dead])) := ⟨fun r h => by have h := z4c h; unfold z0O at h; exact z4E zsK zwi zwp⟩
def z0t (a0 : List Int) (p5 : List Int) (p6 : List Int) (p7 : List Int) (p8 : List (List Int)) (p9 : List ByteArray) (q0 : List ByteArray) (q1 : List (List Int)) : Option (List Int) :=
  (z0O a0 (a0.length : Int) p5 p6 p7 p8 p9 q0 q1).bind fun v2 =>
  some v2
instance slices_SortStableFunc_Lint_int_holonomy_classes_1_ok {a0 : List Int} {p5 : List Int} {p6 : List Int} {p7 : List Int} {p8 : List (List Int)} {p9 : List ByteArray} {q0 : List ByteArray} {q1 : List (List Int)} : Ok (z0t a0 p5 p6 p7 p8 p9 q0 q1) (fun r => L 57 [.os 1 a0.length (a0.map fun x0 => .sc (.int .i64 x0)), .cl 58 [.pr [.sl p5.length (p5.map fun x0 => .sc (.int .i64 x0)), .sl p6.length (p6.map fun x0 => .sc (.int .i64 x0)), .sl p7.length (p7.map fun x0 => .sc (.int .i64 x0)), .sl p8.length (p8.map fun x0 => .sl x0.length (x0.map fun x1 => .sc (.int .i64 x1))), .sl p9.length (p9.map fun x0 => .sc (.string x0)), .sl q0.length (q0.map fun x0 => .sc (.string x0))], .pr [.sl q1.length (q1.map fun x0 => .sl x0.length (x0.map fun x1 => .sc (.int .i64 x1)))]]] = some (.tup [], [.os 1 r.length (r.map fun x0 => .sc (.int .i64 x0)), .dead])) := ⟨fun r h => by have h := z4c h; unfold z0t at h; exact z4E zsL zwj zwq⟩
def z3p (a0 : Imgs) (w36 : List (List Int)) : Int × List Int -> Option ((Int × List Int) ⊕ (List Int × List (List Int)))
  | (w50, w51) =>
  if w50 < (w36.length : Int) then
    (atI w36 w50).bind fun v55 =>
    (atI v55 0).bind fun v56 =>
    (atI a0.height v56).bind fun v57 =>
    if 1 <= v57 then
      chk (z1q 8 (w51.length + 1)) <|
      z0e (IntKind.i64.wrap (w50 + 1), w51 ++ [w50])
    else
      z0e (IntKind.i64.wrap (w50 + 1), w51)
  else
    z0k <|
    (z0t w51 a0.sets a0.class_ a0.height a0.tiles a0.words a0.back w36).bind fun v58 =>
    some (v58, w36)
def z2z (a0 : Imgs) (w36 : List (List Int)) : Int × List Int -> Fr
  | (w50, w51) => ⟨61, [(1, .one (.a 1 [] (0))), (4, .one (.a 4 [] (0))), (7, .one (.h 7 [])), (36, .one (.h 4 [0])), (37, .one (.t none (.sc (.int .i64 (w36.length : Int))))), (38, .one (.t none (.sc (.int .i64 w50))))], [(1, .vr [.sl a0.sets.length (a0.sets.map fun x0 => .sc (.int .i64 x0)), .sl a0.class_.length (a0.class_.map fun x0 => .sc (.int .i64 x0)), .sl a0.height.length (a0.height.map fun x0 => .sc (.int .i64 x0)), .sl a0.tiles.length (a0.tiles.map fun x0 => .sl x0.length (x0.map fun x1 => .sc (.int .i64 x1))), .sl a0.words.length (a0.words.map fun x0 => .sc (.string x0)), .sl a0.back.length (a0.back.map fun x0 => .sc (.string x0))]), (4, .vr [.os 1 w36.length (w36.map fun x0 => .os 1 x0.length (x0.map fun x1 => .sc (.int .i64 x1)))]), (7, .os 1 w51.length (w51.map fun x0 => .sc (.int .i64 x0)))]⟩
def z2M (a0 : Imgs) : Int × List (List Int) -> Option ((Int × List (List Int)) ⊕ (List Int × List (List Int)))
  | (w35, w36) =>
  if w35 < (a0.class_.length : Int) then
    (atI a0.class_ w35).bind fun v42 =>
    if v42 = (w36.length : Int) then
      chk (z1q 24 (w36.length + 1)) <|
      (atI (w36 ++ [[]]) v42).bind fun v43 =>
      chk (z1q 8 (v43.length + 1)) <|
      z0e (IntKind.i64.wrap (w35 + 1), ((w36 ++ [[]]).set v42.toNat (v43 ++ [w35])))
    else
      (atI w36 v42).bind fun v45 =>
      chk (z1q 8 (v45.length + 1)) <|
      z0e (IntKind.i64.wrap (w35 + 1), (w36.set v42.toNat (v45 ++ [w35])))
  else
    z0k <|
    z0o (z3p a0 w36) LFm (0, [])
def z2L (a0 : Imgs) : Int × List (List Int) -> Fr
  | (w35, w36) => ⟨61, [(1, .one (.a 1 [] (0))), (4, .one (.a 4 [] (0))), (11, .one (.t none (.sl a0.class_.length (a0.class_.map fun x0 => .sc (.int .i64 x0))))), (12, .one (.t none (.sc (.int .i64 (a0.class_.length : Int))))), (13, .one (.t none (.sc (.int .i64 w35))))], [(1, .vr [.sl a0.sets.length (a0.sets.map fun x0 => .sc (.int .i64 x0)), .sl a0.class_.length (a0.class_.map fun x0 => .sc (.int .i64 x0)), .sl a0.height.length (a0.height.map fun x0 => .sc (.int .i64 x0)), .sl a0.tiles.length (a0.tiles.map fun x0 => .sl x0.length (x0.map fun x1 => .sc (.int .i64 x1))), .sl a0.words.length (a0.words.map fun x0 => .sc (.string x0)), .sl a0.back.length (a0.back.map fun x0 => .sc (.string x0))]), (4, .vr [.os 1 w36.length (w36.map fun x0 => .os 1 x0.length (x0.map fun x1 => .sc (.int .i64 x1)))])]⟩
def z3I (a0 : Imgs) : Option (List Int × List (List Int)) :=
  z0o (z2M a0) LFm (0, [])
instance holonomy_classes_ok {a0 : Imgs} : Ok (z3I a0) (fun r => L 30 [.agg [.sl a0.sets.length (a0.sets.map fun x0 => .sc (.int .i64 x0)), .sl a0.class_.length (a0.class_.map fun x0 => .sc (.int .i64 x0)), .sl a0.height.length (a0.height.map fun x0 => .sc (.int .i64 x0)), .sl a0.tiles.length (a0.tiles.map fun x0 => .sl x0.length (x0.map fun x1 => .sc (.int .i64 x1))), .sl a0.words.length (a0.words.map fun x0 => .sc (.string x0)), .sl a0.back.length (a0.back.map fun x0 => .sc (.string x0))]] = some (.tup [.sl r.1.length (r.1.map fun x0 => .sc (.int .i64 x0)), .sl r.2.length (r.2.map fun x0 => .sl x0.length (x0.map fun x1 => .sc (.int .i64 x1)))], [.dead])) := ⟨fun r h0 => by
  simp only [z3I] at h0
  refine znH zvH zxy (zbu zzu ⟨of_decide_eq_true rfl, of_decide_eq_true rfl⟩ rfl ?_)
  simp only [z6C, z6u, z5H, z8c, z5O]
  refine zq rfl (zr rfl rfl rfl (by simp; rfl) ?_)
  refine z0j (zq rfl (zr rfl rfl rfl (by simp; rfl) ?_))
  refine z0j (zq rfl (zq rfl (zr rfl rfl rfl (by simp; rfl) ?_)))
  refine z0j (zb rfl (z6J h0 (z2L a0) rfl rfl (by simp [z2L]) fun s o1 h1 hr1 => ?_))
  obtain ⟨w35, w36⟩ := s
  simp only [z2M] at h1
  simp only [z2L]
  refine zq rfl (zr rfl rfl rfl (by simp; rfl) ?_)
  refine z0j (zq rfl ?_)
  by_cases c57 : w35 < (a0.class_.length : Int)
  ·rw [if_pos c57] at h1
   refine z9n rfl (by simp [c57]) (z6k rfl (z0j (zq rfl (zb rfl (zq rfl ?_)))))
   obtain ⟨v42, f58, h2⟩ := z7i h1
   refine zr rfl rfl rfl (by simp [f58]; rfl) ?_
   refine z0j (zq rfl (zq rfl (zr rfl rfl rfl (by simp; rfl) ?_)))
   refine z0j ?_
   by_cases c59 : v42 = (w36.length : Int)
   ·rw [if_pos c59] at h2
    have c59e := eq_true c59
    refine z9n rfl (by simp [c59e]) ?_
    obtain ⟨f60, h3⟩ := zgU h2
    refine zr rfl rfl rfl (by simp [f60]; rfl) ?_
    refine z0j ?_
    obtain ⟨v43, f61, h4⟩ := z1E h3
    obtain ⟨f61a, f61b, f61c, f61d, f61e⟩ := zbJ f61
    try simp at f61b f61c
    have f61s : ∀ hh, ((w36 ++ [[]]).map (fun x0 : List Int => (.os 1 x0.length (x0.map fun x1 => .sc (.int .i64 x1)) : T)))[v42.toNat]'hh = (fun x0 : List Int => (.os 1 x0.length (x0.map fun x1 => .sc (.int .i64 x1)) : T)) v43 := fun hh => by rw [List.getElem_map]; exact congrArg (fun x0 : List Int => (.os 1 x0.length (x0.map fun x1 => .sc (.int .i64 x1)) : T)) (f61e _)
    try simp only [List.map_set, List.map_append, List.map_cons, List.map_nil, List.length_nil] at f61s
    obtain ⟨f62, h5⟩ := zgU h4
    refine zgf rfl rfl rfl rfl ?_
    refine z3r rfl rfl (by simp [z0b, z0c, f61a, f61b, f61c, f61d, f61e, f61s, f62]; rfl) ?_
    refine z3r rfl rfl (by simp [z0b, z0c, f61a, f61b, f61c, f61d, f61e, f61s, f62]; rfl) ?_
    refine z3r rfl rfl (by simp [z0b, z0c, f61a, f61b, f61c, f61d, f61e, f61s, f62]; rfl) ?_
    refine z3r rfl rfl (by simp [z0b, z0c, f61a, f61b, f61c, f61d, f61e, f61s, f62]; rfl) ?_
    refine z3r rfl rfl (by simp [z0b, z0c, f61a, f61b, f61c, f61d, f61e, f61s, f62]; rfl) ?_
    refine z3r rfl rfl (by simp [z0b, z0c, f61a, f61b, f61c, f61d, f61e, f61s, f62]; rfl) ?_
    refine zcb ?_
    refine z3r rfl rfl (by simp [z0b, z0c, f61a, f61b, f61c, f61d, f61e, f61s, f62]; rfl) ?_
    refine z3r rfl rfl (by simp [z0b, z0c, f61a, f61b, f61c, f61d, f61e, f61s, f62]; rfl) ?_
    refine z3r rfl rfl (by simp [z0b, z0c, f61a, f61b, f61c, f61d, f61e, f61s, f62]; rfl) ?_
    refine z3r rfl rfl (by simp [z0b, z0c, f61a, f61b, f61c, f61d, f61e, f61s, f62]; rfl) ?_
    refine z3r rfl rfl (by simp [z0b, z0c, f61a, f61b, f61c, f61d, f61e, f61s, f62]; rfl) ?_
    refine zca ?_
    refine ⟨?_, ?_⟩
    ·refine z3r rfl rfl (by simp [z0b, z0c, f61a, f61b, f61c, f61d, f61e, f61s, f62]; rfl) ?_
     refine zcb ?_
     refine z3r rfl rfl (by simp [z0b, z0c, f61a, f61b, f61c, f61d, f61e, f61s, f62]; rfl) ?_
     refine z3r rfl rfl (by simp [z0b, z0c, f61a, f61b, f61c, f61d, f61e, f61s, f62]; rfl) ?_
     refine z3r rfl rfl (by simp [z0b, z0c, f61a, f61b, f61c, f61d, f61e, f61s, f62]; rfl) ?_
     refine z3r rfl rfl (by simp [z0b, z0c, f61a, f61b, f61c, f61d, f61e, f61s, f62]; rfl) ?_
     refine zca ?_
     refine ⟨?_, ?_⟩
     ·refine z3r rfl rfl (by simp [z0b, z0c, f61a, f61b, f61c, f61d, f61e, f61s, f62]; rfl) ?_
      refine z3r rfl rfl (by simp [z0b, z0c, f61a, f61b, f61c, f61d, f61e, f61s, f62]; rfl) ?_
      refine z3r rfl rfl (by simp [z0b, z0c, f61a, f61b, f61c, f61d, f61e, f61s, f62]; rfl) ?_
      refine z3r rfl rfl (by simp [z0b, z0c, f61a, f61b, f61c, f61d, f61e, f61s, f62]; rfl) ?_
      refine zca ?_
      simp [z8O, f61a, f61b, f61c, f61d, f61e, f61s, f62]
     simp [z8O, f61a, f61b, f61c, f61d, f61e, f61s, f62]
    refine zfV rfl (by simp [f61a, f61b, f61c, f61d, f61e, f61s, f62]; rfl) ?_
    refine z4j (z0j (zr rfl rfl rfl (by simp; rfl) ?_))
    have ho := z3t h5
    refine z4b ho ?_
    simp [z2L]
   ·rw [if_neg c59] at h2
    have c59e := eq_false c59
    refine z9o rfl (by simp [c59e]) (z6k rfl (z0j ?_))
    obtain ⟨v45, f63, h3⟩ := z7i h2
    obtain ⟨f64, h4⟩ := zgU h3
    refine zgf rfl rfl rfl rfl ?_
    refine z3r rfl rfl (by simp [z0b, z0c, f63, f64]; rfl) ?_
    refine z3r rfl rfl (by simp [z0b, z0c, f63, f64]; rfl) ?_
    refine z3r rfl rfl (by simp [z0b, z0c, f63, f64]; rfl) ?_
    refine z3r rfl rfl (by simp [z0b, z0c, f63, f64]; rfl) ?_
    refine z3r rfl rfl (by simp [z0b, z0c, f63, f64]; rfl) ?_
    refine z3r rfl rfl (by simp [z0b, z0c, f63, f64]; rfl) ?_
    refine zcb ?_
    refine z3r rfl rfl (by simp [z0b, z0c, f63, f64]; rfl) ?_
    refine z3r rfl rfl (by simp [z0b, z0c, f63, f64]; rfl) ?_
    refine z3r rfl rfl (by simp [z0b, z0c, f63, f64]; rfl) ?_
    refine z3r rfl rfl (by simp [z0b, z0c, f63, f64]; rfl) ?_
    refine z3r rfl rfl (by simp [z0b, z0c, f63, f64]; rfl) ?_
    refine zca ?_
    refine ⟨?_, ?_⟩
    ·refine z3r rfl rfl (by simp [z0b, z0c, f63, f64]; rfl) ?_
     refine zcb ?_
     refine z3r rfl rfl (by simp [z0b, z0c, f63, f64]; rfl) ?_
     refine z3r rfl rfl (by simp [z0b, z0c, f63, f64]; rfl) ?_
     refine z3r rfl rfl (by simp [z0b, z0c, f63, f64]; rfl) ?_
     refine z3r rfl rfl (by simp [z0b, z0c, f63, f64]; rfl) ?_
     refine zca ?_
     refine ⟨?_, ?_⟩
     ·refine z3r rfl rfl (by simp [z0b, z0c, f63, f64]; rfl) ?_
      refine z3r rfl rfl (by simp [z0b, z0c, f63, f64]; rfl) ?_
      refine z3r rfl rfl (by simp [z0b, z0c, f63, f64]; rfl) ?_
      refine z3r rfl rfl (by simp [z0b, z0c, f63, f64]; rfl) ?_
      refine zca ?_
      simp [z8O, f63, f64]
     simp [z8O, f63, f64]
    refine zfV rfl (by simp [f63, f64]; rfl) ?_
    refine z4j (z0j (zr rfl rfl rfl (by simp; rfl) ?_))
    have ho := z3t h4
    refine z4b ho ?_
    simp [z2L]
  ·rw [if_neg c57] at h1
   refine z9o rfl (by simp [c57]) (z8U rfl (z6I ?_))
   obtain ⟨rr1, h2, ho1⟩ := z3W h1
   have hs1 := hr1 _ ho1
   subst hs1
   refine z5m ho1 (z3i rfl (z0j (zq rfl (zr rfl rfl rfl (by simp; rfl) ?_))))
   refine z0j (zq rfl (zq rfl (zr rfl rfl rfl (by simp; rfl) ?_)))
   refine z0j (zb rfl (z6J h2 (z2z a0 w36) rfl rfl (by simp [z2z]) fun s o2 h3 hr2 => ?_))
   obtain ⟨w50, w51⟩ := s
   simp only [z3p] at h3
   simp only [z2z]
   refine zq rfl (zr rfl rfl rfl (by simp; rfl) ?_)
   refine z0j (zq rfl ?_)
   by_cases c76 : w50 < (w36.length : Int)
   ·rw [if_pos c76] at h3
    refine z9n rfl (by simp [c76]) (z6k rfl (z0j (zq rfl (zb rfl (zq rfl ?_)))))
    obtain ⟨v55, f77, h4⟩ := z7i h3
    refine zr rfl rfl rfl (by simp [f77]; rfl) ?_
    refine z0j (zq rfl ?_)
    obtain ⟨v56, f78, h5⟩ := z1E h4
    obtain ⟨f78a, f78b, f78c, f78d, f78e⟩ := zbJ f78
    simp only [Int.reduceToNat, Int.toNat_natCast] at f78c f78d f78e
    have f78j : v55 ≠ [] := by intro hh; rw [hh] at f78c; simp at f78c
    have f78l : 0 < v55.length := by omega
    obtain ⟨v57, f79, h6⟩ := z7i h5
    refine z7Q rfl rfl rfl rfl ?_; repeat' ((first | refine z4B rfl rfl fun Q' hQ => ?_ | refine z3S rfl fun Q' hQ => ?_); simp [f77, f78a, f78b, f78c, f78d, f78e, f78j, f78l, f79]; refine hQ.out _ ?_; clear hQ; clear Q')
    refine z0j ?_
    by_cases c80 : 1 <= v57
    ·rw [if_pos c80] at h6
     refine z9n rfl (by simp [c80]) ?_
     obtain ⟨f81, h7⟩ := zgU h6
     refine zr rfl rfl rfl (by simp [f77, f81]; rfl) ?_
     refine z4j (z0j (zr rfl rfl rfl (by simp [f77]; rfl) ?_))
     have ho := z3t h7
     refine z4b ho ?_
     simp [z2z]
    ·rw [if_neg c80] at h6
     refine z9o rfl (by simp [c80]) (z6k rfl (z4j (z0j (zr rfl rfl rfl (by simp [f77]; rfl) ?_))))
     have ho := z3t h6
     refine z4b ho ?_
     simp [z2z]
   ·rw [if_neg c76] at h3
    refine z9o rfl (by simp [c76]) (z8U rfl (z6I ?_))
    obtain ⟨rr2, h4, ho2⟩ := z3W h3
    have hs2 := hr2 _ ho2
    subst hs2
    refine z5m ho2 (z3i rfl (z0j (zq rfl (zox rfl rfl (by simp; rfl) ?_))))
    obtain ⟨v58, f82, h5⟩ := z1E h4
    have f82k := Ok.ok _ f82
    try simp at f82k
    refine zr rfl rfl rfl (by simp [f82k]; rfl) ?_
    refine z0j (zq rfl ?_)
    refine z7Q rfl rfl rfl rfl ?_; repeat' ((first | refine z4B rfl rfl fun Q' hQ => ?_ | refine z3S rfl fun Q' hQ => ?_); simp; refine hQ.out _ ?_; clear hQ; clear Q')
    refine z0j (zk8 rfl ?_)
    cases h5
    simp⟩
end
end
section
open Go
set_option maxRecDepth 100000
def zqL (M : List (List Int)) (H : List Int) (x : Int) : Option Int := (atI M x).bind fun m => (atI m 0).bind fun r => atI H r
def zry (s c h : List Int) (t : List (List Int)) (w b : List ByteArray) (M : List (List Int)) : SrtC where
  cmp x y := z1j x y s c h t w b M
  key x := x - (zqL M h x).getD 0 * 1048576
  ok x := 0 <= x /\ x < 1048576 /\ (zqL M h x).isSome
  law x y hx hy hl := by
    obtain ⟨x0, x1, x2⟩ := hx
    obtain ⟨y0, y1, y2⟩ := hy
    obtain ⟨u, hu⟩ := Option.isSome_iff_exists.1 x2
    obtain ⟨v, hv⟩ := Option.isSome_iff_exists.1 y2
    have hu' := hu
    have hv' := hv
    unfold zqL at hu hv
    cases h1 : atI M x with
    | none => rw [h1] at hu; cases hu
    | some p =>
      cases h2 : atI M y with
      | none => rw [h2] at hv; cases hv
      | some q =>
        rw [h1, Option.bind_some] at hu
        rw [h2, Option.bind_some] at hv
        cases h3 : atI p 0 with
        | none => rw [h3] at hu; cases hu
        | some p0 =>
          cases h4 : atI q 0 with
          | none => rw [h4] at hv; cases hv
          | some q0 =>
            rw [h3, Option.bind_some] at hu
            rw [h4, Option.bind_some] at hv
            obtain ⟨z, e1, e2⟩ := zpO v u
            refine ⟨z, ?_, ?_⟩
            · unfold z1j
              rw [h2, Option.bind_some, h4, Option.bind_some, hv, Option.bind_some, h1, Option.bind_some, h3, Option.bind_some, hu, Option.bind_some, e1]; rfl
            · rw [e2, hu', hv', Option.getD_some, Option.getD_some]
              omega
theorem zfW : ∀ k, z0m k = fun l a m b s c h t w x M => zpJ k l a m b (zry s c h t w x M)
  | 0 => rfl
  | k + 1 => by
    show z0G (z0m k) = _
    rw [zfW k]
    rfl
theorem zm2 (l s c h : List Int) (t : List (List Int)) (w b : List ByteArray) (M : List (List Int)) : z0t l s c h t w b M = zt4 l (zry s c h t w b M) := by
  have h9 : z0H = fun a s c h t w b M k => zaR a (zry s c h t w b M) k := by
    unfold z0H
    rw [zfW]
    all_goals rfl
  have h7 : z0I = fun a s c h t w b M => zcP a (zry s c h t w b M) := by
    unfold z0I
    rw [h9]
    all_goals rfl
  have h2 : z0J = fun a s c h t w b M => zcQ a (zry s c h t w b M) := by
    unfold z0J
    rw [h7]
    all_goals rfl
  unfold z0t z0O
  rw [h2]
  all_goals rfl
end
section
open Go
set_option maxRecDepth 100000
def z6h (p r : Nat) : Prop := p &&& r = p
theorem z1O {p r : Nat} : z6h p r ↔ ∀ q, p.testBit q = true -> r.testBit q = true := by
  unfold z6h
  constructor
  · intro h q hq
    have : (p &&& r).testBit q = true := by rw [h]; exact hq
    rw [Nat.testBit_and, Bool.and_eq_true] at this
    exact this.2
  · intro h
    apply Nat.eq_of_testBit_eq
    intro q
    rw [Nat.testBit_and]
    cases hp : p.testBit q with
    | false => rfl
    | true => rw [h q hp]; rfl
theorem z7v (p : Nat) : z6h p p := Nat.and_self p
theorem zfX {p q r : Nat} (h1 : z6h p q) (h2 : z6h q r) : z6h p r := z1O.2 fun i hi => z1O.1 h2 i (z1O.1 h1 i hi)
theorem z7J {p q : Nat} (h1 : z6h p q) (h2 : z6h q p) : p = q := Nat.eq_of_testBit_eq fun i => by
  have a := z1O.1 h1 i
  have b := z1O.1 h2 i
  cases hp : p.testBit i <;> cases hq : q.testBit i <;> simp_all
theorem zqC {d : DFA} {m n : Nat} (hd : DfaOk d m n) {p r a : Nat} (ha : a < m) (h : z6h p r) : z6h (mvN d p a) (mvN d r a) := z1O.2 fun q hq => by
  obtain ⟨i, h1, h2, h3⟩ := (z7x hd ha q).1 hq
  exact (z7x hd ha q).2 ⟨i, h1, z1O.1 h i h2, h3⟩
theorem z8z {d : DFA} {m n : Nat} (hd : DfaOk d m n) : ∀ {w : List UInt8} {p r : Nat}, (∀ c ∈ w, 97 <= c.toNat /\ c.toNat < 97 + m) -> z6h p r -> z6h (z2U d p w) (z2U d r w)
  | [], p, r, _, h => h
  | c :: w, p, r, hw, h => z8z (w := w) (p := mvN d p (c.toNat - 97)) (r := mvN d r (c.toNat - 97)) hd (fun c' hc' => hw c' (List.mem_cons_of_mem _ hc')) (zqC hd (by have := hw c (List.mem_cons_self ..); omega) h)
theorem zck {d : DFA} {m n s : Nat} (hd : DfaOk d m n) (hs : s < 2 ^ n) : ∀ {w : List UInt8} {x : Nat}, (∀ c ∈ w, 97 <= c.toNat /\ c.toNat < 97 + m) -> x ∈ (z0L d m n s).1 -> z2U d x w ∈ (z0L d m n s).1
  | [], x, _, h => h
  | c :: w, x, hw, h => zck (w := w) (x := mvN d x (c.toNat - 97)) hd hs (fun c' hc' => hw c' (List.mem_cons_of_mem _ hc')) (zb6 hd hs h (by have := hw c (List.mem_cons_self ..); omega))
theorem zaK {d : DFA} {m n s : Nat} (hd : DfaOk d m n) (hs : s < 2 ^ n) : s ∈ (z0L d m n s).1 := by
  have := (z4I hd hs).f0
  exact List.mem_of_getElem? this
def zpg (d : DFA) (m : Nat) (p r : Nat) : Prop := ∃ w : List UInt8, (∀ c ∈ w, 97 <= c.toNat /\ c.toNat < 97 + m) /\ z6h p (z2U d r w)
theorem znw {d : DFA} {m n p r : Nat} (hd : DfaOk d m n) (hr : r < 2 ^ n) : zpg d m p r ↔ ∃ x ∈ (z0L d m n r).1, z6h p x := by
  constructor
  · rintro ⟨w, h1, h2⟩
    exact ⟨_, zck hd hr h1 (zaK hd hr), h2⟩
  · rintro ⟨x, hx, hs⟩
    obtain ⟨i, hi, rfl⟩ := List.getElem_of_mem hx
    obtain ⟨_, o2, o3⟩ := (z4I hd hr).ok i hi
    refine ⟨_, o2, ?_⟩
    rw [o3, List.getD, List.getElem?_eq_getElem hi, Option.getD_some]
    exact hs
theorem zjA (d : DFA) (m p : Nat) : zpg d m p p := ⟨[], fun c hc => by simp at hc, z7v p⟩
theorem zd5 {d : DFA} {m n p q r : Nat} (hd : DfaOk d m n) (h1 : zpg d m p q) (h2 : zpg d m q r) : zpg d m p r := by
  obtain ⟨u, u1, u2⟩ := h1
  obtain ⟨v, v1, v2⟩ := h2
  refine ⟨v ++ u, fun c hc => ?_, ?_⟩
  · rcases List.mem_append.1 hc with h | h
    · exact v1 c h
    · exact u1 c h
  · rw [z2c]
    exact zfX u2 (z8z hd u1 v2)
end
end Go.Proofs.YtodliknibbafeaaGreat
