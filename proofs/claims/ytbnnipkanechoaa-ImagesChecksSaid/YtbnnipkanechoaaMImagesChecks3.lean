/- Proved here: a part of the proof of the law at hand, in one text: no condition. -/
import Derived.Test.YtbnnipkanechoaaMImagesChecks2
import Derived.Test.YtbnnipkanechoaaProg
import Derived.KernelRfl
import Derived.WalkKit
import Derived.Below
set_option linter.unusedVariables false
set_option linter.unusedSimpArgs false
section
namespace Go.Proofs.Ytbnnipkanechoaa
open Go
set_option maxRecDepth 100000
@[simp] theorem ty3 : z3Q Try.prog 3 = some ⟨.int .i64, 1, 8, (some [(.sc (.int .i64 0))])⟩ := by kernel_rfl
@[simp] theorem ty4 : z3Q Try.prog 4 = some ⟨.bool, 1, 1, (some [(.sc (.bool false))])⟩ := by kernel_rfl
@[simp] theorem ty5 : z3Q Try.prog 5 = some ⟨.int .u8, 1, 1, (some [(.sc (.int .u8 0))])⟩ := by kernel_rfl
@[simp] theorem ty9 : z3Q Try.prog 9 = some ⟨.string, 1, 16, (some [(.sc (.string ByteArray.empty))])⟩ := by kernel_rfl
@[simp] theorem ty22 : z3Q Try.prog 22 = some ⟨.slice 3, 1, 24, (some [(.os 1 0 [])])⟩ := by kernel_rfl
@[simp] theorem ty23 : z3Q Try.prog 23 = some ⟨.pointer 60, 1, 8, (some [(.sc (.pointer none))])⟩ := by kernel_rfl
@[simp] theorem ty25 : z3Q Try.prog 25 = some ⟨.slice 4, 1, 24, (some [(.os 1 0 [])])⟩ := by kernel_rfl
@[simp] theorem ty26 : z3Q Try.prog 26 = some ⟨.slice 22, 1, 24, (some [(.os 1 0 [])])⟩ := by kernel_rfl
noncomputable def zBi : Array Field := match Try.prog.underlying 28 with | some (.struct fs) => fs | _ => #[]
@[simp] theorem ty28 : z3Q Try.prog 28 = some ⟨.struct zBi, 4, 64, (some [(.sc (.int .i64 0)), (.sc (.int .i64 0)), (.os 1 0 []), (.os 1 0 [])])⟩ := by kernel_rfl
@[simp] theorem fi28_0 : z4n Try.prog 28 0 = some (0, 1, false) := by kernel_rfl
@[simp] theorem fi28_1 : z4n Try.prog 28 1 = some (1, 1, false) := by kernel_rfl
@[simp] theorem fi28_2 : z4n Try.prog 28 2 = some (2, 1, false) := by kernel_rfl
@[simp] theorem fi28_3 : z4n Try.prog 28 3 = some (3, 1, false) := by kernel_rfl
@[simp] theorem zB7 : zeq Try.prog 28 = (some [(.sc (.int .i64 0)), (.sc (.int .i64 0)), (.os 1 0 []), (.os 1 0 [])]) := by kernel_rfl
@[simp] theorem bs28 (fr : Fr) (parts : List (Nat × Operand)) : zdm Try.prog fr 28 parts = match zaV fr (z4n Try.prog 28) ([(.sc (.int .i64 0)), (.sc (.int .i64 0)), (.os 1 0 []), (.os 1 0 [])].map (A.t none)) parts with | some xs => some (E.ag xs) | none => none := z7m zB7 fr parts
@[simp] theorem ty31 : z3Q Try.prog 31 = some ⟨.slice 9, 1, 24, (some [(.os 1 0 [])])⟩ := by kernel_rfl
noncomputable def zBh : Array Field := match Try.prog.underlying 33 with | some (.struct fs) => fs | _ => #[]
@[simp] theorem ty33 : z3Q Try.prog 33 = some ⟨.struct zBh, 6, 144, (some [(.os 1 0 []), (.os 1 0 []), (.os 1 0 []), (.os 1 0 []), (.os 1 0 []), (.os 1 0 [])])⟩ := by kernel_rfl
@[simp] theorem fi33_0 : z4n Try.prog 33 0 = some (0, 1, false) := by kernel_rfl
@[simp] theorem fi33_1 : z4n Try.prog 33 1 = some (1, 1, false) := by kernel_rfl
@[simp] theorem fi33_2 : z4n Try.prog 33 2 = some (2, 1, false) := by kernel_rfl
@[simp] theorem fi33_3 : z4n Try.prog 33 3 = some (3, 1, false) := by kernel_rfl
@[simp] theorem fi33_4 : z4n Try.prog 33 4 = some (4, 1, false) := by kernel_rfl
@[simp] theorem fi33_5 : z4n Try.prog 33 5 = some (5, 1, false) := by kernel_rfl
@[simp] theorem zB6 : zeq Try.prog 33 = (some [(.os 1 0 []), (.os 1 0 []), (.os 1 0 []), (.os 1 0 []), (.os 1 0 []), (.os 1 0 [])]) := by kernel_rfl
@[simp] theorem bs33 (fr : Fr) (parts : List (Nat × Operand)) : zdm Try.prog fr 33 parts = match zaV fr (z4n Try.prog 33) ([(.os 1 0 []), (.os 1 0 []), (.os 1 0 []), (.os 1 0 []), (.os 1 0 []), (.os 1 0 [])].map (A.t none)) parts with | some xs => some (E.ag xs) | none => none := z7m zB6 fr parts
@[simp] theorem ty34 : z3Q Try.prog 34 = some ⟨.int .i64, 1, 8, (some [(.sc (.int .i64 0))])⟩ := by kernel_rfl
@[simp] theorem ty41 : z3Q Try.prog 41 = some ⟨.map 3 3, 1, 8, (some [(.sc (.map none))])⟩ := by kernel_rfl
@[simp] theorem mt41 : zmH Try.prog 41 = some ((some .i64), 3) := by kernel_rfl
@[simp] theorem zv41 : zrI Try.prog 3 = some (.int .i64 0) := by kernel_rfl
@[simp] theorem ty51 : z3Q Try.prog 51 = some ⟨.int .u64, 1, 8, (some [(.sc (.int .u64 0))])⟩ := by kernel_rfl
noncomputable def zBg : Array Field := match Try.prog.underlying 60 with | some (.struct fs) => fs | _ => #[]
@[simp] theorem ty60 : z3Q Try.prog 60 = some ⟨.struct zBg, 2, 32, (some [(.os 1 0 []), (.sc (.int .i64 0))])⟩ := by kernel_rfl
@[simp] theorem fi60_0 : z4n Try.prog 60 0 = some (0, 1, false) := by kernel_rfl
@[simp] theorem fi60_1 : z4n Try.prog 60 1 = some (1, 1, false) := by kernel_rfl
@[simp] theorem zB5 : zeq Try.prog 60 = (some [(.os 1 0 []), (.sc (.int .i64 0))]) := by kernel_rfl
@[simp] theorem bs60 (fr : Fr) (parts : List (Nat × Operand)) : zdm Try.prog fr 60 parts = match zaV fr (z4n Try.prog 60) ([(.os 1 0 []), (.sc (.int .i64 0))].map (A.t none)) parts with | some xs => some (E.ag xs) | none => none := z7m zB5 fr parts
@[simp] theorem ty63 : z3Q Try.prog 63 = some ⟨.slice 25, 1, 24, (some [(.os 1 0 [])])⟩ := by kernel_rfl
noncomputable def zBf : Array Field := match Try.prog.underlying 65 with | some (.struct fs) => fs | _ => #[]
@[simp] theorem ty65 : z3Q Try.prog 65 = some ⟨.struct zBf, 3, 72, (some [(.os 1 0 []), (.os 1 0 []), (.os 1 0 [])])⟩ := by kernel_rfl
@[simp] theorem fi65_0 : z4n Try.prog 65 0 = some (0, 1, false) := by kernel_rfl
@[simp] theorem fi65_1 : z4n Try.prog 65 1 = some (1, 1, false) := by kernel_rfl
@[simp] theorem fi65_2 : z4n Try.prog 65 2 = some (2, 1, false) := by kernel_rfl
@[simp] theorem zB4 : zeq Try.prog 65 = (some [(.os 1 0 []), (.os 1 0 []), (.os 1 0 [])]) := by kernel_rfl
@[simp] theorem bs65 (fr : Fr) (parts : List (Nat × Operand)) : zdm Try.prog fr 65 parts = match zaV fr (z4n Try.prog 65) ([(.os 1 0 []), (.os 1 0 []), (.os 1 0 [])].map (A.t none)) parts with | some xs => some (E.ag xs) | none => none := z7m zB4 fr parts
@[simp] theorem ty80 : z3Q Try.prog 80 = some ⟨.slice 5, 1, 24, (some [(.os 1 0 [])])⟩ := by kernel_rfl
@[simp] theorem ty89 : z3Q Try.prog 89 = some ⟨.map 3 4, 1, 8, (some [(.sc (.map none))])⟩ := by kernel_rfl
@[simp] theorem mt89 : zmH Try.prog 89 = some ((some .i64), 4) := by kernel_rfl
@[simp] theorem zv89 : zrI Try.prog 4 = some (.bool false) := by kernel_rfl
@[simp] theorem ty102 : z3Q Try.prog 102 = some ⟨.int .u32, 1, 4, (some [(.sc (.int .u32 0))])⟩ := by kernel_rfl
@[simp] theorem ty104 : z3Q Try.prog 104 = some ⟨.int .u64, 1, 8, (some [(.sc (.int .u64 0))])⟩ := by kernel_rfl
def zlc : SchT := .nil
def zge : SchT := .op 25 2 zlc
def zld : SchT := .op 23 0 zge
def zle : SchT := .op 24 1 zge
def zco : SchT := .op 22 2 zld
def zlf : SchT := .op 23 0 zle
def z9F : SchT := .op 18 2 zco
def zgf : SchT := .op 19 1 zco
def zgg : SchT := .alt (.op 22 2 zlf) (.op 24 1 zco)
def z9G : SchT := .op 14 1 z9F
def zcp : SchT := .op 15 1 z9F
def zcq : SchT := .alt (.op 18 2 zgf) (.op 19 1 z9F)
def zcr : SchT := .alt (.op 18 2 zgg) (.op 24 1 z9F)
def zlg : SchT := .alt (.op 19 1 zgg) (.op 24 1 zgf)
def z8B : SchT := .op 11 2 z9G
def zcs : SchT := .alt (.op 14 1 zcp) (.op 15 1 z9G)
def zct : SchT := .alt (.op 14 1 zcq) (.op 19 1 z9G)
def zcu : SchT := .alt (.op 14 1 zcr) (.op 24 1 z9G)
def zgh : SchT := .alt (.op 15 1 zcq) (.op 19 1 zcp)
def zgi : SchT := .alt (.op 15 1 zcr) (.op 24 1 zcp)
def zgj : SchT := .alt (.op 18 2 zlg) (.alt (.op 19 1 zcr) (.op 24 1 zcq))
def z7z : SchT := .op 7 2 z8B
def z9H : SchT := .op 8 1 z8B
def z9I : SchT := .alt (.op 11 2 zcs) (.op 15 1 z8B)
def z9J : SchT := .alt (.op 11 2 zct) (.op 19 1 z8B)
def z9K : SchT := .alt (.op 11 2 zcu) (.op 24 1 z8B)
def zgk : SchT := .alt (.op 14 1 zgh) (.alt (.op 15 1 zct) (.op 19 1 zcs))
def zgl : SchT := .alt (.op 14 1 zgi) (.alt (.op 15 1 zcu) (.op 24 1 zcs))
def zgm : SchT := .alt (.op 14 1 zgj) (.alt (.op 19 1 zcu) (.op 24 1 zct))
def zlh : SchT := .alt (.op 15 1 zgj) (.alt (.op 19 1 zgi) (.op 24 1 zgh))
def z7A : SchT := .op 3 2 z7z
def z8C : SchT := .op 4 1 z7z
def z8D : SchT := .alt (.op 7 2 z9H) (.op 8 1 z7z)
def z8E : SchT := .alt (.op 7 2 z9I) (.op 15 1 z7z)
def z8F : SchT := .alt (.op 7 2 z9J) (.op 19 1 z7z)
def z8G : SchT := .alt (.op 7 2 z9K) (.op 24 1 z7z)
def zcv : SchT := .alt (.op 8 1 z9I) (.op 15 1 z9H)
def zcw : SchT := .alt (.op 8 1 z9J) (.op 19 1 z9H)
def zcx : SchT := .alt (.op 8 1 z9K) (.op 24 1 z9H)
def zcy : SchT := .alt (.op 11 2 zgk) (.alt (.op 15 1 z9J) (.op 19 1 z9I))
def zcz : SchT := .alt (.op 11 2 zgl) (.alt (.op 15 1 z9K) (.op 24 1 z9I))
def zcA : SchT := .alt (.op 11 2 zgm) (.alt (.op 19 1 z9K) (.op 24 1 z9J))
def zli : SchT := .alt (.op 14 1 zlh) (.alt (.op 15 1 zgm) (.alt (.op 19 1 zgl) (.op 24 1 zgk)))
def z8H : SchT := .op 0 1 z7A
def z8I : SchT := .alt (.op 3 2 z8C) (.op 4 1 z7A)
def z8J : SchT := .alt (.op 3 2 z8D) (.op 8 1 z7A)
def z8K : SchT := .alt (.op 3 2 z8E) (.op 15 1 z7A)
def z8L : SchT := .alt (.op 3 2 z8F) (.op 19 1 z7A)
def z8M : SchT := .alt (.op 3 2 z8G) (.op 24 1 z7A)
def zbZ : SchT := .alt (.op 4 1 z8D) (.op 8 1 z8C)
def zc0 : SchT := .alt (.op 4 1 z8E) (.op 15 1 z8C)
def zc1 : SchT := .alt (.op 4 1 z8F) (.op 19 1 z8C)
def zc2 : SchT := .alt (.op 4 1 z8G) (.op 24 1 z8C)
def zc3 : SchT := .alt (.op 7 2 zcv) (.alt (.op 8 1 z8E) (.op 15 1 z8D))
def zc4 : SchT := .alt (.op 7 2 zcw) (.alt (.op 8 1 z8F) (.op 19 1 z8D))
def zc5 : SchT := .alt (.op 7 2 zcx) (.alt (.op 8 1 z8G) (.op 24 1 z8D))
def zc6 : SchT := .alt (.op 7 2 zcy) (.alt (.op 15 1 z8F) (.op 19 1 z8E))
def zc7 : SchT := .alt (.op 7 2 zcz) (.alt (.op 15 1 z8G) (.op 24 1 z8E))
def zc8 : SchT := .alt (.op 7 2 zcA) (.alt (.op 19 1 z8G) (.op 24 1 z8F))
def zjC : SchT := .alt (.op 8 1 zcy) (.alt (.op 15 1 zcw) (.op 19 1 zcv))
def zjD : SchT := .alt (.op 8 1 zcz) (.alt (.op 15 1 zcx) (.op 24 1 zcv))
def zjE : SchT := .alt (.op 8 1 zcA) (.alt (.op 19 1 zcx) (.op 24 1 zcw))
def zjF : SchT := .alt (.op 11 2 zli) (.alt (.op 15 1 zcA) (.alt (.op 19 1 zcz) (.op 24 1 zcy)))
def zc9 : SchT := .alt (.op 0 1 z8I) (.op 4 1 z8H)
def zca : SchT := .alt (.op 0 1 z8J) (.op 8 1 z8H)
def zcb : SchT := .alt (.op 0 1 z8K) (.op 15 1 z8H)
def zcc : SchT := .alt (.op 0 1 z8L) (.op 19 1 z8H)
def zcd : SchT := .alt (.op 0 1 z8M) (.op 24 1 z8H)
def zce : SchT := .alt (.op 3 2 zbZ) (.alt (.op 4 1 z8J) (.op 8 1 z8I))
def zcf : SchT := .alt (.op 3 2 zc0) (.alt (.op 4 1 z8K) (.op 15 1 z8I))
def zcg : SchT := .alt (.op 3 2 zc1) (.alt (.op 4 1 z8L) (.op 19 1 z8I))
def zch : SchT := .alt (.op 3 2 zc2) (.alt (.op 4 1 z8M) (.op 24 1 z8I))
def zci : SchT := .alt (.op 3 2 zc3) (.alt (.op 8 1 z8K) (.op 15 1 z8J))
def zcj : SchT := .alt (.op 3 2 zc4) (.alt (.op 8 1 z8L) (.op 19 1 z8J))
def zck : SchT := .alt (.op 3 2 zc5) (.alt (.op 8 1 z8M) (.op 24 1 z8J))
def zcl : SchT := .alt (.op 3 2 zc6) (.alt (.op 15 1 z8L) (.op 19 1 z8K))
def zcm : SchT := .alt (.op 3 2 zc7) (.alt (.op 15 1 z8M) (.op 24 1 z8K))
def zcn : SchT := .alt (.op 3 2 zc8) (.alt (.op 19 1 z8M) (.op 24 1 z8L))
def zf4 : SchT := .alt (.op 4 1 zc3) (.alt (.op 8 1 zc0) (.op 15 1 zbZ))
def zf5 : SchT := .alt (.op 4 1 zc4) (.alt (.op 8 1 zc1) (.op 19 1 zbZ))
def zf6 : SchT := .alt (.op 4 1 zc5) (.alt (.op 8 1 zc2) (.op 24 1 zbZ))
def zf7 : SchT := .alt (.op 4 1 zc6) (.alt (.op 15 1 zc1) (.op 19 1 zc0))
def zf8 : SchT := .alt (.op 4 1 zc7) (.alt (.op 15 1 zc2) (.op 24 1 zc0))
def zf9 : SchT := .alt (.op 4 1 zc8) (.alt (.op 19 1 zc2) (.op 24 1 zc1))
def zfa : SchT := .alt (.op 7 2 zjC) (.alt (.op 8 1 zc6) (.alt (.op 15 1 zc4) (.op 19 1 zc3)))
def zfb : SchT := .alt (.op 7 2 zjD) (.alt (.op 8 1 zc7) (.alt (.op 15 1 zc5) (.op 24 1 zc3)))
def zfc : SchT := .alt (.op 7 2 zjE) (.alt (.op 8 1 zc8) (.alt (.op 19 1 zc5) (.op 24 1 zc4)))
def zfd : SchT := .alt (.op 7 2 zjF) (.alt (.op 15 1 zc8) (.alt (.op 19 1 zc7) (.op 24 1 zc6)))
def zov : SchT := .alt (.op 8 1 zjF) (.alt (.op 15 1 zjE) (.alt (.op 19 1 zjD) (.op 24 1 zjC)))
def zfe : SchT := .alt (.op 0 1 zce) (.alt (.op 4 1 zca) (.op 8 1 zc9))
def zff : SchT := .alt (.op 0 1 zcf) (.alt (.op 4 1 zcb) (.op 15 1 zc9))
def zfg : SchT := .alt (.op 0 1 zcg) (.alt (.op 4 1 zcc) (.op 19 1 zc9))
def zfh : SchT := .alt (.op 0 1 zch) (.alt (.op 4 1 zcd) (.op 24 1 zc9))
def zfi : SchT := .alt (.op 0 1 zci) (.alt (.op 8 1 zcb) (.op 15 1 zca))
def zfj : SchT := .alt (.op 0 1 zcj) (.alt (.op 8 1 zcc) (.op 19 1 zca))
def zfk : SchT := .alt (.op 0 1 zck) (.alt (.op 8 1 zcd) (.op 24 1 zca))
def zfl : SchT := .alt (.op 0 1 zcl) (.alt (.op 15 1 zcc) (.op 19 1 zcb))
def zfm : SchT := .alt (.op 0 1 zcm) (.alt (.op 15 1 zcd) (.op 24 1 zcb))
def zfn : SchT := .alt (.op 0 1 zcn) (.alt (.op 19 1 zcd) (.op 24 1 zcc))
def zfo : SchT := .alt (.op 3 2 zf4) (.alt (.op 4 1 zci) (.alt (.op 8 1 zcf) (.op 15 1 zce)))
def zfp : SchT := .alt (.op 3 2 zf5) (.alt (.op 4 1 zcj) (.alt (.op 8 1 zcg) (.op 19 1 zce)))
def zfq : SchT := .alt (.op 3 2 zf6) (.alt (.op 4 1 zck) (.alt (.op 8 1 zch) (.op 24 1 zce)))
def zfr : SchT := .alt (.op 3 2 zf7) (.alt (.op 4 1 zcl) (.alt (.op 15 1 zcg) (.op 19 1 zcf)))
def zfs : SchT := .alt (.op 3 2 zf8) (.alt (.op 4 1 zcm) (.alt (.op 15 1 zch) (.op 24 1 zcf)))
def zft : SchT := .alt (.op 3 2 zf9) (.alt (.op 4 1 zcn) (.alt (.op 19 1 zch) (.op 24 1 zcg)))
def zfu : SchT := .alt (.op 3 2 zfa) (.alt (.op 8 1 zcl) (.alt (.op 15 1 zcj) (.op 19 1 zci)))
def zfv : SchT := .alt (.op 3 2 zfb) (.alt (.op 8 1 zcm) (.alt (.op 15 1 zck) (.op 24 1 zci)))
def zfw : SchT := .alt (.op 3 2 zfc) (.alt (.op 8 1 zcn) (.alt (.op 19 1 zck) (.op 24 1 zcj)))
def zfx : SchT := .alt (.op 3 2 zfd) (.alt (.op 15 1 zcn) (.alt (.op 19 1 zcm) (.op 24 1 zcl)))
def zjG : SchT := .alt (.op 4 1 zfa) (.alt (.op 8 1 zf7) (.alt (.op 15 1 zf5) (.op 19 1 zf4)))
def zjH : SchT := .alt (.op 4 1 zfb) (.alt (.op 8 1 zf8) (.alt (.op 15 1 zf6) (.op 24 1 zf4)))
def zjI : SchT := .alt (.op 4 1 zfc) (.alt (.op 8 1 zf9) (.alt (.op 19 1 zf6) (.op 24 1 zf5)))
def zjJ : SchT := .alt (.op 4 1 zfd) (.alt (.op 15 1 zf9) (.alt (.op 19 1 zf8) (.op 24 1 zf7)))
def zjK : SchT := .alt (.op 7 2 zov) (.alt (.op 8 1 zfd) (.alt (.op 15 1 zfc) (.alt (.op 19 1 zfb) (.op 24 1 zfa))))
def zjL : SchT := .alt (.op 0 1 zfo) (.alt (.op 4 1 zfi) (.alt (.op 8 1 zff) (.op 15 1 zfe)))
def zjM : SchT := .alt (.op 0 1 zfp) (.alt (.op 4 1 zfj) (.alt (.op 8 1 zfg) (.op 19 1 zfe)))
def zjN : SchT := .alt (.op 0 1 zfq) (.alt (.op 4 1 zfk) (.alt (.op 8 1 zfh) (.op 24 1 zfe)))
def zjO : SchT := .alt (.op 0 1 zfr) (.alt (.op 4 1 zfl) (.alt (.op 15 1 zfg) (.op 19 1 zff)))
def zjP : SchT := .alt (.op 0 1 zfs) (.alt (.op 4 1 zfm) (.alt (.op 15 1 zfh) (.op 24 1 zff)))
def zjQ : SchT := .alt (.op 0 1 zft) (.alt (.op 4 1 zfn) (.alt (.op 19 1 zfh) (.op 24 1 zfg)))
def zjR : SchT := .alt (.op 0 1 zfu) (.alt (.op 8 1 zfl) (.alt (.op 15 1 zfj) (.op 19 1 zfi)))
def zjS : SchT := .alt (.op 0 1 zfv) (.alt (.op 8 1 zfm) (.alt (.op 15 1 zfk) (.op 24 1 zfi)))
def zjT : SchT := .alt (.op 0 1 zfw) (.alt (.op 8 1 zfn) (.alt (.op 19 1 zfk) (.op 24 1 zfj)))
def zjU : SchT := .alt (.op 0 1 zfx) (.alt (.op 15 1 zfn) (.alt (.op 19 1 zfm) (.op 24 1 zfl)))
def zjV : SchT := .alt (.op 3 2 zjG) (.alt (.op 4 1 zfu) (.alt (.op 8 1 zfr) (.alt (.op 15 1 zfp) (.op 19 1 zfo))))
def zjW : SchT := .alt (.op 3 2 zjH) (.alt (.op 4 1 zfv) (.alt (.op 8 1 zfs) (.alt (.op 15 1 zfq) (.op 24 1 zfo))))
def zjX : SchT := .alt (.op 3 2 zjI) (.alt (.op 4 1 zfw) (.alt (.op 8 1 zft) (.alt (.op 19 1 zfq) (.op 24 1 zfp))))
def zjY : SchT := .alt (.op 3 2 zjJ) (.alt (.op 4 1 zfx) (.alt (.op 15 1 zft) (.alt (.op 19 1 zfs) (.op 24 1 zfr))))
def zjZ : SchT := .alt (.op 3 2 zjK) (.alt (.op 8 1 zfx) (.alt (.op 15 1 zfw) (.alt (.op 19 1 zfv) (.op 24 1 zfu))))
def zow : SchT := .alt (.op 4 1 zjK) (.alt (.op 8 1 zjJ) (.alt (.op 15 1 zjI) (.alt (.op 19 1 zjH) (.op 24 1 zjG))))
def zox : SchT := .alt (.op 0 1 zjV) (.alt (.op 4 1 zjR) (.alt (.op 8 1 zjO) (.alt (.op 15 1 zjM) (.op 19 1 zjL))))
def zoy : SchT := .alt (.op 0 1 zjW) (.alt (.op 4 1 zjS) (.alt (.op 8 1 zjP) (.alt (.op 15 1 zjN) (.op 24 1 zjL))))
def zoz : SchT := .alt (.op 0 1 zjX) (.alt (.op 4 1 zjT) (.alt (.op 8 1 zjQ) (.alt (.op 19 1 zjN) (.op 24 1 zjM))))
def zoA : SchT := .alt (.op 0 1 zjY) (.alt (.op 4 1 zjU) (.alt (.op 15 1 zjQ) (.alt (.op 19 1 zjP) (.op 24 1 zjO))))
def zoB : SchT := .alt (.op 0 1 zjZ) (.alt (.op 8 1 zjU) (.alt (.op 15 1 zjT) (.alt (.op 19 1 zjS) (.op 24 1 zjR))))
def zoC : SchT := .alt (.op 3 2 zow) (.alt (.op 4 1 zjZ) (.alt (.op 8 1 zjY) (.alt (.op 15 1 zjX) (.alt (.op 19 1 zjW) (.op 24 1 zjV)))))
def zoD : SchT := .alt (.op 0 1 zoC) (.alt (.op 4 1 zoB) (.alt (.op 8 1 zoA) (.alt (.op 15 1 zoz) (.alt (.op 19 1 zoy) (.op 24 1 zox)))))
def zoE : SchT := .op 21 3 zoD
def zoF : SchT := .op 20 3 zoE
def zs5 : SchT := .op 17 3 zoF
def zs6 : SchT := .op 16 3 zs5
def zs7 : SchT := .op 13 3 zs6
def zs8 : SchT := .op 12 3 zs7
def zs9 : SchT := .op 10 3 zs8
def zsa : SchT := .op 9 3 zs9
def zsb : SchT := .op 6 3 zsa
def zsc : SchT := .op 5 3 zsb
def zsd : SchT := .op 2 0 zsc
def zse : SchT := .op 1 0 zsd
def cf7 : Cfg := { wio := fun f i => (f == 30 && (i == 0)) || (f == 12 && (i == 0)) || (f == 13 && (i == 0)) || (f == 20 && (i == 0)) || (f == 999999 && (i == 0)), live := fun r => none, dr := fun r => if r = 12 then some [(0, 0), (1, 0), (2, 0), (3, 0), (4, 1), (5, 0), (6, 2)] else if r = 14 then some [(0, 0), (1, 0), (2, 0), (3, 0), (4, 1), (5, 0), (6, 2)] else if r = 16 then some [(0, 0), (1, 0), (2, 0), (3, 0), (4, 1), (5, 0), (6, 2)] else if r = 23 then some [(0, 0), (1, 0), (3, 0), (4, 0), (2, 1), (5, 1), (6, 0), (7, 0), (8, 1), (9, 0), (10, 0)] else none, fz := fun r => if r = 8 then some [11] else if r = 22 then some [600014] else if r = 23 then some [14] else none, dt := fun r => if r = 9 then some (zse) else if r = 18 then some (.op 0 3 (.op 2 3 (.op 3 0 (.op 4 0 (.op 5 0 (.op 6 0 (.op 7 0 (.op 8 0 (.alt (.op 1 1 (.op 9 1 (.op 10 1 (.op 11 2 (.op 12 0 (.op 13 2 .nil)))))) (.op 9 1 (.alt (.op 1 1 (.op 10 1 (.op 11 2 (.op 12 0 (.op 13 2 .nil))))) (.op 10 1 (.alt (.op 1 1 (.op 11 2 (.op 12 0 (.op 13 2 .nil)))) (.op 11 2 (.op 1 1 (.op 12 0 (.op 13 2 .nil))))))))))))))))) else none }
@[simp] theorem wio7 : cf7.wio = fun f i => (f == 30 && (i == 0)) || (f == 12 && (i == 0)) || (f == 13 && (i == 0)) || (f == 20 && (i == 0)) || (f == 999999 && (i == 0)) := rfl
@[simp] theorem live7 : cf7.live = fun r => none := rfl
@[simp] theorem wr7 : cf7.wr = fun _ => [] := rfl
def cf11 : Cfg := { wio := fun f i => (f == 999999 && (i == 0)), live := fun r => none, dr := fun r => none }
@[simp] theorem wio11 : cf11.wio = fun f i => (f == 999999 && (i == 0)) := rfl
@[simp] theorem live11 : cf11.live = fun r => none := rfl
@[simp] theorem wr11 : cf11.wr = fun _ => [] := rfl
def cf12 : Cfg := { wio := fun f i => (f == 30 && (i == 0)) || (f == 34 && (i == 0)) || (f == 31 && (i == 0)) || (f == 32 && (i == 0)) || (f == 33 && (i == 0)) || (f == 999999 && (i == 0)), live := fun r => none, dr := fun r => none }
@[simp] theorem wio12 : cf12.wio = fun f i => (f == 30 && (i == 0)) || (f == 34 && (i == 0)) || (f == 31 && (i == 0)) || (f == 32 && (i == 0)) || (f == 33 && (i == 0)) || (f == 999999 && (i == 0)) := rfl
@[simp] theorem live12 : cf12.live = fun r => none := rfl
@[simp] theorem wr12 : cf12.wr = fun _ => [] := rfl
def cf13 : Cfg := { wio := fun f i => (f == 30 && (i == 0)) || (f == 999999 && (i == 0)), live := fun r => none, dr := fun r => none }
@[simp] theorem wio13 : cf13.wio = fun f i => (f == 30 && (i == 0)) || (f == 999999 && (i == 0)) := rfl
@[simp] theorem live13 : cf13.live = fun r => none := rfl
@[simp] theorem wr13 : cf13.wr = fun _ => [] := rfl
def zj8 : SchT := .nil
def zee : SchT := .op 13 2 zj8
def z8O : SchT := .op 11 0 zee
def zj9 : SchT := .op 12 1 zee
def z8P : SchT := .op 4 1 z8O
def z8Q : SchT := .op 6 1 z8O
def z8R : SchT := .op 8 1 z8O
def z8S : SchT := .op 10 1 z8O
def z8T : SchT := .op 11 0 zj9
def zau : SchT := .alt (.op 4 1 z8Q) (.op 6 1 z8P)
def zav : SchT := .alt (.op 4 1 z8R) (.op 8 1 z8P)
def zaw : SchT := .alt (.op 4 1 z8S) (.op 10 1 z8P)
def zax : SchT := .alt (.op 4 1 z8T) (.op 12 1 z8P)
def zay : SchT := .alt (.op 6 1 z8R) (.op 8 1 z8Q)
def zaz : SchT := .alt (.op 6 1 z8S) (.op 10 1 z8Q)
def zaA : SchT := .alt (.op 6 1 z8T) (.op 12 1 z8Q)
def zaB : SchT := .alt (.op 8 1 z8S) (.op 10 1 z8R)
def zaC : SchT := .alt (.op 8 1 z8T) (.op 12 1 z8R)
def zaD : SchT := .alt (.op 10 1 z8T) (.op 12 1 z8S)
def zef : SchT := .alt (.op 4 1 zay) (.alt (.op 6 1 zav) (.op 8 1 zau))
def zeg : SchT := .alt (.op 4 1 zaz) (.alt (.op 6 1 zaw) (.op 10 1 zau))
def zeh : SchT := .alt (.op 4 1 zaA) (.alt (.op 6 1 zax) (.op 12 1 zau))
def zei : SchT := .alt (.op 4 1 zaB) (.alt (.op 8 1 zaw) (.op 10 1 zav))
def zej : SchT := .alt (.op 4 1 zaC) (.alt (.op 8 1 zax) (.op 12 1 zav))
def zek : SchT := .alt (.op 4 1 zaD) (.alt (.op 10 1 zax) (.op 12 1 zaw))
def zel : SchT := .alt (.op 6 1 zaB) (.alt (.op 8 1 zaz) (.op 10 1 zay))
def zem : SchT := .alt (.op 6 1 zaC) (.alt (.op 8 1 zaA) (.op 12 1 zay))
def zen : SchT := .alt (.op 6 1 zaD) (.alt (.op 10 1 zaA) (.op 12 1 zaz))
def zeo : SchT := .alt (.op 8 1 zaD) (.alt (.op 10 1 zaC) (.op 12 1 zaB))
def zja : SchT := .alt (.op 4 1 zel) (.alt (.op 6 1 zei) (.alt (.op 8 1 zeg) (.op 10 1 zef)))
def zjb : SchT := .alt (.op 4 1 zem) (.alt (.op 6 1 zej) (.alt (.op 8 1 zeh) (.op 12 1 zef)))
def zjc : SchT := .alt (.op 4 1 zen) (.alt (.op 6 1 zek) (.alt (.op 10 1 zeh) (.op 12 1 zeg)))
def zlW : SchT := .alt (.op 4 1 zeo) (.alt (.op 8 1 zek) (.alt (.op 10 1 zej) (.op 12 1 zei)))
def zlX : SchT := .alt (.op 6 1 zeo) (.alt (.op 8 1 zen) (.alt (.op 10 1 zem) (.op 12 1 zel)))
def zlY : SchT := .alt (.op 4 1 zlX) (.alt (.op 6 1 zlW) (.alt (.op 8 1 zjc) (.alt (.op 10 1 zjb) (.op 12 1 zja))))
def zlZ : SchT := .op 9 0 zlY
def zm0 : SchT := .op 7 0 zlZ
def zm1 : SchT := .op 5 0 zm0
def zm2 : SchT := .op 3 0 zm1
def zm3 : SchT := .op 2 0 zm2
def zm4 : SchT := .op 1 0 zm3
def zm5 : SchT := .op 0 0 zm4
def cf14 : Cfg := { wio := fun f i => (f == 999999 && (i == 0)), live := fun r => if r = 12 then some [2, 5, 7, 8, 9, 10, 53, 54] else if r = 19 then some [2, 5, 7, 8, 10, 85, 86, 87] else if r = 23 then some [2, 5, 7, 8, 10, 14, 17, 85, 86, 87, 99, 100] else none, dr := fun r => if r = 14 then some [(0, 0), (1, 0), (2, 0), (3, 0), (4, 0), (5, 1), (6, 0), (7, 2)] else if r = 16 then some [(0, 0), (1, 0), (2, 0), (3, 0), (4, 0), (5, 0), (6, 0), (7, 0), (8, 0), (9, 0), (10, 0), (11, 0), (12, 0), (13, 0), (14, 2)] else if r = 26 then some [(0, 0), (1, 0), (2, 0), (3, 0), (4, 0), (5, 0), (6, 0), (7, 0), (8, 2)] else none, fz := fun r => if r = 8 then some [5] else if r = 10 then some [8] else if r = 999998 then some [] else none, dt := fun r => if r = 10 then some (zm5) else none }
@[simp] theorem wio14 : cf14.wio = fun f i => (f == 999999 && (i == 0)) := rfl
@[simp] theorem live14 : cf14.live = fun r => if r = 12 then some [2, 5, 7, 8, 9, 10, 53, 54] else if r = 19 then some [2, 5, 7, 8, 10, 85, 86, 87] else if r = 23 then some [2, 5, 7, 8, 10, 14, 17, 85, 86, 87, 99, 100] else none := rfl
@[simp] theorem wr14 : cf14.wr = fun _ => [] := rfl
def ziU : SchT := .nil
def ziV : SchT := .op 15 2 ziU
def zdV : SchT := .op 14 0 ziV
def ziW : SchT := .op 7 1 zdV
def zdW : SchT := .op 13 2 zdV
def ziX : SchT := .alt (.op 7 1 zdW) (.op 13 2 ziW)
def zdX : SchT := .op 12 0 zdW
def zdY : SchT := .op 5 1 zdX
def zdZ : SchT := .op 12 0 ziX
def zao : SchT := .op 11 2 zdX
def ziY : SchT := .alt (.op 5 1 zdZ) (.op 7 1 zdY)
def ze0 : SchT := .alt (.op 5 1 zao) (.op 11 2 zdY)
def ze1 : SchT := .alt (.op 7 1 zao) (.op 11 2 zdZ)
def ze2 : SchT := .op 10 0 zao
def zap : SchT := .op 3 1 ze2
def ziZ : SchT := .alt (.op 5 1 ze1) (.alt (.op 7 1 ze0) (.op 11 2 ziY))
def ze3 : SchT := .op 10 0 ze0
def ze4 : SchT := .op 10 0 ze1
def z8N : SchT := .op 9 2 ze2
def ze5 : SchT := .alt (.op 3 1 ze3) (.op 5 1 zap)
def ze6 : SchT := .alt (.op 3 1 ze4) (.op 7 1 zap)
def zaq : SchT := .alt (.op 3 1 z8N) (.op 9 2 zap)
def ze7 : SchT := .op 10 0 ziZ
def zar : SchT := .alt (.op 5 1 z8N) (.op 9 2 ze3)
def zas : SchT := .alt (.op 7 1 z8N) (.op 9 2 ze4)
def zj0 : SchT := .op 8 0 z8N
def zat : SchT := .op 1 1 zj0
def zj1 : SchT := .alt (.op 3 1 ze7) (.alt (.op 5 1 ze6) (.op 7 1 ze5))
def ze8 : SchT := .alt (.op 3 1 zar) (.alt (.op 5 1 zaq) (.op 9 2 ze5))
def ze9 : SchT := .alt (.op 3 1 zas) (.alt (.op 7 1 zaq) (.op 9 2 ze6))
def zj2 : SchT := .op 8 0 zaq
def zea : SchT := .alt (.op 5 1 zas) (.alt (.op 7 1 zar) (.op 9 2 ze7))
def zj3 : SchT := .op 8 0 zar
def zj4 : SchT := .op 8 0 zas
def zeb : SchT := .alt (.op 1 1 zj2) (.op 3 1 zat)
def zec : SchT := .alt (.op 1 1 zj3) (.op 5 1 zat)
def zed : SchT := .alt (.op 1 1 zj4) (.op 7 1 zat)
def zj5 : SchT := .alt (.op 3 1 zea) (.alt (.op 5 1 ze9) (.alt (.op 7 1 ze8) (.op 9 2 zj1)))
def zj6 : SchT := .op 8 0 ze8
def zj7 : SchT := .op 8 0 ze9
def zlM : SchT := .op 8 0 zea
def zlN : SchT := .alt (.op 1 1 zj6) (.alt (.op 3 1 zec) (.op 5 1 zeb))
def zlO : SchT := .alt (.op 1 1 zj7) (.alt (.op 3 1 zed) (.op 7 1 zeb))
def zlP : SchT := .alt (.op 1 1 zlM) (.alt (.op 5 1 zed) (.op 7 1 zec))
def zlQ : SchT := .op 8 0 zj5
def zlR : SchT := .alt (.op 1 1 zlQ) (.alt (.op 3 1 zlP) (.alt (.op 5 1 zlO) (.op 7 1 zlN)))
def zlS : SchT := .op 6 3 zlR
def zlT : SchT := .op 4 3 zlS
def zlU : SchT := .op 2 3 zlT
def zlV : SchT := .op 0 0 zlU
def ziN : SchT := .nil
def ziO : SchT := .op 12 2 ziN
def zdP : SchT := .op 11 0 ziO
def ziP : SchT := .op 1 2 zdP
def zam : SchT := .op 10 2 zdP
def zdQ : SchT := .alt (.op 1 2 zam) (.op 10 2 ziP)
def zan : SchT := .op 7 2 zam
def zdR : SchT := .op 9 1 zam
def zdS : SchT := .alt (.op 1 2 zan) (.op 7 2 zdQ)
def ziQ : SchT := .alt (.op 1 2 zdR) (.op 9 1 zdQ)
def ziR : SchT := .op 6 0 zan
def zdT : SchT := .alt (.op 7 2 zdR) (.op 9 1 zan)
def ziS : SchT := .op 6 3 zdS
def ziT : SchT := .alt (.op 1 2 zdT) (.alt (.op 7 2 ziQ) (.op 9 1 zdS))
def zdU : SchT := .op 4 2 ziR
def zlC : SchT := .op 6 0 zdT
def zlD : SchT := .alt (.op 1 2 zdU) (.op 4 2 ziS)
def zlE : SchT := .op 6 3 ziT
def zlF : SchT := .alt (.op 4 2 zlC) (.op 9 1 zdU)
def zlG : SchT := .alt (.op 1 2 zlF) (.alt (.op 4 2 zlE) (.op 9 1 zlD))
def zlH : SchT := .op 8 3 zlG
def zlI : SchT := .op 5 3 zlH
def zlJ : SchT := .op 3 3 zlI
def zlK : SchT := .op 2 3 zlJ
def zlL : SchT := .op 0 3 zlK
def cf15 : Cfg := { wio := fun f i => (f == 999999 && (i == 0)), live := fun r => if r = 10 then some [1, 2, 5, 6, 7, 57, 58, 59] else if r = 16 then some [1, 2, 5, 6, 10, 71, 72] else if r = 21 then some [1, 2, 5, 6, 10, 82, 83, 84] else if r = 25 then some [1, 2, 5, 6, 10, 12, 82, 83, 84, 95, 96, 97] else if r = 28 then some [1, 2, 5, 6, 10, 12, 17, 82, 83, 84, 95, 96, 97, 102, 103, 104] else if r = 37 then some [1, 2, 5, 6, 10, 20, 126, 127] else if r = 41 then some [1, 2, 5, 6, 10, 20, 21, 22, 126, 127] else if r = 49 then some [1, 2, 5, 10, 23] else if r = 52 then some [1, 2, 5, 10, 23, 181, 182] else if r = 55 then some [1, 2, 5, 10, 23, 24, 181, 182, 187, 188] else if r = 63 then some [1, 2, 5, 244, 245] else if r = 67 then some [1, 2, 5, 26, 244, 245, 256, 257, 258] else if r = 72 then some [1, 2, 5, 26, 27, 28, 29, 244, 245, 256, 257, 258, 278, 279, 280] else if r = 81 then some [1, 2, 5, 333, 334] else if r = 84 then some [1, 2, 5, 32, 33, 333, 334] else if r = 88 then some [1, 2, 5, 32, 33, 35, 333, 334, 360, 361, 362] else if r = 95 then some [1, 2, 5, 32, 33, 35, 333, 334, 393, 394, 395] else none, dr := fun r => if r = 57 then some [(0, 0), (1, 0), (2, 0), (3, 0), (4, 0), (5, 1), (6, 0), (7, 0), (8, 0), (9, 0), (10, 0), (11, 0), (12, 0), (13, 0), (14, 0), (15, 0), (16, 0), (17, 0), (18, 0), (19, 0), (20, 0), (21, 0), (22, 0), (23, 0), (24, 0), (25, 0), (26, 0), (27, 0), (28, 0), (29, 0), (30, 0), (31, 0), (32, 0), (33, 0), (34, 0), (35, 0), (36, 0), (37, 0), (38, 0)] else if r = 58 then some [(0, 0), (1, 0), (2, 0), (3, 0), (4, 0), (5, 0), (6, 0), (7, 0), (8, 0), (9, 0), (10, 2)] else if r = 84 then some [(0, 0), (1, 0), (2, 0), (3, 0), (4, 0), (5, 0), (6, 0), (7, 0), (8, 0), (9, 0), (10, 0)] else if r = 86 then some [(0, 0), (1, 0), (2, 0), (3, 0), (4, 0), (5, 0), (6, 1), (7, 0), (8, 0), (9, 0), (10, 0), (11, 0)] else if r = 91 then some [(0, 0), (1, 0), (2, 0), (3, 0), (4, 0), (5, 0), (6, 0), (7, 0), (8, 2)] else if r = 93 then some [(0, 0), (1, 0), (2, 0), (3, 0), (4, 0), (5, 0), (6, 1), (7, 0), (8, 0), (9, 0), (10, 0), (11, 0)] else if r = 98 then some [(0, 0), (1, 0), (2, 0), (3, 0), (4, 0), (5, 0), (6, 0), (7, 0), (8, 2)] else none, dt := fun r => if r = 47 then some (zlV) else if r = 77 then some (zlL) else none }
@[simp] theorem wio15 : cf15.wio = fun f i => (f == 999999 && (i == 0)) := rfl
@[simp] theorem live15 : cf15.live = fun r => if r = 10 then some [1, 2, 5, 6, 7, 57, 58, 59] else if r = 16 then some [1, 2, 5, 6, 10, 71, 72] else if r = 21 then some [1, 2, 5, 6, 10, 82, 83, 84] else if r = 25 then some [1, 2, 5, 6, 10, 12, 82, 83, 84, 95, 96, 97] else if r = 28 then some [1, 2, 5, 6, 10, 12, 17, 82, 83, 84, 95, 96, 97, 102, 103, 104] else if r = 37 then some [1, 2, 5, 6, 10, 20, 126, 127] else if r = 41 then some [1, 2, 5, 6, 10, 20, 21, 22, 126, 127] else if r = 49 then some [1, 2, 5, 10, 23] else if r = 52 then some [1, 2, 5, 10, 23, 181, 182] else if r = 55 then some [1, 2, 5, 10, 23, 24, 181, 182, 187, 188] else if r = 63 then some [1, 2, 5, 244, 245] else if r = 67 then some [1, 2, 5, 26, 244, 245, 256, 257, 258] else if r = 72 then some [1, 2, 5, 26, 27, 28, 29, 244, 245, 256, 257, 258, 278, 279, 280] else if r = 81 then some [1, 2, 5, 333, 334] else if r = 84 then some [1, 2, 5, 32, 33, 333, 334] else if r = 88 then some [1, 2, 5, 32, 33, 35, 333, 334, 360, 361, 362] else if r = 95 then some [1, 2, 5, 32, 33, 35, 333, 334, 393, 394, 395] else none := rfl
@[simp] theorem wr15 : cf15.wr = fun _ => [] := rfl
def cf16 : Cfg := { wio := fun f i => (f == 999999 && (i == 0)), live := fun r => none, dr := fun r => none }
@[simp] theorem wio16 : cf16.wio = fun f i => (f == 999999 && (i == 0)) := rfl
@[simp] theorem live16 : cf16.live = fun r => none := rfl
@[simp] theorem wr16 : cf16.wr = fun _ => [] := rfl
def cf17 : Cfg := { wio := fun f i => (f == 999999 && (i == 0)), live := fun r => none, dr := fun r => none }
@[simp] theorem wio17 : cf17.wio = fun f i => (f == 999999 && (i == 0)) := rfl
@[simp] theorem live17 : cf17.live = fun r => none := rfl
@[simp] theorem wr17 : cf17.wr = fun _ => [] := rfl
def cf18 : Cfg := { wio := fun f i => (f == 999999 && (i == 0)), live := fun r => if r = 2 then some [0, 3] else none, dr := fun r => none }
@[simp] theorem wio18 : cf18.wio = fun f i => (f == 999999 && (i == 0)) := rfl
@[simp] theorem live18 : cf18.live = fun r => if r = 2 then some [0, 3] else none := rfl
@[simp] theorem wr18 : cf18.wr = fun _ => [] := rfl
def cf19 : Cfg := { wio := fun f i => (f == 999999 && (i == 0)), live := fun r => if r = 7 then some [1, 2, 3, 27, 28] else none, dr := fun r => if r = 9 then some [(0, 0), (1, 0), (2, 0), (3, 0), (4, 0), (5, 0), (6, 0), (7, 1), (8, 0)] else none }
@[simp] theorem wio19 : cf19.wio = fun f i => (f == 999999 && (i == 0)) := rfl
@[simp] theorem live19 : cf19.live = fun r => if r = 7 then some [1, 2, 3, 27, 28] else none := rfl
@[simp] theorem wr19 : cf19.wr = fun _ => [] := rfl
def cf20 : Cfg := { wio := fun f i => (f == 30 && (i == 0)) || (f == 999999 && (i == 0)), live := fun r => if r = 3 then some [0, 1, 7, 8] else none, dr := fun r => none }
@[simp] theorem wio20 : cf20.wio = fun f i => (f == 30 && (i == 0)) || (f == 999999 && (i == 0)) := rfl
@[simp] theorem live20 : cf20.live = fun r => if r = 3 then some [0, 1, 7, 8] else none := rfl
@[simp] theorem wr20 : cf20.wr = fun _ => [] := rfl
def cf21 : Cfg := { wio := fun f i => (f == 999999 && (i == 0)), live := fun r => none, dr := fun r => none }
@[simp] theorem wio21 : cf21.wio = fun f i => (f == 999999 && (i == 0)) := rfl
@[simp] theorem live21 : cf21.live = fun r => none := rfl
@[simp] theorem wr21 : cf21.wr = fun _ => [] := rfl
def cf22 : Cfg := { wio := fun f i => (f == 999999 && (i == 0)), live := fun r => none, dr := fun r => none }
@[simp] theorem wio22 : cf22.wio = fun f i => (f == 999999 && (i == 0)) := rfl
@[simp] theorem live22 : cf22.live = fun r => none := rfl
@[simp] theorem wr22 : cf22.wr = fun _ => [] := rfl
def cf23 : Cfg := { wio := fun f i => (f == 999999 && (i == 0)), live := fun r => if r = 3 then some [3, 6, 7, 8] else none, dr := fun r => none }
@[simp] theorem wio23 : cf23.wio = fun f i => (f == 999999 && (i == 0)) := rfl
@[simp] theorem live23 : cf23.live = fun r => if r = 3 then some [3, 6, 7, 8] else none := rfl
@[simp] theorem wr23 : cf23.wr = fun _ => [] := rfl
def cf24 : Cfg := { wio := fun f i => (f == 999999 && (i == 0)), live := fun r => none, dr := fun r => none }
@[simp] theorem wio24 : cf24.wio = fun f i => (f == 999999 && (i == 0)) := rfl
@[simp] theorem live24 : cf24.live = fun r => none := rfl
@[simp] theorem wr24 : cf24.wr = fun _ => [] := rfl
def cf25 : Cfg := { wio := fun f i => (f == 999999 && (i == 0)), live := fun r => if r = 8 then some [1, 11, 35, 36, 37] else none, dr := fun r => none }
@[simp] theorem wio25 : cf25.wio = fun f i => (f == 999999 && (i == 0)) := rfl
@[simp] theorem live25 : cf25.live = fun r => if r = 8 then some [1, 11, 35, 36, 37] else none := rfl
@[simp] theorem wr25 : cf25.wr = fun _ => [] := rfl
def cf26 : Cfg := { wio := fun f i => (f == 999999 && (i == 0)), live := fun r => if r = 8 then some [1, 11, 35, 36, 37] else none, dr := fun r => none }
@[simp] theorem wio26 : cf26.wio = fun f i => (f == 999999 && (i == 0)) := rfl
@[simp] theorem live26 : cf26.live = fun r => if r = 8 then some [1, 11, 35, 36, 37] else none := rfl
@[simp] theorem wr26 : cf26.wr = fun _ => [] := rfl
def cf27 : Cfg := { wio := fun f i => (f == 999999 && (i == 0)), live := fun r => if r = 4 then some [0, 1, 5] else none, dr := fun r => none }
@[simp] theorem wio27 : cf27.wio = fun f i => (f == 999999 && (i == 0)) := rfl
@[simp] theorem live27 : cf27.live = fun r => if r = 4 then some [0, 1, 5] else none := rfl
@[simp] theorem wr27 : cf27.wr = fun _ => [] := rfl
def cf28 : Cfg := { wio := fun f i => (f == 999999 && (i == 0)), live := fun r => if r = 4 then some [16, 17, 18] else none, dr := fun r => none }
@[simp] theorem wio28 : cf28.wio = fun f i => (f == 999999 && (i == 0)) := rfl
@[simp] theorem live28 : cf28.live = fun r => if r = 4 then some [16, 17, 18] else none := rfl
@[simp] theorem wr28 : cf28.wr = fun _ => [] := rfl
def cf29 : Cfg := { wio := fun f i => (f == 999999 && (i == 0)), live := fun r => none, dr := fun r => none }
@[simp] theorem wio29 : cf29.wio = fun f i => (f == 999999 && (i == 0)) := rfl
@[simp] theorem live29 : cf29.live = fun r => none := rfl
@[simp] theorem wr29 : cf29.wr = fun _ => [] := rfl
def cf30 : Cfg := { wio := fun f i => (f == 999999 && (i == 0)), live := fun r => none, dr := fun r => if r = 1 then some [(0, 0), (1, 0), (2, 0), (3, 0), (4, 0), (5, 0), (6, 0), (7, 0), (8, 0), (9, 0)] else if r = 4 then some [(0, 0), (1, 0), (2, 0), (3, 0), (4, 0), (5, 0), (6, 0), (7, 0), (8, 0), (9, 0), (10, 0), (11, 0), (12, 1), (13, 0)] else none }
@[simp] theorem wio30 : cf30.wio = fun f i => (f == 999999 && (i == 0)) := rfl
@[simp] theorem live30 : cf30.live = fun r => none := rfl
@[simp] theorem wr30 : cf30.wr = fun _ => [] := rfl
def cf31 : Cfg := { wio := fun f i => (f == 34 && (i == 0)) || (f == 999999 && (i == 0)), live := fun r => if r = 3 then some [6, 7, 17, 18] else if r = 6 then some [6, 7, 8, 17, 18, 25, 26, 27] else none, dr := fun r => none }
@[simp] theorem wio31 : cf31.wio = fun f i => (f == 34 && (i == 0)) || (f == 999999 && (i == 0)) := rfl
@[simp] theorem live31 : cf31.live = fun r => if r = 3 then some [6, 7, 17, 18] else if r = 6 then some [6, 7, 8, 17, 18, 25, 26, 27] else none := rfl
@[simp] theorem wr31 : cf31.wr = fun _ => [] := rfl
def zlj : SchT := .nil
def zlk : SchT := .op 16 2 zlj
def zll : SchT := .op 15 0 zlk
def zlm : SchT := .op 14 2 zll
def zgn : SchT := .op 12 2 zlm
def zgo : SchT := .op 11 1 zgn
def zgp : SchT := .op 13 3 zgn
def z9L : SchT := .op 6 2 zgp
def zgq : SchT := .op 8 2 zgp
def zln : SchT := .op 10 1 zgo
def zgr : SchT := .op 13 3 zgo
def zcB : SchT := .op 1 2 z9L
def z9M : SchT := .op 5 1 z9L
def zcC : SchT := .alt (.op 6 2 zgq) (.op 8 2 z9L)
def z9N : SchT := .alt (.op 6 2 zgr) (.op 11 1 z9L)
def zgs : SchT := .alt (.op 8 2 zgr) (.op 11 1 zgq)
def zgt : SchT := .op 13 3 zln
def zcD : SchT := .alt (.op 1 2 z9M) (.op 5 1 zcB)
def zgu : SchT := .alt (.op 1 2 zcC) (.op 8 2 zcB)
def zcE : SchT := .alt (.op 1 2 z9N) (.op 11 1 zcB)
def zlo : SchT := .op 4 0 z9M
def zcF : SchT := .alt (.op 5 1 zcC) (.op 8 2 z9M)
def z9O : SchT := .alt (.op 5 1 z9N) (.op 11 1 z9M)
def zcG : SchT := .alt (.op 6 2 zgs) (.alt (.op 8 2 z9N) (.op 11 1 zcC))
def zcH : SchT := .alt (.op 6 2 zgt) (.op 10 1 z9N)
def zlp : SchT := .alt (.op 8 2 zgt) (.op 10 1 zgs)
def zlq : SchT := .op 4 3 zcD
def zgv : SchT := .alt (.op 1 2 zcF) (.alt (.op 5 1 zgu) (.op 8 2 zcD))
def zcI : SchT := .alt (.op 1 2 z9O) (.alt (.op 5 1 zcE) (.op 11 1 zcD))
def zgw : SchT := .alt (.op 1 2 zcG) (.alt (.op 8 2 zcE) (.op 11 1 zgu))
def zgx : SchT := .alt (.op 1 2 zcH) (.op 10 1 zcE)
def zcJ : SchT := .op 3 1 zlo
def zlr : SchT := .op 4 3 zcF
def zls : SchT := .op 4 0 z9O
def zcK : SchT := .alt (.op 5 1 zcG) (.alt (.op 8 2 z9O) (.op 11 1 zcF))
def zcL : SchT := .alt (.op 5 1 zcH) (.op 10 1 z9O)
def zgy : SchT := .alt (.op 6 2 zlp) (.alt (.op 8 2 zcH) (.op 10 1 zcG))
def zgz : SchT := .alt (.op 1 2 zcJ) (.op 3 1 zlq)
def zlt : SchT := .op 4 3 zgv
def zlu : SchT := .op 4 3 zcI
def zgA : SchT := .alt (.op 1 2 zcK) (.alt (.op 5 1 zgw) (.alt (.op 8 2 zcI) (.op 11 1 zgv)))
def zgB : SchT := .alt (.op 1 2 zcL) (.alt (.op 5 1 zgx) (.op 10 1 zcI))
def zlv : SchT := .alt (.op 1 2 zgy) (.alt (.op 8 2 zgx) (.op 10 1 zgw))
def zgC : SchT := .alt (.op 3 1 zlr) (.op 8 2 zcJ)
def zcM : SchT := .alt (.op 3 1 zls) (.op 11 1 zcJ)
def zlw : SchT := .op 4 3 zcK
def zlx : SchT := .op 4 0 zcL
def zgD : SchT := .alt (.op 5 1 zgy) (.alt (.op 8 2 zcL) (.op 10 1 zcK))
def zly : SchT := .alt (.op 1 2 zgC) (.alt (.op 3 1 zlt) (.op 8 2 zgz))
def zgE : SchT := .alt (.op 1 2 zcM) (.alt (.op 3 1 zlu) (.op 11 1 zgz))
def zlz : SchT := .op 4 3 zgA
def zlA : SchT := .op 4 3 zgB
def zlB : SchT := .alt (.op 1 2 zgD) (.alt (.op 5 1 zlv) (.alt (.op 8 2 zgB) (.op 10 1 zgA)))
def zgF : SchT := .alt (.op 3 1 zlw) (.alt (.op 8 2 zcM) (.op 11 1 zgC))
def zgG : SchT := .alt (.op 3 1 zlx) (.op 10 1 zcM)
def zoG : SchT := .op 4 3 zgD
def zoH : SchT := .alt (.op 1 2 zgF) (.alt (.op 3 1 zlz) (.alt (.op 8 2 zgE) (.op 11 1 zly)))
def zoI : SchT := .alt (.op 1 2 zgG) (.alt (.op 3 1 zlA) (.op 10 1 zgE))
def zoJ : SchT := .op 4 3 zlB
def zoK : SchT := .alt (.op 3 1 zoG) (.alt (.op 8 2 zgG) (.op 10 1 zgF))
def zoL : SchT := .alt (.op 1 2 zoK) (.alt (.op 3 1 zoJ) (.alt (.op 8 2 zoI) (.op 10 1 zoH)))
def zoM : SchT := .op 9 3 zoL
def zoN : SchT := .op 7 3 zoM
def zoO : SchT := .op 2 3 zoN
def zoP : SchT := .op 0 3 zoO
def cf32 : Cfg := { wio := fun f i => (f == 30 && (i == 0)) || (f == 999999 && (i == 0)), live := fun r => if r = 5 then some [0, 1, 6, 7, 8, 9] else if r = 9 then some [0, 1, 6, 7, 8, 10] else if r = 13 then some [0, 1, 6, 7, 8, 10, 11, 12] else if r = 17 then some [0, 1, 6, 7, 8, 10, 11, 13] else none, dr := fun r => if r = 20 then some [(0, 0), (1, 0), (2, 0), (3, 0), (4, 0), (5, 0), (6, 0), (7, 0), (8, 0), (9, 0), (10, 0), (11, 2)] else if r = 21 then some [(1, 0), (2, 0), (3, 0), (5, 3), (6, 3), (7, 3), (8, 3), (0, 1), (4, 2), (9, 2), (10, 0)] else none, wr := fun r => if r = 7 then [0] else [], dt := fun r => if r = 7 then some (zoP) else none }
@[simp] theorem wio32 : cf32.wio = fun f i => (f == 30 && (i == 0)) || (f == 999999 && (i == 0)) := rfl
@[simp] theorem live32 : cf32.live = fun r => if r = 5 then some [0, 1, 6, 7, 8, 9] else if r = 9 then some [0, 1, 6, 7, 8, 10] else if r = 13 then some [0, 1, 6, 7, 8, 10, 11, 12] else if r = 17 then some [0, 1, 6, 7, 8, 10, 11, 13] else none := rfl
@[simp] theorem wr32 : cf32.wr = fun r => if r = 7 then [0] else [] := rfl
def cf33 : Cfg := { wio := fun f i => (f == 30 && (i == 0)) || (f == 999999 && (i == 0)), live := fun r => if r = 4 then some [0, 1, 4, 5, 6, 22, 23, 24] else if r = 9 then some [0, 1, 4, 5, 6, 8, 9, 10, 22, 23, 24] else if r = 13 then some [0, 1, 4, 5, 6, 8, 9, 10, 11, 12, 22, 23, 24] else if r = 15 then some [0, 1, 4, 5, 6, 8, 9, 10, 11, 12, 22, 23, 24, 50, 51, 52] else none, dr := fun r => if r = 6 then some [(0, 0), (1, 0), (2, 0), (3, 1), (4, 0), (5, 1), (6, 2), (7, 0), (8, 2)] else none, wr := fun r => if r = 6 then [0] else [] }
@[simp] theorem wio33 : cf33.wio = fun f i => (f == 30 && (i == 0)) || (f == 999999 && (i == 0)) := rfl
@[simp] theorem live33 : cf33.live = fun r => if r = 4 then some [0, 1, 4, 5, 6, 22, 23, 24] else if r = 9 then some [0, 1, 4, 5, 6, 8, 9, 10, 22, 23, 24] else if r = 13 then some [0, 1, 4, 5, 6, 8, 9, 10, 11, 12, 22, 23, 24] else if r = 15 then some [0, 1, 4, 5, 6, 8, 9, 10, 11, 12, 22, 23, 24, 50, 51, 52] else none := rfl
@[simp] theorem wr33 : cf33.wr = fun r => if r = 6 then [0] else [] := rfl
def cf34 : Cfg := { wio := fun f i => (f == 30 && (i == 0)) || (f == 999999 && (i == 0)), live := fun r => if r = 5 then some [0, 1, 6, 7, 8, 9] else if r = 10 then some [0, 1, 6, 7, 8, 9, 10, 11] else none, dr := fun r => if r = 7 then some [(0, 0), (1, 0), (2, 0), (3, 1), (4, 0), (5, 1), (6, 2), (7, 0), (8, 2)] else none, wr := fun r => if r = 7 then [0] else [] }
@[simp] theorem wio34 : cf34.wio = fun f i => (f == 30 && (i == 0)) || (f == 999999 && (i == 0)) := rfl
@[simp] theorem live34 : cf34.live = fun r => if r = 5 then some [0, 1, 6, 7, 8, 9] else if r = 10 then some [0, 1, 6, 7, 8, 9, 10, 11] else none := rfl
@[simp] theorem wr34 : cf34.wr = fun r => if r = 7 then [0] else [] := rfl
def cf35 : Cfg := { wio := fun f i => (f == 999999 && (i == 0)), live := fun r => none, dr := fun r => none }
@[simp] theorem wio35 : cf35.wio = fun f i => (f == 999999 && (i == 0)) := rfl
@[simp] theorem live35 : cf35.live = fun r => none := rfl
@[simp] theorem wr35 : cf35.wr = fun _ => [] := rfl
def cf36 : Cfg := { wio := fun f i => (f == 64 && (i == 0)) || (f == 999999 && (i == 0)), live := fun r => if r = 3 then some [3, 18, 19] else none, dr := fun r => if r = 1 then some [(0, 0), (1, 0), (2, 0), (3, 0), (4, 0), (5, 0), (6, 1), (7, 0), (8, 0), (9, 0), (10, 0), (11, 0)] else none }
@[simp] theorem wio36 : cf36.wio = fun f i => (f == 64 && (i == 0)) || (f == 999999 && (i == 0)) := rfl
@[simp] theorem live36 : cf36.live = fun r => if r = 3 then some [3, 18, 19] else none := rfl
@[simp] theorem wr36 : cf36.wr = fun _ => [] := rfl
def cf37 : Cfg := { wio := fun f i => (f == 999999 && (i == 0)), live := fun r => if r = 3 then some [1, 2, 4, 5, 24, 25, 26] else if r = 9 then some [1, 2, 4, 5, 8, 44, 45, 46] else if r = 13 then some [1, 2, 4, 5, 8, 9, 10, 44, 45, 46, 59, 60] else if r = 20 then some [1, 4, 8, 87, 88] else if r = 24 then some [1, 4, 8, 12, 13, 87, 88, 97, 98, 99] else if r = 27 then some [1, 4, 8, 12, 13, 15, 16, 87, 88, 97, 98, 99, 104, 105, 106] else none, dr := fun r => if r = 11 then some [(0, 0), (1, 0), (2, 0), (3, 0), (4, 0), (5, 1), (6, 0), (7, 2)] else if r = 15 then some [(0, 0), (1, 0), (2, 0), (3, 0), (4, 0), (5, 0), (6, 0), (7, 0), (8, 0), (9, 0), (10, 1), (11, 0), (12, 0), (13, 0), (14, 2)] else if r = 17 then some [(0, 0), (1, 0), (2, 0), (3, 0), (4, 0), (5, 1), (6, 0), (7, 2)] else none, dt := fun r => if r = 7 then some (.op 0 0 (.op 1 0 (.op 2 0 (.op 4 0 (.op 5 0 (.alt (.op 3 1 (.alt (.op 6 1 (.op 7 0 (.op 8 1 (.op 9 2 .nil)))) (.op 8 1 (.op 6 1 (.op 7 0 (.op 9 2 .nil)))))) (.alt (.op 6 1 (.alt (.op 3 1 (.op 7 0 (.op 8 1 (.op 9 2 .nil)))) (.op 8 1 (.op 3 1 (.op 7 0 (.op 9 2 .nil)))))) (.op 8 1 (.alt (.op 3 1 (.op 6 1 (.op 7 0 (.op 9 2 .nil)))) (.op 6 1 (.op 3 1 (.op 7 0 (.op 9 2 .nil))))))))))))) else none }
@[simp] theorem wio37 : cf37.wio = fun f i => (f == 999999 && (i == 0)) := rfl
@[simp] theorem live37 : cf37.live = fun r => if r = 3 then some [1, 2, 4, 5, 24, 25, 26] else if r = 9 then some [1, 2, 4, 5, 8, 44, 45, 46] else if r = 13 then some [1, 2, 4, 5, 8, 9, 10, 44, 45, 46, 59, 60] else if r = 20 then some [1, 4, 8, 87, 88] else if r = 24 then some [1, 4, 8, 12, 13, 87, 88, 97, 98, 99] else if r = 27 then some [1, 4, 8, 12, 13, 15, 16, 87, 88, 97, 98, 99, 104, 105, 106] else none := rfl
@[simp] theorem wr37 : cf37.wr = fun _ => [] := rfl
def cf38 : Cfg := { wio := fun f i => (f == 999999 && (i == 0)), live := fun r => if r = 4 then some [1, 4, 5, 15, 16] else if r = 8 then some [1, 4, 5, 6, 15, 16, 24, 25, 26] else none, dr := fun r => none }
@[simp] theorem wio38 : cf38.wio = fun f i => (f == 999999 && (i == 0)) := rfl
@[simp] theorem live38 : cf38.live = fun r => if r = 4 then some [1, 4, 5, 15, 16] else if r = 8 then some [1, 4, 5, 6, 15, 16, 24, 25, 26] else none := rfl
@[simp] theorem wr38 : cf38.wr = fun _ => [] := rfl
def cf39 : Cfg := { wio := fun f i => (f == 69 && (i == 0)) || (f == 999999 && (i == 0)), live := fun r => if r = 4 then some [1, 2, 5, 6, 23, 24] else if r = 8 then some [1, 2, 5, 6, 7, 23, 24, 33, 34] else if r = 17 then some [1, 2, 9, 60, 61, 62] else if r = 21 then some [1, 2, 9, 11, 60, 61, 62, 75, 76] else none, dr := fun r => if r = 23 then some [(0, 0), (1, 0), (2, 0), (3, 0), (4, 0), (5, 0), (6, 0), (7, 0), (8, 0), (9, 0), (10, 0), (11, 0), (12, 0), (13, 0), (14, 0), (15, 0), (16, 0), (17, 0), (18, 0)] else if r = 24 then some [(0, 0), (1, 0), (2, 0), (3, 0), (4, 0), (5, 0), (6, 0), (7, 0), (8, 0), (9, 0), (10, 0), (11, 0), (12, 0), (13, 2)] else none, fz := fun r => if r = 14 then some [5] else none }
@[simp] theorem wio39 : cf39.wio = fun f i => (f == 69 && (i == 0)) || (f == 999999 && (i == 0)) := rfl
@[simp] theorem live39 : cf39.live = fun r => if r = 4 then some [1, 2, 5, 6, 23, 24] else if r = 8 then some [1, 2, 5, 6, 7, 23, 24, 33, 34] else if r = 17 then some [1, 2, 9, 60, 61, 62] else if r = 21 then some [1, 2, 9, 11, 60, 61, 62, 75, 76] else none := rfl
@[simp] theorem wr39 : cf39.wr = fun _ => [] := rfl
def cf40 : Cfg := { wio := fun f i => (f == 999999 && (i == 0)), live := fun r => if r = 5 then some [1, 2, 5, 21, 22, 23] else if r = 12 then some [2, 5, 8, 45, 46, 47] else if r = 15 then some [2, 5, 8, 10, 45, 46, 47, 51, 52, 53] else none, dr := fun r => if r = 17 then some [(0, 0), (1, 0), (2, 0), (3, 0), (4, 0), (5, 0), (6, 0), (7, 0), (8, 0), (9, 0), (10, 0), (11, 0), (12, 0), (13, 0), (14, 1), (15, 0)] else none }
@[simp] theorem wio40 : cf40.wio = fun f i => (f == 999999 && (i == 0)) := rfl
@[simp] theorem live40 : cf40.live = fun r => if r = 5 then some [1, 2, 5, 21, 22, 23] else if r = 12 then some [2, 5, 8, 45, 46, 47] else if r = 15 then some [2, 5, 8, 10, 45, 46, 47, 51, 52, 53] else none := rfl
@[simp] theorem wr40 : cf40.wr = fun _ => [] := rfl
def cf41 : Cfg := { wio := fun f i => (f == 999999 && (i == 0)), live := fun r => if r = 6 then some [2, 6, 7, 8, 9] else if r = 9 then some [2, 6, 7, 8, 9, 38, 39, 40] else none, dr := fun r => if r = 8 then some [(0, 0), (1, 0), (2, 0), (3, 0), (4, 0), (5, 0), (6, 0), (7, 0), (8, 0), (9, 0)] else if r = 13 then some [(0, 0), (1, 0), (2, 0), (3, 0), (4, 0), (5, 0), (6, 0), (7, 0), (8, 0), (9, 0), (10, 0), (11, 0), (12, 1), (13, 0), (14, 0), (15, 0), (16, 2)] else none }
@[simp] theorem wio41 : cf41.wio = fun f i => (f == 999999 && (i == 0)) := rfl
@[simp] theorem live41 : cf41.live = fun r => if r = 6 then some [2, 6, 7, 8, 9] else if r = 9 then some [2, 6, 7, 8, 9, 38, 39, 40] else none := rfl
@[simp] theorem wr41 : cf41.wr = fun _ => [] := rfl
def cf42 : Cfg := { wio := fun f i => (f == 999999 && (i == 0)), live := fun r => if r = 3 then some [3, 22, 23] else if r = 8 then some [3, 6, 7, 22, 23, 29, 30, 31] else if r = 17 then some [10, 53, 54] else if r = 20 then some [10, 12, 53, 54] else none, dr := fun r => if r = 1 then some [(0, 0), (1, 0), (2, 1), (3, 1), (4, 0), (5, 0), (6, 0), (7, 0), (8, 0)] else if r = 20 then some [(0, 0), (1, 0), (2, 0), (3, 0), (4, 0), (5, 0), (6, 0), (7, 0), (8, 0), (9, 0), (10, 0), (11, 0), (12, 1), (13, 0)] else if r = 22 then some [(0, 0), (1, 0), (2, 3), (3, 3), (4, 3), (5, 0), (6, 0), (7, 0), (8, 0), (9, 0), (10, 0), (11, 0), (12, 0), (13, 0), (14, 0), (15, 2), (16, 0), (17, 2)] else none }
@[simp] theorem wio42 : cf42.wio = fun f i => (f == 999999 && (i == 0)) := rfl
@[simp] theorem live42 : cf42.live = fun r => if r = 3 then some [3, 22, 23] else if r = 8 then some [3, 6, 7, 22, 23, 29, 30, 31] else if r = 17 then some [10, 53, 54] else if r = 20 then some [10, 12, 53, 54] else none := rfl
@[simp] theorem wr42 : cf42.wr = fun _ => [] := rfl
def cf43 : Cfg := { wio := fun f i => (f == 999999 && (i == 0)), live := fun r => if r = 4 then some [2, 6, 7, 8, 9] else if r = 7 then some [2, 6, 7, 8, 9, 10] else none, dr := fun r => if r = 9 then some [(0, 0), (1, 0), (2, 0), (3, 0), (4, 0), (5, 0), (6, 1), (7, 0)] else none, wr := fun r => if r = 12 then [6, 46] else [], dt := fun r => if r = 12 then some (.op 0 0 (.op 1 0 (.op 4 0 (.op 5 0 (.op 6 0 (.op 7 0 (.op 8 0 (.op 9 0 (.op 10 0 (.op 11 0 (.alt (.op 2 1 (.alt (.op 3 1 (.op 12 1 (.op 13 0 (.op 14 0 (.op 15 1 (.op 16 2 (.op 17 0 (.op 18 0 .nil)))))))) (.op 12 1 (.op 13 0 (.op 14 0 (.alt (.op 3 1 (.op 15 1 (.op 16 2 (.op 17 0 (.op 18 0 .nil))))) (.op 15 1 (.op 3 1 (.op 16 2 (.op 17 0 (.op 18 0 .nil))))))))))) (.op 12 1 (.op 13 0 (.op 14 0 (.alt (.op 2 1 (.alt (.op 3 1 (.op 15 1 (.op 16 2 (.op 17 0 (.op 18 0 .nil))))) (.op 15 1 (.op 3 1 (.op 16 2 (.op 17 0 (.op 18 0 .nil))))))) (.op 15 1 (.op 2 1 (.op 3 1 (.op 16 2 (.op 17 0 (.op 18 0 .nil))))))))))))))))))))) else none }
@[simp] theorem wio43 : cf43.wio = fun f i => (f == 999999 && (i == 0)) := rfl
@[simp] theorem live43 : cf43.live = fun r => if r = 4 then some [2, 6, 7, 8, 9] else if r = 7 then some [2, 6, 7, 8, 9, 10] else none := rfl
@[simp] theorem wr43 : cf43.wr = fun r => if r = 12 then [6, 46] else [] := rfl
def cf44 : Cfg := { wio := fun f i => (f == 999999 && (i == 0)), live := fun r => if r = 7 then some [3, 4, 5, 17, 18, 19] else none, dr := fun r => none }
@[simp] theorem wio44 : cf44.wio = fun f i => (f == 999999 && (i == 0)) := rfl
@[simp] theorem live44 : cf44.live = fun r => if r = 7 then some [3, 4, 5, 17, 18, 19] else none := rfl
@[simp] theorem wr44 : cf44.wr = fun _ => [] := rfl
def cf45 : Cfg := { wio := fun f i => (f == 999999 && (i == 0)), live := fun r => if r = 4 then some [0, 1, 12, 13] else none, dr := fun r => if r = 6 then some [(0, 0), (1, 0), (2, 0), (3, 0), (4, 0), (5, 0), (6, 0), (7, 0), (8, 0)] else none }
@[simp] theorem wio45 : cf45.wio = fun f i => (f == 999999 && (i == 0)) := rfl
@[simp] theorem live45 : cf45.live = fun r => if r = 4 then some [0, 1, 12, 13] else none := rfl
@[simp] theorem wr45 : cf45.wr = fun _ => [] := rfl
def cf46 : Cfg := { wio := fun f i => (f == 999999 && (i == 0)), live := fun r => if r = 4 then some [0, 1, 12, 13] else none, dr := fun r => if r = 6 then some [(0, 0), (1, 0), (2, 0), (3, 0), (4, 0), (5, 0), (6, 0), (7, 0), (8, 1), (9, 0)] else none }
@[simp] theorem wio46 : cf46.wio = fun f i => (f == 999999 && (i == 0)) := rfl
@[simp] theorem live46 : cf46.live = fun r => if r = 4 then some [0, 1, 12, 13] else none := rfl
@[simp] theorem wr46 : cf46.wr = fun _ => [] := rfl
def cf47 : Cfg := { wio := fun f i => (f == 999999 && (i == 0)), live := fun r => if r = 4 then some [0, 1, 12, 13] else none, dr := fun r => if r = 6 then some [(0, 0), (1, 0), (2, 0), (3, 0), (4, 0), (5, 0), (6, 0), (7, 0), (8, 0)] else none }
@[simp] theorem wio47 : cf47.wio = fun f i => (f == 999999 && (i == 0)) := rfl
@[simp] theorem live47 : cf47.live = fun r => if r = 4 then some [0, 1, 12, 13] else none := rfl
@[simp] theorem wr47 : cf47.wr = fun _ => [] := rfl
def cf48 : Cfg := { wio := fun f i => (f == 999999 && (i == 0)), live := fun r => none, dr := fun r => none }
@[simp] theorem wio48 : cf48.wio = fun f i => (f == 999999 && (i == 0)) := rfl
@[simp] theorem live48 : cf48.live = fun r => none := rfl
@[simp] theorem wr48 : cf48.wr = fun _ => [] := rfl
def cf49 : Cfg := { wio := fun f i => (f == 999999 && (i == 0)), live := fun r => none, dr := fun r => none }
@[simp] theorem wio49 : cf49.wio = fun f i => (f == 999999 && (i == 0)) := rfl
@[simp] theorem live49 : cf49.live = fun r => none := rfl
@[simp] theorem wr49 : cf49.wr = fun _ => [] := rfl
def cf50 : Cfg := { wio := fun f i => (f == 999999 && (i == 0)), live := fun r => if r = 4 then some [0, 1, 18, 19] else none, dr := fun r => none }
@[simp] theorem wio50 : cf50.wio = fun f i => (f == 999999 && (i == 0)) := rfl
@[simp] theorem live50 : cf50.live = fun r => if r = 4 then some [0, 1, 18, 19] else none := rfl
@[simp] theorem wr50 : cf50.wr = fun _ => [] := rfl
def cf51 : Cfg := { wio := fun f i => (f == 999999 && (i == 0)), live := fun r => if r = 3 then some [1, 2, 7, 11, 12, 13] else none, dr := fun r => none }
@[simp] theorem wio51 : cf51.wio = fun f i => (f == 999999 && (i == 0)) := rfl
@[simp] theorem live51 : cf51.live = fun r => if r = 3 then some [1, 2, 7, 11, 12, 13] else none := rfl
@[simp] theorem wr51 : cf51.wr = fun _ => [] := rfl
def cf52 : Cfg := { wio := fun f i => (f == 999999 && (i == 0)), live := fun r => if r = 4 then some [0, 1, 12, 13] else none, dr := fun r => if r = 6 then some [(0, 0), (1, 0), (2, 0), (3, 0), (4, 0), (5, 0), (6, 0), (7, 0), (8, 0)] else none }
@[simp] theorem wio52 : cf52.wio = fun f i => (f == 999999 && (i == 0)) := rfl
@[simp] theorem live52 : cf52.live = fun r => if r = 4 then some [0, 1, 12, 13] else none := rfl
@[simp] theorem wr52 : cf52.wr = fun _ => [] := rfl
def cf53 : Cfg := { wio := fun f i => (f == 999999 && (i == 0)), live := fun r => if r = 4 then some [1, 2, 15, 16, 17] else none, dr := fun r => none }
@[simp] theorem wio53 : cf53.wio = fun f i => (f == 999999 && (i == 0)) := rfl
@[simp] theorem live53 : cf53.live = fun r => if r = 4 then some [1, 2, 15, 16, 17] else none := rfl
@[simp] theorem wr53 : cf53.wr = fun _ => [] := rfl
def cf54 : Cfg := { wio := fun f i => (f == 999999 && (i == 0)), live := fun r => if r = 4 then some [0, 1, 12, 13] else none, dr := fun r => if r = 6 then some [(0, 0), (1, 0), (2, 0), (3, 0), (4, 0), (5, 0), (6, 0), (7, 0), (8, 0)] else none }
@[simp] theorem wio54 : cf54.wio = fun f i => (f == 999999 && (i == 0)) := rfl
@[simp] theorem live54 : cf54.live = fun r => if r = 4 then some [0, 1, 12, 13] else none := rfl
@[simp] theorem wr54 : cf54.wr = fun _ => [] := rfl
def cf55 : Cfg := { wio := fun f i => (f == 999999 && (i == 0)), live := fun r => none, dr := fun r => none }
@[simp] theorem wio55 : cf55.wio = fun f i => (f == 999999 && (i == 0)) := rfl
@[simp] theorem live55 : cf55.live = fun r => none := rfl
@[simp] theorem wr55 : cf55.wr = fun _ => [] := rfl
def cf56 : Cfg := { wio := fun f i => (f == 999999 && (i == 0)), live := fun r => if r = 2 then some [1, 2, 3, 7] else none, dr := fun r => if r = 4 then some [(0, 0), (1, 0), (2, 0), (3, 0), (4, 0), (5, 0), (6, 0), (7, 1), (8, 0)] else none }
@[simp] theorem wio56 : cf56.wio = fun f i => (f == 999999 && (i == 0)) := rfl
@[simp] theorem live56 : cf56.live = fun r => if r = 2 then some [1, 2, 3, 7] else none := rfl
@[simp] theorem wr56 : cf56.wr = fun _ => [] := rfl
def cf57 : Cfg := { wio := fun f i => (f == 999999 && (i == 0)), live := fun r => if r = 5 then some [2, 6, 7, 8, 9] else if r = 8 then some [2, 6, 7, 8, 9, 30, 31] else none, dr := fun r => if r = 10 then some [(0, 0), (1, 0), (2, 0), (3, 0), (4, 0), (5, 0), (6, 1), (7, 0)] else if r = 14 then some [(0, 0), (1, 0), (2, 0), (3, 0), (4, 0), (5, 0), (6, 0), (7, 0), (8, 1), (9, 0), (10, 0), (11, 1), (12, 2), (13, 0)] else none }
@[simp] theorem wio57 : cf57.wio = fun f i => (f == 999999 && (i == 0)) := rfl
@[simp] theorem live57 : cf57.live = fun r => if r = 5 then some [2, 6, 7, 8, 9] else if r = 8 then some [2, 6, 7, 8, 9, 30, 31] else none := rfl
@[simp] theorem wr57 : cf57.wr = fun _ => [] := rfl
def cf58 : Cfg := { wio := fun f i => (f == 999999 && (i == 0)), live := fun r => none, dr := fun r => none }
@[simp] theorem wio58 : cf58.wio = fun f i => (f == 999999 && (i == 0)) := rfl
@[simp] theorem live58 : cf58.live = fun r => none := rfl
@[simp] theorem wr58 : cf58.wr = fun _ => [] := rfl
def cf59 : Cfg := { wio := fun f i => (f == 999999 && (i == 0)), live := fun r => none, dr := fun r => none }
@[simp] theorem wio59 : cf59.wio = fun f i => (f == 999999 && (i == 0)) := rfl
@[simp] theorem live59 : cf59.live = fun r => none := rfl
@[simp] theorem wr59 : cf59.wr = fun _ => [] := rfl
def cf60 : Cfg := { wio := fun f i => (f == 999999 && (i == 0)), live := fun r => if r = 9 then some [1, 3, 38, 39, 40] else if r = 14 then some [1, 3, 38, 39, 40, 49, 50, 51] else none, dr := fun r => none }
@[simp] theorem wio60 : cf60.wio = fun f i => (f == 999999 && (i == 0)) := rfl
@[simp] theorem live60 : cf60.live = fun r => if r = 9 then some [1, 3, 38, 39, 40] else if r = 14 then some [1, 3, 38, 39, 40, 49, 50, 51] else none := rfl
@[simp] theorem wr60 : cf60.wr = fun _ => [] := rfl
def cf61 : Cfg := { wio := fun f i => (f == 999999 && (i == 0)), live := fun r => if r = 3 then some [0, 1, 5, 6] else if r = 6 then some [0, 1, 5, 6, 7] else none, dr := fun r => if r = 8 then some [(0, 0), (1, 0), (2, 0), (3, 0), (4, 0), (5, 0), (6, 0), (7, 0), (8, 1), (9, 0), (10, 0), (11, 1), (12, 2), (13, 0)] else none }
@[simp] theorem wio61 : cf61.wio = fun f i => (f == 999999 && (i == 0)) := rfl
@[simp] theorem live61 : cf61.live = fun r => if r = 3 then some [0, 1, 5, 6] else if r = 6 then some [0, 1, 5, 6, 7] else none := rfl
@[simp] theorem wr61 : cf61.wr = fun _ => [] := rfl
def cf62 : Cfg := { wio := fun f i => (f == 999999 && (i == 0)), live := fun r => if r = 9 then some [1, 3, 38, 39, 40] else if r = 14 then some [1, 3, 38, 39, 40, 49, 50, 51] else none, dr := fun r => none }
@[simp] theorem wio62 : cf62.wio = fun f i => (f == 999999 && (i == 0)) := rfl
@[simp] theorem live62 : cf62.live = fun r => if r = 9 then some [1, 3, 38, 39, 40] else if r = 14 then some [1, 3, 38, 39, 40, 49, 50, 51] else none := rfl
@[simp] theorem wr62 : cf62.wr = fun _ => [] := rfl
def cf63 : Cfg := { wio := fun f i => (f == 999999 && (i == 0)), live := fun r => none, dr := fun r => none }
@[simp] theorem wio63 : cf63.wio = fun f i => (f == 999999 && (i == 0)) := rfl
@[simp] theorem live63 : cf63.live = fun r => none := rfl
@[simp] theorem wr63 : cf63.wr = fun _ => [] := rfl
def cf65 : Cfg := { wio := fun f i => (f == 999999 && (i == 0)), live := fun r => none, dr := fun r => none }
@[simp] theorem wio65 : cf65.wio = fun f i => (f == 999999 && (i == 0)) := rfl
@[simp] theorem live65 : cf65.live = fun r => none := rfl
@[simp] theorem wr65 : cf65.wr = fun _ => [] := rfl
def cf66 : Cfg := { wio := fun f i => (f == 999999 && (i == 0)), live := fun r => if r = 3 then some [3, 6, 7, 8] else none, dr := fun r => none }
@[simp] theorem wio66 : cf66.wio = fun f i => (f == 999999 && (i == 0)) := rfl
@[simp] theorem live66 : cf66.live = fun r => if r = 3 then some [3, 6, 7, 8] else none := rfl
@[simp] theorem wr66 : cf66.wr = fun _ => [] := rfl
def cf67 : Cfg := { wio := fun f i => (f == 999999 && (i == 0)), live := fun r => none, dr := fun r => none }
@[simp] theorem wio67 : cf67.wio = fun f i => (f == 999999 && (i == 0)) := rfl
@[simp] theorem live67 : cf67.live = fun r => none := rfl
@[simp] theorem wr67 : cf67.wr = fun _ => [] := rfl
def cf68 : Cfg := { wio := fun f i => (f == 999999 && (i == 0)), live := fun r => none, dr := fun r => none }
@[simp] theorem wio68 : cf68.wio = fun f i => (f == 999999 && (i == 0)) := rfl
@[simp] theorem live68 : cf68.live = fun r => none := rfl
@[simp] theorem wr68 : cf68.wr = fun _ => [] := rfl
def cf69 : Cfg := { wio := fun f i => (f == 79 && (i == 0)) || (f == 999999 && (i == 0)), live := fun r => none, dr := fun r => none }
@[simp] theorem wio69 : cf69.wio = fun f i => (f == 79 && (i == 0)) || (f == 999999 && (i == 0)) := rfl
@[simp] theorem live69 : cf69.live = fun r => none := rfl
@[simp] theorem wr69 : cf69.wr = fun _ => [] := rfl
def cf70 : Cfg := { wio := fun f i => (f == 999999 && (i == 0)), live := fun r => none, dr := fun r => if r = 1 then some [(0, 0), (1, 0), (2, 0), (3, 0), (4, 0), (5, 0), (6, 0), (7, 0), (8, 1), (9, 0)] else none }
@[simp] theorem wio70 : cf70.wio = fun f i => (f == 999999 && (i == 0)) := rfl
@[simp] theorem live70 : cf70.live = fun r => none := rfl
@[simp] theorem wr70 : cf70.wr = fun _ => [] := rfl
def cf71 : Cfg := { wio := fun f i => (f == 999999 && (i == 0)), live := fun r => none, dr := fun r => none }
@[simp] theorem wio71 : cf71.wio = fun f i => (f == 999999 && (i == 0)) := rfl
@[simp] theorem live71 : cf71.live = fun r => none := rfl
@[simp] theorem wr71 : cf71.wr = fun _ => [] := rfl
def cf72 : Cfg := { wio := fun f i => (f == 999999 && (i == 0)), live := fun r => none, dr := fun r => none }
@[simp] theorem wio72 : cf72.wio = fun f i => (f == 999999 && (i == 0)) := rfl
@[simp] theorem live72 : cf72.live = fun r => none := rfl
@[simp] theorem wr72 : cf72.wr = fun _ => [] := rfl
def cf73 : Cfg := { wio := fun f i => (f == 999999 && (i == 0)), live := fun r => if r = 3 then some [1, 2, 3, 7, 11, 12] else none, dr := fun r => none }
@[simp] theorem wio73 : cf73.wio = fun f i => (f == 999999 && (i == 0)) := rfl
@[simp] theorem live73 : cf73.live = fun r => if r = 3 then some [1, 2, 3, 7, 11, 12] else none := rfl
@[simp] theorem wr73 : cf73.wr = fun _ => [] := rfl
def cf74 : Cfg := { wio := fun f i => (f == 999999 && (i == 0)), live := fun r => if r = 2 then some [0, 1, 7, 8] else none, dr := fun r => none }
@[simp] theorem wio74 : cf74.wio = fun f i => (f == 999999 && (i == 0)) := rfl
@[simp] theorem live74 : cf74.live = fun r => if r = 2 then some [0, 1, 7, 8] else none := rfl
@[simp] theorem wr74 : cf74.wr = fun _ => [] := rfl
def cf76 : Cfg := { wio := fun f i => (f == 999999 && (i == 0)), live := fun r => none, dr := fun r => none }
@[simp] theorem wio76 : cf76.wio = fun f i => (f == 999999 && (i == 0)) := rfl
@[simp] theorem live76 : cf76.live = fun r => none := rfl
@[simp] theorem wr76 : cf76.wr = fun _ => [] := rfl
def cf77 : Cfg := { wio := fun f i => (f == 999999 && (i == 0)), live := fun r => none, dr := fun r => none }
@[simp] theorem wio77 : cf77.wio = fun f i => (f == 999999 && (i == 0)) := rfl
@[simp] theorem live77 : cf77.live = fun r => none := rfl
@[simp] theorem wr77 : cf77.wr = fun _ => [] := rfl
def cf78 : Cfg := { wio := fun f i => (f == 999999 && (i == 0)), live := fun r => none, dr := fun r => none }
@[simp] theorem wio78 : cf78.wio = fun f i => (f == 999999 && (i == 0)) := rfl
@[simp] theorem live78 : cf78.live = fun r => none := rfl
@[simp] theorem wr78 : cf78.wr = fun _ => [] := rfl
def cf79 : Cfg := { wio := fun f i => (f == 80 && (i == 0)) || (f == 92 && (i == 0)) || (f == 999999 && (i == 0)), live := fun r => if r = 2 then some [0, 1, 2, 6, 7, 8] else if r = 7 then some [0, 1, 2, 6] else if r = 9 then some [0, 1, 2, 6, 7, 8] else none, dr := fun r => none }
@[simp] theorem wio79 : cf79.wio = fun f i => (f == 80 && (i == 0)) || (f == 92 && (i == 0)) || (f == 999999 && (i == 0)) := rfl
@[simp] theorem live79 : cf79.live = fun r => if r = 2 then some [0, 1, 2, 6, 7, 8] else if r = 7 then some [0, 1, 2, 6] else if r = 9 then some [0, 1, 2, 6, 7, 8] else none := rfl
@[simp] theorem wr79 : cf79.wr = fun _ => [] := rfl
def cf80 : Cfg := { wio := fun f i => (f == 999999 && (i == 0)), live := fun r => if r = 1 then some [0, 1, 2, 3, 8] else if r = 4 then some [0, 1, 2, 3, 8, 9] else none, dr := fun r => if r = 4 then some [(0, 0), (1, 0), (2, 0), (3, 0), (4, 0), (5, 0), (6, 0), (7, 0), (8, 0), (9, 0), (10, 0), (11, 0), (12, 0), (13, 0), (14, 1), (15, 0), (16, 0)] else if r = 6 then some [(0, 0), (1, 0), (2, 3), (3, 3), (4, 3), (5, 0), (6, 0), (7, 0), (8, 0), (9, 0), (10, 0), (11, 0), (12, 0), (13, 0), (14, 0), (15, 2), (16, 0), (17, 2)] else none }
@[simp] theorem wio80 : cf80.wio = fun f i => (f == 999999 && (i == 0)) := rfl
@[simp] theorem live80 : cf80.live = fun r => if r = 1 then some [0, 1, 2, 3, 8] else if r = 4 then some [0, 1, 2, 3, 8, 9] else none := rfl
@[simp] theorem wr80 : cf80.wr = fun _ => [] := rfl
def cf88 : Cfg := { wio := fun f i => (f == 999999 && (i == 0)), live := fun r => none, dr := fun r => none }
@[simp] theorem wio88 : cf88.wio = fun f i => (f == 999999 && (i == 0)) := rfl
@[simp] theorem live88 : cf88.live = fun r => none := rfl
@[simp] theorem wr88 : cf88.wr = fun _ => [] := rfl
def cf89 : Cfg := { wio := fun f i => (f == 999999 && (i == 0)), live := fun r => none, dr := fun r => none }
@[simp] theorem wio89 : cf89.wio = fun f i => (f == 999999 && (i == 0)) := rfl
@[simp] theorem live89 : cf89.live = fun r => none := rfl
@[simp] theorem wr89 : cf89.wr = fun _ => [] := rfl
def cf90 : Cfg := { wio := fun f i => (f == 999999 && (i == 0)), live := fun r => none, dr := fun r => if r = 1 then some [(0, 0), (1, 0), (2, 0), (3, 0), (4, 0), (5, 0), (6, 0), (7, 0), (8, 0), (9, 0), (10, 0), (11, 0), (12, 0), (13, 0), (14, 0), (15, 0), (16, 0), (17, 0), (18, 0)] else none }
@[simp] theorem wio90 : cf90.wio = fun f i => (f == 999999 && (i == 0)) := rfl
@[simp] theorem live90 : cf90.live = fun r => none := rfl
@[simp] theorem wr90 : cf90.wr = fun _ => [] := rfl
def cf91 : Cfg := { wio := fun f i => (f == 999999 && (i == 0)), live := fun r => none, dr := fun r => none }
@[simp] theorem wio91 : cf91.wio = fun f i => (f == 999999 && (i == 0)) := rfl
@[simp] theorem live91 : cf91.live = fun r => none := rfl
@[simp] theorem wr91 : cf91.wr = fun _ => [] := rfl
def cf92 : Cfg := { wio := fun f i => (f == 98 && (i == 0)) || (f == 92 && (i == 0)) || (f == 999999 && (i == 0)), live := fun r => if r = 3 then some [0, 1, 4, 10, 11] else if r = 9 then some [0, 10, 13] else if r = 15 then some [0, 2, 4, 14, 15] else if r = 21 then some [0, 14, 17] else if r = 33 then some [0, 1, 2, 3, 4, 18, 19, 20, 21, 22] else none, dr := fun r => if r = 5 then some [(0, 0), (1, 0), (2, 0), (3, 0), (4, 0), (5, 0), (6, 0), (7, 0), (8, 0), (9, 1), (10, 0)] else if r = 11 then some [(0, 0), (1, 0), (2, 3), (3, 3), (4, 3), (5, 0), (6, 0), (7, 0), (8, 0), (9, 0), (10, 0), (11, 0), (12, 0), (13, 0), (14, 0), (15, 2), (16, 0), (17, 2)] else if r = 17 then some [(0, 0), (1, 0), (2, 0), (3, 0), (4, 0), (5, 0), (6, 0), (7, 0), (8, 0), (9, 1), (10, 0), (11, 0)] else if r = 23 then some [(0, 0), (1, 0), (2, 3), (3, 3), (4, 3), (5, 0), (6, 0), (7, 0), (8, 0), (9, 0), (10, 0), (11, 0), (12, 0), (13, 0), (14, 0), (15, 2), (16, 0), (17, 2)] else if r = 35 then some [(0, 0), (1, 0), (2, 0), (3, 0), (4, 0), (5, 0), (6, 0), (7, 0), (8, 0), (9, 0), (10, 0), (11, 1), (12, 0), (13, 0)] else none }
@[simp] theorem wio92 : cf92.wio = fun f i => (f == 98 && (i == 0)) || (f == 92 && (i == 0)) || (f == 999999 && (i == 0)) := rfl
@[simp] theorem live92 : cf92.live = fun r => if r = 3 then some [0, 1, 4, 10, 11] else if r = 9 then some [0, 10, 13] else if r = 15 then some [0, 2, 4, 14, 15] else if r = 21 then some [0, 14, 17] else if r = 33 then some [0, 1, 2, 3, 4, 18, 19, 20, 21, 22] else none := rfl
@[simp] theorem wr92 : cf92.wr = fun _ => [] := rfl
def cf98 : Cfg := { wio := fun f i => (f == 100 && (i == 0)) || (f == 999999 && (i == 0)), live := fun r => if r = 2 then some [0, 2, 4, 10, 11] else none, dr := fun r => none }
@[simp] theorem wio98 : cf98.wio = fun f i => (f == 100 && (i == 0)) || (f == 999999 && (i == 0)) := rfl
@[simp] theorem live98 : cf98.live = fun r => if r = 2 then some [0, 2, 4, 10, 11] else none := rfl
@[simp] theorem wr98 : cf98.wr = fun _ => [] := rfl
def cf100 : Cfg := { wio := fun f i => (f == 999999 && (i == 0)), live := fun r => if r = 1 then some [0, 1, 2, 3, 10] else none, dr := fun r => if r = 3 then some [(0, 0), (1, 0), (2, 0), (3, 0), (4, 3), (5, 3), (6, 3), (7, 3), (8, 0), (9, 0), (10, 0), (11, 0), (12, 0), (13, 0), (14, 0), (15, 0), (16, 0), (17, 0), (18, 0), (19, 0), (20, 0), (21, 2), (22, 0), (23, 2)] else none }
@[simp] theorem wio100 : cf100.wio = fun f i => (f == 999999 && (i == 0)) := rfl
@[simp] theorem live100 : cf100.live = fun r => if r = 1 then some [0, 1, 2, 3, 10] else none := rfl
@[simp] theorem wr100 : cf100.wr = fun _ => [] := rfl
def z2c (f : FuncId) : Option Cfg :=
 if f = 7 then some cf7 else
 if f = 11 then some cf11 else
 if f = 12 then some cf12 else
 if f = 13 then some cf13 else
 if f = 14 then some cf14 else
 if f = 15 then some cf15 else
 if f = 16 then some cf16 else
 if f = 17 then some cf17 else
 if f = 18 then some cf18 else
 if f = 19 then some cf19 else
 if f = 20 then some cf20 else
 if f = 21 then some cf21 else
 if f = 22 then some cf22 else
 if f = 23 then some cf23 else
 if f = 24 then some cf24 else
 if f = 25 then some cf25 else
 if f = 26 then some cf26 else
 if f = 27 then some cf27 else
 if f = 28 then some cf28 else
 if f = 29 then some cf29 else
 if f = 30 then some cf30 else
 if f = 31 then some cf31 else
 if f = 32 then some cf32 else
 if f = 33 then some cf33 else
 if f = 34 then some cf34 else
 if f = 35 then some cf35 else
 if f = 36 then some cf36 else
 if f = 37 then some cf37 else
 if f = 38 then some cf38 else
 if f = 39 then some cf39 else
 if f = 40 then some cf40 else
 if f = 41 then some cf41 else
 if f = 42 then some cf42 else
 if f = 43 then some cf43 else
 if f = 44 then some cf44 else
 if f = 45 then some cf45 else
 if f = 46 then some cf46 else
 if f = 47 then some cf47 else
 if f = 48 then some cf48 else
 if f = 49 then some cf49 else
 if f = 50 then some cf50 else
 if f = 51 then some cf51 else
 if f = 52 then some cf52 else
 if f = 53 then some cf53 else
 if f = 54 then some cf54 else
 if f = 55 then some cf55 else
 if f = 56 then some cf56 else
 if f = 57 then some cf57 else
 if f = 58 then some cf58 else
 if f = 59 then some cf59 else
 if f = 60 then some cf60 else
 if f = 61 then some cf61 else
 if f = 62 then some cf62 else
 if f = 63 then some cf63 else
 if f = 65 then some cf65 else
 if f = 66 then some cf66 else
 if f = 67 then some cf67 else
 if f = 68 then some cf68 else
 if f = 69 then some cf69 else
 if f = 70 then some cf70 else
 if f = 71 then some cf71 else
 if f = 72 then some cf72 else
 if f = 73 then some cf73 else
 if f = 74 then some cf74 else
 if f = 76 then some cf76 else
 if f = 77 then some cf77 else
 if f = 78 then some cf78 else
 if f = 79 then some cf79 else
 if f = 80 then some cf80 else
 if f = 88 then some cf88 else
 if f = 89 then some cf89 else
 if f = 90 then some cf90 else
 if f = 91 then some cf91 else
 if f = 92 then some cf92 else
 if f = 98 then some cf98 else
 if f = 100 then some cf100 else none
theorem zCa : z2c 7 = some cf7 := rfl
theorem zAI : z2c 11 = some cf11 := rfl
theorem zAH : z2c 12 = some cf12 := rfl
theorem zAG : z2c 13 = some cf13 := rfl
theorem zAF : z2c 14 = some cf14 := rfl
theorem zAE : z2c 15 = some cf15 := rfl
theorem zAD : z2c 16 = some cf16 := rfl
theorem zAC : z2c 18 = some cf18 := rfl
theorem zAB : z2c 21 = some cf21 := rfl
theorem zAA : z2c 22 = some cf22 := rfl
theorem zAz : z2c 23 = some cf23 := rfl
theorem zAy : z2c 29 = some cf29 := rfl
theorem zAx : z2c 30 = some cf30 := rfl
theorem zAw : z2c 31 = some cf31 := rfl
theorem zAv : z2c 32 = some cf32 := rfl
theorem zAu : z2c 33 = some cf33 := rfl
theorem zAt : z2c 34 = some cf34 := rfl
theorem zAs : z2c 35 = some cf35 := rfl
theorem zAr : z2c 36 = some cf36 := rfl
theorem zAq : z2c 37 = some cf37 := rfl
theorem zAp : z2c 38 = some cf38 := rfl
theorem zAo : z2c 39 = some cf39 := rfl
theorem zAn : z2c 40 = some cf40 := rfl
theorem zAm : z2c 41 = some cf41 := rfl
theorem zAl : z2c 42 = some cf42 := rfl
theorem zAk : z2c 43 = some cf43 := rfl
theorem zAj : z2c 44 = some cf44 := rfl
theorem zAi : z2c 45 = some cf45 := rfl
theorem zAh : z2c 46 = some cf46 := rfl
theorem zAg : z2c 47 = some cf47 := rfl
theorem zAf : z2c 51 = some cf51 := rfl
theorem zAe : z2c 52 = some cf52 := rfl
theorem zAd : z2c 53 = some cf53 := rfl
theorem zAc : z2c 54 = some cf54 := rfl
theorem zAb : z2c 57 = some cf57 := rfl
theorem zAa : z2c 58 = some cf58 := rfl
theorem zA9 : z2c 59 = some cf59 := rfl
theorem zA8 : z2c 60 = some cf60 := rfl
theorem zA7 : z2c 61 = some cf61 := rfl
theorem zA6 : z2c 62 = some cf62 := rfl
theorem zA5 : z2c 63 = some cf63 := rfl
theorem zA4 : z2c 67 = some cf67 := rfl
theorem zA3 : z2c 68 = some cf68 := rfl
theorem zA2 : z2c 69 = some cf69 := rfl
theorem zA1 : z2c 70 = some cf70 := rfl
theorem zA0 : z2c 71 = some cf71 := rfl
theorem zzZ : z2c 72 = some cf72 := rfl
theorem zzY : z2c 73 = some cf73 := rfl
theorem zzX : z2c 74 = some cf74 := rfl
theorem zzW : z2c 77 = some cf77 := rfl
theorem zzV : z2c 78 = some cf78 := rfl
theorem zzU : z2c 79 = some cf79 := rfl
theorem zzT : z2c 80 = some cf80 := rfl
theorem zzS : z2c 91 = some cf91 := rfl
theorem zzR : z2c 92 = some cf92 := rfl
theorem zzQ : z2c 98 = some cf98 := rfl
theorem zxK : z2c 100 = some cf100 := rfl
theorem fn7 : Try.prog.funcs[7]? = some Try.f7 := by kernel_rfl
theorem zC8 : Try.prog.funcs[11]? = some Try.f11 := by kernel_rfl
theorem zC7 : Try.prog.funcs[12]? = some Try.f12 := by kernel_rfl
theorem zC6 : Try.prog.funcs[13]? = some Try.f13 := by kernel_rfl
theorem zAT : Try.prog.funcs[14]? = some Try.f14 := by kernel_rfl
theorem zAS : Try.prog.funcs[15]? = some Try.f15 := by kernel_rfl
theorem zC5 : Try.prog.funcs[16]? = some Try.f16 := by kernel_rfl
theorem zC4 : Try.prog.funcs[18]? = some Try.f18 := by kernel_rfl
theorem zC3 : Try.prog.funcs[21]? = some Try.f21 := by kernel_rfl
theorem zC2 : Try.prog.funcs[22]? = some Try.f22 := by kernel_rfl
theorem zC1 : Try.prog.funcs[23]? = some Try.f23 := by kernel_rfl
theorem zC0 : Try.prog.funcs[29]? = some Try.f29 := by kernel_rfl
theorem zBZ : Try.prog.funcs[30]? = some Try.f30 := by kernel_rfl
theorem zBY : Try.prog.funcs[31]? = some Try.f31 := by kernel_rfl
theorem zAR : Try.prog.funcs[32]? = some Try.f32 := by kernel_rfl
theorem zBX : Try.prog.funcs[33]? = some Try.f33 := by kernel_rfl
theorem zBW : Try.prog.funcs[34]? = some Try.f34 := by kernel_rfl
theorem zBV : Try.prog.funcs[35]? = some Try.f35 := by kernel_rfl
theorem zBU : Try.prog.funcs[36]? = some Try.f36 := by kernel_rfl
theorem zBT : Try.prog.funcs[37]? = some Try.f37 := by kernel_rfl
theorem zBS : Try.prog.funcs[38]? = some Try.f38 := by kernel_rfl
theorem zBR : Try.prog.funcs[39]? = some Try.f39 := by kernel_rfl
theorem zBQ : Try.prog.funcs[40]? = some Try.f40 := by kernel_rfl
theorem zBP : Try.prog.funcs[41]? = some Try.f41 := by kernel_rfl
theorem zBO : Try.prog.funcs[42]? = some Try.f42 := by kernel_rfl
theorem zBN : Try.prog.funcs[43]? = some Try.f43 := by kernel_rfl
theorem zBM : Try.prog.funcs[44]? = some Try.f44 := by kernel_rfl
theorem zBL : Try.prog.funcs[45]? = some Try.f45 := by kernel_rfl
theorem zBK : Try.prog.funcs[46]? = some Try.f46 := by kernel_rfl
theorem zBJ : Try.prog.funcs[47]? = some Try.f47 := by kernel_rfl
theorem zBI : Try.prog.funcs[51]? = some Try.f51 := by kernel_rfl
theorem zBH : Try.prog.funcs[52]? = some Try.f52 := by kernel_rfl
theorem zBG : Try.prog.funcs[53]? = some Try.f53 := by kernel_rfl
theorem zBF : Try.prog.funcs[54]? = some Try.f54 := by kernel_rfl
theorem zBE : Try.prog.funcs[57]? = some Try.f57 := by kernel_rfl
theorem zBD : Try.prog.funcs[58]? = some Try.f58 := by kernel_rfl
theorem zBC : Try.prog.funcs[59]? = some Try.f59 := by kernel_rfl
theorem zBB : Try.prog.funcs[60]? = some Try.f60 := by kernel_rfl
theorem zBA : Try.prog.funcs[61]? = some Try.f61 := by kernel_rfl
theorem zBz : Try.prog.funcs[62]? = some Try.f62 := by kernel_rfl
theorem zBy : Try.prog.funcs[63]? = some Try.f63 := by kernel_rfl
theorem zBx : Try.prog.funcs[67]? = some Try.f67 := by kernel_rfl
theorem zBw : Try.prog.funcs[68]? = some Try.f68 := by kernel_rfl
theorem zBv : Try.prog.funcs[69]? = some Try.f69 := by kernel_rfl
theorem zBu : Try.prog.funcs[70]? = some Try.f70 := by kernel_rfl
theorem zBt : Try.prog.funcs[71]? = some Try.f71 := by kernel_rfl
theorem zBs : Try.prog.funcs[72]? = some Try.f72 := by kernel_rfl
theorem zBr : Try.prog.funcs[73]? = some Try.f73 := by kernel_rfl
theorem zBq : Try.prog.funcs[74]? = some Try.f74 := by kernel_rfl
theorem zBp : Try.prog.funcs[77]? = some Try.f77 := by kernel_rfl
theorem zBo : Try.prog.funcs[78]? = some Try.f78 := by kernel_rfl
theorem zBn : Try.prog.funcs[79]? = some Try.f79 := by kernel_rfl
theorem zBm : Try.prog.funcs[80]? = some Try.f80 := by kernel_rfl
theorem zBl : Try.prog.funcs[91]? = some Try.f91 := by kernel_rfl
theorem zBk : Try.prog.funcs[92]? = some Try.f92 := by kernel_rfl
theorem zBj : Try.prog.funcs[98]? = some Try.f98 := by kernel_rfl
theorem zys : Try.prog.funcs[100]? = some Try.f100 := by kernel_rfl
noncomputable def cd7 : Code := match Try.f7.body with | some c => c | none => .skip
theorem bd7 : Try.f7.body = some cd7 := by kernel_rfl
noncomputable def zD1 : Code := match Try.f11.body with | some c => c | none => .skip
theorem zDU : Try.f11.body = some zD1 := by kernel_rfl
noncomputable def zD0 : Code := match Try.f12.body with | some c => c | none => .skip
theorem zDT : Try.f12.body = some zD0 := by kernel_rfl
noncomputable def zCZ : Code := match Try.f13.body with | some c => c | none => .skip
theorem zDS : Try.f13.body = some zCZ := by kernel_rfl
noncomputable def zAW : Code := match Try.f14.body with | some c => c | none => .skip
theorem zAZ : Try.f14.body = some zAW := by kernel_rfl
noncomputable def zAJ : Code := match Try.f15.body with | some c => c | none => .skip
theorem zAY : Try.f15.body = some zAJ := by kernel_rfl
noncomputable def zCY : Code := match Try.f16.body with | some c => c | none => .skip
theorem zDR : Try.f16.body = some zCY := by kernel_rfl
noncomputable def zCX : Code := match Try.f18.body with | some c => c | none => .skip
theorem zDQ : Try.f18.body = some zCX := by kernel_rfl
noncomputable def zCW : Code := match Try.f21.body with | some c => c | none => .skip
theorem zDP : Try.f21.body = some zCW := by kernel_rfl
noncomputable def zCV : Code := match Try.f22.body with | some c => c | none => .skip
theorem zDO : Try.f22.body = some zCV := by kernel_rfl
noncomputable def zCU : Code := match Try.f23.body with | some c => c | none => .skip
theorem zDN : Try.f23.body = some zCU := by kernel_rfl
noncomputable def zCT : Code := match Try.f29.body with | some c => c | none => .skip
theorem zDM : Try.f29.body = some zCT := by kernel_rfl
noncomputable def zCS : Code := match Try.f30.body with | some c => c | none => .skip
theorem zDL : Try.f30.body = some zCS := by kernel_rfl
noncomputable def zCR : Code := match Try.f31.body with | some c => c | none => .skip
theorem zDK : Try.f31.body = some zCR := by kernel_rfl
noncomputable def zAV : Code := match Try.f32.body with | some c => c | none => .skip
theorem zAX : Try.f32.body = some zAV := by kernel_rfl
noncomputable def zCQ : Code := match Try.f33.body with | some c => c | none => .skip
theorem zDJ : Try.f33.body = some zCQ := by kernel_rfl
noncomputable def zCP : Code := match Try.f34.body with | some c => c | none => .skip
theorem zDI : Try.f34.body = some zCP := by kernel_rfl
noncomputable def zCO : Code := match Try.f35.body with | some c => c | none => .skip
theorem zDH : Try.f35.body = some zCO := by kernel_rfl
noncomputable def zCN : Code := match Try.f36.body with | some c => c | none => .skip
theorem zDG : Try.f36.body = some zCN := by kernel_rfl
noncomputable def zCM : Code := match Try.f37.body with | some c => c | none => .skip
theorem zDF : Try.f37.body = some zCM := by kernel_rfl
noncomputable def zCL : Code := match Try.f38.body with | some c => c | none => .skip
theorem zDE : Try.f38.body = some zCL := by kernel_rfl
noncomputable def zCK : Code := match Try.f39.body with | some c => c | none => .skip
theorem zDD : Try.f39.body = some zCK := by kernel_rfl
noncomputable def zCJ : Code := match Try.f40.body with | some c => c | none => .skip
theorem zDC : Try.f40.body = some zCJ := by kernel_rfl
noncomputable def zCI : Code := match Try.f41.body with | some c => c | none => .skip
theorem zDB : Try.f41.body = some zCI := by kernel_rfl
noncomputable def zCH : Code := match Try.f42.body with | some c => c | none => .skip
theorem zDA : Try.f42.body = some zCH := by kernel_rfl
noncomputable def zCG : Code := match Try.f43.body with | some c => c | none => .skip
theorem zDz : Try.f43.body = some zCG := by kernel_rfl
noncomputable def zCF : Code := match Try.f44.body with | some c => c | none => .skip
theorem zDy : Try.f44.body = some zCF := by kernel_rfl
noncomputable def zCE : Code := match Try.f45.body with | some c => c | none => .skip
theorem zDx : Try.f45.body = some zCE := by kernel_rfl
noncomputable def zCD : Code := match Try.f46.body with | some c => c | none => .skip
theorem zDw : Try.f46.body = some zCD := by kernel_rfl
noncomputable def zCC : Code := match Try.f47.body with | some c => c | none => .skip
theorem zDv : Try.f47.body = some zCC := by kernel_rfl
noncomputable def zCB : Code := match Try.f51.body with | some c => c | none => .skip
theorem zDu : Try.f51.body = some zCB := by kernel_rfl
noncomputable def zCA : Code := match Try.f52.body with | some c => c | none => .skip
theorem zDt : Try.f52.body = some zCA := by kernel_rfl
noncomputable def zCz : Code := match Try.f53.body with | some c => c | none => .skip
theorem zDs : Try.f53.body = some zCz := by kernel_rfl
noncomputable def zCy : Code := match Try.f54.body with | some c => c | none => .skip
theorem zDr : Try.f54.body = some zCy := by kernel_rfl
noncomputable def zCx : Code := match Try.f57.body with | some c => c | none => .skip
theorem zDq : Try.f57.body = some zCx := by kernel_rfl
noncomputable def zCw : Code := match Try.f58.body with | some c => c | none => .skip
theorem zDp : Try.f58.body = some zCw := by kernel_rfl
noncomputable def zCv : Code := match Try.f59.body with | some c => c | none => .skip
theorem zDo : Try.f59.body = some zCv := by kernel_rfl
noncomputable def zCu : Code := match Try.f60.body with | some c => c | none => .skip
theorem zDn : Try.f60.body = some zCu := by kernel_rfl
noncomputable def zCt : Code := match Try.f61.body with | some c => c | none => .skip
theorem zDm : Try.f61.body = some zCt := by kernel_rfl
noncomputable def zCs : Code := match Try.f62.body with | some c => c | none => .skip
theorem zDl : Try.f62.body = some zCs := by kernel_rfl
noncomputable def zCr : Code := match Try.f63.body with | some c => c | none => .skip
theorem zDk : Try.f63.body = some zCr := by kernel_rfl
noncomputable def zCq : Code := match Try.f67.body with | some c => c | none => .skip
theorem zDj : Try.f67.body = some zCq := by kernel_rfl
noncomputable def zCp : Code := match Try.f68.body with | some c => c | none => .skip
theorem zDi : Try.f68.body = some zCp := by kernel_rfl
noncomputable def zCo : Code := match Try.f69.body with | some c => c | none => .skip
theorem zDh : Try.f69.body = some zCo := by kernel_rfl
noncomputable def zCn : Code := match Try.f70.body with | some c => c | none => .skip
theorem zDg : Try.f70.body = some zCn := by kernel_rfl
noncomputable def zCm : Code := match Try.f71.body with | some c => c | none => .skip
theorem zDf : Try.f71.body = some zCm := by kernel_rfl
noncomputable def zCl : Code := match Try.f72.body with | some c => c | none => .skip
theorem zDe : Try.f72.body = some zCl := by kernel_rfl
noncomputable def zCk : Code := match Try.f73.body with | some c => c | none => .skip
theorem zDd : Try.f73.body = some zCk := by kernel_rfl
noncomputable def zCj : Code := match Try.f74.body with | some c => c | none => .skip
theorem zDc : Try.f74.body = some zCj := by kernel_rfl
noncomputable def zCi : Code := match Try.f77.body with | some c => c | none => .skip
theorem zDb : Try.f77.body = some zCi := by kernel_rfl
noncomputable def zCh : Code := match Try.f78.body with | some c => c | none => .skip
theorem zDa : Try.f78.body = some zCh := by kernel_rfl
noncomputable def zCg : Code := match Try.f79.body with | some c => c | none => .skip
theorem zD9 : Try.f79.body = some zCg := by kernel_rfl
noncomputable def zCf : Code := match Try.f80.body with | some c => c | none => .skip
theorem zD8 : Try.f80.body = some zCf := by kernel_rfl
noncomputable def zCe : Code := match Try.f91.body with | some c => c | none => .skip
theorem zD7 : Try.f91.body = some zCe := by kernel_rfl
noncomputable def zCd : Code := match Try.f92.body with | some c => c | none => .skip
theorem zD6 : Try.f92.body = some zCd := by kernel_rfl
noncomputable def zCc : Code := match Try.f98.body with | some c => c | none => .skip
theorem zD5 : Try.f98.body = some zCc := by kernel_rfl
noncomputable def zAK : Code := match Try.f100.body with | some c => c | none => .skip
theorem zAL : Try.f100.body = some zAK := by kernel_rfl
def xt : z0H := xtC
noncomputable def L : z0H := Lim Try.prog xt z2c
theorem z2F {f : FuncId} {c : Cfg} {fn : Func} {args : List T} {o : T × List T} (hc : z2c f = some c) (hfn : Try.prog.funcs[f]? = some fn) (h : zkK Try.prog L c LFm fn args = some o) : L f args = some o := zti hc hfn h
end Go.Proofs.Ytbnnipkanechoaa
end
section
namespace Go.Proofs.Ytbnnipkanechoaa
open Go.RowKit
def Cells (w : World) (ga : Option Addr) (n : Nat) (F : Nat -> Value) : Prop := ∀ j, j < n -> ∃ g o, ga = some ⟨g, o, none⟩ /\ w.cell? ⟨g, o + j, none⟩ = some (F j)
theorem zeD {w w' : World} (hb : Below w.heap.size w w') {a : Addr} {v : Value} (h : w.cell? a = some v) : w'.cell? a = some v := by
 rw [hb.cell (World.block_lt_of_cell? w a h)]; exact h
theorem Cells.below {w w' : World} {ga : Option Addr} {n : Nat} {F : Nat -> Value} (h : Cells w ga n F) (hb : Below w.heap.size w w') : Cells w' ga n F := fun j hj => by
 obtain ⟨g, o, e, hc⟩ := h j hj
 exact ⟨g, o, e, zeD hb hc⟩
theorem Cells.mono {w : World} {ga : Option Addr} {n m : Nat} {F : Nat -> Value} (h : Cells w ga n F) (hm : m <= n) : Cells w ga m F := fun j hj => h j (by omega)
theorem Cells.congr {w : World} {ga : Option Addr} {n : Nat} {F G : Nat -> Value} (h : Cells w ga n F) (e : ∀ j, j < n -> F j = G j) : Cells w ga n G := fun j hj => by
 obtain ⟨g, o, e1, hc⟩ := h j hj
 exact ⟨g, o, e1, by rw [hc, e j hj]⟩
def IntsAt (w : World) (v : Value) (xs : List Int) : Prop :=
 ∃ ga cap, v = .slice ga xs.length cap /\ xs.length <= cap /\ cap <= maxLen /\ Cells w ga xs.length (fun j => .int .i64 (xs.getD j 0))
theorem IntsAt.below {w w' : World} {v : Value} {xs : List Int} (h : IntsAt w v xs) (hb : Below w.heap.size w w') : IntsAt w' v xs := by
 obtain ⟨ga, cap, e, h1, h2, h3⟩ := h
 exact ⟨ga, cap, e, h1, h2, h3.below hb⟩
def RowsAt (w : World) (v : Value) (rows : List (List Int)) : Prop :=
 ∃ ga cap, ∃ F : Nat -> Value, v = .slice ga rows.length cap /\ rows.length <= cap /\ cap <= maxLen /\ Cells w ga rows.length F /\ ∀ j, j < rows.length -> IntsAt w (F j) (rows.getD j [])
theorem RowsAt.below {w w' : World} {v : Value} {rows : List (List Int)} (h : RowsAt w v rows) (hb : Below w.heap.size w w') : RowsAt w' v rows := by
 obtain ⟨ga, cap, F, e, h1, h2, h3, h4⟩ := h
 exact ⟨ga, cap, F, e, h1, h2, h3.below hb, fun j hj => (h4 j hj).below hb⟩
structure CRow where
 pre : List Int
 maps : List (List Int)
deriving Inhabited
structure Casc where
 letters : Int
 sizes : List Int
 rows : List CRow
deriving Inhabited
def CRowsAt (w : World) (v : Value) (rows : List CRow) : Prop :=
 ∃ ga cap, ∃ F G : Nat -> Value, v = .slice ga rows.length cap /\ rows.length <= cap /\ cap <= maxLen /\ ∀ j, (h : j < rows.length) -> ∃ g o, ga = some ⟨g, o, none⟩ /\ w.cell? ⟨g, o + j * 2, none⟩ = some (F j) /\ w.cell? ⟨g, o + j * 2 + 1, none⟩ = some (G j) /\ IntsAt w (F j) rows[j].pre /\ RowsAt w (G j) rows[j].maps
theorem CRowsAt.below {w w' : World} {v : Value} {rows : List CRow} (h : CRowsAt w v rows) (hb : Below w.heap.size w w') : CRowsAt w' v rows := by
 obtain ⟨ga, cap, F, G, e, h1, h2, h3⟩ := h
 refine ⟨ga, cap, F, G, e, h1, h2, fun j hj => ?_⟩
 obtain ⟨g, o, e1, c1, c2, i1, i2⟩ := h3 j hj
 exact ⟨g, o, e1, zeD hb c1, zeD hb c2, i1.below hb, i2.below hb⟩
def CascAt (w : World) (v : Value) (c : Casc) : Prop :=
 ∃ s r, v = .agg #[.int .i64 c.letters, s, r] /\ IntsAt w s c.sizes /\ CRowsAt w r c.rows
theorem CascAt.below {w w' : World} {v : Value} {c : Casc} (h : CascAt w v c) (hb : Below w.heap.size w w') : CascAt w' v c := by
 obtain ⟨s, r, e, h1, h2⟩ := h
 exact ⟨s, r, e, h1.below hb, h2.below hb⟩
end Go.Proofs.Ytbnnipkanechoaa
end
section
namespace Go.Proofs.Ytbnnipkanechoaa
open Go Go.IntKind
noncomputable section
set_option maxRecDepth 100000
set_option maxHeartbeats 1000000
structure Tape where
  l : List Int
  at_ : Int
deriving Inhabited
structure DFA where
  letters : Int
  start : Int
  final : List Bool
  next : List (List Int)
deriving Inhabited
def z5A (a0 : Int) (a1 : Int) : Option (Int) :=
 if a1 < 1 then
 some 0
 else
 chk (¬ a1 = 0) <|
 if (Int.tmod a0 a1) < 0 then
 some (i64.wrap ((Int.tmod a0 a1) + a1))
 else
 some (Int.tmod a0 a1)
theorem z5m {a0 : Int} {a1 : Int} {r : Int} (h0 : z5A a0 a1 = some r) : L 21 [.sc (.int .i64 a0), .sc (.int .i64 a1)] = some (.sc (.int .i64 r), [.dead, .dead]) := by
  simp only [z5A] at h0
  refine z2F zAB zC3 (z1w zDP ⟨of_decide_eq_true rfl, of_decide_eq_true rfl⟩ ?_)
  simp only [z1E, z1C, z1B, z1F, z3u]
  refine zp (zs ?_)
  refine z0a (zp (zp (zs ?_)))
  refine z0a ?_
  by_cases c4 : a1 < 1
  ·rw [if_pos c4] at h0
   refine z0t rfl (by simp [c4]) (zp (zs ?_))
   refine z0a (z1f rfl (z0Q ?_))
   cases h0
   simp
  ·rw [if_neg c4] at h0
   refine z0r rfl (by simp [c4]) (z0j rfl (z0a (zp ?_)))
   obtain ⟨f5, h1⟩ := z1M h0
   refine zr rfl rfl rfl (by simp [f5]; rfl) ?_
   refine z0a (zp (zp (zs ?_)))
   refine z0a ?_
   by_cases c6 : (Int.tmod a0 a1) < 0
   ·rw [if_pos c6] at h1
    refine z0t rfl (by simp [c6]) (zs ?_)
    refine z0a (zp (zs ?_))
    refine z0a (z1f rfl ?_)
    cases h1
    simp
   ·rw [if_neg c6] at h1
    refine z0r rfl (by simp [c6]) (z0j rfl (z0a (zp (zs ?_))))
    refine z0a (z1f rfl ?_)
    cases h1
    simp
def z1J (a0 : Tape) (a1 : Int) : Option (Int × Tape) :=
 if (a0.l.length : Int) <= a0.at_ then
 some (0, a0)
 else
 (atI a0.l (i64.wrap ((i64.wrap (a0.at_ + 1)) - 1))).bind fun v3 =>
 (z5A v3 a1).bind fun v4 =>
 some (v4, (⟨a0.l, i64.wrap (a0.at_ + 1)⟩ : Tape))
theorem z1K {a0 : Tape} {a1 : Int} {r : Int × Tape} (h0 : z1J a0 a1 = some r) : L 30 [.vr [.sl a0.l.length (a0.l.map fun x0 => .sc (.int .i64 x0)), .sc (.int .i64 a0.at_)], .sc (.int .i64 a1)] = some (.sc (.int .i64 r.1), [.vr [.sl r.2.l.length (r.2.l.map fun x0 => .sc (.int .i64 x0)), .sc (.int .i64 r.2.at_)], .dead]) := by
  simp only [z1J] at h0
  refine z2F zAx zBZ (z1w zDL ⟨of_decide_eq_true rfl, of_decide_eq_true rfl⟩ ?_)
  simp only [z1E, z1C, z1B, z1F, z3u]
  refine zp (zs ?_)
  refine z0a (zp (zp ?_))
  refine z1c rfl rfl rfl rfl ?_; repeat' ((first | refine z0q rfl rfl fun Q' hQ => ?_ | refine z0m rfl fun Q' hQ => ?_); simp; refine hQ.out _ ?_; clear hQ; clear Q')
  refine z0a ?_
  by_cases c4 : (a0.l.length : Int) <= a0.at_
  ·rw [if_pos c4] at h0
   refine z0t rfl (by simp [c4]) (zp (zs ?_))
   refine z0a (z1f rfl (z0Q ?_))
   cases h0
   simp
  ·rw [if_neg c4] at h0
   refine z0r rfl (by simp [c4]) (z0j rfl (z0a (zp (zs ?_))))
   refine z0a (zp ?_)
   obtain ⟨v3, f5, h1⟩ := z0I h0
   obtain ⟨v4, f6, h2⟩ := z0d h1
   have f6k := z5m f6
   try simp at f6k
   refine z1c rfl rfl rfl rfl ?_; repeat' ((first | refine z0q rfl rfl fun Q' hQ => ?_ | refine z0m rfl fun Q' hQ => ?_); simp [f5, f6k]; refine hQ.out _ ?_; clear hQ; clear Q')
   refine z0a (z1f rfl ?_)
   cases h2
   simp
def zd4 (a0 : List Int) : Option (Tape) :=
 if 80 < (a0.length : Int) then
 (z6O a0 0 80).bind fun v2 =>
 some (⟨v2, 0⟩ : Tape)
 else
 some (⟨a0, 0⟩ : Tape)
theorem zo1 {a0 : List Int} {r : Tape} (h0 : zd4 a0 = some r) : L 11 [.sl a0.length (a0.map fun x0 => .sc (.int .i64 x0))] = some (.vr [.sl r.l.length (r.l.map fun x0 => .sc (.int .i64 x0)), .sc (.int .i64 r.at_)], [.dead]) := by
  simp only [zd4] at h0
  refine z2F zAI zC8 (z1w zDU ⟨of_decide_eq_true rfl, of_decide_eq_true rfl⟩ ?_)
  simp only [z1E, z1C, z1B, z1F, z3u]
  refine zp (zs ?_)
  refine z0a (zp (zp (zs ?_)))
  refine z0a ?_
  by_cases c3 : 80 < (a0.length : Int)
  ·rw [if_pos c3] at h0
   refine z0t rfl (by simp [c3]) ?_
   obtain ⟨v2, f4, h1⟩ := z0d h0
   obtain ⟨f4a, f4b, f4c, -⟩ := z5P f4
   obtain ⟨f4d, f4g⟩ := zcY f4a f4b
   have f4e := zaH (g := fun x : Int => (.sc (.int .i64 x) : T)) f4
   try simp at f4e
   have f4f := zaG f4
   try simp only [Int.reduceToNat, Int.toNat_natCast, Nat.sub_zero] at f4f
   refine zr rfl rfl rfl (by simp [f4a, f4b, f4c, f4d, f4g, f4e, f4f]; rfl) ?_
   refine z0a (zp (zs ?_))
   refine z0a (z1f rfl ?_)
   cases h1
   simp
  ·rw [if_neg c3] at h0
   refine z0r rfl (by simp [c3]) (z0j rfl (z0a (zp (zs ?_))))
   refine z0a (z1f rfl ?_)
   cases h0
   simp
def z4e (a0 : Tape) : Option (Int × Tape) :=
 (z1J a0 8).bind fun v2 =>
 some (i64.wrap (2 - (zxS .i64 v2.1 7)), v2.2)
theorem zaS {a0 : Tape} {r : Int × Tape} (h0 : z4e a0 = some r) : L 13 [.vr [.sl a0.l.length (a0.l.map fun x0 => .sc (.int .i64 x0)), .sc (.int .i64 a0.at_)]] = some (.sc (.int .i64 r.1), [.vr [.sl r.2.l.length (r.2.l.map fun x0 => .sc (.int .i64 x0)), .sc (.int .i64 r.2.at_)]]) := by
  simp only [z4e] at h0
  refine z2F zAG zC6 (z1w zDS ⟨of_decide_eq_true rfl, of_decide_eq_true rfl⟩ ?_)
  simp only [z1E, z1C, z1B, z1F, z3u]
  refine zp (zs ?_)
  refine z0a (zp ?_)
  obtain ⟨v2, f2, h1⟩ := z0d h0
  have f2k := z1K f2
  try simp at f2k
  refine zr rfl rfl rfl (by simp [f2k]; rfl) ?_
  refine z0a (z1f rfl ?_)
  cases h1
  simp
def z4P (a1 : Int) (v32 : Int × Tape) (w42 : Int) (w45 : List Bool) (w46 : List (List Int)) (v55 : Int × Tape) : Int × List Int × Int × List Int -> Option ((Int × List Int × Int × List Int) ⊕ ((Int × List Int × Int × List Bool × List (List Int)) ⊕ (DFA × Tape)))
 | (w57, w58, w59, w60) =>
 if w57 < a1 then
 (z1J (⟨w58, w59⟩ : Tape) (i64.wrap (1 + v32.1))).bind fun v62 =>
 chk (z2i 8 (w60.length + 1)) <|
 z0B (i64.wrap (w57 + 1), v62.2.l, v62.2.at_, w60 ++ [v62.1])
 else
 z1m <|
 chk (z2i 24 (w46.length + 1)) <|
 z0B (i64.wrap (w42 + 1), w58, w59, w45 ++ [decide (v55.1 = 1)], w46 ++ [w60])
def z4O (a1 : Int) (v32 : Int × Tape) (v33 : Int × Tape) (w42 : Int) (w45 : List Bool) (w46 : List (List Int)) (v55 : Int × Tape) : Int × List Int × Int × List Int -> Fr
 | (w57, w58, w59, w60) => ⟨53, [(0, .one (.a 0 [] (0))), (1, .one (.t none (.sc (.int .i64 a1)))), (6, .one (.a 6 [] (0))), (7, .one (.a 7 [] (0))), (8, .one (.t none (.sc (.int .i64 (i64.wrap (1 + v32.1)))))), (9, .one (.t none (.sc (.int .i64 w42)))), (10, .one (.h 10 [])), (11, .one (.t none (.sc (.int .i64 w57)))), (1053, .one (.a 0 [] (0)))], [(0, .vr [.sl w58.length (w58.map fun x0 => .sc (.int .i64 x0)), .sc (.int .i64 w59)]), (6, .vr [.sc (.int .i64 0), .sc (.int .i64 0), .os 1 0 [], .os 1 0 []]), (7, .vr [.sc (.int .i64 a1), .sc (.int .i64 v33.1), .os 1 (w45 ++ [decide (v55.1 = 1)]).length ((w45 ++ [decide (v55.1 = 1)]).map fun x0 => .sc (.bool x0)), .os 1 w46.length (w46.map fun x0 => .os 1 x0.length (x0.map fun x1 => .sc (.int .i64 x1)))]), (10, .os 1 w60.length (w60.map fun x0 => .sc (.int .i64 x0)))]⟩
def z5j (a1 : Int) (v32 : Int × Tape) (v33 : Int × Tape) : Int × List Int × Int × List Bool × List (List Int) -> Option ((Int × List Int × Int × List Bool × List (List Int)) ⊕ (DFA × Tape))
 | (w42, w43, w44, w45, w46) =>
 if w42 < (i64.wrap (1 + v32.1)) then
 (z1J (⟨w43, w44⟩ : Tape) 2).bind fun v55 =>
 chk (z2i 1 (w45.length + 1)) <|
 z1b (z4P a1 v32 w42 w45 w46 v55) LFm (0, v55.2.l, v55.2.at_, [])
 else
 z1m <|
 some ((⟨a1, v33.1, w45, w46⟩ : DFA), (⟨w43, w44⟩ : Tape))
def z5i (a1 : Int) (v32 : Int × Tape) (v33 : Int × Tape) : Int × List Int × Int × List Bool × List (List Int) -> Fr
 | (w42, w43, w44, w45, w46) => ⟨53, [(0, .one (.a 0 [] (0))), (1, .one (.t none (.sc (.int .i64 a1)))), (6, .one (.a 6 [] (0))), (7, .one (.a 7 [] (0))), (8, .one (.t none (.sc (.int .i64 (i64.wrap (1 + v32.1)))))), (9, .one (.t none (.sc (.int .i64 w42)))), (1053, .one (.a 0 [] (0)))], [(0, .vr [.sl w43.length (w43.map fun x0 => .sc (.int .i64 x0)), .sc (.int .i64 w44)]), (6, .vr [.sc (.int .i64 0), .sc (.int .i64 0), .os 1 0 [], .os 1 0 []]), (7, .vr [.sc (.int .i64 a1), .sc (.int .i64 v33.1), .os 1 w45.length (w45.map fun x0 => .sc (.bool x0)), .os 1 w46.length (w46.map fun x0 => .os 1 x0.length (x0.map fun x1 => .sc (.int .i64 x1)))])]⟩
def z4Q (a0 : Tape) (a1 : Int) (a2 : Int) : Option (DFA × Tape) :=
 (z1J a0 a2).bind fun v32 =>
 (z1J v32.2 (i64.wrap (1 + v32.1))).bind fun v33 =>
 z1b (z5j a1 v32 v33) LFm (0, v33.2.l, v33.2.at_, [], [])
theorem z9x {a0 : Tape} {a1 : Int} {a2 : Int} {r : DFA × Tape} (h0 : z4Q a0 a1 a2 = some r) : L 34 [.vr [.sl a0.l.length (a0.l.map fun x0 => .sc (.int .i64 x0)), .sc (.int .i64 a0.at_)], .sc (.int .i64 a1), .sc (.int .i64 a2)] = some (.agg [.sc (.int .i64 r.1.letters), .sc (.int .i64 r.1.start), .os 1 r.1.final.length (r.1.final.map fun x0 => .sc (.bool x0)), .os 1 r.1.next.length (r.1.next.map fun x0 => .os 1 x0.length (x0.map fun x1 => .sc (.int .i64 x1)))], [.vr [.sl r.2.l.length (r.2.l.map fun x0 => .sc (.int .i64 x0)), .sc (.int .i64 r.2.at_)], .dead, .dead]) := by
  simp only [z4Q] at h0
  refine z2F zAt zBW (z1w zDI ⟨of_decide_eq_true rfl, of_decide_eq_true rfl⟩ ?_)
  simp only [z1E, z1C, z1B, z1F, z3u]
  refine zp (zs ?_)
  refine z0a (zp (zs ?_))
  refine z0a (zp ?_)
  obtain ⟨v32, f37, h1⟩ := z0d h0
  have f37k := z1K f37
  try simp at f37k
  refine zr rfl rfl rfl (by simp [f37k]; rfl) ?_
  refine z0a (zp ?_)
  obtain ⟨v33, f38, h2⟩ := z0d h1
  have f38k := z1K f38
  try simp at f38k
  refine zr rfl rfl rfl (by simp [f38k]; rfl) ?_
  refine z0a (zp (zp (zs ?_)))
  refine z0a (zb rfl (z0C h2 (z5i a1 v32 v33) rfl rfl (by simp [z5i]) fun s o1 h3 hr1 => ?_))
  obtain ⟨w42, w43, w44, w45, w46⟩ := s
  simp only [z5j] at h3
  simp only [z5i]
  refine zp (zp (zs ?_))
  refine z0a ?_
  by_cases c61 : w42 < (i64.wrap (1 + v32.1))
  ·rw [if_pos c61] at h3
   refine z0t rfl (by simp [c61]) (z0j rfl (z0a (zp (zb rfl (zp ?_)))))
   obtain ⟨v55, f62, h4⟩ := z0d h3
   have f62k := z1K f62
   try simp at f62k
   obtain ⟨f63, h5⟩ := zwy h4
   refine z1c rfl rfl rfl rfl ?_; repeat' ((first | refine z0q rfl rfl fun Q' hQ => ?_ | refine z0m rfl fun Q' hQ => ?_); simp [f62k, f63]; refine hQ.out _ ?_; clear hQ; clear Q')
   refine z0a (zp (zs ?_))
   refine z0a (zp (zp (zs ?_)))
   refine z0a (zb rfl (z0C h5 (z4O a1 v32 v33 w42 w45 w46 v55) rfl rfl (by simp [z4O]) fun s o2 h6 hr2 => ?_))
   obtain ⟨w57, w58, w59, w60⟩ := s
   simp only [z4P] at h6
   simp only [z4O]
   refine zp (zp (zs ?_))
   refine z0a ?_
   by_cases c69 : w57 < a1
   ·rw [if_pos c69] at h6
    refine z0t rfl (by simp [c69]) (z0j rfl (z0a (zp (zb rfl ?_))))
    obtain ⟨v62, f70, h7⟩ := z0d h6
    have f70k := z1K f70
    try simp at f70k
    obtain ⟨f71, h8⟩ := z5I h7
    refine zr rfl rfl rfl (by simp [f70k, f71]; rfl) ?_
    refine z0h (z0a (zs ?_))
    have ho := z0c h8
    refine z0i ho ?_
    simp [z4O]
   ·rw [if_neg c69] at h6
    refine z0r rfl (by simp [c69]) (z0X rfl (z0w ?_))
    obtain ⟨rr2, h7, ho2⟩ := z0k h6
    have hs2 := hr2 _ ho2
    subst hs2
    refine z0s ho2 (z0g rfl (z0a ?_))
    obtain ⟨f72, h8⟩ := z5I h7
    refine zr rfl rfl rfl (by simp [f72]; rfl) ?_
    refine z0h (z0a (zs ?_))
    have ho := z0c h8
    refine z0i ho ?_
    simp [z5i]
  ·rw [if_neg c61] at h3
   refine z0r rfl (by simp [c61]) (z0X rfl (z0w ?_))
   obtain ⟨rr1, h4, ho1⟩ := z0k h3
   have hs1 := hr1 _ ho1
   subst hs1
   refine z0s ho1 (z0g rfl (z0a (zp (zs ?_))))
   refine z0a (z1f rfl ?_)
   cases h4
   simp
def z3V (w61 : Int) (v77 : List Int) : Int × List (List Int) -> Option ((Int × List (List Int)) ⊕ ((Int × List (List Int)) ⊕ (DFA × Tape)))
 | (w81, w82) =>
 (atI w82 w61).bind fun v87 =>
 if w81 < (v77.length : Int) then
 (atI v87 w81).bind fun v88 =>
 z0B (i64.wrap (w81 + 1), (w82.set w61.toNat (v87.set w81.toNat (if w61 < v88 then v88 else w61))))
 else
 z1m <|
 z0B (i64.wrap (w61 + 1), w82)
def z3T (v46 : DFA × Tape) (w61 : Int) (v77 : List Int) : Int × List (List Int) -> Fr
 | (w81, w82) => ⟨46, [(6, .one (.a 6 [] (0))), (7, .one (.a 7 [] (0))), (8, .one (.t none (.sc (.int .i64 w61)))), (17, .one (.t none (.sc (.int .i64 (v46.1.next.length : Int))))), (18, .one (.t none (.sc (.int .i64 w61)))), (25, .one (.h 7 [3, w61.toNat])), (26, .one (.t none (.sc (.int .i64 (v77.length : Int))))), (27, .one (.t none (.sc (.int .i64 w81)))), (1046, .one (.a 0 [] (0)))], [(6, .vr [.sc (.int .i64 0), .sc (.int .i64 0), .os 1 0 [], .os 1 0 []]), (7, .vr [.sc (.int .i64 v46.1.letters), .sc (.int .i64 v46.1.start), .os 1 v46.1.final.length (v46.1.final.map fun x0 => .sc (.bool x0)), .os 1 w82.length (w82.map fun x0 => .os 1 x0.length (x0.map fun x1 => .sc (.int .i64 x1)))]), (0, .vr [.sl v46.2.l.length (v46.2.l.map fun x0 => .sc (.int .i64 x0)), .sc (.int .i64 v46.2.at_)])]⟩
def z3W (v46 : DFA × Tape) : Int × List (List Int) -> Option ((Int × List (List Int)) ⊕ (DFA × Tape))
 | (w61, w62) =>
 if w61 < (v46.1.next.length : Int) then
 (atI w62 w61).bind fun v77 =>
 z1b (z3V w61 v77) LFm (0, w62)
 else
 z1m <|
 some ((⟨v46.1.letters, 0, v46.1.final, w62⟩ : DFA), v46.2)
def z3U (v46 : DFA × Tape) : Int × List (List Int) -> Fr
 | (w61, w62) => ⟨46, [(6, .one (.a 6 [] (0))), (7, .one (.a 7 [] (0))), (17, .one (.t none (.sc (.int .i64 (v46.1.next.length : Int))))), (18, .one (.t none (.sc (.int .i64 w61)))), (1046, .one (.a 0 [] (0)))], [(6, .vr [.sc (.int .i64 0), .sc (.int .i64 0), .os 1 0 [], .os 1 0 []]), (7, .vr [.sc (.int .i64 v46.1.letters), .sc (.int .i64 v46.1.start), .os 1 v46.1.final.length (v46.1.final.map fun x0 => .sc (.bool x0)), .os 1 w62.length (w62.map fun x0 => .os 1 x0.length (x0.map fun x1 => .sc (.int .i64 x1)))]), (0, .vr [.sl v46.2.l.length (v46.2.l.map fun x0 => .sc (.int .i64 x0)), .sc (.int .i64 v46.2.at_)])]⟩
def z4d (a0 : Tape) (a1 : Int) (a2 : Int) : Option (DFA × Tape) :=
 (z4Q a0 a1 a2).bind fun v46 =>
 z1b (z3W v46) LFm (0, v46.1.next)
theorem zaR {a0 : Tape} {a1 : Int} {a2 : Int} {r : DFA × Tape} (h0 : z4d a0 a1 a2 = some r) : L 31 [.vr [.sl a0.l.length (a0.l.map fun x0 => .sc (.int .i64 x0)), .sc (.int .i64 a0.at_)], .sc (.int .i64 a1), .sc (.int .i64 a2)] = some (.agg [.sc (.int .i64 r.1.letters), .sc (.int .i64 r.1.start), .os 1 r.1.final.length (r.1.final.map fun x0 => .sc (.bool x0)), .os 1 r.1.next.length (r.1.next.map fun x0 => .os 1 x0.length (x0.map fun x1 => .sc (.int .i64 x1)))], [.vr [.sl r.2.l.length (r.2.l.map fun x0 => .sc (.int .i64 x0)), .sc (.int .i64 r.2.at_)], .dead, .dead]) := by
  simp only [z4d] at h0
  refine z2F zAw zBY (z1w zDK ⟨of_decide_eq_true rfl, of_decide_eq_true rfl⟩ ?_)
  simp only [z1E, z1C, z1B, z1F, z3u]
  refine zp (zs ?_)
  refine z0a (zp ?_)
  obtain ⟨v46, f38, h1⟩ := z0d h0
  have f38k := z9x f38
  try simp at f38k
  refine zr rfl rfl rfl (by simp [f38k]; rfl) ?_
  refine z0a (zp (zp (zs ?_)))
  refine z0a (zb rfl (z0C h1 (z3U v46) rfl rfl (by simp [z3U]) fun s o1 h2 hr1 => ?_))
  obtain ⟨w61, w62⟩ := s
  simp only [z3W] at h2
  simp only [z3U]
  refine zp (zs ?_)
  refine z0a (zp ?_)
  by_cases c63 : w61 < (v46.1.next.length : Int)
  ·rw [if_pos c63] at h2
   refine z0t rfl (by simp [c63]) (z0j rfl (z0a (zp (zb rfl (zp (zs ?_))))))
   refine z0a (zp ?_)
   obtain ⟨v77, f64, h3⟩ := z0I h2
   refine zr rfl rfl rfl (by simp [f64]; rfl) ?_
   refine z0a (zb rfl (z0C h3 (z3T v46 w61 v77) rfl rfl (by simp [z3T]) fun s o2 h4 hr2 => ?_))
   obtain ⟨w81, w82⟩ := s
   simp only [z3V] at h4
   simp only [z3T]
   obtain ⟨v87, f72, h5⟩ := z0I h4
   refine zp (zr rfl rfl rfl (by simp [f72]; rfl) ?_)
   refine z0a (zp ?_)
   by_cases c73 : w81 < (v77.length : Int)
   ·rw [if_pos c73] at h5
    refine z0t rfl (by simp [c73]) (z0j rfl (z0a (zp (zb rfl (zp ?_)))))
    obtain ⟨v88, f74, h6⟩ := z0I h5
    refine zr rfl rfl rfl (by simp [f72, f74]; rfl) ?_
    refine z0a (zr rfl rfl rfl (by simp [f72, f74]; rfl) ?_)
    refine z0h (z0a (zr rfl rfl rfl (by simp [f72]; rfl) ?_))
    have ho := z0c h6
    refine z0i ho ?_
    simp [z3T]
   ·rw [if_neg c73] at h5
    refine z0r rfl (by simp [c73]) (z0X rfl (z0w ?_))
    obtain ⟨rr2, h6, ho2⟩ := z0k h5
    have hs2 := hr2 _ ho2
    subst hs2
    refine z0s ho2 (z0g rfl (z0h (z0a (zr rfl rfl rfl (by simp [f72]; rfl) ?_))))
    have ho := z0c h6
    refine z0i ho ?_
    simp [z3U]
  ·rw [if_neg c63] at h2
   refine z0r rfl (by simp [c63]) (z0X rfl (z0w ?_))
   obtain ⟨rr1, h3, ho1⟩ := z0k h2
   have hs1 := hr1 _ ho1
   subst hs1
   refine z0s ho1 (z0g rfl (z0a (zp (zs ?_))))
   refine z0a (zp (zs ?_))
   refine z0a (z1f rfl ?_)
   cases h3
   simp
def z2I (v90 : Int × Tape) (w125 : Int) : Int × List Int × Int × List (List Int) × List Int -> Option ((Int × List Int × Int × List (List Int) × List Int) ⊕ ((Int × List Int × Int × List (List Int)) ⊕ (DFA × Tape)))
 | (w162, w163, w164, w165, w166) =>
 if w162 < (i64.wrap (1 + v90.1)) then
 (z1J (⟨w163, w164⟩ : Tape) (w166.length : Int)).bind fun v173 =>
 (atI w165 w162).bind fun v174 =>
 (atI w166 v173.1).bind fun v175 =>
 (atI v174 w125).bind fun v176 =>
 (z6O w166 0 v173.1).bind fun v177 =>
 (z6O w166 (i64.wrap (v173.1 + 1)) (w166.length : Int)).bind fun v178 =>
 chk (z2i 8 (v177.length)) <|
 chk (z2i 8 (v177.length + v178.length)) <|
 z0B (i64.wrap (w162 + 1), v173.2.l, v173.2.at_, (w165.set w162.toNat (v174.set w125.toNat v175)), v177 ++ v178)
 else
 z1m <|
 z0B (i64.wrap (w125 + 1), w163, w164, w165)
def z2G (a1 : Int) (v90 : Int × Tape) (v91 : Int × Tape) (w96 : List Bool) (w125 : Int) : Int × List Int × Int × List (List Int) × List Int -> Fr
 | (w162, w163, w164, w165, w166) => ⟨90, [(0, .one (.a 0 [] (0))), (1, .one (.t none (.sc (.int .i64 a1)))), (6, .one (.a 6 [] (0))), (7, .one (.a 7 [] (0))), (8, .one (.t none (.sc (.int .i64 (i64.wrap (1 + v90.1)))))), (10, .one (.t none (.sc (.int .i64 w125)))), (11, .one (.h 11 [])), (13, .one (.t none (.sc (.int .i64 w162)))), (1090, .one (.a 0 [] (0)))], [(0, .vr [.sl w163.length (w163.map fun x0 => .sc (.int .i64 x0)), .sc (.int .i64 w164)]), (6, .vr [.sc (.int .i64 0), .sc (.int .i64 0), .os 1 0 [], .os 1 0 []]), (7, .vr [.sc (.int .i64 a1), .sc (.int .i64 v91.1), .os 1 w96.length (w96.map fun x0 => .sc (.bool x0)), .os 1 w165.length (w165.map fun x0 => .os 1 x0.length (x0.map fun x1 => .sc (.int .i64 x1)))]), (11, .os 1 w166.length (w166.map fun x0 => .sc (.int .i64 x0)))]⟩
def z2J (v90 : Int × Tape) (w125 : Int) (w126 : List Int) (w127 : Int) (w128 : List (List Int)) : Int × List Int -> Option ((Int × List Int) ⊕ ((Int × List Int × Int × List (List Int)) ⊕ (DFA × Tape)))
 | (w154, w155) =>
 if w154 < (i64.wrap (1 + v90.1)) then
 chk (z2i 8 (w155.length + 1)) <|
 z0B (i64.wrap (w154 + 1), w155 ++ [w154])
 else
 z1m <|
 z1b (z2I v90 w125) LFm (0, w126, w127, w128, w155)
def z2H (a1 : Int) (v90 : Int × Tape) (v91 : Int × Tape) (w96 : List Bool) (w125 : Int) (w126 : List Int) (w127 : Int) (w128 : List (List Int)) : Int × List Int -> Fr
 | (w154, w155) => ⟨90, [(0, .one (.a 0 [] (0))), (1, .one (.t none (.sc (.int .i64 a1)))), (6, .one (.a 6 [] (0))), (7, .one (.a 7 [] (0))), (8, .one (.t none (.sc (.int .i64 (i64.wrap (1 + v90.1)))))), (10, .one (.t none (.sc (.int .i64 w125)))), (11, .one (.h 11 [])), (12, .one (.t none (.sc (.int .i64 w154)))), (1090, .one (.a 0 [] (0)))], [(0, .vr [.sl w126.length (w126.map fun x0 => .sc (.int .i64 x0)), .sc (.int .i64 w127)]), (6, .vr [.sc (.int .i64 0), .sc (.int .i64 0), .os 1 0 [], .os 1 0 []]), (7, .vr [.sc (.int .i64 a1), .sc (.int .i64 v91.1), .os 1 w96.length (w96.map fun x0 => .sc (.bool x0)), .os 1 w128.length (w128.map fun x0 => .os 1 x0.length (x0.map fun x1 => .sc (.int .i64 x1)))]), (11, .os 1 w155.length (w155.map fun x0 => .sc (.int .i64 x0)))]⟩
def z2U (a1 : Int) (v90 : Int × Tape) (v91 : Int × Tape) (w96 : List Bool) : Int × List Int × Int × List (List Int) -> Option ((Int × List Int × Int × List (List Int)) ⊕ (DFA × Tape))
 | (w125, w126, w127, w128) =>
 if w125 < a1 then
 z1b (z2J v90 w125 w126 w127 w128) LFm (0, [])
 else
 z1m <|
 some ((⟨a1, v91.1, w96, w128⟩ : DFA), (⟨w126, w127⟩ : Tape))
def z2S (a1 : Int) (v90 : Int × Tape) (v91 : Int × Tape) (w96 : List Bool) : Int × List Int × Int × List (List Int) -> Fr
 | (w125, w126, w127, w128) => ⟨90, [(0, .one (.a 0 [] (0))), (1, .one (.t none (.sc (.int .i64 a1)))), (6, .one (.a 6 [] (0))), (7, .one (.a 7 [] (0))), (8, .one (.t none (.sc (.int .i64 (i64.wrap (1 + v90.1)))))), (10, .one (.t none (.sc (.int .i64 w125)))), (1090, .one (.a 0 [] (0)))], [(0, .vr [.sl w126.length (w126.map fun x0 => .sc (.int .i64 x0)), .sc (.int .i64 w127)]), (6, .vr [.sc (.int .i64 0), .sc (.int .i64 0), .os 1 0 [], .os 1 0 []]), (7, .vr [.sc (.int .i64 a1), .sc (.int .i64 v91.1), .os 1 w96.length (w96.map fun x0 => .sc (.bool x0)), .os 1 w128.length (w128.map fun x0 => .os 1 x0.length (x0.map fun x1 => .sc (.int .i64 x1)))])]⟩
def z2V (a1 : Int) (v90 : Int × Tape) (v91 : Int × Tape) : Int × List Int × Int × List Bool × List (List Int) -> Option ((Int × List Int × Int × List Bool × List (List Int)) ⊕ (DFA × Tape))
 | (w93, w94, w95, w96, w97) =>
 if w93 < (i64.wrap (1 + v90.1)) then
 (z1J (⟨w94, w95⟩ : Tape) 2).bind fun v99 =>
 chk (z2i 1 (w96.length + 1)) <|
 chk (z2k 8 a1) <|
 chk (z2i 24 (w97.length + 1)) <|
 z0B (i64.wrap (w93 + 1), v99.2.l, v99.2.at_, w96 ++ [decide (v99.1 = 1)], w97 ++ [List.replicate a1.toNat (0 : Int)])
 else
 z1m <|
 z1b (z2U a1 v90 v91 w96) LFm (0, w94, w95, w97)
def z2T (a1 : Int) (v90 : Int × Tape) (v91 : Int × Tape) : Int × List Int × Int × List Bool × List (List Int) -> Fr
 | (w93, w94, w95, w96, w97) => ⟨90, [(0, .one (.a 0 [] (0))), (1, .one (.t none (.sc (.int .i64 a1)))), (6, .one (.a 6 [] (0))), (7, .one (.a 7 [] (0))), (8, .one (.t none (.sc (.int .i64 (i64.wrap (1 + v90.1)))))), (9, .one (.t none (.sc (.int .i64 w93)))), (1090, .one (.a 0 [] (0)))], [(0, .vr [.sl w94.length (w94.map fun x0 => .sc (.int .i64 x0)), .sc (.int .i64 w95)]), (6, .vr [.sc (.int .i64 0), .sc (.int .i64 0), .os 1 0 [], .os 1 0 []]), (7, .vr [.sc (.int .i64 a1), .sc (.int .i64 v91.1), .os 1 w96.length (w96.map fun x0 => .sc (.bool x0)), .os 1 w97.length (w97.map fun x0 => .os 1 x0.length (x0.map fun x1 => .sc (.int .i64 x1)))])]⟩
def z2M (a0 : Tape) (a1 : Int) (a2 : Int) : Option (DFA × Tape) :=
 (z1J a0 a2).bind fun v90 =>
 (z1J v90.2 (i64.wrap (1 + v90.1))).bind fun v91 =>
 z1b (z2V a1 v90 v91) LFm (0, v91.2.l, v91.2.at_, [], [])
theorem z8j {a0 : Tape} {a1 : Int} {a2 : Int} {r : DFA × Tape} (h0 : z2M a0 a1 a2 = some r) : L 32 [.vr [.sl a0.l.length (a0.l.map fun x0 => .sc (.int .i64 x0)), .sc (.int .i64 a0.at_)], .sc (.int .i64 a1), .sc (.int .i64 a2)] = some (.agg [.sc (.int .i64 r.1.letters), .sc (.int .i64 r.1.start), .os 1 r.1.final.length (r.1.final.map fun x0 => .sc (.bool x0)), .os 1 r.1.next.length (r.1.next.map fun x0 => .os 1 x0.length (x0.map fun x1 => .sc (.int .i64 x1)))], [.vr [.sl r.2.l.length (r.2.l.map fun x0 => .sc (.int .i64 x0)), .sc (.int .i64 r.2.at_)], .dead, .dead]) := by
  simp only [z2M] at h0
  refine z2F zAv zAR (z1w zAX ⟨of_decide_eq_true rfl, of_decide_eq_true rfl⟩ ?_)
  simp only [z1E, z1C, z1B, z1F, z3u]
  refine zp (zs ?_)
  refine z0a (zp (zs ?_))
  refine z0a (zp ?_)
  obtain ⟨v90, f115, h1⟩ := z0d h0
  have f115k := z1K f115
  try simp at f115k
  refine zr rfl rfl rfl (by simp [f115k]; rfl) ?_
  refine z0a (zp ?_)
  obtain ⟨v91, f116, h2⟩ := z0d h1
  have f116k := z1K f116
  try simp at f116k
  refine zr rfl rfl rfl (by simp [f116k]; rfl) ?_
  refine z0a (zp (zp (zs ?_)))
  refine z0a (zb rfl (z0C h2 (z2T a1 v90 v91) rfl rfl (by simp [z2T]) fun s o1 h3 hr1 => ?_))
  obtain ⟨w93, w94, w95, w96, w97⟩ := s
  simp only [z2V] at h3
  simp only [z2T]
  refine zp (zp (zs ?_))
  refine z0a ?_
  by_cases c125 : w93 < (i64.wrap (1 + v90.1))
  ·rw [if_pos c125] at h3
   refine z0t rfl (by simp [c125]) (z0j rfl (z0a (zp (zb rfl ?_))))
   obtain ⟨v99, f126, h4⟩ := z0d h3
   have f126k := z1K f126
   try simp at f126k
   obtain ⟨f127, h5⟩ := zwy h4
   obtain ⟨f128, h6⟩ := zng h5
   obtain ⟨f129, h7⟩ := z5I h6
   refine zeQ rfl rfl rfl rfl ?_
   refine zm6 [(0, 0, 3, 1), (1, 2, 3, 2), (2, 7, 3, 3), (3, 9, 3, 4), (4, 1, 2, 5), (4, 3, 1, 6), (4, 8, 2, 7), (4, 10, 1, 8), (5, 3, 1, 9), (5, 8, 2, 10), (5, 10, 1, 11), (6, 4, 3, 12), (7, 1, 2, 10), (7, 3, 1, 13), (7, 10, 1, 15), (8, 1, 2, 11), (8, 3, 1, 14), (8, 8, 2, 15), (8, 11, 1, 16), (9, 4, 3, 17), (10, 3, 1, 18), (10, 10, 1, 20), (11, 3, 1, 19), (11, 8, 2, 20), (11, 11, 1, 21), (12, 1, 2, 17), (12, 5, 1, 22), (12, 8, 2, 23), (12, 10, 1, 24), (13, 4, 3, 23), (14, 4, 3, 24), (15, 1, 2, 20), (15, 3, 1, 25), (15, 11, 1, 27), (16, 1, 2, 21), (16, 3, 1, 26), (16, 8, 2, 27), (17, 5, 1, 28), (17, 8, 2, 29), (17, 10, 1, 30), (18, 4, 0, 29), (19, 4, 3, 30), (20, 3, 1, 31), (20, 11, 1, 33), (21, 3, 1, 32), (21, 8, 2, 33), (22, 1, 2, 28), (22, 8, 2, 34), (22, 10, 1, 35), (23, 1, 2, 29), (23, 5, 1, 34), (23, 10, 1, 36), (24, 1, 2, 30), (24, 5, 1, 35), (24, 8, 2, 36), (24, 11, 1, 37), (25, 4, 3, 36), (26, 4, 3, 37), (27, 1, 2, 33), (27, 3, 1, 38), (28, 6, 2, 39), (28, 8, 2, 40), (28, 10, 1, 41), (29, 5, 1, 40), (29, 10, 1, 42), (30, 5, 1, 41), (30, 8, 2, 42), (30, 11, 1, 43), (31, 4, 0, 42), (32, 4, 3, 43), (33, 3, 1, 44), (34, 1, 2, 40), (34, 10, 1, 45), (35, 1, 2, 41), (35, 8, 2, 45), (35, 11, 1, 46), (36, 1, 2, 42), (36, 5, 1, 45), (36, 11, 1, 47), (37, 1, 2, 43), (37, 5, 1, 46), (37, 8, 2, 47), (38, 4, 3, 47), (39, 8, 2, 48), (39, 10, 1, 49), (40, 6, 2, 48), (40, 10, 1, 50), (41, 6, 2, 49), (41, 8, 2, 50), (41, 11, 1, 51), (42, 5, 1, 50), (42, 11, 1, 52), (43, 5, 1, 51), (43, 8, 2, 52), (44, 4, 0, 52), (45, 1, 2, 50), (45, 11, 1, 53), (46, 1, 2, 51), (46, 8, 2, 53), (47, 1, 2, 52), (47, 5, 1, 53), (48, 13, 3, 55), (49, 8, 2, 54), (49, 11, 1, 56), (50, 6, 2, 54), (50, 11, 1, 57), (51, 6, 2, 56), (51, 8, 2, 57), (52, 5, 1, 57), (53, 1, 2, 57), (54, 13, 3, 59), (55, 10, 1, 59), (56, 8, 2, 58), (57, 6, 2, 58), (58, 13, 3, 60), (59, 11, 1, 60), (60, 12, 2, 61), (61, 14, 2, 62), (62, 15, 0, 63), (63, 16, 2, 64)] 64 (by kernel_rfl) ?_
   iterate 12 (refine z0n rfl rfl rfl rfl (by simp [z0f, z0e, f126k, f127, f128, f129]; rfl) ?_)
   refine z0p rfl rfl rfl rfl (by simp [z0f, z0e, f126k, f127, f128, f129]) ?_
   refine z0n rfl rfl rfl rfl (by simp [z0f, z0e, f126k, f127, f128, f129]; rfl) ?_
   refine z0n rfl rfl rfl rfl (by simp [z0f, z0e, f126k, f127, f128, f129]; rfl) ?_
   refine z0p rfl rfl rfl rfl (by simp [z0f, z0e, f126k, f127, f128, f129]) ?_
   refine z0n rfl rfl rfl rfl (by simp [z0f, z0e, f126k, f127, f128, f129]; rfl) ?_
   refine z0p rfl rfl rfl rfl (by simp [z0f, z0e, f126k, f127, f128, f129]) ?_
   iterate 5 (refine z0n rfl rfl rfl rfl (by simp [z0f, z0e, f126k, f127, f128, f129]; rfl) ?_)
   refine z0p rfl rfl rfl rfl (by simp [z0f, z0e, f126k, f127, f128, f129]) ?_
   refine z0n rfl rfl rfl rfl (by simp [z0f, z0e, f126k, f127, f128, f129]; rfl) ?_
   refine z0p rfl rfl rfl rfl (by simp [z0f, z0e, f126k, f127, f128, f129]) ?_
   iterate 3 (refine z0n rfl rfl rfl rfl (by simp [z0f, z0e, f126k, f127, f128, f129]; rfl) ?_)
   iterate 3 (refine z0p rfl rfl rfl rfl (by simp [z0f, z0e, f126k, f127, f128, f129]) ?_)
   refine z0n rfl rfl rfl rfl (by simp [z0f, z0e, f126k, f127, f128, f129]; rfl) ?_
   refine z0n rfl rfl rfl rfl (by simp [z0f, z0e, f126k, f127, f128, f129]; rfl) ?_
   refine z0p rfl rfl rfl rfl (by simp [z0f, z0e, f126k, f127, f128, f129]) ?_
   refine z0n rfl rfl rfl rfl (by simp [z0f, z0e, f126k, f127, f128, f129]; rfl) ?_
   refine z0p rfl rfl rfl rfl (by simp [z0f, z0e, f126k, f127, f128, f129]) ?_
   iterate 3 (refine z0n rfl rfl rfl rfl (by simp [z0f, z0e, f126k, f127, f128, f129]; rfl) ?_)
   refine z0p rfl rfl rfl rfl (by simp [z0f, z0e, f126k, f127, f128, f129]) ?_
   refine z0p rfl rfl rfl rfl (by simp [z0f, z0e, f126k, f127, f128, f129]) ?_
   iterate 3 (refine z0n rfl rfl rfl rfl (by simp [z0f, z0e, f126k, f127, f128, f129]; rfl) ?_)
   refine z0p rfl rfl rfl rfl (by simp [z0f, z0e, f126k, f127, f128, f129]) ?_
   refine z0p rfl rfl rfl rfl (by simp [z0f, z0e, f126k, f127, f128, f129]) ?_
   refine z0n rfl rfl rfl rfl (by simp [z0f, z0e, f126k, f127, f128, f129]; rfl) ?_
   refine z0n rfl rfl rfl rfl (by simp [z0f, z0e, f126k, f127, f128, f129]; rfl) ?_
   refine z0p rfl rfl rfl rfl (by simp [z0f, z0e, f126k, f127, f128, f129]) ?_
   refine z0p rfl rfl rfl rfl (by simp [z0f, z0e, f126k, f127, f128, f129]) ?_
   refine z0n rfl rfl rfl rfl (by simp [z0f, z0e, f126k, f127, f128, f129]; rfl) ?_
   iterate 3 (refine z0p rfl rfl rfl rfl (by simp [z0f, z0e, f126k, f127, f128, f129]) ?_)
   refine z0n rfl rfl rfl rfl (by simp [z0f, z0e, f126k, f127, f128, f129]; rfl) ?_
   iterate 3 (refine z0p rfl rfl rfl rfl (by simp [z0f, z0e, f126k, f127, f128, f129]) ?_)
   iterate 4 (refine z0n rfl rfl rfl rfl (by simp [z0f, z0e, f126k, f127, f128, f129]; rfl) ?_)
   refine z0p rfl rfl rfl rfl (by simp [z0f, z0e, f126k, f127, f128, f129]) ?_
   refine z0n rfl rfl rfl rfl (by simp [z0f, z0e, f126k, f127, f128, f129]; rfl) ?_
   refine z0p rfl rfl rfl rfl (by simp [z0f, z0e, f126k, f127, f128, f129]) ?_
   refine z0p rfl rfl rfl rfl (by simp [z0f, z0e, f126k, f127, f128, f129]) ?_
   refine z0n rfl rfl rfl rfl (by simp [z0f, z0e, f126k, f127, f128, f129]; rfl) ?_
   refine z0p rfl rfl rfl rfl (by simp [z0f, z0e, f126k, f127, f128, f129]) ?_
   refine z0p rfl rfl rfl rfl (by simp [z0f, z0e, f126k, f127, f128, f129]) ?_
   refine z0n rfl rfl rfl rfl (by simp [z0f, z0e, f126k, f127, f128, f129]; rfl) ?_
   refine z0p rfl rfl rfl rfl (by simp [z0f, z0e, f126k, f127, f128, f129]) ?_
   refine z0n rfl rfl rfl rfl (by simp [z0f, z0e, f126k, f127, f128, f129]; rfl) ?_
   refine z0p rfl rfl rfl rfl (by simp [z0f, z0e, f126k, f127, f128, f129]) ?_
   refine z0p rfl rfl rfl rfl (by simp [z0f, z0e, f126k, f127, f128, f129]) ?_
   refine z0n rfl rfl rfl rfl (by simp [z0f, z0e, f126k, f127, f128, f129]; rfl) ?_
   refine z0p rfl rfl rfl rfl (by simp [z0f, z0e, f126k, f127, f128, f129]) ?_
   refine z0p rfl rfl rfl rfl (by simp [z0f, z0e, f126k, f127, f128, f129]) ?_
   refine z0n rfl rfl rfl rfl (by simp [z0f, z0e, f126k, f127, f128, f129]; rfl) ?_
   iterate 4 (refine z0p rfl rfl rfl rfl (by simp [z0f, z0e, f126k, f127, f128, f129]) ?_)
   refine z0n rfl rfl rfl rfl (by simp [z0f, z0e, f126k, f127, f128, f129]; rfl) ?_
   refine z0n rfl rfl rfl rfl (by simp [z0f, z0e, f126k, f127, f128, f129]; rfl) ?_
   refine z0p rfl rfl rfl rfl (by simp [z0f, z0e, f126k, f127, f128, f129]) ?_
   refine z0n rfl rfl rfl rfl (by simp [z0f, z0e, f126k, f127, f128, f129]; rfl) ?_
   refine z0p rfl rfl rfl rfl (by simp [z0f, z0e, f126k, f127, f128, f129]) ?_
   refine z0p rfl rfl rfl rfl (by simp [z0f, z0e, f126k, f127, f128, f129]) ?_
   refine z0n rfl rfl rfl rfl (by simp [z0f, z0e, f126k, f127, f128, f129]; rfl) ?_
   refine z0p rfl rfl rfl rfl (by simp [z0f, z0e, f126k, f127, f128, f129]) ?_
   refine z0n rfl rfl rfl rfl (by simp [z0f, z0e, f126k, f127, f128, f129]; rfl) ?_
   iterate 4 (refine z0p rfl rfl rfl rfl (by simp [z0f, z0e, f126k, f127, f128, f129]) ?_)
   refine z0n rfl rfl rfl rfl (by simp [z0f, z0e, f126k, f127, f128, f129]; rfl) ?_
   iterate 4 (refine z0p rfl rfl rfl rfl (by simp [z0f, z0e, f126k, f127, f128, f129]) ?_)
   iterate 3 (refine z0n rfl rfl rfl rfl (by simp [z0f, z0e, f126k, f127, f128, f129]; rfl) ?_)
   refine z0p rfl rfl rfl rfl (by simp [z0f, z0e, f126k, f127, f128, f129]) ?_
   refine z0n rfl rfl rfl rfl (by simp [z0f, z0e, f126k, f127, f128, f129]; rfl) ?_
   iterate 4 (refine z0p rfl rfl rfl rfl (by simp [z0f, z0e, f126k, f127, f128, f129]) ?_)
   refine z0n rfl rfl rfl rfl (by simp [z0f, z0e, f126k, f127, f128, f129]; rfl) ?_
   refine z0p rfl rfl rfl rfl (by simp [z0f, z0e, f126k, f127, f128, f129]) ?_
   refine z0n rfl rfl rfl rfl (by simp [z0f, z0e, f126k, f127, f128, f129]; rfl) ?_
   refine z0p rfl rfl rfl rfl (by simp [z0f, z0e, f126k, f127, f128, f129]) ?_
   refine z0n rfl rfl rfl rfl (by simp [z0f, z0e, f126k, f127, f128, f129]; rfl) ?_
   refine z0p rfl rfl rfl rfl (by simp [z0f, z0e, f126k, f127, f128, f129]) ?_
   iterate 4 (refine z0n rfl rfl rfl rfl (by simp [z0f, z0e, f126k, f127, f128, f129]; rfl) ?_)
   refine zn4 rfl ?_
   refine zeM rfl (by simp [f126k, f127, f128, f129]; rfl) ?_
   refine z0h (z0a (zs ?_))
   have ho := z0c h7
   refine z0i ho ?_
   simp [z2T]
  ·rw [if_neg c125] at h3
   refine z0r rfl (by simp [c125]) (z0X rfl (z0w ?_))
   obtain ⟨rr1, h4, ho1⟩ := z0k h3
   have hs1 := hr1 _ ho1
   subst hs1
   refine z0s ho1 (z0g rfl (z0a (zp (zp (zs ?_)))))
   refine z0a (zb rfl (z0C h4 (z2S a1 v90 v91 w96) rfl rfl (by simp [z2S]) fun s o2 h5 hr2 => ?_))
   obtain ⟨w125, w126, w127, w128⟩ := s
   simp only [z2U] at h5
   simp only [z2S]
   refine zp (zp (zs ?_))
   refine z0a ?_
   by_cases c196 : w125 < a1
   ·rw [if_pos c196] at h5
    refine z0t rfl (by simp [c196]) (z0j rfl (z0a (zp (zb rfl (zp (zs ?_))))))
    refine z0a (zp (zp (zs ?_)))
    refine z0a (zb rfl (z0C h5 (z2H a1 v90 v91 w96 w125 w126 w127 w128) rfl rfl (by simp [z2H]) fun s o3 h6 hr3 => ?_))
    obtain ⟨w154, w155⟩ := s
    simp only [z2J] at h6
    simp only [z2H]
    refine zp (zp (zs ?_))
    refine z0a ?_
    by_cases c200 : w154 < (i64.wrap (1 + v90.1))
    ·rw [if_pos c200] at h6
     refine z0t rfl (by simp [c200]) (z0j rfl (z0a (zp (zb rfl ?_))))
     obtain ⟨f201, h7⟩ := z5I h6
     refine zr rfl rfl rfl (by simp [f201]; rfl) ?_
     refine z0h (z0a (zs ?_))
     have ho := z0c h7
     refine z0i ho ?_
     simp [z2H]
    ·rw [if_neg c200] at h6
     refine z0r rfl (by simp [c200]) (z0X rfl (z0w ?_))
     obtain ⟨rr3, h7, ho3⟩ := z0k h6
     have hs3 := hr3 _ ho3
     subst hs3
     refine z0s ho3 (z0g rfl (z0a (zp (zs ?_))))
     refine z0a (zb rfl (z0C h7 (z2G a1 v90 v91 w96 w125) rfl rfl (by simp [z2G]) fun s o4 h8 hr4 => ?_))
     obtain ⟨w162, w163, w164, w165, w166⟩ := s
     simp only [z2I] at h8
     simp only [z2G]
     refine zp (zp (zs ?_))
     refine z0a ?_
     by_cases c220 : w162 < (i64.wrap (1 + v90.1))
     ·rw [if_pos c220] at h8
      refine z0t rfl (by simp [c220]) (z0j rfl (z0a (zp (zb rfl (zp ?_)))))
      obtain ⟨v173, f221, h9⟩ := z0d h8
      have f221k := z1K f221
      try simp at f221k
      refine zr rfl rfl rfl (by simp [f221k]; rfl) ?_
      refine z0a (zp ?_)
      obtain ⟨v174, f222, h10⟩ := z0I h9
      obtain ⟨v175, f223, h11⟩ := z0I h10
      obtain ⟨v176, f224, h12⟩ := z0I h11
      refine z1c rfl rfl rfl rfl ?_; repeat' ((first | refine z0q rfl rfl fun Q' hQ => ?_ | refine z0m rfl fun Q' hQ => ?_); simp [f222, f223, f224]; refine hQ.out _ ?_; clear hQ; clear Q')
      refine z0a ?_
      obtain ⟨v177, f225, h13⟩ := z0d h12
      obtain ⟨f225a, f225b, f225c, -⟩ := z5P f225
      obtain ⟨f225d, f225g⟩ := zcY f225a f225b
      have f225e := zaH (g := fun x : Int => (.sc (.int .i64 x) : T)) f225
      try simp at f225e
      have f225f := zaG f225
      try simp only [Int.reduceToNat, Int.toNat_natCast, Nat.sub_zero] at f225f
      obtain ⟨v178, f226, h14⟩ := z0d h13
      obtain ⟨f226a, f226b, f226c, -⟩ := z5P f226
      obtain ⟨f226d, f226g⟩ := zcY f226a f226b
      have f226e := zaH (g := fun x : Int => (.sc (.int .i64 x) : T)) f226
      try simp at f226e
      have f226f := zaG f226
      try simp only [Int.reduceToNat, Int.toNat_natCast, Nat.sub_zero] at f226f
      obtain ⟨f227, h15⟩ := z5I h14
      obtain ⟨f228, h16⟩ := z5I h15
      refine z1c rfl rfl rfl rfl ?_; repeat' ((first | refine z0q rfl rfl fun Q' hQ => ?_ | refine z0m rfl fun Q' hQ => ?_); simp [f222, f225a, f225b, f225c, f225d, f225g, f225e, f225f, f226a, f226b, f226c, f226d, f226g, f226e, f226f, f227, f228]; refine hQ.out _ ?_; clear hQ; clear Q')
      refine z0h (z0a (zr rfl rfl rfl (by simp [f222]; rfl) ?_))
      have ho := z0c h16
      refine z0i ho ?_
      simp [z2G]
     ·rw [if_neg c220] at h8
      refine z0r rfl (by simp [c220]) (z0X rfl (z0w ?_))
      obtain ⟨rr4, h9, ho4⟩ := z0k h8
      have hs4 := hr4 _ ho4
      subst hs4
      refine z0s ho4 (z0g rfl (z0h (z0a (zs ?_))))
      have ho := z0c h9
      refine z0i ho ?_
      simp [z2S]
   ·rw [if_neg c196] at h5
    refine z0r rfl (by simp [c196]) (z0X rfl (z0w ?_))
    obtain ⟨rr2, h6, ho2⟩ := z0k h5
    have hs2 := hr2 _ ho2
    subst hs2
    refine z0s ho2 (z0g rfl (z0a (zp (zs ?_))))
    refine z0a (z1f rfl ?_)
    cases h6
    simp
def zd2 (a0 : Int) (a1 : Int) (w31 : Int) : Int × List ByteArray -> Option ((Int × List ByteArray) ⊕ ((Int × List ByteArray) ⊕ List ByteArray))
 | (w43, w44) =>
 if w43 < a0 then
 (atI w44 w31).bind fun v47 =>
 if (v47.size : Int) < a1 then
 chk (z9E v47 ⟨#[UInt8.ofNat (u8.wrap (i64.wrap (97 + w43))).toNat]⟩) <|
 chk (z2i 16 (w44.length + 1)) <|
 z0B (i64.wrap (w43 + 1), w44 ++ [v47 ++ ⟨#[UInt8.ofNat (u8.wrap (i64.wrap (97 + w43))).toNat]⟩])
 else
 z1m <|
 z0B (i64.wrap (w31 + 1), w44)
 else
 z1m <|
 z0B (i64.wrap (w31 + 1), w44)
def z7e (a0 : Int) (a1 : Int) (w31 : Int) : Int × List ByteArray -> Fr
 | (w43, w44) => ⟨43, [(0, .one (.t none (.sc (.int .i64 a0)))), (1, .one (.t none (.sc (.int .i64 a1)))), (5, .one (.h 5 [])), (6, .one (.t none (.sc (.int .i64 w31)))), (7, .one (.t none (.sc (.int .i64 w43))))], [(5, .os 1 w44.length (w44.map fun x0 => .sc (.string x0)))]⟩
def zd3 (a0 : Int) (a1 : Int) : Int × List ByteArray -> Option ((Int × List ByteArray) ⊕ List ByteArray)
 | (w31, w32) =>
 if w31 < (w32.length : Int) then
 z1b (zd2 a0 a1 w31) LFm (0, w32)
 else
 z1m <|
 some w32
def z5z (a0 : Int) (a1 : Int) : Int × List ByteArray -> Fr
 | (w31, w32) => ⟨43, [(0, .one (.t none (.sc (.int .i64 a0)))), (1, .one (.t none (.sc (.int .i64 a1)))), (5, .one (.h 5 [])), (6, .one (.t none (.sc (.int .i64 w31))))], [(5, .os 1 w32.length (w32.map fun x0 => .sc (.string x0)))]⟩
def zaK (a0 : Int) (a1 : Int) : Option (List ByteArray) :=
 z1b (zd3 a0 a1) LFm (0, [ByteArray.empty])
theorem zkj {a0 : Int} {a1 : Int} {r : List ByteArray} (h0 : zaK a0 a1 = some r) : L 61 [.sc (.int .i64 a0), .sc (.int .i64 a1)] = some (.os 1 r.length (r.map fun x0 => .sc (.string x0)), [.dead, .dead]) := by
  simp only [zaK] at h0
  refine z2F zA7 zBA (z1w zDm ⟨of_decide_eq_true rfl, of_decide_eq_true rfl⟩ ?_)
  simp only [z1E, z1C, z1B, z1F, z3u]
  refine zp (zs ?_)
  refine z0a (zp (zs ?_))
  refine z0a (zp (zp (zs ?_)))
  refine z0a (zb rfl (z0C h0 (z5z a0 a1) rfl rfl (by simp [z5z]) fun s o1 h1 hr1 => ?_))
  obtain ⟨w31, w32⟩ := s
  simp only [zd3] at h1
  simp only [z5z]
  refine zp (zp (zs ?_))
  refine z0a ?_
  by_cases c77 : w31 < (w32.length : Int)
  ·rw [if_pos c77] at h1
   refine z0t rfl (by simp [c77]) (z0j rfl (z0a (zp (zb rfl (zp (zs ?_))))))
   refine z0a (zb rfl (z0C h1 (z7e a0 a1 w31) rfl rfl (by simp [z7e]) fun s o2 h2 hr2 => ?_))
   obtain ⟨w43, w44⟩ := s
   simp only [zd2] at h2
   simp only [z7e]
   refine zp (zp ?_)
   by_cases c88 : w43 < a0
   ·rw [if_pos c88] at h2
    obtain ⟨v47, f89, h3⟩ := z0I h2
    refine zr rfl rfl rfl (by simp [c88, f89]; rfl) ?_
    refine z0a ?_
    by_cases c90 : (v47.size : Int) < a1
    ·rw [if_pos c90] at h3
     refine z0t rfl (by simp [c90]) (z0j rfl (z0a (zp (zb rfl ?_))))
     obtain ⟨f91, h4⟩ := z1M h3
     obtain ⟨f92, h5⟩ := z5I h4
     refine z1c rfl rfl rfl rfl ?_; repeat' ((first | refine z0q rfl rfl fun Q' hQ => ?_ | refine z0m rfl fun Q' hQ => ?_); simp [f89, f91, f92]; refine hQ.out _ ?_; clear hQ; clear Q')
     refine z0h (z0a (zs ?_))
     have ho := z0c h5
     refine z0i ho ?_
     simp [z7e]
    ·rw [if_neg c90] at h3
     refine z0r rfl (by simp [c90]) (z0X rfl (z0w ?_))
     obtain ⟨rr2, h4, ho2⟩ := z0k h3
     have hs2 := hr2 _ ho2
     subst hs2
     refine z0s ho2 (z0g rfl (z0h (z0a (zs ?_))))
     have ho := z0c h4
     refine z0i ho ?_
     simp [z5z]
   ·rw [if_neg c88] at h2
    refine zr rfl rfl rfl (by simp [c88]; rfl) ?_
    refine z0a (z0r rfl (by simp) (z0X rfl (z0w ?_)))
    obtain ⟨rr2, h3, ho2⟩ := z0k h2
    have hs2 := hr2 _ ho2
    subst hs2
    refine z0s ho2 (z0g rfl (z0h (z0a (zs ?_))))
    have ho := z0c h3
    refine z0i ho ?_
    simp [z5z]
  ·rw [if_neg c77] at h1
   refine z0r rfl (by simp [c77]) (z0X rfl (z0w ?_))
   obtain ⟨rr1, h2, ho1⟩ := z0k h1
   have hs1 := hr1 _ ho1
   subst hs1
   refine z0s ho1 (z0g rfl (z0a (zp (zs ?_))))
   refine z0a (z1f rfl ?_)
   cases h2
   simp
def z5J (v201 : List ByteArray) (w385 : ByteArray) : Int × Int -> Option ((Int × Int) ⊕ ((ByteArray × Int) ⊕ ((Int × List Int) ⊕ ((Int × List Int × Int × List Bool × List (List Int)) ⊕ (DFA × Tape)))))
 | (w394, w395) =>
 if w395 < (v201.length : Int) then
 (atI v201 w395).bind fun v397 =>
 if v397 = w385 then
 z0B (w395, i64.wrap (w395 + 1))
 else
 z0B (w394, i64.wrap (w395 + 1))
 else
 z1m <|
 (zsY w385 1 (w385.size : Int)).bind fun v398 =>
 z0B (v398, w394)
def z2N (a1 : Int) (v201 : List ByteArray) (w266 : Int) (w269 : List Bool) (w270 : List (List Int)) (v335 : ByteArray) (v336 : Int × Tape) (w357 : Int) (w358 : List Int) (w385 : ByteArray) : Int × Int -> Fr
 | (w394, w395) => ⟨76, [(0, .one (.a 0 [] (0))), (1, .one (.t none (.sc (.int .i64 a1)))), (4, .one (.a 4 [] (0))), (5, .one (.a 5 [] (0))), (6, .one (.h 6 [])), (8, .one (.t none (.sc (.string v335)))), (9, .one (.h 9 [])), (10, .one (.t none (.sc (.int .i64 w357)))), (11, .one (.t none (.sc (.string w385)))), (12, .one (.t none (.sc (.int .i64 w394)))), (22, .one (.h 6 [])), (23, .one (.t none (.sc (.int .i64 (v201.length : Int))))), (24, .one (.t none (.sc (.int .i64 w266)))), (50, .one (.h 6 [])), (51, .one (.t none (.sc (.int .i64 (v201.length : Int))))), (52, .one (.t none (.sc (.int .i64 w395)))), (1076, .one (.a 0 [] (0)))], [(0, .vr [.sl v336.2.l.length (v336.2.l.map fun x0 => .sc (.int .i64 x0)), .sc (.int .i64 v336.2.at_)]), (4, .vr [.sc (.int .i64 0), .sc (.int .i64 0), .os 1 0 [], .os 1 0 []]), (5, .vr [.sc (.int .i64 a1), .sc (.int .i64 0), .os 1 (w269 ++ [decide (v336.1 = 1)]).length ((w269 ++ [decide (v336.1 = 1)]).map fun x0 => .sc (.bool x0)), .os 1 w270.length (w270.map fun x0 => .os 1 x0.length (x0.map fun x1 => .sc (.int .i64 x1)))]), (6, .os 1 v201.length (v201.map fun x0 => .sc (.string x0))), (9, .os 1 w358.length (w358.map fun x0 => .sc (.int .i64 x0)))]⟩
def z3B (v201 : List ByteArray) (w357 : Int) (w358 : List Int) : ByteArray × Int -> Option ((ByteArray × Int) ⊕ ((Int × List Int) ⊕ ((Int × List Int × Int × List Bool × List (List Int)) ⊕ (DFA × Tape))))
 | (w385, w386) =>
 if w386 = (-1) then
 z1b (z5J v201 w385) LFm (w386, 0)
 else
 z1m <|
 chk (z2i 8 (w358.length + 1)) <|
 z0B (i64.wrap (w357 + 1), w358 ++ [w386])
def z3A (a1 : Int) (v201 : List ByteArray) (w266 : Int) (w269 : List Bool) (w270 : List (List Int)) (v335 : ByteArray) (v336 : Int × Tape) (w357 : Int) (w358 : List Int) : ByteArray × Int -> Fr
 | (w385, w386) => ⟨76, [(0, .one (.a 0 [] (0))), (1, .one (.t none (.sc (.int .i64 a1)))), (4, .one (.a 4 [] (0))), (5, .one (.a 5 [] (0))), (6, .one (.h 6 [])), (8, .one (.t none (.sc (.string v335)))), (9, .one (.h 9 [])), (10, .one (.t none (.sc (.int .i64 w357)))), (11, .one (.t none (.sc (.string w385)))), (12, .one (.t none (.sc (.int .i64 w386)))), (22, .one (.h 6 [])), (23, .one (.t none (.sc (.int .i64 (v201.length : Int))))), (24, .one (.t none (.sc (.int .i64 w266)))), (1076, .one (.a 0 [] (0)))], [(0, .vr [.sl v336.2.l.length (v336.2.l.map fun x0 => .sc (.int .i64 x0)), .sc (.int .i64 v336.2.at_)]), (4, .vr [.sc (.int .i64 0), .sc (.int .i64 0), .os 1 0 [], .os 1 0 []]), (5, .vr [.sc (.int .i64 a1), .sc (.int .i64 0), .os 1 (w269 ++ [decide (v336.1 = 1)]).length ((w269 ++ [decide (v336.1 = 1)]).map fun x0 => .sc (.bool x0)), .os 1 w270.length (w270.map fun x0 => .os 1 x0.length (x0.map fun x1 => .sc (.int .i64 x1)))]), (6, .os 1 v201.length (v201.map fun x0 => .sc (.string x0))), (9, .os 1 w358.length (w358.map fun x0 => .sc (.int .i64 x0)))]⟩
def z3b (a1 : Int) (v201 : List ByteArray) (w266 : Int) (w269 : List Bool) (w270 : List (List Int)) (v335 : ByteArray) (v336 : Int × Tape) : Int × List Int -> Option ((Int × List Int) ⊕ ((Int × List Int × Int × List Bool × List (List Int)) ⊕ (DFA × Tape)))
 | (w357, w358) =>
 if w357 < a1 then
 chk (z9E v335 ⟨#[UInt8.ofNat (u8.wrap (i64.wrap (97 + w357))).toNat]⟩) <|
 z1b (z3B v201 w357 w358) LFm (v335 ++ ⟨#[UInt8.ofNat (u8.wrap (i64.wrap (97 + w357))).toNat]⟩, (-1))
 else
 z1m <|
 chk (z2i 24 (w270.length + 1)) <|
 z0B (i64.wrap (w266 + 1), v336.2.l, v336.2.at_, w269 ++ [decide (v336.1 = 1)], w270 ++ [w358])
def z3H (a1 : Int) (v201 : List ByteArray) (w266 : Int) (w269 : List Bool) (w270 : List (List Int)) (v335 : ByteArray) (v336 : Int × Tape) : Int × List Int -> Fr
 | (w357, w358) => ⟨76, [(0, .one (.a 0 [] (0))), (1, .one (.t none (.sc (.int .i64 a1)))), (4, .one (.a 4 [] (0))), (5, .one (.a 5 [] (0))), (6, .one (.h 6 [])), (8, .one (.t none (.sc (.string v335)))), (9, .one (.h 9 [])), (10, .one (.t none (.sc (.int .i64 w357)))), (22, .one (.h 6 [])), (23, .one (.t none (.sc (.int .i64 (v201.length : Int))))), (24, .one (.t none (.sc (.int .i64 w266)))), (1076, .one (.a 0 [] (0)))], [(0, .vr [.sl v336.2.l.length (v336.2.l.map fun x0 => .sc (.int .i64 x0)), .sc (.int .i64 v336.2.at_)]), (4, .vr [.sc (.int .i64 0), .sc (.int .i64 0), .os 1 0 [], .os 1 0 []]), (5, .vr [.sc (.int .i64 a1), .sc (.int .i64 0), .os 1 (w269 ++ [decide (v336.1 = 1)]).length ((w269 ++ [decide (v336.1 = 1)]).map fun x0 => .sc (.bool x0)), .os 1 w270.length (w270.map fun x0 => .os 1 x0.length (x0.map fun x1 => .sc (.int .i64 x1)))]), (6, .os 1 v201.length (v201.map fun x0 => .sc (.string x0))), (9, .os 1 w358.length (w358.map fun x0 => .sc (.int .i64 x0)))]⟩
def z3J (a1 : Int) (v201 : List ByteArray) : Int × List Int × Int × List Bool × List (List Int) -> Option ((Int × List Int × Int × List Bool × List (List Int)) ⊕ (DFA × Tape))
 | (w266, w267, w268, w269, w270) =>
 if w266 < (v201.length : Int) then
 (atI v201 w266).bind fun v335 =>
 (z1J (⟨w267, w268⟩ : Tape) 2).bind fun v336 =>
 chk (z2i 1 (w269.length + 1)) <|
 z1b (z3b a1 v201 w266 w269 w270 v335 v336) LFm (0, [])
 else
 z1m <|
 some ((⟨a1, 0, w269, w270⟩ : DFA), (⟨w267, w268⟩ : Tape))
def z3I (a1 : Int) (v201 : List ByteArray) : Int × List Int × Int × List Bool × List (List Int) -> Fr
 | (w266, w267, w268, w269, w270) => ⟨76, [(0, .one (.a 0 [] (0))), (1, .one (.t none (.sc (.int .i64 a1)))), (4, .one (.a 4 [] (0))), (5, .one (.a 5 [] (0))), (6, .one (.h 6 [])), (22, .one (.h 6 [])), (23, .one (.t none (.sc (.int .i64 (v201.length : Int))))), (24, .one (.t none (.sc (.int .i64 w266)))), (1076, .one (.a 0 [] (0)))], [(0, .vr [.sl w267.length (w267.map fun x0 => .sc (.int .i64 x0)), .sc (.int .i64 w268)]), (4, .vr [.sc (.int .i64 0), .sc (.int .i64 0), .os 1 0 [], .os 1 0 []]), (5, .vr [.sc (.int .i64 a1), .sc (.int .i64 0), .os 1 w269.length (w269.map fun x0 => .sc (.bool x0)), .os 1 w270.length (w270.map fun x0 => .os 1 x0.length (x0.map fun x1 => .sc (.int .i64 x1)))]), (6, .os 1 v201.length (v201.map fun x0 => .sc (.string x0)))]⟩
def z3K (a0 : Tape) (a1 : Int) : Option (DFA × Tape) :=
 (z1J a0 2).bind fun v200 =>
 (zaK a1 (i64.wrap (1 + v200.1))).bind fun v201 =>
 z1b (z3J a1 v201) LFm (0, v200.2.l, v200.2.at_, [], [])
theorem z9Y {a0 : Tape} {a1 : Int} {r : DFA × Tape} (h0 : z3K a0 a1 = some r) : L 33 [.vr [.sl a0.l.length (a0.l.map fun x0 => .sc (.int .i64 x0)), .sc (.int .i64 a0.at_)], .sc (.int .i64 a1)] = some (.agg [.sc (.int .i64 r.1.letters), .sc (.int .i64 r.1.start), .os 1 r.1.final.length (r.1.final.map fun x0 => .sc (.bool x0)), .os 1 r.1.next.length (r.1.next.map fun x0 => .os 1 x0.length (x0.map fun x1 => .sc (.int .i64 x1)))], [.vr [.sl r.2.l.length (r.2.l.map fun x0 => .sc (.int .i64 x0)), .sc (.int .i64 r.2.at_)], .dead]) := by
  simp only [z3K] at h0
  refine z2F zAu zBX (z1w zDJ ⟨of_decide_eq_true rfl, of_decide_eq_true rfl⟩ ?_)
  simp only [z1E, z1C, z1B, z1F, z3u]
  refine zp (zs ?_)
  refine z0a (zp (zs ?_))
  refine z0a (zp ?_)
  obtain ⟨v200, f337, h1⟩ := z0d h0
  have f337k := z1K f337
  try simp at f337k
  obtain ⟨v201, f338, h2⟩ := z0d h1
  have f338k := zkj f338
  try simp at f338k
  refine zr rfl rfl rfl (by simp [f337k, f338k]; rfl) ?_
  refine z0a (zp (zp (zs ?_)))
  refine z0a (zb rfl (z0C h2 (z3I a1 v201) rfl rfl (by simp [z3I]) fun s o1 h3 hr1 => ?_))
  obtain ⟨w266, w267, w268, w269, w270⟩ := s
  simp only [z3J] at h3
  simp only [z3I]
  refine zp (zs ?_)
  refine z0a (zp ?_)
  by_cases c561 : w266 < (v201.length : Int)
  ·rw [if_pos c561] at h3
   refine z0t rfl (by simp [c561]) (z0j rfl (z0a (zp (zb rfl (zp ?_)))))
   obtain ⟨v335, f562, h4⟩ := z0I h3
   refine zr rfl rfl rfl (by simp [f562]; rfl) ?_
   refine z0a (zp ?_)
   obtain ⟨v336, f563, h5⟩ := z0d h4
   have f563k := z1K f563
   try simp at f563k
   obtain ⟨f564, h6⟩ := zwy h5
   refine z1c rfl rfl rfl rfl ?_; repeat' ((first | refine z0q rfl rfl fun Q' hQ => ?_ | refine z0m rfl fun Q' hQ => ?_); simp [f563k, f564]; refine hQ.out _ ?_; clear hQ; clear Q')
   refine z0a (zp (zs ?_))
   refine z0a (zp (zp (zs ?_)))
   refine z0a (zb rfl (z0C h6 (z3H a1 v201 w266 w269 w270 v335 v336) rfl rfl (by simp [z3H]) fun s o2 h7 hr2 => ?_))
   obtain ⟨w357, w358⟩ := s
   simp only [z3b] at h7
   simp only [z3H]
   refine zp (zp (zs ?_))
   refine z0a ?_
   by_cases c636 : w357 < a1
   ·rw [if_pos c636] at h7
    refine z0t rfl (by simp [c636]) (z0j rfl (z0a (zp (zb rfl (zp ?_)))))
    obtain ⟨f637, h8⟩ := z1M h7
    refine zr rfl rfl rfl (by simp [f637]; rfl) ?_
    refine z0a (zp (zs ?_))
    refine z0a (zp (zb rfl (z0C h8 (z3A a1 v201 w266 w269 w270 v335 v336 w357 w358) rfl rfl (by simp [z3A]) fun s o3 h9 hr3 => ?_)))
    obtain ⟨w385, w386⟩ := s
    simp only [z3B] at h9
    simp only [z3A]
    refine zp (zp (zs ?_))
    refine z0a ?_
    by_cases c660 : w386 = (-1)
    ·rw [if_pos c660] at h9
     have c660e := eq_true c660
     refine z0t rfl (by simp [c660e]) (z0j rfl (z0a (zb rfl (zp (zp (zs ?_))))))
     refine z0a (zb rfl (z0C h9 (z2N a1 v201 w266 w269 w270 v335 v336 w357 w358 w385) rfl rfl (by simp [z2N]) fun s o4 h10 hr4 => ?_))
     obtain ⟨w394, w395⟩ := s
     simp only [z5J] at h10
     simp only [z2N]
     refine zp (zs ?_)
     refine z0a (zp ?_)
     by_cases c667 : w395 < (v201.length : Int)
     ·rw [if_pos c667] at h10
      refine z0t rfl (by simp [c667]) (z0j rfl (z0a (zp (zb rfl (zp ?_)))))
      obtain ⟨v397, f668, h11⟩ := z0I h10
      refine zr rfl rfl rfl (by simp [f668]; rfl) ?_
      refine z0a (zp (zs ?_))
      refine z0a ?_
      by_cases c669 : v397 = w385
      ·rw [if_pos c669] at h11
       have c669e := eq_true c669
       refine z0t rfl (by simp [c669e]) (zs ?_)
       refine z0h (z0a (zs ?_))
       have ho := z0c h11
       refine z0i ho ?_
       simp [z2N]
      ·rw [if_neg c669] at h11
       have c669e := eq_false c669
       refine z0r rfl (by simp [c669e]) (z0j rfl (z0h (z0a (zs ?_))))
       have ho := z0c h11
       refine z0i ho ?_
       simp [z2N]
     ·rw [if_neg c667] at h10
      refine z0r rfl (by simp [c667]) (z0X rfl (z0w ?_))
      obtain ⟨rr4, h11, ho4⟩ := z0k h10
      have hs4 := hr4 _ ho4
      subst hs4
      refine z0s ho4 (z0g rfl (z0a ?_))
      obtain ⟨v398, f670, h12⟩ := z0d h11
      obtain ⟨f670a, f670b, f670c, f670d⟩ := znU f670
      obtain ⟨f670e, f670f⟩ := zcY f670a f670b
      have f670d := f670d.symm
      try simp only [Int.reduceToNat, Int.toNat_natCast] at f670d
      refine zr rfl rfl rfl (by simp [f670a, f670b, f670c, f670d, f670e, f670f]; rfl) ?_
      refine z0h ?_
      have ho := z0c h12
      refine z0i ho ?_
      simp [z3A]
    ·rw [if_neg c660] at h9
     have c660e := eq_false c660
     refine z0r rfl (by simp [c660e]) (z0X rfl (z0w ?_))
     obtain ⟨rr3, h10, ho3⟩ := z0k h9
     have hs3 := hr3 _ ho3
     subst hs3
     refine z0s ho3 (z0g rfl (z0a ?_))
     obtain ⟨f671, h11⟩ := z5I h10
     refine zr rfl rfl rfl (by simp [f671]; rfl) ?_
     refine z0h (z0a (zs ?_))
     have ho := z0c h11
     refine z0i ho ?_
     simp [z3H]
   ·rw [if_neg c636] at h7
    refine z0r rfl (by simp [c636]) (z0X rfl (z0w ?_))
    obtain ⟨rr2, h8, ho2⟩ := z0k h7
    have hs2 := hr2 _ ho2
    subst hs2
    refine z0s ho2 (z0g rfl (z0a ?_))
    obtain ⟨f672, h9⟩ := z5I h8
    refine zr rfl rfl rfl (by simp [f672]; rfl) ?_
    refine z0h (z0a (zs ?_))
    have ho := z0c h9
    refine z0i ho ?_
    simp [z3I]
  ·rw [if_neg c561] at h3
   refine z0r rfl (by simp [c561]) (z0X rfl (z0w ?_))
   obtain ⟨rr1, h4, ho1⟩ := z0k h3
   have hs1 := hr1 _ ho1
   subst hs1
   refine z0s ho1 (z0g rfl (z0a (zp (zs ?_))))
   refine z0a (z1f rfl ?_)
   cases h4
   simp
def z4R (a0 : Tape) (a1 : Int) (a2 : Int) : Option (DFA × Tape) :=
 (z1J a0 6).bind fun v6 =>
 if v6.1 = 1 then
 (z4d v6.2 a1 a2).bind fun v7 =>
 some (v7.1, v7.2)
 else
 if v6.1 = 2 then
 (z2M v6.2 a1 (if 4 < a2 then 4 else a2)).bind fun v8 =>
 some (v8.1, v8.2)
 else
 if v6.1 = 3 then
 (z3K v6.2 a1).bind fun v9 =>
 some (v9.1, v9.2)
 else
 (z4Q v6.2 a1 a2).bind fun v10 =>
 some (v10.1, v10.2)
theorem zeY {a0 : Tape} {a1 : Int} {a2 : Int} {r : DFA × Tape} (h0 : z4R a0 a1 a2 = some r) : L 12 [.vr [.sl a0.l.length (a0.l.map fun x0 => .sc (.int .i64 x0)), .sc (.int .i64 a0.at_)], .sc (.int .i64 a1), .sc (.int .i64 a2)] = some (.agg [.sc (.int .i64 r.1.letters), .sc (.int .i64 r.1.start), .os 1 r.1.final.length (r.1.final.map fun x0 => .sc (.bool x0)), .os 1 r.1.next.length (r.1.next.map fun x0 => .os 1 x0.length (x0.map fun x1 => .sc (.int .i64 x1)))], [.vr [.sl r.2.l.length (r.2.l.map fun x0 => .sc (.int .i64 x0)), .sc (.int .i64 r.2.at_)], .dead, .dead]) := by
  simp only [z4R] at h0
  refine z2F zAH zC7 (z1w zDT ⟨of_decide_eq_true rfl, of_decide_eq_true rfl⟩ ?_)
  simp only [z1E, z1C, z1B, z1F, z3u]
  refine zp (zs ?_)
  refine z0a (zp (zp ?_))
  obtain ⟨v6, f9, h1⟩ := z0d h0
  have f9k := z1K f9
  try simp at f9k
  refine zr rfl rfl rfl (by simp [f9k]; rfl) ?_
  refine z0a (zb rfl (zp (zs ?_)))
  refine z0a ?_
  by_cases c10 : v6.1 = 1
  ·rw [if_pos c10] at h1
   have c10e := eq_true c10
   refine z0t rfl (by simp [c10e]) (zp ?_)
   obtain ⟨v7, f11, h2⟩ := z0d h1
   have f11k := zaR f11
   try simp at f11k
   refine zr rfl rfl rfl (by simp [f11k]; rfl) ?_
   refine z0a (z1f rfl (z1H (z0Q ?_)))
   cases h2
   simp
  ·rw [if_neg c10] at h1
   have c10e := eq_false c10
   refine z0r rfl (by simp [c10e]) (zp (zs ?_))
   refine z0a ?_
   by_cases c12 : v6.1 = 2
   ·rw [if_pos c12] at h1
    have c12e := eq_true c12
    refine z0t rfl (by simp [c12e]) (zp ?_)
    obtain ⟨v8, f13, h2⟩ := z0d h1
    have f13k := z8j f13
    try simp at f13k
    refine zr rfl rfl rfl (by simp [f13k]; rfl) ?_
    refine z0a (z1f rfl (z1H (z0Q ?_)))
    cases h2
    simp
   ·rw [if_neg c12] at h1
    have c12e := eq_false c12
    refine z0r rfl (by simp [c12e]) (zp (zs ?_))
    refine z0a ?_
    by_cases c14 : v6.1 = 3
    ·rw [if_pos c14] at h1
     have c14e := eq_true c14
     refine z0t rfl (by simp [c14e]) (zp ?_)
     obtain ⟨v9, f15, h2⟩ := z0d h1
     have f15k := z9Y f15
     try simp at f15k
     refine zr rfl rfl rfl (by simp [f15k]; rfl) ?_
     refine z0a (z1f rfl (z1H (z0Q ?_)))
     cases h2
     simp
    ·rw [if_neg c14] at h1
     have c14e := eq_false c14
     refine z0r rfl (by simp [c14e]) (z0j rfl (z0h (z0a (zp ?_))))
     obtain ⟨v10, f16, h2⟩ := z0d h1
     have f16k := z9x f16
     try simp at f16k
     refine zr rfl rfl rfl (by simp [f16k]; rfl) ?_
     refine z0a (z1f rfl ?_)
     cases h2
     simp
end
end Go.Proofs.Ytbnnipkanechoaa
end
section
namespace Go.Proofs.Ytbnnipkanechoaa
open Go
structure TapeOk (t : Tape) : Prop where
 a0 : 0 <= t.at_
 a1 : t.at_ <= t.l.length
 a2 : t.l.length <= 80
theorem z5R (x n : Int) (h1 : 1 <= n) (h2 : n < 4611686018427387904) : ∃ v, z5A x n = some v /\ 0 <= v /\ v < n := by
 have hx : x.tmod n < n := Int.tmod_lt_of_pos _ (by omega)
 have hy : -n < x.tmod n := Int.lt_tmod_of_pos x (by omega)
 unfold z5A
 rw [if_neg (by omega), z0K _ (by omega)]
 split
 ·rw [z2E (by omega) (by omega)]; exact ⟨_, rfl, by omega, by omega⟩
 ·exact ⟨_, rfl, by omega, by omega⟩
theorem z6K {t : Tape} (ht : TapeOk t) (n : Int) (h1 : 1 <= n) (h2 : n < 4611686018427387904) : ∃ v t', z1J t n = some (v, t') /\ 0 <= v /\ v < n /\ TapeOk t' := by
 obtain ⟨a0, a1, a2⟩ := ht
 unfold z1J
 split
 ·exact ⟨_, _, rfl, by omega, by omega, a0, a1, a2⟩
 ·rename_i hlt
  rw [z2E (x := t.at_ + 1) (by omega) (by omega), z2E (by omega) (by omega)]
  obtain ⟨k, hk⟩ := Int.eq_ofNat_of_zero_le a0
  have e : t.at_ + 1 - 1 = (k : Int) := by omega
  rw [e, z1P (by omega)]
  obtain ⟨v, hv, h3, h4⟩ := z5R t.l[k] n h1 h2
  simp only [Option.bind_some, hv]
  exact ⟨_, _, rfl, h3, h4, by simp only; omega, by simp only; omega, a2⟩
theorem zxm (l : List Int) : ∃ t, zd4 l = some t /\ TapeOk t := by
 unfold zd4
 split
 ·rename_i h
  have := zmx (xs := l) (k := 80) (by omega)
  simp only [Int.cast_ofNat_Int] at this
  rw [this]
  exact ⟨_, rfl, by simp, by simp, by simp only [List.length_take]; omega⟩
 ·exact ⟨_, rfl, by simp, by simp, by simp; omega⟩
end Go.Proofs.Ytbnnipkanechoaa
end
section
namespace Go.Proofs.Ytbnnipkanechoaa
open Go
def z9e (m n : Nat) (r : List Int) : Prop := r.length = m /\ ∀ x ∈ r, 0 <= x /\ x < n
structure DfaOk (d : DFA) (m n : Nat) : Prop where
 lt : d.letters = m
 m1 : 1 <= m
 m6 : m <= 6
 n1 : 1 <= n
 fin : d.final.length = n
 nl : d.next.length = n
 s0 : 0 <= d.start
 s1 : d.start < n
 row : ∀ r ∈ d.next, z9e m n r
theorem zkk {σ τ ρ : Type} {b : σ -> Option (σ ⊕ (τ ⊕ ρ))} (I : σ -> Prop) (m : σ -> Nat) (Post : τ -> Prop) {s : σ} (hI : I s) (hm : m s < LFm)
  (step : ∀ s, I s -> (∃ s', b s = some (.inl s') /\ I s' /\ m s' < m s) ∨ (∃ r, b s = some (.inr (.inl r)) /\ Post r)) : ∃ r, z1b b LFm s = some (.inl r) /\ Post r := by
 obtain ⟨r, h1, r', h2, h3⟩ := z1T I m (fun r => ∃ t, r = .inl t /\ Post t) (fun s hs => (step s hs).imp id fun ⟨r, h, hp⟩ => ⟨_, h, r, rfl, hp⟩) LFm s hI hm
 exact ⟨r', by rw [h1, h2], h3⟩
theorem zd0 {α : Type} {l : List α} {x y : α} : y ∈ l ++ [x] ↔ y ∈ l ∨ y = x := by simp
theorem zvL {t : Tape} (ht : TapeOk t) (m most : Nat) (hm : 1 <= m /\ m <= 6) (hk : 1 <= most /\ most <= 1000) : ∃ d t' n, z4Q t m most = some (d, t') /\ DfaOk d m n /\ n <= most /\ TapeOk t' := by
 unfold z4Q
 obtain ⟨v, t1, e1, v0, v1, ht1⟩ := z6K ht (most : Int) (by omega) (by omega)
 simp only [e1, Option.bind_some]
 obtain ⟨k, rfl⟩ := Int.eq_ofNat_of_zero_le v0
 have hw : IntKind.i64.wrap (1 + (k : Int)) = ((k + 1 : Nat) : Int) := by rw [z2E (by omega) (by omega)]; omega
 rw [hw]
 obtain ⟨s, t2, e2, s0, s1, ht2⟩ := z6K ht1 ((k + 1 : Nat) : Int) (by omega) (by omega)
 simp only [e2, Option.bind_some]
 refine Exists.elim (z1T (b := z5j m ((k : Int), t1) (s, t2)) (fun z => 0 <= z.1 /\ z.1 <= (k + 1 : Nat) /\ TapeOk ⟨z.2.1, z.2.2.1⟩ /\ (z.2.2.2.1.length : Int) = z.1 /\ (z.2.2.2.2.length : Int) = z.1 /\ ∀ r ∈ z.2.2.2.2, z9e m (k + 1) r) (fun z => k + 2 - z.1.toNat)
  (fun r => DfaOk r.1 m (k + 1) /\ TapeOk r.2) ?_ LFm (0, t2.l, t2.at_, [], []) ⟨by simp, by simp; omega, ht2, by simp, by simp, by simp⟩ (by simp only [LFm]; omega)) fun r h => ⟨r.1, r.2, k + 1, h.1, h.2.1, by omega, h.2.2⟩
 rintro ⟨i, tl, ta, fs, rs⟩ ⟨i0, i1, i2, i3, i4, i5⟩
 simp only at i0 i1 i2 i3 i4 i5 ⊢
 simp only [z5j, hw]
 by_cases hi : i < ((k + 1 : Nat) : Int)
 ·left
  rw [if_pos hi]
  obtain ⟨u, t3, e3, u0, u1, ht3⟩ := z6K i2 2 (by omega) (by omega)
  simp only [e3, Option.bind_some]
  rw [z0K _ (by unfold z2i; omega)]
  refine Exists.elim (zkk (b := z4P m ((k : Int), t1) i fs rs (u, t3)) (fun z => 0 <= z.1 /\ z.1 <= m /\ TapeOk ⟨z.2.1, z.2.2.1⟩ /\ (z.2.2.2.length : Int) = z.1 /\ ∀ x ∈ z.2.2.2, 0 <= x /\ x < (k + 1 : Nat)) (fun z => m + 1 - z.1.toNat)
   (fun z => z.1 = i + 1 /\ TapeOk ⟨z.2.1, z.2.2.1⟩ /\ (z.2.2.2.1.length : Int) = i + 1 /\ (z.2.2.2.2.length : Int) = i + 1 /\ ∀ r ∈ z.2.2.2.2, z9e m (k + 1) r) (s := (0, t3.l, t3.at_, [])) ⟨by simp, by simp, ht3, by simp, by simp⟩ (by simp only [LFm]; omega) ?_) fun r h => ⟨_, h.1, ⟨by have := h.2.1; omega, by have := h.2.1; omega, h.2.2.1, by have := h.2.1; have := h.2.2.2.1; omega, by have := h.2.1; have := h.2.2.2.2.1; omega, h.2.2.2.2.2⟩, by have := h.2.1; omega⟩
  rintro ⟨j, ul, ua, row⟩ ⟨j0, j1, j2, j3, j4⟩
  simp only at j0 j1 j2 j3 j4 ⊢
  simp only [z4P, hw]
  by_cases hj : j < (m : Int)
  ·left
   rw [if_pos hj]
   obtain ⟨x, t4, e4, x0, x1, ht4⟩ := z6K j2 ((k + 1 : Nat) : Int) (by omega) (by omega)
   simp only [e4, Option.bind_some]
   rw [z0K _ (by unfold z2i; omega), z2E (by omega) (by omega)]
   refine ⟨_, rfl, ⟨by simp only; omega, by simp only; omega, ht4, by simp only [List.length_append, List.length_singleton]; omega, fun y hy => ?_⟩, by simp only; omega⟩
   rcases zd0.1 hy with h | rfl
   ·exact j4 y h
   ·exact ⟨x0, x1⟩
  ·right
   rw [if_neg hj, z0K _ (by unfold z2i; omega), z2E (by omega) (by omega)]
   refine ⟨_, rfl, by simp only, j2, by simp only [List.length_append, List.length_singleton]; omega, by simp only [List.length_append, List.length_singleton]; omega, fun y hy => ?_⟩
   rcases zd0.1 hy with h | rfl
   ·exact i5 y h
   ·exact ⟨by omega, j4⟩
 ·right
  rw [if_neg hi]
  exact ⟨_, rfl, ⟨rfl, hm.1, hm.2, by omega, by simp only; omega, by simp only; omega, s0, s1, i5⟩, i2⟩
theorem zr5 {t : Tape} (ht : TapeOk t) : ∃ m t', z4e t = some (((m : Nat) : Int), t') /\ 1 <= m /\ m <= 2 /\ TapeOk t' := by
 unfold z4e
 obtain ⟨v, t1, e1, v0, v1, ht1⟩ := z6K ht 8 (by omega) (by omega)
 simp only [e1, Option.bind_some]
 obtain ⟨k, rfl⟩ := Int.eq_ofNat_of_zero_le v0
 have : zxS .i64 (k : Int) 7 = ((k / 7 : Nat) : Int) := by
  unfold zxS
  rw [show ((k : Int).tdiv 7) = ((k / 7 : Nat) : Int) by rfl, z2E (by omega) (by omega)]
 rw [this, z2E (by omega) (by omega)]
 exact ⟨2 - k / 7, t1, by congr 2; omega, by omega, by omega, ht1⟩
end Go.Proofs.Ytbnnipkanechoaa
end
section
namespace Go.Proofs.Ytbnnipkanechoaa
open Go
set_option maxRecDepth 100000
theorem zoU {m n : Nat} {rs : List (List Int)} (h : ∀ r ∈ rs, z9e m n r) {r' : List Int} (hr : z9e m n r') (i : Nat) : ∀ r ∈ rs.set i r', z9e m n r := fun r hm => by
 rcases List.mem_or_eq_of_mem_set hm with h' | rfl
 ·exact h r h'
 ·exact hr
theorem zsS {m n : Nat} {r : List Int} (h : z9e m n r) {x : Int} (hx : 0 <= x /\ x < n) (j : Nat) : z9e m n (r.set j x) := ⟨by simp [h.1], fun y hy => by
 rcases List.mem_or_eq_of_mem_set hy with h' | rfl
 ·exact h.2 y h'
 ·exact hx⟩
theorem zsT {m n : Nat} {rs : List (List Int)} (h : ∀ r ∈ rs, z9e m n r) {k : Nat} (hk : k < rs.length) : z9e m n rs[k] := h _ (List.getElem_mem hk)
theorem zqZ {t : Tape} (ht : TapeOk t) (m most : Nat) (hm : 1 <= m /\ m <= 6) (hk : 1 <= most /\ most <= 1000) : ∃ d t' n, z4d t m most = some (d, t') /\ DfaOk d m n /\ n <= most /\ TapeOk t' := by
 unfold z4d
 obtain ⟨d, t1, n, e1, hd, hn, ht1⟩ := zvL ht m most hm hk
 simp only [e1, Option.bind_some]
 refine Exists.elim (z1T (b := z3W (d, t1)) (fun z => 0 <= z.1 /\ z.1 <= n /\ z.2.length = n /\ ∀ r ∈ z.2, z9e m n r) (fun z => n + 1 - z.1.toNat) (fun r => DfaOk r.1 m n /\ TapeOk r.2) ?_ LFm (0, d.next) ⟨by simp, by simp, hd.nl, hd.row⟩ (by simp only [LFm]; omega)) fun r h => ⟨r.1, r.2, n, h.1, h.2.1, hn, h.2.2⟩
 rintro ⟨i, rs⟩ ⟨i0, i1, i2, i3⟩
 simp only at i0 i1 i2 i3 ⊢
 simp only [z3W, hd.nl]
 obtain ⟨i, rfl⟩ := Int.eq_ofNat_of_zero_le i0
 by_cases hi : (i : Int) < n
 ·left
  rw [if_pos hi, z1P (by omega)]
  simp only [Option.bind_some]
  have hri := zsT i3 (show i < rs.length by omega)
  refine Exists.elim (zkk (b := z3V (i : Int) rs[i]) (fun z => 0 <= z.1 /\ z.1 <= m /\ z.2.length = n /\ ∀ r ∈ z.2, z9e m n r) (fun z => m + 1 - z.1.toNat) (fun z => z.1 = (i : Int) + 1 /\ z.2.length = n /\ ∀ r ∈ z.2, z9e m n r) (s := (0, rs)) ⟨by simp, by simp, i2, i3⟩ (by simp only [LFm]; omega) ?_) fun r h => ⟨_, h.1, ⟨by have := h.2.1; omega, by have := h.2.1; omega, h.2.2.1, h.2.2.2⟩, by have := h.2.1; omega⟩
  rintro ⟨j, us⟩ ⟨j0, j1, j2, j3⟩
  simp only at j0 j1 j2 j3 ⊢
  obtain ⟨j, rfl⟩ := Int.eq_ofNat_of_zero_le j0
  simp only [z3V, hri.1]
  rw [z1P (by omega)]
  simp only [Option.bind_some]
  have hui := zsT j3 (show i < us.length by omega)
  by_cases hj : (j : Int) < m
  ·left
   rw [if_pos hj, z1P (by rw [hui.1]; omega), z2E (by omega) (by omega)]
   simp only [Option.bind_some]
   refine ⟨_, rfl, ⟨by simp only; omega, by simp only; omega, by simp only [List.length_set]; exact j2, zoU j3 (zsS hui ?_ _) _⟩, by simp only; omega⟩
   have := hui.2 _ (List.getElem_mem (show j < us[i].length by rw [hui.1]; omega))
   split <;> omega
  ·right
   rw [if_neg hj, z2E (by omega) (by omega)]
   exact ⟨_, rfl, rfl, j2, j3⟩
 ·right
  rw [if_neg hi]
  exact ⟨_, rfl, ⟨hd.lt, hd.m1, hd.m6, hd.n1, hd.fin, by simp only; omega, by simp, by simp only; have := hd.n1; omega, i3⟩, ht1⟩
theorem zuL (m n : Nat) (hn : 1 <= n) : z9e m n (List.replicate m 0) := ⟨by simp, fun x hx => by rw [(List.mem_replicate.1 hx).2]; omega⟩
theorem zwb {xs : List Int} {k : Nat} (h : k < xs.length) : z6O xs 0 (k : Int) = some (xs.take k) := zmx (by omega)
theorem zwa {xs : List Int} {k : Nat} (h : k < xs.length) : z6O xs ((k : Int) + 1) (xs.length : Int) = some (xs.drop (k + 1)) := by
 have := znV (xs := xs) (k := k + 1) (by omega)
 rwa [show ((k + 1 : Nat) : Int) = (k : Int) + 1 by omega] at this
theorem zuR {t : Tape} (ht : TapeOk t) (m most : Nat) (hm : 1 <= m /\ m <= 6) (hk : 1 <= most /\ most <= 1000) : ∃ d t' n, z2M t m most = some (d, t') /\ DfaOk d m n /\ n <= most /\ TapeOk t' := by
 unfold z2M
 obtain ⟨v, t1, e1, v0, v1, ht1⟩ := z6K ht (most : Int) (by omega) (by omega)
 simp only [e1, Option.bind_some]
 obtain ⟨k, rfl⟩ := Int.eq_ofNat_of_zero_le v0
 have hw : IntKind.i64.wrap (1 + (k : Int)) = ((k + 1 : Nat) : Int) := by rw [z2E (by omega) (by omega)]; omega
 rw [hw]
 obtain ⟨s, t2, e2, s0, s1, ht2⟩ := z6K ht1 ((k + 1 : Nat) : Int) (by omega) (by omega)
 simp only [e2, Option.bind_some]
 refine Exists.elim (z1T (b := z2V m ((k : Int), t1) (s, t2)) (fun z => 0 <= z.1 /\ z.1 <= (k + 1 : Nat) /\ TapeOk ⟨z.2.1, z.2.2.1⟩ /\ (z.2.2.2.1.length : Int) = z.1 /\ (z.2.2.2.2.length : Int) = z.1 /\ ∀ r ∈ z.2.2.2.2, z9e m (k + 1) r) (fun z => k + 2 - z.1.toNat)
  (fun r => DfaOk r.1 m (k + 1) /\ TapeOk r.2) ?_ LFm (0, t2.l, t2.at_, [], []) ⟨by simp, by simp; omega, ht2, by simp, by simp, by simp⟩ (by simp only [LFm]; omega)) fun r h => ⟨r.1, r.2, k + 1, h.1, h.2.1, by omega, h.2.2⟩
 rintro ⟨i, tl, ta, fs, rs⟩ ⟨i0, i1, i2, i3, i4, i5⟩
 simp only at i0 i1 i2 i3 i4 i5 ⊢
 simp only [z2V, hw]
 by_cases hi : i < ((k + 1 : Nat) : Int)
 ·left
  rw [if_pos hi]
  obtain ⟨u, t3, e3, u0, u1, ht3⟩ := z6K i2 2 (by omega) (by omega)
  simp only [e3, Option.bind_some]
  rw [z0K _ (by unfold z2i; omega), z0K _ (by unfold z2k; omega), z0K _ (by unfold z2i; omega), z2E (by omega) (by omega)]
  refine ⟨_, rfl, ⟨by simp only; omega, by simp only; omega, ht3, by simp only [List.length_append, List.length_singleton]; omega, by simp only [List.length_append, List.length_singleton]; omega, fun y hy => ?_⟩, by simp only; omega⟩
  rcases zd0.1 hy with h | rfl
  ·exact i5 y h
  ·exact zuL m (k + 1) (by omega)
 ·right
  rw [if_neg hi]
  refine Exists.elim (z1T (b := z2U m ((k : Int), t1) (s, t2) fs) (fun z => 0 <= z.1 /\ z.1 <= m /\ TapeOk ⟨z.2.1, z.2.2.1⟩ /\ z.2.2.2.length = k + 1 /\ ∀ r ∈ z.2.2.2, z9e m (k + 1) r) (fun z => m + 1 - z.1.toNat)
   (fun r => DfaOk r.1 m (k + 1) /\ TapeOk r.2) ?_ LFm (0, tl, ta, rs) ⟨by simp, by simp, i2, by simp only; omega, i5⟩ (by simp only [LFm]; omega)) fun r h => ⟨r, by rw [h.1]; rfl, h.2⟩
  rintro ⟨a, ul, ua, us⟩ ⟨a0, a1, a2, a3, a4⟩
  simp only at a0 a1 a2 a3 a4 ⊢
  obtain ⟨a, rfl⟩ := Int.eq_ofNat_of_zero_le a0
  simp only [z2U]
  by_cases ha : (a : Int) < m
  ·left
   rw [if_pos ha]
   refine Exists.elim (zkk (b := z2J ((k : Int), t1) (a : Int) ul ua us) (fun z => 0 <= z.1 /\ z.1 <= (k + 1 : Nat) /\ (z.2.length : Int) = z.1 /\ ∀ x ∈ z.2, 0 <= x /\ x < (k + 1 : Nat)) (fun z => k + 2 - z.1.toNat)
    (fun z => z.1 = (a : Int) + 1 /\ TapeOk ⟨z.2.1, z.2.2.1⟩ /\ z.2.2.2.length = k + 1 /\ ∀ r ∈ z.2.2.2, z9e m (k + 1) r) (s := (0, [])) ⟨by simp, by simp; omega, by simp, by simp⟩ (by simp only [LFm]; omega) ?_) fun r h => ⟨_, h.1, ⟨by have := h.2.1; omega, by have := h.2.1; omega, h.2.2.1, h.2.2.2.1, h.2.2.2.2⟩, by have := h.2.1; omega⟩
   rintro ⟨q, left⟩ ⟨q0, q1, q2, q3⟩
   simp only at q0 q1 q2 q3 ⊢
   simp only [z2J, hw]
   by_cases hq : q < ((k + 1 : Nat) : Int)
   ·left
    rw [if_pos hq, z0K _ (by unfold z2i; omega), z2E (by omega) (by omega)]
    refine ⟨_, rfl, ⟨by simp only; omega, by simp only; omega, by simp only [List.length_append, List.length_singleton]; omega, fun y hy => ?_⟩, by simp only; omega⟩
    rcases zd0.1 hy with h | rfl
    ·exact q3 y h
    ·omega
   ·right
    rw [if_neg hq]
    refine Exists.elim (zkk (b := z2I ((k : Int), t1) (a : Int)) (fun z => 0 <= z.1 /\ z.1 <= (k + 1 : Nat) /\ TapeOk ⟨z.2.1, z.2.2.1⟩ /\ z.2.2.2.1.length = k + 1 /\ (∀ r ∈ z.2.2.2.1, z9e m (k + 1) r) /\ (z.2.2.2.2.length : Int) = (k + 1 : Nat) - z.1 /\ ∀ x ∈ z.2.2.2.2, 0 <= x /\ x < (k + 1 : Nat)) (fun z => k + 2 - z.1.toNat)
     (fun z => z.1 = (a : Int) + 1 /\ TapeOk ⟨z.2.1, z.2.2.1⟩ /\ z.2.2.2.length = k + 1 /\ ∀ r ∈ z.2.2.2, z9e m (k + 1) r) (s := (0, ul, ua, us, left)) ⟨by simp, by simp; omega, a2, a3, a4, by simp only; omega, q3⟩ (by simp only [LFm]; omega) ?_) fun r h => ⟨r, by rw [h.1]; rfl, h.2⟩
    rintro ⟨p, xl, xa, xs, lf⟩ ⟨p0, p1, p2, p3, p4, p5, p6⟩
    simp only at p0 p1 p2 p3 p4 p5 p6 ⊢
    obtain ⟨p, rfl⟩ := Int.eq_ofNat_of_zero_le p0
    simp only [z2I, hw]
    by_cases hp : (p : Int) < ((k + 1 : Nat) : Int)
    ·left
     rw [if_pos hp]
     obtain ⟨x, t4, e4, x0, x1, ht4⟩ := z6K p2 (lf.length : Int) (by omega) (by omega)
     obtain ⟨x, rfl⟩ := Int.eq_ofNat_of_zero_le x0
     have hrp := zsT p4 (show p < xs.length by omega)
     have hlx : x < lf.length := by omega
     simp only [e4, Option.bind_some]
     rw [z1P (show p < xs.length by omega)]
     simp only [Option.bind_some]
     rw [z1P hlx]
     simp only [Option.bind_some]
     rw [z1P (show a < xs[p].length by rw [hrp.1]; omega), z2E (x := (x : Int) + 1) (by omega) (by omega), zwb hlx]
     simp only [Option.bind_some]
     rw [zwa hlx]
     simp only [Option.bind_some]
     rw [z0K _ (by unfold z2i; simp only [List.length_take]; omega), z0K _ (by unfold z2i; simp only [List.length_take, List.length_drop]; omega), z2E (by omega) (by omega)]
     refine ⟨_, rfl, ⟨by simp only; omega, by simp only; omega, ht4, by simp only [List.length_set]; exact p3, zoU p4 (zsS hrp (p6 _ (List.getElem_mem hlx)) _) _, by simp only [List.length_append, List.length_take, List.length_drop]; omega, fun y hy => ?_⟩, by simp only; omega⟩
     rcases List.mem_append.1 hy with h | h
     ·exact p6 y (List.mem_of_mem_take h)
     ·exact p6 y (List.mem_of_mem_drop h)
    ·right
     rw [if_neg hp, z2E (by omega) (by omega)]
     exact ⟨_, rfl, rfl, p2, p3, p4⟩
  ·right
   rw [if_neg ha]
   exact ⟨_, rfl, ⟨rfl, hm.1, hm.2, by omega, by simp only; omega, a3, s0, s1, a4⟩, a2⟩
end Go.Proofs.Ytbnnipkanechoaa
end
section
namespace Go.Proofs.Ytbnnipkanechoaa
open Go Go.IntKind
noncomputable section
set_option maxRecDepth 100000
set_option maxHeartbeats 1000000
def z5h (a0 : Int) : Option (Bool) :=
 if 1 <= a0 then
 some (decide (a0 <= 6))
 else
 some false
theorem zbn {a0 : Int} {r : Bool} (h0 : z5h a0 = some r) : L 59 [.sc (.int .i64 a0)] = some (.sc (.bool r), [.dead]) := by
  simp only [z5h] at h0
  refine z2F zA9 zBC (z1w zDo ⟨of_decide_eq_true rfl, of_decide_eq_true rfl⟩ ?_)
  simp only [z1E, z1C, z1B, z1F, z3u]
  refine zp (zs ?_)
  refine z0a (zp ?_)
  by_cases c2 : 1 <= a0
  ·rw [if_pos c2] at h0
   refine zr rfl rfl rfl (by simp [c2]; rfl) ?_
   refine z0a (z1f rfl ?_)
   cases h0
   simp
  ·rw [if_neg c2] at h0
   refine zr rfl rfl rfl (by simp [c2]; rfl) ?_
   refine z0a (z1f rfl ?_)
   cases h0
   simp
def z8b (a0 : DFA) (w24 : Int) (v30 : List Int) : Int -> Option (Int ⊕ (Int ⊕ Int))
 | w32 =>
 if w32 < (v30.length : Int) then
 (atI v30 w32).bind fun v34 =>
 if v34 < 0 then
 z1m <|
 z1m <|
 some 4
 else
 if (a0.final.length : Int) <= v34 then
 z1m <|
 z1m <|
 some 4
 else
 z0B (i64.wrap (w32 + 1))
 else
 z1m <|
 z0B (i64.wrap (w24 + 1))
def z4u (a0 : DFA) (w24 : Int) (v30 : List Int) : Int -> Fr
 | w32 => ⟨64, [(1, .one (.a 1 [] (0))), (3, .one (.t none (.sc (.int .i64 (a0.final.length : Int))))), (38, .one (.t none (.sl a0.next.length (a0.next.map fun x0 => .sl x0.length (x0.map fun x1 => .sc (.int .i64 x1)))))), (39, .one (.t none (.sc (.int .i64 (a0.next.length : Int))))), (40, .one (.t none (.sc (.int .i64 w24)))), (49, .one (.t none (.sl v30.length (v30.map fun x0 => .sc (.int .i64 x0))))), (50, .one (.t none (.sc (.int .i64 (v30.length : Int))))), (51, .one (.t none (.sc (.int .i64 w32))))], [(1, .vr [.sc (.int .i64 a0.letters), .sc (.int .i64 a0.start), .sl a0.final.length (a0.final.map fun x0 => .sc (.bool x0)), .sl a0.next.length (a0.next.map fun x0 => .sl x0.length (x0.map fun x1 => .sc (.int .i64 x1)))])]⟩
def z5O (a0 : DFA) : Int -> Option (Int ⊕ Int)
 | w24 =>
 if w24 < (a0.next.length : Int) then
 (atI a0.next w24).bind fun v30 =>
 if (v30.length : Int) = a0.letters then
 z1b (z8b a0 w24 v30) LFm 0
 else
 z1m <|
 some 4
 else
 z1m <|
 some 0
def z4M (a0 : DFA) : Int -> Fr
 | w24 => ⟨64, [(1, .one (.a 1 [] (0))), (3, .one (.t none (.sc (.int .i64 (a0.final.length : Int))))), (38, .one (.t none (.sl a0.next.length (a0.next.map fun x0 => .sl x0.length (x0.map fun x1 => .sc (.int .i64 x1)))))), (39, .one (.t none (.sc (.int .i64 (a0.next.length : Int))))), (40, .one (.t none (.sc (.int .i64 w24))))], [(1, .vr [.sc (.int .i64 a0.letters), .sc (.int .i64 a0.start), .sl a0.final.length (a0.final.map fun x0 => .sc (.bool x0)), .sl a0.next.length (a0.next.map fun x0 => .sl x0.length (x0.map fun x1 => .sc (.int .i64 x1)))])]⟩
def z5c (a0 : DFA) : Option (Int) :=
 (z5h a0.letters).bind fun v18 =>
 if v18 = true then
 if 512 < (a0.final.length : Int) then
 some 3
 else
 if (a0.final.length : Int) = 0 then
 some 4
 else
 if (a0.next.length : Int) = (a0.final.length : Int) then
 if a0.start < 0 then
 some 4
 else
 if (a0.final.length : Int) <= a0.start then
 some 4
 else
 z1b (z5O a0) LFm 0
 else
 some 4
 else
 some 1
theorem zes {a0 : DFA} {r : Int} (h0 : z5c a0 = some r) : L 60 [.agg [.sc (.int .i64 a0.letters), .sc (.int .i64 a0.start), .sl a0.final.length (a0.final.map fun x0 => .sc (.bool x0)), .sl a0.next.length (a0.next.map fun x0 => .sl x0.length (x0.map fun x1 => .sc (.int .i64 x1)))]] = some (.sc (.int .i64 r), [.dead]) := by
  simp only [z5c] at h0
  refine z2F zA8 zBB (z1w zDn ⟨of_decide_eq_true rfl, of_decide_eq_true rfl⟩ ?_)
  simp only [z1E, z1C, z1B, z1F, z3u]
  refine zp (zs ?_)
  refine z0a (zp (zs ?_))
  refine z0a (zp (zp ?_))
  obtain ⟨v18, f53, h1⟩ := z0d h0
  have f53k := zbn f53
  try simp at f53k
  refine zr rfl rfl rfl (by simp [f53k]; rfl) ?_
  refine z0a ?_
  by_cases c54 : v18 = true
  ·rw [if_pos c54] at h1
   refine z0r rfl (by simp [c54]) (z0j rfl (z0a (zp (zp (zs ?_)))))
   refine z0a ?_
   by_cases c55 : 512 < (a0.final.length : Int)
   ·rw [if_pos c55] at h1
    refine z0t rfl (by simp [c55]) (zp (zs ?_))
    refine z0a (z1f rfl (z0Q ?_))
    cases h1
    simp [c54]
   ·rw [if_neg c55] at h1
    refine z0r rfl (by simp [c55]) (z0j rfl (z0a (zp (zp ?_))))
    by_cases c56 : (a0.final.length : Int) = 0
    ·rw [if_pos c56] at h1
     have c56e := eq_true c56
     have c56s : a0.final = [] := by simpa [List.length_pos_iff] using c56
     refine zr rfl rfl rfl (by simp [c56e, c56s]; rfl) ?_
     refine z0a (z0t rfl (by simp) (zp (zs ?_)))
     refine z0a (z1f rfl (z0Q ?_))
     cases h1
     simp [c54]
    ·rw [if_neg c56] at h1
     have c56e := eq_false c56
     have c56s : a0.final ≠ [] := by simpa [List.length_pos_iff] using c56
     by_cases c57 : (a0.next.length : Int) = (a0.final.length : Int)
     ·rw [if_pos c57] at h1
      have c57e := eq_true c57
      by_cases c58 : a0.start < 0
      ·rw [if_pos c58] at h1
       refine zr rfl rfl rfl (by simp [c56e, c56s, c57e, c58]; rfl) ?_
       refine z0a (z0t rfl (by simp) (zp (zs ?_)))
       refine z0a (z1f rfl (z0Q ?_))
       cases h1
       simp [c54]
      ·rw [if_neg c58] at h1
       refine zr rfl rfl rfl (by simp [c56e, c56s, c57e, c58]; rfl) ?_
       refine z0a ?_
       by_cases c59 : (a0.final.length : Int) <= a0.start
       ·rw [if_pos c59] at h1
        refine z0t rfl (by simp [c59]) (zp (zs ?_))
        refine z0a (z1f rfl (z0Q ?_))
        cases h1
        simp [c54]
       ·rw [if_neg c59] at h1
        refine z0r rfl (by simp [c59]) (z0j rfl (z0a (zp (zp (zs ?_)))))
        refine z0a (zb rfl (z0C h1 (z4M a0) rfl rfl (by simp [z4M]) fun s o1 h2 hr1 => ?_))
        obtain ⟨w24, hs1⟩ : ∃ y, y = s := ⟨_, rfl⟩
        subst hs1
        simp only [z5O] at h2
        simp only [z4M]
        refine zp (zs ?_)
        refine z0a (zp ?_)
        by_cases c90 : w24 < (a0.next.length : Int)
        ·rw [if_pos c90] at h2
         refine z0t rfl (by simp [c90]) (z0j rfl (z0a (zp (zb rfl (zp ?_)))))
         obtain ⟨v30, f91, h3⟩ := z0I h2
         refine zr rfl rfl rfl (by simp [f91]; rfl) ?_
         refine z0a (zp (zp (zs ?_)))
         refine z0a ?_
         by_cases c92 : (v30.length : Int) = a0.letters
         ·rw [if_pos c92] at h3
          have c92e := eq_true c92
          refine z0r rfl (by simp [c92e]) (z0j rfl (z0a (zp (zs ?_))))
          refine z0a (zb rfl (z0C h3 (z4u a0 w24 v30) rfl rfl (by simp [z4u]) fun s o2 h4 hr2 => ?_))
          obtain ⟨w32, hs2⟩ : ∃ y, y = s := ⟨_, rfl⟩
          subst hs2
          simp only [z8b] at h4
          simp only [z4u]
          refine zp (zs ?_)
          refine z0a (zp ?_)
          by_cases c101 : w32 < (v30.length : Int)
          ·rw [if_pos c101] at h4
           refine z0t rfl (by simp [c101]) (z0j rfl (z0a (zp (zb rfl (zp ?_)))))
           obtain ⟨v34, f102, h5⟩ := z0I h4
           refine zr rfl rfl rfl (by simp [f102]; rfl) ?_
           refine z0a (zp ?_)
           by_cases c103 : v34 < 0
           ·rw [if_pos c103] at h5
            refine zr rfl rfl rfl (by simp [c103]; rfl) ?_
            refine z0a (z0t rfl (by simp) (zp (zs ?_)))
            refine z0a (z1f rfl (z1H (z0Q ?_)))
            obtain ⟨rr2, h6, ho2⟩ := z0k h5
            have hs2 := hr2 _ ho2
            subst hs2
            refine z3F ho2 (z1H (z1H (z0Q ?_)))
            obtain ⟨rr1, h7, ho1⟩ := z0k h6
            have hs1 := hr1 _ ho1
            subst hs1
            refine z3F ho1 (z1H (z0Q ?_))
            cases h7
            simp
           ·rw [if_neg c103] at h5
            refine zr rfl rfl rfl (by simp [c103]; rfl) ?_
            refine z0a ?_
            by_cases c104 : (a0.final.length : Int) <= v34
            ·rw [if_pos c104] at h5
             refine z0t rfl (by simp [c104]) (zp (zs ?_))
             refine z0a (z1f rfl (z1H (z0Q ?_)))
             obtain ⟨rr2, h6, ho2⟩ := z0k h5
             have hs2 := hr2 _ ho2
             subst hs2
             refine z3F ho2 (z1H (z1H (z0Q ?_)))
             obtain ⟨rr1, h7, ho1⟩ := z0k h6
             have hs1 := hr1 _ ho1
             subst hs1
             refine z3F ho1 (z1H (z0Q ?_))
             cases h7
             simp
            ·rw [if_neg c104] at h5
             refine z0r rfl (by simp [c104]) (z0j rfl (z0h (z0a (zs ?_))))
             have ho := z0c h5
             refine z0i ho ?_
             simp [z4u]
          ·rw [if_neg c101] at h4
           refine z0r rfl (by simp [c101]) (z0X rfl (z0w ?_))
           obtain ⟨rr2, h5, ho2⟩ := z0k h4
           have hs2 := hr2 _ ho2
           subst hs2
           refine z0s ho2 (z0g rfl (z0h (z0a (zs ?_))))
           have ho := z0c h5
           refine z0i ho ?_
           simp [z4M]
         ·rw [if_neg c92] at h3
          have c92e := eq_false c92
          refine z0t rfl (by simp [c92e]) (zp (zs ?_))
          refine z0a (z1f rfl (z0Q (z1H (z0Q ?_))))
          obtain ⟨rr1, h4, ho1⟩ := z0k h3
          have hs1 := hr1 _ ho1
          subst hs1
          refine z3F ho1 (z1H (z0Q ?_))
          cases h4
          simp
        ·rw [if_neg c90] at h2
         refine z0r rfl (by simp [c90]) (z0X rfl (z0w ?_))
         obtain ⟨rr1, h3, ho1⟩ := z0k h2
         have hs1 := hr1 _ ho1
         subst hs1
         refine z0s ho1 (z0g rfl (z0a (zp (zs ?_))))
         refine z0a (z1f rfl ?_)
         cases h3
         simp
     ·rw [if_neg c57] at h1
      have c57e := eq_false c57
      refine zr rfl rfl rfl (by simp [c56e, c56s, c57e]; rfl) ?_
      refine z0a (z0t rfl (by simp) (zp (zs ?_)))
      refine z0a (z1f rfl (z0Q ?_))
      cases h1
      simp [c54]
  ·rw [if_neg c54] at h1
   refine z0t rfl (by simp [c54]) (zp (zs ?_))
   refine z0a (z1f rfl (z0Q ?_))
   cases h1
   simp [c54]
def z5l (a0 : DFA) (w22 : Int) (v28 : List Int) : Int -> Option (Int ⊕ (Int ⊕ Int))
 | w30 =>
 if w30 < (v28.length : Int) then
 (atI v28 w30).bind fun v32 =>
 if v32 < 0 then
 z1m <|
 z1m <|
 some 4
 else
 if (a0.final.length : Int) <= v32 then
 z1m <|
 z1m <|
 some 4
 else
 z0B (i64.wrap (w30 + 1))
 else
 z1m <|
 z0B (i64.wrap (w22 + 1))
def z5k (a0 : DFA) (w22 : Int) (v28 : List Int) : Int -> Fr
 | w30 => ⟨64, [(1, .one (.a 1 [] (0))), (3, .one (.t none (.sc (.int .i64 (a0.final.length : Int))))), (38, .one (.t none (.sl a0.next.length (a0.next.map fun x0 => .sl x0.length (x0.map fun x1 => .sc (.int .i64 x1)))))), (39, .one (.t none (.sc (.int .i64 (a0.next.length : Int))))), (40, .one (.t none (.sc (.int .i64 w22)))), (49, .one (.t none (.sl v28.length (v28.map fun x0 => .sc (.int .i64 x0))))), (50, .one (.t none (.sc (.int .i64 (v28.length : Int))))), (51, .one (.t none (.sc (.int .i64 w30))))], [(1, .vr [.sc (.int .i64 a0.letters), .sc (.int .i64 a0.start), .sl a0.final.length (a0.final.map fun x0 => .sc (.bool x0)), .sl a0.next.length (a0.next.map fun x0 => .sl x0.length (x0.map fun x1 => .sc (.int .i64 x1)))])]⟩
def z4i (a0 : DFA) : Int -> Option (Int ⊕ Int)
 | w22 =>
 if w22 < (a0.next.length : Int) then
 (atI a0.next w22).bind fun v28 =>
 if (v28.length : Int) = a0.letters then
 z1b (z5l a0 w22 v28) LFm 0
 else
 z1m <|
 some 4
 else
 z1m <|
 some 0
def z5H (a0 : DFA) : Int -> Fr
 | w22 => ⟨64, [(1, .one (.a 1 [] (0))), (3, .one (.t none (.sc (.int .i64 (a0.final.length : Int))))), (38, .one (.t none (.sl a0.next.length (a0.next.map fun x0 => .sl x0.length (x0.map fun x1 => .sc (.int .i64 x1)))))), (39, .one (.t none (.sc (.int .i64 (a0.next.length : Int))))), (40, .one (.t none (.sc (.int .i64 w22))))], [(1, .vr [.sc (.int .i64 a0.letters), .sc (.int .i64 a0.start), .sl a0.final.length (a0.final.map fun x0 => .sc (.bool x0)), .sl a0.next.length (a0.next.map fun x0 => .sl x0.length (x0.map fun x1 => .sc (.int .i64 x1)))])]⟩
def z6H (a0 : DFA) : Option (Int) :=
 if a0.letters < 1 then
 some 1
 else
 if 6 < a0.letters then
 some 1
 else
 if 512 < (a0.final.length : Int) then
 some 3
 else
 if (a0.next.length : Int) = (a0.final.length : Int) then
 if a0.start < 0 then
 some 4
 else
 if (a0.final.length : Int) <= a0.start then
 some 4
 else
 z1b (z4i a0) LFm 0
 else
 some 4
theorem zhT {a0 : DFA} {r : Int} (h0 : z6H a0 = some r) : L 62 [.agg [.sc (.int .i64 a0.letters), .sc (.int .i64 a0.start), .sl a0.final.length (a0.final.map fun x0 => .sc (.bool x0)), .sl a0.next.length (a0.next.map fun x0 => .sl x0.length (x0.map fun x1 => .sc (.int .i64 x1)))]] = some (.sc (.int .i64 r), [.dead]) := by
  simp only [z6H] at h0
  refine z2F zA6 zBz (z1w zDl ⟨of_decide_eq_true rfl, of_decide_eq_true rfl⟩ ?_)
  simp only [z1E, z1C, z1B, z1F, z3u]
  refine zp (zs ?_)
  refine z0a (zp (zp ?_))
  by_cases c52 : a0.letters < 1
  ·rw [if_pos c52] at h0
   refine zr rfl rfl rfl (by simp [c52]; rfl) ?_
   refine z0a (z0t rfl (by simp) (zp (zs ?_)))
   refine z0a (z1f rfl (z0Q ?_))
   cases h0
   simp
  ·rw [if_neg c52] at h0
   refine zr rfl rfl rfl (by simp [c52]; rfl) ?_
   refine z0a ?_
   by_cases c53 : 6 < a0.letters
   ·rw [if_pos c53] at h0
    refine z0t rfl (by simp [c53]) (zp (zs ?_))
    refine z0a (z1f rfl (z0Q ?_))
    cases h0
    simp
   ·rw [if_neg c53] at h0
    refine z0r rfl (by simp [c53]) (z0j rfl (z0a (zp (zs ?_))))
    refine z0a (zp (zp (zs ?_)))
    refine z0a ?_
    by_cases c54 : 512 < (a0.final.length : Int)
    ·rw [if_pos c54] at h0
     refine z0t rfl (by simp [c54]) (zp (zs ?_))
     refine z0a (z1f rfl (z0Q ?_))
     cases h0
     simp
    ·rw [if_neg c54] at h0
     refine z0r rfl (by simp [c54]) (z0j rfl (z0a (zp (zp ?_))))
     by_cases c55 : (a0.next.length : Int) = (a0.final.length : Int)
     ·rw [if_pos c55] at h0
      have c55e := eq_true c55
      by_cases c56 : a0.start < 0
      ·rw [if_pos c56] at h0
       refine zr rfl rfl rfl (by simp [c55e, c56]; rfl) ?_
       refine z0a (z0t rfl (by simp) (zp (zs ?_)))
       refine z0a (z1f rfl (z0Q ?_))
       cases h0
       simp
      ·rw [if_neg c56] at h0
       refine zr rfl rfl rfl (by simp [c55e, c56]; rfl) ?_
       refine z0a ?_
       by_cases c57 : (a0.final.length : Int) <= a0.start
       ·rw [if_pos c57] at h0
        refine z0t rfl (by simp [c57]) (zp (zs ?_))
        refine z0a (z1f rfl (z0Q ?_))
        cases h0
        simp
       ·rw [if_neg c57] at h0
        refine z0r rfl (by simp [c57]) (z0j rfl (z0a (zp (zp (zs ?_)))))
        refine z0a (zb rfl (z0C h0 (z5H a0) rfl rfl (by simp [z5H]) fun s o1 h1 hr1 => ?_))
        obtain ⟨w22, hs1⟩ : ∃ y, y = s := ⟨_, rfl⟩
        subst hs1
        simp only [z4i] at h1
        simp only [z5H]
        refine zp (zs ?_)
        refine z0a (zp ?_)
        by_cases c88 : w22 < (a0.next.length : Int)
        ·rw [if_pos c88] at h1
         refine z0t rfl (by simp [c88]) (z0j rfl (z0a (zp (zb rfl (zp ?_)))))
         obtain ⟨v28, f89, h2⟩ := z0I h1
         refine zr rfl rfl rfl (by simp [f89]; rfl) ?_
         refine z0a (zp (zp (zs ?_)))
         refine z0a ?_
         by_cases c90 : (v28.length : Int) = a0.letters
         ·rw [if_pos c90] at h2
          have c90e := eq_true c90
          refine z0r rfl (by simp [c90e]) (z0j rfl (z0a (zp (zs ?_))))
          refine z0a (zb rfl (z0C h2 (z5k a0 w22 v28) rfl rfl (by simp [z5k]) fun s o2 h3 hr2 => ?_))
          obtain ⟨w30, hs2⟩ : ∃ y, y = s := ⟨_, rfl⟩
          subst hs2
          simp only [z5l] at h3
          simp only [z5k]
          refine zp (zs ?_)
          refine z0a (zp ?_)
          by_cases c99 : w30 < (v28.length : Int)
          ·rw [if_pos c99] at h3
           refine z0t rfl (by simp [c99]) (z0j rfl (z0a (zp (zb rfl (zp ?_)))))
           obtain ⟨v32, f100, h4⟩ := z0I h3
           refine zr rfl rfl rfl (by simp [f100]; rfl) ?_
           refine z0a (zp ?_)
           by_cases c101 : v32 < 0
           ·rw [if_pos c101] at h4
            refine zr rfl rfl rfl (by simp [c101]; rfl) ?_
            refine z0a (z0t rfl (by simp) (zp (zs ?_)))
            refine z0a (z1f rfl (z1H (z0Q ?_)))
            obtain ⟨rr2, h5, ho2⟩ := z0k h4
            have hs2 := hr2 _ ho2
            subst hs2
            refine z3F ho2 (z1H (z1H (z0Q ?_)))
            obtain ⟨rr1, h6, ho1⟩ := z0k h5
            have hs1 := hr1 _ ho1
            subst hs1
            refine z3F ho1 (z1H (z0Q ?_))
            cases h6
            simp
           ·rw [if_neg c101] at h4
            refine zr rfl rfl rfl (by simp [c101]; rfl) ?_
            refine z0a ?_
            by_cases c102 : (a0.final.length : Int) <= v32
            ·rw [if_pos c102] at h4
             refine z0t rfl (by simp [c102]) (zp (zs ?_))
             refine z0a (z1f rfl (z1H (z0Q ?_)))
             obtain ⟨rr2, h5, ho2⟩ := z0k h4
             have hs2 := hr2 _ ho2
             subst hs2
             refine z3F ho2 (z1H (z1H (z0Q ?_)))
             obtain ⟨rr1, h6, ho1⟩ := z0k h5
             have hs1 := hr1 _ ho1
             subst hs1
             refine z3F ho1 (z1H (z0Q ?_))
             cases h6
             simp
            ·rw [if_neg c102] at h4
             refine z0r rfl (by simp [c102]) (z0j rfl (z0h (z0a (zs ?_))))
             have ho := z0c h4
             refine z0i ho ?_
             simp [z5k]
          ·rw [if_neg c99] at h3
           refine z0r rfl (by simp [c99]) (z0X rfl (z0w ?_))
           obtain ⟨rr2, h4, ho2⟩ := z0k h3
           have hs2 := hr2 _ ho2
           subst hs2
           refine z0s ho2 (z0g rfl (z0h (z0a (zs ?_))))
           have ho := z0c h4
           refine z0i ho ?_
           simp [z5H]
         ·rw [if_neg c90] at h2
          have c90e := eq_false c90
          refine z0t rfl (by simp [c90e]) (zp (zs ?_))
          refine z0a (z1f rfl (z0Q (z1H (z0Q ?_))))
          obtain ⟨rr1, h3, ho1⟩ := z0k h2
          have hs1 := hr1 _ ho1
          subst hs1
          refine z3F ho1 (z1H (z0Q ?_))
          cases h3
          simp
        ·rw [if_neg c88] at h1
         refine z0r rfl (by simp [c88]) (z0X rfl (z0w ?_))
         obtain ⟨rr1, h2, ho1⟩ := z0k h1
         have hs1 := hr1 _ ho1
         subst hs1
         refine z0s ho1 (z0g rfl (z0a (zp (zs ?_))))
         refine z0a (z1f rfl ?_)
         cases h2
         simp
     ·rw [if_neg c55] at h0
      have c55e := eq_false c55
      refine zr rfl rfl rfl (by simp [c55e]; rfl) ?_
      refine z0a (z0t rfl (by simp) (zp (zs ?_)))
      refine z0a (z1f rfl (z0Q ?_))
      cases h0
      simp
def z4F (a0 : DFA) : Option (Int) :=
 (z6H a0).bind fun v2 =>
 if v2 = 0 then
 if 12 < (a0.final.length : Int) then
 some 3
 else
 some 0
 else
 some v2
theorem zdc {a0 : DFA} {r : Int} (h0 : z4F a0 = some r) : L 35 [.agg [.sc (.int .i64 a0.letters), .sc (.int .i64 a0.start), .sl a0.final.length (a0.final.map fun x0 => .sc (.bool x0)), .sl a0.next.length (a0.next.map fun x0 => .sl x0.length (x0.map fun x1 => .sc (.int .i64 x1)))]] = some (.sc (.int .i64 r), [.dead]) := by
  simp only [z4F] at h0
  refine z2F zAs zBV (z1w zDH ⟨of_decide_eq_true rfl, of_decide_eq_true rfl⟩ ?_)
  simp only [z1E, z1C, z1B, z1F, z3u]
  refine zp (zs ?_)
  refine z0a (zp (zp ?_))
  obtain ⟨v2, f4, h1⟩ := z0d h0
  have f4k := zhT f4
  try simp at f4k
  refine zr rfl rfl rfl (by simp [f4k]; rfl) ?_
  refine z0a (zp (zs ?_))
  refine z0a ?_
  by_cases c5 : v2 = 0
  ·rw [if_pos c5] at h1
   have c5e := eq_true c5
   refine z0r rfl (by simp [c5e]) (z0j rfl (z0a (zp (zp (zs ?_)))))
   refine z0a ?_
   by_cases c6 : 12 < (a0.final.length : Int)
   ·rw [if_pos c6] at h1
    refine z0t rfl (by simp [c6]) (zp (zs ?_))
    refine z0a (z1f rfl (z0Q ?_))
    cases h1
    simp
   ·rw [if_neg c6] at h1
    refine z0r rfl (by simp [c6]) (z0j rfl (z0a (zp (zs ?_))))
    refine z0a (z1f rfl ?_)
    cases h1
    simp
  ·rw [if_neg c5] at h1
   have c5e := eq_false c5
   refine z0t rfl (by simp [c5e]) (zp (zs ?_))
   refine z0a (z1f rfl (z0Q ?_))
   cases h1
   simp
def z9U (a0 : DFA) : Option (Int) :=
 (z5c a0).bind fun v2 =>
 if v2 = 0 then
 if 12 < (a0.final.length : Int) then
 some 3
 else
 some 0
 else
 some v2
theorem zmq {a0 : DFA} {r : Int} (h0 : z9U a0 = some r) : L 29 [.agg [.sc (.int .i64 a0.letters), .sc (.int .i64 a0.start), .sl a0.final.length (a0.final.map fun x0 => .sc (.bool x0)), .sl a0.next.length (a0.next.map fun x0 => .sl x0.length (x0.map fun x1 => .sc (.int .i64 x1)))]] = some (.sc (.int .i64 r), [.dead]) := by
  simp only [z9U] at h0
  refine z2F zAy zC0 (z1w zDM ⟨of_decide_eq_true rfl, of_decide_eq_true rfl⟩ ?_)
  simp only [z1E, z1C, z1B, z1F, z3u]
  refine zp (zs ?_)
  refine z0a (zp (zp ?_))
  obtain ⟨v2, f4, h1⟩ := z0d h0
  have f4k := zes f4
  try simp at f4k
  refine zr rfl rfl rfl (by simp [f4k]; rfl) ?_
  refine z0a (zp (zs ?_))
  refine z0a ?_
  by_cases c5 : v2 = 0
  ·rw [if_pos c5] at h1
   have c5e := eq_true c5
   refine z0r rfl (by simp [c5e]) (z0j rfl (z0a (zp (zp (zs ?_)))))
   refine z0a ?_
   by_cases c6 : 12 < (a0.final.length : Int)
   ·rw [if_pos c6] at h1
    refine z0t rfl (by simp [c6]) (zp (zs ?_))
    refine z0a (z1f rfl (z0Q ?_))
    cases h1
    simp
   ·rw [if_neg c6] at h1
    refine z0r rfl (by simp [c6]) (z0j rfl (z0a (zp (zs ?_))))
    refine z0a (z1f rfl ?_)
    cases h1
    simp
  ·rw [if_neg c5] at h1
   have c5e := eq_false c5
   refine z0t rfl (by simp [c5e]) (zp (zs ?_))
   refine z0a (z1f rfl (z0Q ?_))
   cases h1
   simp
def z9V (a0 : DFA) : Option (Int) :=
 chk (¬ (u64.wrap (a0.final.length : Int)) < 0) <|
 some (i64.wrap ((zk4 .i64 1 (u64.wrap (a0.final.length : Int))) - 1))
theorem zmr {a0 : DFA} {r : Int} (h0 : z9V a0 = some r) : L 71 [.agg [.sc (.int .i64 a0.letters), .sc (.int .i64 a0.start), .sl a0.final.length (a0.final.map fun x0 => .sc (.bool x0)), .sl a0.next.length (a0.next.map fun x0 => .sl x0.length (x0.map fun x1 => .sc (.int .i64 x1)))]] = some (.sc (.int .i64 r), [.dead]) := by
  simp only [z9V] at h0
  refine z2F zA0 zBt (z1w zDf ⟨of_decide_eq_true rfl, of_decide_eq_true rfl⟩ ?_)
  simp only [z1E, z1C, z1B, z1F, z3u]
  refine zp (zs ?_)
  refine z0a (zp ?_)
  obtain ⟨f2, h1⟩ := z1M h0
  refine zr rfl rfl rfl (by simp [f2]; rfl) ?_
  refine z0a (z1f rfl ?_)
  cases h1
  simp
def z5y (a0 : DFA) (a1 : Int) (a2 : Int) : Int × Int -> Option ((Int × Int) ⊕ Int)
 | (w11, w12) =>
 if w12 < (a0.final.length : Int) then
 chk (¬ (u64.wrap w12) < 0) <|
 if (z2A .i64 (z1e .i64 a1 (u64.wrap w12)) 1) = 1 then
 (atI a0.next w12).bind fun v15 =>
 (atI v15 a2).bind fun v16 =>
 chk (¬ (u64.wrap v16) < 0) <|
 z0B (orI .i64 w11 (zk4 .i64 1 (u64.wrap v16)), i64.wrap (w12 + 1))
 else
 z0B (w11, i64.wrap (w12 + 1))
 else
 z1m <|
 some w11
def z4C (a0 : DFA) (a1 : Int) (a2 : Int) : Int × Int -> Fr
 | (w11, w12) => ⟨35, [(1, .one (.t none (.sc (.int .i64 a1)))), (2, .one (.t none (.sc (.int .i64 a2)))), (3, .one (.a 3 [] (0))), (7, .one (.t none (.sc (.int .i64 w11)))), (11, .one (.t none (.sc (.int .i64 (a0.final.length : Int))))), (12, .one (.t none (.sc (.int .i64 w12))))], [(3, .vr [.sc (.int .i64 a0.letters), .sc (.int .i64 a0.start), .sl a0.final.length (a0.final.map fun x0 => .sc (.bool x0)), .sl a0.next.length (a0.next.map fun x0 => .sl x0.length (x0.map fun x1 => .sc (.int .i64 x1)))])]⟩
def z6D (a0 : DFA) (a1 : Int) (a2 : Int) : Option (Int) :=
 z1b (z5y a0 a1 a2) LFm (0, 0)
theorem zhq {a0 : DFA} {a1 : Int} {a2 : Int} {r : Int} (h0 : z6D a0 a1 a2 = some r) : L 73 [.agg [.sc (.int .i64 a0.letters), .sc (.int .i64 a0.start), .sl a0.final.length (a0.final.map fun x0 => .sc (.bool x0)), .sl a0.next.length (a0.next.map fun x0 => .sl x0.length (x0.map fun x1 => .sc (.int .i64 x1)))], .sc (.int .i64 a1), .sc (.int .i64 a2)] = some (.sc (.int .i64 r), [.dead, .dead, .dead]) := by
  simp only [z6D] at h0
  refine z2F zzY zBr (z1w zDd ⟨of_decide_eq_true rfl, of_decide_eq_true rfl⟩ ?_)
  simp only [z1E, z1C, z1B, z1F, z3u]
  refine zp (zs ?_)
  refine z0a (zp (zs ?_))
  refine z0a (zp (zp (zs ?_)))
  refine z0a (zb rfl (z0C h0 (z4C a0 a1 a2) rfl rfl (by simp [z4C]) fun s o1 h1 hr1 => ?_))
  obtain ⟨w11, w12⟩ := s
  simp only [z5y] at h1
  simp only [z4C]
  refine zp (zs ?_)
  refine z0a (zp ?_)
  by_cases c31 : w12 < (a0.final.length : Int)
  ·rw [if_pos c31] at h1
   refine z0t rfl (by simp [c31]) (z0j rfl (z0a (zp (zb rfl (zp (zs ?_))))))
   refine z0a (zp ?_)
   obtain ⟨f32, h2⟩ := z1M h1
   refine zr rfl rfl rfl (by simp [f32]; rfl) ?_
   refine z0a ?_
   by_cases c33 : (z2A .i64 (z1e .i64 a1 (u64.wrap w12)) 1) = 1
   ·rw [if_pos c33] at h2
    have c33e := eq_true c33
    refine z0t rfl (by simp [c33e]) ?_
    obtain ⟨v15, f34, h3⟩ := z0I h2
    obtain ⟨v16, f35, h4⟩ := z0I h3
    obtain ⟨f36, h5⟩ := z1M h4
    refine zr rfl rfl rfl (by simp [f34, f35, f36]; rfl) ?_
    refine z0h (z0a (zs ?_))
    have ho := z0c h5
    refine z0i ho ?_
    simp [z4C]
   ·rw [if_neg c33] at h2
    have c33e := eq_false c33
    refine z0r rfl (by simp [c33e]) (z0j rfl (z0h (z0a (zs ?_))))
    have ho := z0c h2
    refine z0i ho ?_
    simp [z4C]
  ·rw [if_neg c31] at h1
   refine z0r rfl (by simp [c31]) (z0X rfl (z0w ?_))
   obtain ⟨rr1, h2, ho1⟩ := z0k h1
   have hs1 := hr1 _ ho1
   subst hs1
   refine z0s ho1 (z0g rfl (z0a (zp (zs ?_))))
   refine z0a (z1f rfl ?_)
   cases h2
   simp
def z6h (a0 : DFA) (a1 : Int) (a2 : Int) : Int × Int -> Option ((Int × Int) ⊕ Int)
 | (w11, w12) =>
 if w12 < (a0.next.length : Int) then
 (atI a0.next w12).bind fun v15 =>
 chk (¬ w12 < 0) <|
 if (z2A .i64 (z1e .i64 a1 w12) 1) = 1 then
 (atI v15 a2).bind fun v16 =>
 chk (¬ v16 < 0) <|
 z0B (orI .i64 w11 (zk4 .i64 1 v16), i64.wrap (w12 + 1))
 else
 z0B (w11, i64.wrap (w12 + 1))
 else
 z1m <|
 some w11
def z5e (a0 : DFA) (a1 : Int) (a2 : Int) : Int × Int -> Fr
 | (w11, w12) => ⟨32, [(1, .one (.t none (.sc (.int .i64 a1)))), (2, .one (.t none (.sc (.int .i64 a2)))), (7, .one (.t none (.sc (.int .i64 w11)))), (11, .one (.t none (.sl a0.next.length (a0.next.map fun x0 => .sl x0.length (x0.map fun x1 => .sc (.int .i64 x1)))))), (12, .one (.t none (.sc (.int .i64 (a0.next.length : Int))))), (13, .one (.t none (.sc (.int .i64 w12))))], []⟩
def z5U (a0 : DFA) (a1 : Int) (a2 : Int) : Option (Int) :=
 z1b (z6h a0 a1 a2) LFm (0, 0)
theorem zb1 {a0 : DFA} {a1 : Int} {a2 : Int} {r : Int} (h0 : z5U a0 a1 a2 = some r) : L 51 [.agg [.sc (.int .i64 a0.letters), .sc (.int .i64 a0.start), .sl a0.final.length (a0.final.map fun x0 => .sc (.bool x0)), .sl a0.next.length (a0.next.map fun x0 => .sl x0.length (x0.map fun x1 => .sc (.int .i64 x1)))], .sc (.int .i64 a1), .sc (.int .i64 a2)] = some (.sc (.int .i64 r), [.dead, .dead, .dead]) := by
  simp only [z5U] at h0
  refine z2F zAf zBI (z1w zDu ⟨of_decide_eq_true rfl, of_decide_eq_true rfl⟩ ?_)
  simp only [z1E, z1C, z1B, z1F, z3u]
  refine zp (zs ?_)
  refine z0a (zp (zs ?_))
  refine z0a (zp (zp (zs ?_)))
  refine z0a (zb rfl (z0C h0 (z5e a0 a1 a2) rfl rfl (by simp [z5e]) fun s o1 h1 hr1 => ?_))
  obtain ⟨w11, w12⟩ := s
  simp only [z6h] at h1
  simp only [z5e]
  refine zp (zs ?_)
  refine z0a (zp ?_)
  by_cases c29 : w12 < (a0.next.length : Int)
  ·rw [if_pos c29] at h1
   refine z0t rfl (by simp [c29]) (z0j rfl (z0a (zp (zb rfl (zp ?_)))))
   obtain ⟨v15, f30, h2⟩ := z0I h1
   refine zr rfl rfl rfl (by simp [f30]; rfl) ?_
   refine z0a (zp ?_)
   obtain ⟨f31, h3⟩ := z1M h2
   refine zr rfl rfl rfl (by simp [f31]; rfl) ?_
   refine z0a ?_
   by_cases c32 : (z2A .i64 (z1e .i64 a1 w12) 1) = 1
   ·rw [if_pos c32] at h3
    have c32e := eq_true c32
    refine z0t rfl (by simp [c32e]) ?_
    obtain ⟨v16, f33, h4⟩ := z0I h3
    obtain ⟨f34, h5⟩ := z1M h4
    refine zr rfl rfl rfl (by simp [f33, f34]; rfl) ?_
    refine z0h (z0a (zs ?_))
    have ho := z0c h5
    refine z0i ho ?_
    simp [z5e]
   ·rw [if_neg c32] at h3
    have c32e := eq_false c32
    refine z0r rfl (by simp [c32e]) (z0j rfl (z0h (z0a (zs ?_))))
    have ho := z0c h3
    refine z0i ho ?_
    simp [z5e]
  ·rw [if_neg c29] at h1
   refine z0r rfl (by simp [c29]) (z0X rfl (z0w ?_))
   obtain ⟨rr1, h2, ho1⟩ := z0k h1
   have hs1 := hr1 _ ho1
   subst hs1
   refine z0s ho1 (z0g rfl (z0a (zp (zs ?_))))
   refine z0a (z1f rfl ?_)
   cases h2
   simp
def z3y (a0 : Int) (a1 : Int) : Option (Bool) :=
 some (decide ((zkE .i64 a1 a0) = 0))
theorem z5C {a0 : Int} {a1 : Int} {r : Bool} (h0 : z3y a0 a1 = some r) : L 58 [.sc (.int .i64 a0), .sc (.int .i64 a1)] = some (.sc (.bool r), [.dead, .dead]) := by
  simp only [z3y] at h0
  refine z2F zAa zBD (z1w zDp ⟨of_decide_eq_true rfl, of_decide_eq_true rfl⟩ ?_)
  simp only [z1E, z1C, z1B, z1F, z3u]
  refine zp (zs ?_)
  refine z0a (zp (zs ?_))
  refine z0a (z1f rfl ?_)
  cases h0
  simp
def z4H (a0 : DFA) (w77 : Int) : Int × List Bool × List Int × List ByteArray -> Option ((Int × List Bool × List Int × List ByteArray) ⊕ ((Int × List Bool × List Int × List ByteArray) ⊕ (List Int × List ByteArray)))
 | (w105, w106, w107, w108) =>
 if w105 < a0.letters then
 (atI w107 w77).bind fun v114 =>
 (z5U a0 v114 w105).bind fun v115 =>
 (atI w106 v115).bind fun v116 =>
 if v116 = true then
 z0B (i64.wrap (w105 + 1), w106, w107, w108)
 else
 chk (z2i 8 (w107.length + 1)) <|
 (atI w108 w77).bind fun v118 =>
 chk (z9E v118 ⟨#[UInt8.ofNat (u8.wrap (i64.wrap (97 + w105))).toNat]⟩) <|
 chk (z2i 16 (w108.length + 1)) <|
 z0B (i64.wrap (w105 + 1), (w106.set v115.toNat true), w107 ++ [v115], w108 ++ [v118 ++ ⟨#[UInt8.ofNat (u8.wrap (i64.wrap (97 + w105))).toNat]⟩])
 else
 z1m <|
 z0B (i64.wrap (w77 + 1), w106, w107, w108)
def z4G (a0 : DFA) (w77 : Int) : Int × List Bool × List Int × List ByteArray -> Fr
 | (w105, w106, w107, w108) => ⟨69, [(2, .one (.a 2 [] (0))), (6, .one (.h 6 [])), (7, .one (.h 7 [])), (8, .one (.h 8 [])), (9, .one (.t none (.sc (.int .i64 w77)))), (30, .one (.t none (.sc (.int .i64 a0.letters)))), (31, .one (.t none (.sc (.int .i64 w105))))], [(2, .vr [.sc (.int .i64 a0.letters), .sc (.int .i64 a0.start), .sl a0.final.length (a0.final.map fun x0 => .sc (.bool x0)), .sl a0.next.length (a0.next.map fun x0 => .sl x0.length (x0.map fun x1 => .sc (.int .i64 x1)))]), (6, .os 1 w106.length (w106.map fun x0 => .sc (.bool x0))), (7, .os 1 w107.length (w107.map fun x0 => .sc (.int .i64 x0))), (8, .os 1 w108.length (w108.map fun x0 => .sc (.string x0)))]⟩
def z7E (a0 : DFA) : Int × List Bool × List Int × List ByteArray -> Option ((Int × List Bool × List Int × List ByteArray) ⊕ (List Int × List ByteArray))
 | (w77, w78, w79, w80) =>
 if w77 < (w79.length : Int) then
 z1b (z4H a0 w77) LFm (0, w78, w79, w80)
 else
 z1m <|
 some (w79, w80)
def z5B (a0 : DFA) : Int × List Bool × List Int × List ByteArray -> Fr
 | (w77, w78, w79, w80) => ⟨69, [(2, .one (.a 2 [] (0))), (6, .one (.h 6 [])), (7, .one (.h 7 [])), (8, .one (.h 8 [])), (9, .one (.t none (.sc (.int .i64 w77))))], [(2, .vr [.sc (.int .i64 a0.letters), .sc (.int .i64 a0.start), .sl a0.final.length (a0.final.map fun x0 => .sc (.bool x0)), .sl a0.next.length (a0.next.map fun x0 => .sl x0.length (x0.map fun x1 => .sc (.int .i64 x1)))]), (6, .os 1 w78.length (w78.map fun x0 => .sc (.bool x0))), (7, .os 1 w79.length (w79.map fun x0 => .sc (.int .i64 x0))), (8, .os 1 w80.length (w80.map fun x0 => .sc (.string x0)))]⟩
def z6G (a0 : DFA) (a1 : Int) : Option (List Int × List ByteArray) :=
 chk (¬ (a0.final.length : Int) < 0) <|
 chk (z2k 1 (zk4 .i64 1 (a0.final.length : Int))) <|
 chk (0 <= a1 /\ a1 < (zk4 .i64 1 (a0.final.length : Int))) <|
 z1b (z7E a0) LFm (0, ((List.replicate (zk4 .i64 1 (a0.final.length : Int)).toNat (false : Bool)).set a1.toNat true), [a1], [ByteArray.empty])
theorem zhF {a0 : DFA} {a1 : Int} {r : List Int × List ByteArray} (h0 : z6G a0 a1 = some r) : L 57 [.agg [.sc (.int .i64 a0.letters), .sc (.int .i64 a0.start), .sl a0.final.length (a0.final.map fun x0 => .sc (.bool x0)), .sl a0.next.length (a0.next.map fun x0 => .sl x0.length (x0.map fun x1 => .sc (.int .i64 x1)))], .sc (.int .i64 a1)] = some (.tup [.os 1 r.1.length (r.1.map fun x0 => .sc (.int .i64 x0)), .os 1 r.2.length (r.2.map fun x0 => .sc (.string x0))], [.dead, .dead]) := by
  simp only [z6G] at h0
  refine z2F zAb zBE (z1w zDq ⟨of_decide_eq_true rfl, of_decide_eq_true rfl⟩ ?_)
  simp only [z1E, z1C, z1B, z1F, z3u]
  refine zp (zs ?_)
  refine z0a (zp ?_)
  obtain ⟨f84, h1⟩ := z1M h0
  obtain ⟨f85, h2⟩ := zxV h1
  refine zr rfl rfl rfl (by simp [f84, f85]; rfl) ?_
  refine z0a (zp ?_)
  obtain ⟨f86, h3⟩ := z1M h2
  obtain ⟨f86a, f86b⟩ := f86
  have f86c : a1.toNat < (zk4 .i64 1 (a0.final.length : Int)).toNat := by omega
  have f86d : a1.toNat + 1 <= (zk4 .i64 1 (a0.final.length : Int)).toNat := by omega
  refine zr rfl rfl rfl (by simp [f85, f86a, f86b, f86c, f86d]; rfl) ?_
  refine z0a (zp (zs ?_))
  refine z0a (zp (zp (zs ?_)))
  refine z0a (zb rfl (z0C h3 (z5B a0) rfl rfl (by simp [z5B]) fun s o1 h4 hr1 => ?_))
  obtain ⟨w77, w78, w79, w80⟩ := s
  simp only [z7E] at h4
  simp only [z5B]
  refine zp (zp (zs ?_))
  refine z0a ?_
  by_cases c139 : w77 < (w79.length : Int)
  ·rw [if_pos c139] at h4
   refine z0t rfl (by simp [c139]) (z0j rfl (z0a (zp (zb rfl (zp (zs ?_))))))
   refine z0a (zb rfl (z0C h4 (z4G a0 w77) rfl rfl (by simp [z4G]) fun s o2 h5 hr2 => ?_))
   obtain ⟨w105, w106, w107, w108⟩ := s
   simp only [z4H] at h5
   simp only [z4G]
   refine zp (zs ?_)
   refine z0a (zp ?_)
   by_cases c158 : w105 < a0.letters
   ·rw [if_pos c158] at h5
    refine z0t rfl (by simp [c158]) (z0j rfl (z0a (zp (zb rfl (zp (zs ?_))))))
    refine z0a (zp ?_)
    obtain ⟨v114, f159, h6⟩ := z0I h5
    obtain ⟨v115, f160, h7⟩ := z0d h6
    have f160k := zb1 f160
    try simp at f160k
    refine z1c rfl rfl rfl rfl ?_; repeat' ((first | refine z0q rfl rfl fun Q' hQ => ?_ | refine z0m rfl fun Q' hQ => ?_); simp [f159, f160k]; refine hQ.out _ ?_; clear hQ; clear Q')
    refine z0a (zp ?_)
    obtain ⟨v116, f161, h8⟩ := z0I h7
    refine zr rfl rfl rfl (by simp [f161]; rfl) ?_
    refine z0a ?_
    by_cases c162 : v116 = true
    ·rw [if_pos c162] at h8
     refine z0r rfl (by simp [c162]) (z0j rfl (z0h (z0a (zs ?_))))
     have ho := z0c h8
     refine z0i ho ?_
     simp [z4G, c162]
    ·rw [if_neg c162] at h8
     refine z0t rfl (by simp [c162]) (zp (zr rfl rfl rfl (by simp [f161]; rfl) ?_))
     refine z0a (zp ?_)
     obtain ⟨f163, h9⟩ := z5I h8
     refine zr rfl rfl rfl (by simp [f163]; rfl) ?_
     refine z0a ?_
     obtain ⟨v118, f164, h10⟩ := z0I h9
     obtain ⟨f165, h11⟩ := z1M h10
     obtain ⟨f166, h12⟩ := z5I h11
     refine z1c rfl rfl rfl rfl ?_; repeat' ((first | refine z0q rfl rfl fun Q' hQ => ?_ | refine z0m rfl fun Q' hQ => ?_); simp [f164, f165, f166]; refine hQ.out _ ?_; clear hQ; clear Q')
     refine z0h (z0a (zs ?_))
     have ho := z0c h12
     refine z0i ho ?_
     simp [z4G, c162]
   ·rw [if_neg c158] at h5
    refine z0r rfl (by simp [c158]) (z0X rfl (z0w ?_))
    obtain ⟨rr2, h6, ho2⟩ := z0k h5
    have hs2 := hr2 _ ho2
    subst hs2
    refine z0s ho2 (z0g rfl (z0h (z0a (zs ?_))))
    have ho := z0c h6
    refine z0i ho ?_
    simp [z5B]
  ·rw [if_neg c139] at h4
   refine z0r rfl (by simp [c139]) (z0X rfl (z0w ?_))
   obtain ⟨rr1, h5, ho1⟩ := z0k h4
   have hs1 := hr1 _ ho1
   subst hs1
   refine z0s ho1 (z0g rfl (z0a (zp (zs ?_))))
   refine z0a (z1f rfl ?_)
   cases h5
   simp
def z5b (a0 : DFA) (w53 : Int) : Int × List Int × List ByteArray × (List (Int × Bool)) -> Option ((Int × List Int × List ByteArray × (List (Int × Bool))) ⊕ ((Int × List Int × List ByteArray × (List (Int × Bool))) ⊕ (List Int × List ByteArray)))
 | (w73, w74, w75, w76) =>
 if w73 < a0.letters then
 (atI w74 w53).bind fun v80 =>
 (z6D a0 v80 w73).bind fun v81 =>
 if ((zhG v81 w76).getD false) = true then
 z0B (i64.wrap (w73 + 1), w74, w75, w76)
 else
 (atI w75 w53).bind fun v82 =>
 chk (z2i 8 (w74.length + 1)) <|
 chk (z9E v82 ⟨#[UInt8.ofNat (u8.wrap (i64.wrap (97 + w73))).toNat]⟩) <|
 chk (z2i 16 (w75.length + 1)) <|
 z0B (i64.wrap (w73 + 1), w74 ++ [v81], w75 ++ [v82 ++ ⟨#[UInt8.ofNat (u8.wrap (i64.wrap (97 + w73))).toNat]⟩], zk6 v81 true w76)
 else
 z1m <|
 z0B (i64.wrap (w53 + 1), w74, w75, w76)
def z5a (a0 : DFA) (w53 : Int) : Int × List Int × List ByteArray × (List (Int × Bool)) -> Fr
 | (w73, w74, w75, w76) => ⟨62, [(2, .one (.a 2 [] (0))), (6, .one (.h 6 [])), (7, .one (.h 7 [])), (8, .one (.h 8 [])), (9, .one (.t none (.sc (.int .i64 w53)))), (10, .one (.t none (.sc (.int .i64 w73))))], [(2, .vr [.sc (.int .i64 a0.letters), .sc (.int .i64 a0.start), .sl a0.final.length (a0.final.map fun x0 => .sc (.bool x0)), .sl a0.next.length (a0.next.map fun x0 => .sl x0.length (x0.map fun x1 => .sc (.int .i64 x1)))]), (6, .os 1 w74.length (w74.map fun x0 => .sc (.int .i64 x0))), (7, .os 1 w75.length (w75.map fun x0 => .sc (.string x0))), (8, .mp (some .i64) (w76.map fun x0 => (.int .i64 x0.1, .bool x0.2)))]⟩
def z8g (a0 : DFA) : Int × List Int × List ByteArray × (List (Int × Bool)) -> Option ((Int × List Int × List ByteArray × (List (Int × Bool))) ⊕ (List Int × List ByteArray))
 | (w53, w54, w55, w56) =>
 if w53 < (w54.length : Int) then
 z1b (z5b a0 w53) LFm (0, w54, w55, w56)
 else
 z1m <|
 some (w54, w55)
def z6g (a0 : DFA) : Int × List Int × List ByteArray × (List (Int × Bool)) -> Fr
 | (w53, w54, w55, w56) => ⟨62, [(2, .one (.a 2 [] (0))), (6, .one (.h 6 [])), (7, .one (.h 7 [])), (8, .one (.h 8 [])), (9, .one (.t none (.sc (.int .i64 w53))))], [(2, .vr [.sc (.int .i64 a0.letters), .sc (.int .i64 a0.start), .sl a0.final.length (a0.final.map fun x0 => .sc (.bool x0)), .sl a0.next.length (a0.next.map fun x0 => .sl x0.length (x0.map fun x1 => .sc (.int .i64 x1)))]), (6, .os 1 w54.length (w54.map fun x0 => .sc (.int .i64 x0))), (7, .os 1 w55.length (w55.map fun x0 => .sc (.string x0))), (8, .mp (some .i64) (w56.map fun x0 => (.int .i64 x0.1, .bool x0.2)))]⟩
def z4A (a0 : DFA) (a1 : Int) : Option (List Int × List ByteArray) :=
 z1b (z8g a0) LFm (0, [a1], [ByteArray.empty], zk6 a1 true ([] : List (Int × Bool)))
theorem z6f {a0 : DFA} {a1 : Int} {r : List Int × List ByteArray} (h0 : z4A a0 a1 = some r) : L 43 [.agg [.sc (.int .i64 a0.letters), .sc (.int .i64 a0.start), .sl a0.final.length (a0.final.map fun x0 => .sc (.bool x0)), .sl a0.next.length (a0.next.map fun x0 => .sl x0.length (x0.map fun x1 => .sc (.int .i64 x1)))], .sc (.int .i64 a1)] = some (.tup [.os 1 r.1.length (r.1.map fun x0 => .sc (.int .i64 x0)), .os 1 r.2.length (r.2.map fun x0 => .sc (.string x0))], [.dead, .dead]) := by
  simp only [z4A] at h0
  refine z2F zAk zBN (z1w zDz ⟨of_decide_eq_true rfl, of_decide_eq_true rfl⟩ ?_)
  simp only [z1E, z1C, z1B, z1F, z3u]
  refine zp (zs ?_)
  refine z0a (zp (zs ?_))
  refine z0a (zp (zs ?_))
  refine z0a (zp (zp (zs ?_)))
  refine z0a (zb rfl (z0C h0 (z6g a0) rfl rfl (by simp [z6g]) fun s o1 h1 hr1 => ?_))
  obtain ⟨w53, w54, w55, w56⟩ := s
  simp only [z8g] at h1
  simp only [z6g]
  refine zp (zp (zs ?_))
  refine z0a ?_
  by_cases c118 : w53 < (w54.length : Int)
  ·rw [if_pos c118] at h1
   refine z0t rfl (by simp [c118]) (z0j rfl (z0a (zp (zb rfl (zp (zs ?_))))))
   refine z0a (zb rfl (z0C h1 (z5a a0 w53) rfl rfl (by simp [z5a]) fun s o2 h2 hr2 => ?_))
   obtain ⟨w73, w74, w75, w76⟩ := s
   simp only [z5b] at h2
   simp only [z5a]
   refine zp (zp (zs ?_))
   refine z0a ?_
   by_cases c135 : w73 < a0.letters
   ·rw [if_pos c135] at h2
    refine z0t rfl (by simp [c135]) (z0j rfl (z0a (zp (zb rfl (zp ?_)))))
    obtain ⟨v80, f136, h3⟩ := z0I h2
    obtain ⟨v81, f137, h4⟩ := z0d h3
    have f137k := zhq f137
    try simp at f137k
    refine z1c rfl rfl rfl rfl ?_; repeat' ((first | refine z0q rfl rfl fun Q' hQ => ?_ | refine z0m rfl fun Q' hQ => ?_); simp [f136, f137k]; refine hQ.out _ ?_; clear hQ; clear Q')
    refine z0a (zp (zs ?_))
    refine z0a ?_
    by_cases c138 : ((zhG v81 w76).getD false) = true
    ·rw [if_pos c138] at h4
     refine z0r rfl (by simp [c138]) (z0j rfl (z0h (z0a (zs ?_))))
     have ho := z0c h4
     refine z0i ho ?_
     simp [z5a, c138]
    ·rw [if_neg c138] at h4
     refine z0t rfl (by simp [c138]) (zp (zs ?_))
     refine z0a ?_
     obtain ⟨v82, f139, h5⟩ := z0I h4
     obtain ⟨f140, h6⟩ := z5I h5
     obtain ⟨f141, h7⟩ := z1M h6
     obtain ⟨f142, h8⟩ := z5I h7
     refine zeQ rfl rfl rfl rfl ?_
     iterate 10 (refine z4o rfl rfl (by simp [z0f, z0e, f139, f140, f141, f142]; rfl) ?_)
     refine z5M ?_
     refine z4o rfl rfl (by simp [z0f, z0e, f139, f140, f141, f142]; rfl) ?_
     refine z5M ?_
     iterate 8 (refine z4o rfl rfl (by simp [z0f, z0e, f139, f140, f141, f142]; rfl) ?_)
     refine z6N ?_
     refine ⟨?_, ?_⟩
     ·refine z4o rfl rfl (by simp [z0f, z0e, f139, f140, f141, f142]; rfl) ?_
      refine z4o rfl rfl (by simp [z0f, z0e, f139, f140, f141, f142]; rfl) ?_
      refine z4o rfl rfl (by simp [z0f, z0e, f139, f140, f141, f142]; rfl) ?_
      refine z5M ?_
      iterate 5 (refine z4o rfl rfl (by simp [z0f, z0e, f139, f140, f141, f142]; rfl) ?_)
      refine z6N ?_
      refine ⟨?_, ?_⟩
      ·refine z4o rfl rfl (by simp [z0f, z0e, f139, f140, f141, f142]; rfl) ?_
       iterate 4 (refine z4o rfl rfl (by simp [z0f, z0e, f139, f140, f141, f142]; rfl) ?_)
       refine z6N ?_
       simp [z8f, f139, f140, f141, f142]
      simp [z8f, f139, f140, f141, f142]
     refine ⟨?_, ?_⟩
     ·refine z4o rfl rfl (by simp [z0f, z0e, f139, f140, f141, f142]; rfl) ?_
      refine z4o rfl rfl (by simp [z0f, z0e, f139, f140, f141, f142]; rfl) ?_
      refine z4o rfl rfl (by simp [z0f, z0e, f139, f140, f141, f142]; rfl) ?_
      refine z5M ?_
      refine z4o rfl rfl (by simp [z0f, z0e, f139, f140, f141, f142]; rfl) ?_
      refine z5M ?_
      iterate 5 (refine z4o rfl rfl (by simp [z0f, z0e, f139, f140, f141, f142]; rfl) ?_)
      refine z6N ?_
      refine ⟨?_, ?_⟩
      ·refine z4o rfl rfl (by simp [z0f, z0e, f139, f140, f141, f142]; rfl) ?_
       iterate 4 (refine z4o rfl rfl (by simp [z0f, z0e, f139, f140, f141, f142]; rfl) ?_)
       refine z6N ?_
       simp [z8f, f139, f140, f141, f142]
      refine ⟨?_, ?_⟩
      ·refine z4o rfl rfl (by simp [z0f, z0e, f139, f140, f141, f142]; rfl) ?_
       iterate 5 (refine z4o rfl rfl (by simp [z0f, z0e, f139, f140, f141, f142]; rfl) ?_)
       refine z6N ?_
       simp [z8f, f139, f140, f141, f142]
      simp [z8f, f139, f140, f141, f142]
     refine zeM rfl (by simp [f139, f140, f141, f142]; rfl) ?_
     refine z0h (z0a (zs ?_))
     have ho := z0c h8
     refine z0i ho ?_
     simp [z5a, c138]
   ·rw [if_neg c135] at h2
    refine z0r rfl (by simp [c135]) (z0X rfl (z0w ?_))
    obtain ⟨rr2, h3, ho2⟩ := z0k h2
    have hs2 := hr2 _ ho2
    subst hs2
    refine z0s ho2 (z0g rfl (z0h (z0a (zs ?_))))
    have ho := z0c h3
    refine z0i ho ?_
    simp [z6g]
  ·rw [if_neg c118] at h1
   refine z0r rfl (by simp [c118]) (z0X rfl (z0w ?_))
   obtain ⟨rr1, h2, ho1⟩ := z0k h1
   have hs1 := hr1 _ ho1
   subst hs1
   refine z0s ho1 (z0g rfl (z0a (zp (zs ?_))))
   refine z0a (z1f rfl ?_)
   cases h2
   simp
def zcS : Int × Int -> Option ((Int × Int) ⊕ Int)
 | (w3, w4) =>
 if 0 < w3 then
 chk (¬ 1 < 0) <|
 z0B (z1e .i64 w3 1, i64.wrap (w4 + (z2A .i64 w3 1)))
 else
 z1m <|
 some w4
def z6U : Int × Int -> Fr
 | (w3, w4) => ⟨13, [(0, .one (.t none (.sc (.int .i64 w3)))), (3, .one (.t none (.sc (.int .i64 w4))))], []⟩
def z4L (a0 : Int) : Option (Int) :=
 z1b (zcS) LFm (a0, 0)
theorem z4K {a0 : Int} {r : Int} (h0 : z4L a0 = some r) : L 18 [.sc (.int .i64 a0)] = some (.sc (.int .i64 r), [.dead]) := by
  simp only [z4L] at h0
  refine z2F zAC zC4 (z1w zDQ ⟨of_decide_eq_true rfl, of_decide_eq_true rfl⟩ ?_)
  simp only [z1E, z1C, z1B, z1F, z3u]
  refine zp (zs ?_)
  refine z0a (zp (zs ?_))
  refine z0a (zp (zb rfl (z0C h0 z6U rfl rfl (by simp [z6U]) fun s o1 h1 hr1 => ?_)))
  obtain ⟨w3, w4⟩ := s
  simp only [zcS] at h1
  simp only [z6U]
  refine zp (zp (zs ?_))
  refine z0a ?_
  by_cases c11 : 0 < w3
  ·rw [if_pos c11] at h1
   refine z0t rfl (by simp [c11]) (z0j rfl (z0a (zp (zb rfl (zs ?_)))))
   refine z0h (z0a ?_)
   obtain ⟨f12, h2⟩ := z1M h1
   refine zr rfl rfl rfl (by simp [f12]; rfl) ?_
   have ho := z0c h2
   refine z0i ho ?_
   simp [z6U]
  ·rw [if_neg c11] at h1
   refine z0r rfl (by simp [c11]) (z0X rfl (z0w ?_))
   obtain ⟨rr1, h2, ho1⟩ := z0k h1
   have hs1 := hr1 _ ho1
   subst hs1
   refine z0s ho1 (z0g rfl (z0a (zp (zs ?_))))
   refine z0a (z1f rfl ?_)
   cases h2
   simp
def z3a (a0 : Int) : Option (Int) :=
 chk (¬ 1 < 0) <|
 chk (¬ 2 < 0) <|
 chk (¬ 4 < 0) <|
 chk (¬ 8 < 0) <|
 chk (¬ 16 < 0) <|
 chk (¬ 32 < 0) <|
 some (z2A .i64 (i64.wrap (u64.wrap ((u64.wrap ((u64.wrap ((z2A .u64 (u64.wrap ((z1e .u64 (u64.wrap ((z2A .u64 (z1e .u64 (u64.wrap ((z2A .u64 (z1e .u64 a0 1) 6148914691236517205) + (z2A .u64 a0 6148914691236517205))) 2) 3689348814741910323) + (z2A .u64 (u64.wrap ((z2A .u64 (z1e .u64 a0 1) 6148914691236517205) + (z2A .u64 a0 6148914691236517205))) 3689348814741910323))) 4) + (u64.wrap ((z2A .u64 (z1e .u64 (u64.wrap ((z2A .u64 (z1e .u64 a0 1) 6148914691236517205) + (z2A .u64 a0 6148914691236517205))) 2) 3689348814741910323) + (z2A .u64 (u64.wrap ((z2A .u64 (z1e .u64 a0 1) 6148914691236517205) + (z2A .u64 a0 6148914691236517205))) 3689348814741910323))))) 1085102592571150095) + (z1e .u64 (z2A .u64 (u64.wrap ((z1e .u64 (u64.wrap ((z2A .u64 (z1e .u64 (u64.wrap ((z2A .u64 (z1e .u64 a0 1) 6148914691236517205) + (z2A .u64 a0 6148914691236517205))) 2) 3689348814741910323) + (z2A .u64 (u64.wrap ((z2A .u64 (z1e .u64 a0 1) 6148914691236517205) + (z2A .u64 a0 6148914691236517205))) 3689348814741910323))) 4) + (u64.wrap ((z2A .u64 (z1e .u64 (u64.wrap ((z2A .u64 (z1e .u64 a0 1) 6148914691236517205) + (z2A .u64 a0 6148914691236517205))) 2) 3689348814741910323) + (z2A .u64 (u64.wrap ((z2A .u64 (z1e .u64 a0 1) 6148914691236517205) + (z2A .u64 a0 6148914691236517205))) 3689348814741910323))))) 1085102592571150095) 8))) + (z1e .u64 (u64.wrap ((z2A .u64 (u64.wrap ((z1e .u64 (u64.wrap ((z2A .u64 (z1e .u64 (u64.wrap ((z2A .u64 (z1e .u64 a0 1) 6148914691236517205) + (z2A .u64 a0 6148914691236517205))) 2) 3689348814741910323) + (z2A .u64 (u64.wrap ((z2A .u64 (z1e .u64 a0 1) 6148914691236517205) + (z2A .u64 a0 6148914691236517205))) 3689348814741910323))) 4) + (u64.wrap ((z2A .u64 (z1e .u64 (u64.wrap ((z2A .u64 (z1e .u64 a0 1) 6148914691236517205) + (z2A .u64 a0 6148914691236517205))) 2) 3689348814741910323) + (z2A .u64 (u64.wrap ((z2A .u64 (z1e .u64 a0 1) 6148914691236517205) + (z2A .u64 a0 6148914691236517205))) 3689348814741910323))))) 1085102592571150095) + (z1e .u64 (z2A .u64 (u64.wrap ((z1e .u64 (u64.wrap ((z2A .u64 (z1e .u64 (u64.wrap ((z2A .u64 (z1e .u64 a0 1) 6148914691236517205) + (z2A .u64 a0 6148914691236517205))) 2) 3689348814741910323) + (z2A .u64 (u64.wrap ((z2A .u64 (z1e .u64 a0 1) 6148914691236517205) + (z2A .u64 a0 6148914691236517205))) 3689348814741910323))) 4) + (u64.wrap ((z2A .u64 (z1e .u64 (u64.wrap ((z2A .u64 (z1e .u64 a0 1) 6148914691236517205) + (z2A .u64 a0 6148914691236517205))) 2) 3689348814741910323) + (z2A .u64 (u64.wrap ((z2A .u64 (z1e .u64 a0 1) 6148914691236517205) + (z2A .u64 a0 6148914691236517205))) 3689348814741910323))))) 1085102592571150095) 8))) 16))) + (z1e .u64 (u64.wrap ((u64.wrap ((z2A .u64 (u64.wrap ((z1e .u64 (u64.wrap ((z2A .u64 (z1e .u64 (u64.wrap ((z2A .u64 (z1e .u64 a0 1) 6148914691236517205) + (z2A .u64 a0 6148914691236517205))) 2) 3689348814741910323) + (z2A .u64 (u64.wrap ((z2A .u64 (z1e .u64 a0 1) 6148914691236517205) + (z2A .u64 a0 6148914691236517205))) 3689348814741910323))) 4) + (u64.wrap ((z2A .u64 (z1e .u64 (u64.wrap ((z2A .u64 (z1e .u64 a0 1) 6148914691236517205) + (z2A .u64 a0 6148914691236517205))) 2) 3689348814741910323) + (z2A .u64 (u64.wrap ((z2A .u64 (z1e .u64 a0 1) 6148914691236517205) + (z2A .u64 a0 6148914691236517205))) 3689348814741910323))))) 1085102592571150095) + (z1e .u64 (z2A .u64 (u64.wrap ((z1e .u64 (u64.wrap ((z2A .u64 (z1e .u64 (u64.wrap ((z2A .u64 (z1e .u64 a0 1) 6148914691236517205) + (z2A .u64 a0 6148914691236517205))) 2) 3689348814741910323) + (z2A .u64 (u64.wrap ((z2A .u64 (z1e .u64 a0 1) 6148914691236517205) + (z2A .u64 a0 6148914691236517205))) 3689348814741910323))) 4) + (u64.wrap ((z2A .u64 (z1e .u64 (u64.wrap ((z2A .u64 (z1e .u64 a0 1) 6148914691236517205) + (z2A .u64 a0 6148914691236517205))) 2) 3689348814741910323) + (z2A .u64 (u64.wrap ((z2A .u64 (z1e .u64 a0 1) 6148914691236517205) + (z2A .u64 a0 6148914691236517205))) 3689348814741910323))))) 1085102592571150095) 8))) + (z1e .u64 (u64.wrap ((z2A .u64 (u64.wrap ((z1e .u64 (u64.wrap ((z2A .u64 (z1e .u64 (u64.wrap ((z2A .u64 (z1e .u64 a0 1) 6148914691236517205) + (z2A .u64 a0 6148914691236517205))) 2) 3689348814741910323) + (z2A .u64 (u64.wrap ((z2A .u64 (z1e .u64 a0 1) 6148914691236517205) + (z2A .u64 a0 6148914691236517205))) 3689348814741910323))) 4) + (u64.wrap ((z2A .u64 (z1e .u64 (u64.wrap ((z2A .u64 (z1e .u64 a0 1) 6148914691236517205) + (z2A .u64 a0 6148914691236517205))) 2) 3689348814741910323) + (z2A .u64 (u64.wrap ((z2A .u64 (z1e .u64 a0 1) 6148914691236517205) + (z2A .u64 a0 6148914691236517205))) 3689348814741910323))))) 1085102592571150095) + (z1e .u64 (z2A .u64 (u64.wrap ((z1e .u64 (u64.wrap ((z2A .u64 (z1e .u64 (u64.wrap ((z2A .u64 (z1e .u64 a0 1) 6148914691236517205) + (z2A .u64 a0 6148914691236517205))) 2) 3689348814741910323) + (z2A .u64 (u64.wrap ((z2A .u64 (z1e .u64 a0 1) 6148914691236517205) + (z2A .u64 a0 6148914691236517205))) 3689348814741910323))) 4) + (u64.wrap ((z2A .u64 (z1e .u64 (u64.wrap ((z2A .u64 (z1e .u64 a0 1) 6148914691236517205) + (z2A .u64 a0 6148914691236517205))) 2) 3689348814741910323) + (z2A .u64 (u64.wrap ((z2A .u64 (z1e .u64 a0 1) 6148914691236517205) + (z2A .u64 a0 6148914691236517205))) 3689348814741910323))))) 1085102592571150095) 8))) 16))) 32)))) 127)
theorem z8X {a0 : Int} {r : Int} (h0 : z3a a0 = some r) : L 91 [.sc (.int .u64 a0)] = some (.sc (.int .i64 r), [.dead]) := by
  simp only [z3a] at h0
  refine z2F zzS zBl (z1w zD7 ⟨of_decide_eq_true rfl, of_decide_eq_true rfl⟩ ?_)
  simp only [z1E, z1C, z1B, z1F, z3u]
  refine zp (zs ?_)
  refine z0a (zp ?_)
  obtain ⟨f7, h1⟩ := z1M h0
  refine zr rfl rfl rfl (by simp [f7]; rfl) ?_
  refine z0a (zp ?_)
  obtain ⟨f8, h2⟩ := z1M h1
  refine zr rfl rfl rfl (by simp [f8]; rfl) ?_
  refine z0a (zp ?_)
  obtain ⟨f9, h3⟩ := z1M h2
  refine zr rfl rfl rfl (by simp [f9]; rfl) ?_
  refine z0a (zp ?_)
  obtain ⟨f10, h4⟩ := z1M h3
  refine zr rfl rfl rfl (by simp [f10]; rfl) ?_
  refine z0a (zp ?_)
  obtain ⟨f11, h5⟩ := z1M h4
  refine zr rfl rfl rfl (by simp [f11]; rfl) ?_
  refine z0a (zp ?_)
  obtain ⟨f12, h6⟩ := z1M h5
  refine zr rfl rfl rfl (by simp [f12]; rfl) ?_
  refine z0a (zp (zs ?_))
  refine z0a (z1f rfl ?_)
  cases h6
  simp
def z4q (a0 : Int) : Option (Int) :=
 (z3a a0).bind fun v2 =>
 some v2
theorem z9B {a0 : Int} {r : Int} (h0 : z4q a0 = some r) : L 78 [.sc (.int .u64 a0)] = some (.sc (.int .i64 r), [.dead]) := by
  simp only [z4q] at h0
  refine z2F zzV zBo (z1w zDa ⟨of_decide_eq_true rfl, of_decide_eq_true rfl⟩ ?_)
  simp only [z1E, z1C, z1B, z1F, z3u]
  refine zp (zs ?_)
  refine z0a (zp (z0r rfl (by simp) (z0j rfl (z0a (zp ?_)))))
  obtain ⟨v2, f2, h1⟩ := z0d h0
  have f2k := z8X f2
  try simp at f2k
  refine zr rfl rfl rfl (by simp [f2k]; rfl) ?_
  refine z0a (z1f rfl ?_)
  cases h1
  simp
def z5T (a0 : Int) : Option (Int) :=
 (z4q (u64.wrap a0)).bind fun v2 =>
 some v2
theorem zb0 {a0 : Int} {r : Int} (h0 : z5T a0 = some r) : L 68 [.sc (.int .i64 a0)] = some (.sc (.int .i64 r), [.dead]) := by
  simp only [z5T] at h0
  refine z2F zA3 zBw (z1w zDi ⟨of_decide_eq_true rfl, of_decide_eq_true rfl⟩ ?_)
  simp only [z1E, z1C, z1B, z1F, z3u]
  refine zp (zs ?_)
  refine z0a (zp ?_)
  obtain ⟨v2, f2, h1⟩ := z0d h0
  have f2k := z9B f2
  try simp at f2k
  refine zr rfl rfl rfl (by simp [f2k]; rfl) ?_
  refine z0a (z1f rfl ?_)
  cases h1
  simp
end
end Go.Proofs.Ytbnnipkanechoaa
end
section
namespace Go.Proofs.Ytbnnipkanechoaa
open Go
set_option maxRecDepth 100000
theorem zf3 {a : Nat} (h : a < 2 ^ 62) : IntKind.i64.wrap (a : Int) = (a : Int) := z2E (by omega) (by omega)
theorem zdo {a b : Nat} (ha : a < 2 ^ 62) (hb : b < 2 ^ 62) : z2A .i64 (a : Int) (b : Int) = ((a &&& b : Nat) : Int) := by
 unfold z2A
 have e : (BitVec.ofInt IntKind.i64.bits (a : Int) &&& BitVec.ofInt IntKind.i64.bits (b : Int)).toNat = a &&& b := by
  show (BitVec.ofInt 64 (a : Int) &&& BitVec.ofInt 64 (b : Int)).toNat = _
  rw [BitVec.toNat_and, BitVec.toNat_ofInt, BitVec.toNat_ofInt]
  have h1 : ((a : Int) % ((2 ^ 64 : Nat) : Int)).toNat = a := by omega
  have h2 : ((b : Int) % ((2 ^ 64 : Nat) : Int)).toNat = b := by omega
  rw [h1, h2]
 rw [e]
 exact zf3 (Nat.lt_of_le_of_lt Nat.and_le_left ha)
theorem zxh {a b k : Nat} (ha : a < 2 ^ k) (hb : b < 2 ^ k) : a ||| b < 2 ^ k := Nat.or_lt_two_pow ha hb
theorem zt3 {a b : Nat} (ha : a < 2 ^ 62) (hb : b < 2 ^ 62) : orI .i64 (a : Int) (b : Int) = ((a ||| b : Nat) : Int) := by
 unfold orI
 have e : (BitVec.ofInt IntKind.i64.bits (a : Int) ||| BitVec.ofInt IntKind.i64.bits (b : Int)).toNat = a ||| b := by
  show (BitVec.ofInt 64 (a : Int) ||| BitVec.ofInt 64 (b : Int)).toNat = _
  rw [BitVec.toNat_or, BitVec.toNat_ofInt, BitVec.toNat_ofInt]
  have h1 : ((a : Int) % ((2 ^ 64 : Nat) : Int)).toNat = a := by omega
  have h2 : ((b : Int) % ((2 ^ 64 : Nat) : Int)).toNat = b := by omega
  rw [h1, h2]
 rw [e]
 exact zf3 (zxh ha hb)
theorem zor {a b : Nat} (ha : a < 2 ^ 62) (hb : b < 2 ^ 62) : zkE .i64 (a : Int) (b : Int) = 0 ↔ a &&& b = a := by
 unfold zkE
 have e : (BitVec.ofInt IntKind.i64.bits (a : Int) &&& ~~~ BitVec.ofInt IntKind.i64.bits (b : Int)).toNat = (BitVec.ofNat 64 a &&& ~~~ BitVec.ofNat 64 b).toNat := by
  show (BitVec.ofInt 64 (a : Int) &&& ~~~ BitVec.ofInt 64 (b : Int)).toNat = _
  congr 2
 rw [e]
 have hle : (BitVec.ofNat 64 a &&& ~~~ BitVec.ofNat 64 b).toNat <= a := by
  rw [BitVec.toNat_and]
  refine Nat.le_trans Nat.and_le_left ?_
  simp only [BitVec.toNat_ofNat]
  omega
 rw [zf3 (by omega)]
 have ta : ∀ i, (BitVec.ofNat 64 a).toNat.testBit i = a.testBit i := fun i => by
  rw [BitVec.toNat_ofNat, Nat.mod_eq_of_lt (by omega)]
 have tb : ∀ i, (BitVec.ofNat 64 b).toNat.testBit i = b.testBit i := fun i => by
  rw [BitVec.toNat_ofNat, Nat.mod_eq_of_lt (by omega)]
 have hz : ∀ i, (BitVec.ofNat 64 a &&& ~~~ BitVec.ofNat 64 b).toNat.testBit i = (a.testBit i && !(b.testBit i)) := fun i => by
  rw [BitVec.testBit_toNat, BitVec.getLsbD_and, BitVec.getLsbD_not]
  by_cases hi : i < 64
  ·simp only [hi, decide_true, Bool.true_and]
   rw [← BitVec.testBit_toNat, ← BitVec.testBit_toNat, ta, tb]
  ·have : a.testBit i = false := Nat.testBit_lt_two_pow (Nat.lt_of_lt_of_le ha (Nat.pow_le_pow_right (by omega) (by omega)))
   rw [← BitVec.testBit_toNat, ta, this]; simp
 constructor
 ·intro h
  have h0 : (BitVec.ofNat 64 a &&& ~~~ BitVec.ofNat 64 b).toNat = 0 := by omega
  apply Nat.eq_of_testBit_eq
  intro i
  have := hz i
  rw [h0, Nat.zero_testBit] at this
  rw [Nat.testBit_and]
  revert this
  cases a.testBit i <;> cases b.testBit i <;> simp
 ·intro h
  have : (BitVec.ofNat 64 a &&& ~~~ BitVec.ofNat 64 b).toNat = 0 := by
   apply Nat.eq_of_testBit_eq
   intro i
   have e2 : (a &&& b).testBit i = a.testBit i := by rw [h]
   rw [Nat.testBit_and] at e2
   rw [hz, Nat.zero_testBit]
   revert e2
   cases a.testBit i <;> cases b.testBit i <;> simp
  omega
theorem zuD {a q : Nat} (hq : q <= 64) : z1e .i64 (a : Int) (q : Int) = ((a >>> q : Nat) : Int) := by
 unfold z1e
 have e : min ((q : Int).toNat) IntKind.i64.bits = q := by
  show min ((q : Int).toNat) 64 = q
  omega
 rw [e, Nat.shiftRight_eq_div_pow, Int.fdiv_eq_ediv_of_nonneg _ (by exact Int.pow_nonneg (by omega))]
 simp
theorem z6T {q : Nat} (hq : q <= 61) : zk4 .i64 1 (q : Int) = ((2 ^ q : Nat) : Int) := by
 rw [zsE]
 have e : min ((q : Int).toNat) IntKind.i64.bits = q := by
  show min ((q : Int).toNat) 64 = q
  omega
 rw [e, Int.one_mul]
 have : ((2 : Int) ^ q) = ((2 ^ q : Nat) : Int) := by simp
 rw [this]
 exact zf3 (Nat.pow_lt_pow_right (by omega) (by omega))
theorem zkB {a q : Nat} (ha : a < 2 ^ 62) (hq : q <= 64) : (z2A .i64 (z1e .i64 (a : Int) (q : Int)) 1 = 1) ↔ a.testBit q = true := by
 rw [zuD hq, show (1 : Int) = ((1 : Nat) : Int) from rfl, zdo (by rw [Nat.shiftRight_eq_div_pow]; exact Nat.lt_of_le_of_lt (Nat.div_le_self _ _) ha) (by decide), Nat.testBit]
 have : (1 &&& a >>> q) = (a >>> q) &&& 1 := Nat.and_comm ..
 rw [this]
 have h2 := Nat.and_one_is_mod (a >>> q)
 rw [h2]
 simp only [bne_iff_ne, ne_eq]
 omega
theorem znk {q : Nat} (h : q < 2 ^ 62) : IntKind.u64.wrap (q : Int) = (q : Int) := by rw [IntKind.wrap_u64]; omega
def zmB (rows : List (List Int)) (s a : Nat) : Nat -> Nat
 | 0 => 0
 | q + 1 => if s.testBit q = true then zmB rows s a q ||| 2 ^ ((rows.getD q []).getD a 0).toNat else zmB rows s a q
def mvN (d : DFA) (s a : Nat) : Nat := zmB d.next s a d.next.length
theorem zhn {d : DFA} {m n : Nat} (hd : DfaOk d m n) {q a : Nat} (hq : q < n) (ha : a < m) : ∃ h1 : q < d.next.length, ∃ h2 : a < d.next[q].length, (d.next.getD q []).getD a 0 = d.next[q][a] /\ 0 <= d.next[q][a] /\ d.next[q][a] < n := by
 have h1 : q < d.next.length := by rw [hd.nl]; exact hq
 have hr := hd.row _ (List.getElem_mem h1)
 have h2 : a < d.next[q].length := by rw [hr.1]; exact ha
 exact ⟨h1, h2, by simp [List.getD, h1, h2], hr.2 _ (List.getElem_mem h2)⟩
theorem zp0 {d : DFA} {m n : Nat} (hd : DfaOk d m n) {s a : Nat} (ha : a < m) (p : Nat) : ∀ q, q <= n -> ((zmB d.next s a q).testBit p = true ↔ ∃ i, i < q /\ s.testBit i = true /\ ((d.next.getD i []).getD a 0).toNat = p)
 | 0, _ => by simp [zmB]
 | q + 1, hq => by
  have ih := zp0 hd (s := s) ha p q (by omega)
  unfold zmB
  by_cases hb : s.testBit q = true
  ·rw [if_pos hb, Nat.testBit_or, Bool.or_eq_true, ih, Nat.testBit_two_pow]
   constructor
   ·rintro (⟨i, h1, h2, h3⟩ | h)
    ·exact ⟨i, by omega, h2, h3⟩
    ·exact ⟨q, by omega, hb, by simpa using h⟩
   ·rintro ⟨i, h1, h2, h3⟩
    by_cases e : i = q
    ·subst e; right; simpa using h3
    ·left; exact ⟨i, by omega, h2, h3⟩
  ·rw [if_neg hb, ih]
   constructor
   ·rintro ⟨i, h1, h2, h3⟩; exact ⟨i, by omega, h2, h3⟩
   ·rintro ⟨i, h1, h2, h3⟩
    by_cases e : i = q
    ·subst e; exact absurd h2 hb
    ·exact ⟨i, by omega, h2, h3⟩
theorem zhv {d : DFA} {m n : Nat} (hd : DfaOk d m n) {s a : Nat} (ha : a < m) : ∀ q, q <= n -> zmB d.next s a q < 2 ^ n
 | 0, _ => Nat.two_pow_pos n
 | q + 1, hq => by
  have ih := zhv hd (s := s) ha q (by omega)
  unfold zmB
  split
  ·obtain ⟨h1, h2, e, h3, h4⟩ := zhn hd (q := q) (by omega) ha
   refine zxh ih (Nat.pow_lt_pow_right (by omega) ?_)
   rw [e]; omega
  ·exact ih
theorem zkf {d : DFA} {m n : Nat} (hd : DfaOk d m n) {s a : Nat} (ha : a < m) (p : Nat) : (mvN d s a).testBit p = true ↔ ∃ i, i < n /\ s.testBit i = true /\ ((d.next.getD i []).getD a 0).toNat = p := by
 unfold mvN; rw [hd.nl]; exact zp0 hd ha p n (Nat.le_refl _)
theorem zjm {d : DFA} {m n : Nat} (hd : DfaOk d m n) {s a : Nat} (ha : a < m) : mvN d s a < 2 ^ n := by
 unfold mvN; rw [hd.nl]; exact zhv hd ha n (Nat.le_refl _)
theorem zev {n : Nat} (h : n <= 12) : 2 ^ n <= 4096 := Nat.pow_le_pow_right (n := 2) (by omega) h
theorem zt8 {d : DFA} {m n : Nat} (hd : DfaOk d m n) (hn : n <= 12) {s a : Nat} (hs : s < 2 ^ n) (ha : a < m) : z5U d (s : Int) (a : Int) = some ((mvN d s a : Nat) : Int) := by
 have h12 := zev hn
 unfold z5U mvN
 refine z1I (s := ((0 : Int), (0 : Int))) n (fun q => (((zmB d.next s a q : Nat) : Int), (q : Int))) rfl (by simp only [LFm]; omega) (fun q hq => ?_) ?_
 ·have hlt := zhv hd (s := s) ha q (by omega)
  obtain ⟨h1, h2, e, h3, h4⟩ := zhn hd (q := q) hq ha
  simp only [z6h]
  rw [if_pos (by omega), z1P h1]
  simp only [Option.bind_some]
  rw [z0K _ (by omega), z1X (by omega)]
  by_cases hb : s.testBit q = true
  ·rw [if_pos ((zkB (by omega) (by omega)).2 hb), z1P h2]
   simp only [Option.bind_some]
   obtain ⟨v, hv⟩ := Int.eq_ofNat_of_zero_le h3
   rw [z0K _ (by omega), hv, z6T (by omega), zt3 (by omega) (Nat.pow_lt_pow_right (by omega) (by omega))]
   simp only [zmB]
   rw [if_pos hb, e, hv, Int.toNat_natCast]
  ·rw [if_neg (fun h => hb ((zkB (by omega) (by omega)).1 h))]
   simp only [zmB]
   rw [if_neg hb]
 ·simp only [z6h]
  rw [if_neg (by rw [hd.nl]; omega), hd.nl]
theorem zue {d : DFA} {m n : Nat} (hd : DfaOk d m n) (hn : n <= 12) {s a : Nat} (hs : s < 2 ^ n) (ha : a < m) : z6D d (s : Int) (a : Int) = some ((mvN d s a : Nat) : Int) := by
 have h12 := zev hn
 unfold z6D mvN
 refine z1I (s := ((0 : Int), (0 : Int))) n (fun q => (((zmB d.next s a q : Nat) : Int), (q : Int))) rfl (by simp only [LFm]; omega) (fun q hq => ?_) ?_
 ·have hlt := zhv hd (s := s) ha q (by omega)
  obtain ⟨h1, h2, e, h3, h4⟩ := zhn hd (q := q) hq ha
  simp only [z5y]
  rw [if_pos (by rw [hd.fin]; omega), znk (by omega), z0K _ (by omega), z1X (by omega)]
  by_cases hb : s.testBit q = true
  ·rw [if_pos ((zkB (by omega) (by omega)).2 hb), z1P h1]
   simp only [Option.bind_some]
   rw [z1P h2]
   simp only [Option.bind_some]
   obtain ⟨v, hv⟩ := Int.eq_ofNat_of_zero_le h3
   rw [hv, znk (by omega), z0K _ (by omega), z6T (by omega), zt3 (by omega) (Nat.pow_lt_pow_right (by omega) (by omega))]
   simp only [zmB]
   rw [if_pos hb, e, hv, Int.toNat_natCast]
  ·rw [if_neg (fun h => hb ((zkB (by omega) (by omega)).1 h))]
   simp only [zmB]
   rw [if_neg hb]
 ·simp only [z5y]
  rw [if_neg (by rw [hd.fin]; omega), hd.nl]
end Go.Proofs.Ytbnnipkanechoaa
end
section
namespace Go.Proofs.Ytbnnipkanechoaa
open Go
set_option maxRecDepth 100000
def zwK (d : DFA) (r : List Int) : Bool := decide ((r.length : Int) = d.letters) && r.all fun x => decide (0 <= x /\ x < (d.final.length : Int))
def z9Q (d : DFA) : Bool := decide (d.next.length = d.final.length) && decide (0 <= d.start /\ d.start < (d.final.length : Int)) && d.next.all (zwK d)
def zvu (d : DFA) : Int := if d.letters < 1 ∨ 6 < d.letters then 1 else if 512 < d.final.length then 3 else if z9Q d = true then 0 else 4
def zwS (d : DFA) : Prop := d.final.length < 2 ^ 61 /\ d.next.length < 2 ^ 61 /\ ∀ r ∈ d.next, r.length < 2 ^ 61
theorem zou {d : DFA} (hc : zwS d) : z1b (z4i d) LFm 0 = some (if d.next.all (zwK d) = true then 0 else 4) := by
 rw [zmJ (l := d.next) ([] : List Int) (zwK d) (A := some 4) (B := some 0) (by have := hc.2.1; omega) (fun k hk => ?_) ?_]
 ·split <;> rfl
 ·simp only [z4i]
  rw [if_neg (by omega)]
 ·simp only [z4i]
  have hkl := hc.2.1
  have hrl := hc.2.2 _ (List.getElem_mem hk)
  rw [if_pos (by omega), z1P hk]
  simp only [Option.bind_some, List.getD, List.getElem?_eq_getElem hk, Option.getD_some]
  by_cases hl : (d.next[k].length : Int) = d.letters
  ·rw [if_pos hl]
   rw [zmJ (l := d.next[k]) (0 : Int) (fun x => decide (0 <= x /\ x < (d.final.length : Int))) (A := z1m (some 4)) (B := z0B ((k + 1 : Nat) : Int)) (by omega) (fun j hj => ?_) ?_]
   ·simp only [zwK, hl, decide_true, Bool.true_and]
   ·simp only [z5l]
    rw [if_neg (by omega), z1X (by omega)]
   ·simp only [z5l]
    rw [if_pos (by omega), z1P hj]
    simp only [Option.bind_some, List.getD, List.getElem?_eq_getElem hj, Option.getD_some]
    by_cases h1 : d.next[k][j] < 0
    ·rw [if_pos h1, if_neg (by simp; omega)]
    ·rw [if_neg h1]
     by_cases h2 : (d.final.length : Int) <= d.next[k][j]
     ·rw [if_pos h2, if_neg (by simp; omega)]
     ·rw [if_neg h2, if_pos (by simp; omega), z1X (by omega)]
  ·rw [if_neg hl]
   rw [if_neg (by simp [zwK, hl])]
theorem ztS {d : DFA} (hc : zwS d) : z6H d = some (zvu d) := by
 unfold z6H zvu
 by_cases h1 : d.letters < 1
 ·rw [if_pos h1, if_pos (.inl h1)]
 rw [if_neg h1]
 by_cases h2 : 6 < d.letters
 ·rw [if_pos h2, if_pos (.inr h2)]
 have hno : ¬ (d.letters < 1 ∨ 6 < d.letters) := by omega
 rw [if_neg h2, if_neg hno]
 by_cases h3 : 512 < (d.final.length : Int)
 ·have h3' : 512 < d.final.length := by omega
  rw [if_pos h3, if_pos h3']
 have h3' : ¬ 512 < d.final.length := by omega
 rw [if_neg h3, if_neg h3']
 by_cases h4 : (d.next.length : Int) = (d.final.length : Int)
 ·rw [if_pos h4]
  by_cases h5 : d.start < 0
  ·rw [if_pos h5, if_neg (by simp [z9Q]; omega)]
  rw [if_neg h5]
  by_cases h6 : (d.final.length : Int) <= d.start
  ·rw [if_pos h6, if_neg (by simp [z9Q]; omega)]
  rw [if_neg h6, zou hc]
  congr 1
  have e1 : decide (d.next.length = d.final.length) = true := by simp; omega
  have e2 : decide (0 <= d.start /\ d.start < (d.final.length : Int)) = true := by simp; omega
  simp only [z9Q, e1, e2, Bool.true_and]
 ·rw [if_neg h4, if_neg (by simp [z9Q]; omega)]
theorem zwD (d : DFA) : z5O d = z4i d := rfl
theorem zsW {d : DFA} (hc : zwS d) : z5c d = some (zvu d) := by
 unfold z5c z5h zvu
 by_cases h1 : 1 <= d.letters
 ·rw [if_pos h1]
  simp only [Option.bind_some]
  by_cases h2 : 6 < d.letters
  ·have hno : d.letters < 1 ∨ 6 < d.letters := .inr h2
   rw [if_neg (by simp; omega), if_pos hno]
  ·have hno : ¬ (d.letters < 1 ∨ 6 < d.letters) := by omega
   rw [if_pos (by simp; omega), if_neg hno]
   by_cases h3 : 512 < (d.final.length : Int)
   ·have h3' : 512 < d.final.length := by omega
    rw [if_pos h3, if_pos h3']
   have h3' : ¬ 512 < d.final.length := by omega
   rw [if_neg h3, if_neg h3']
   by_cases h0 : (d.final.length : Int) = 0
   ·rw [if_pos h0, if_neg (by simp [z9Q]; omega)]
   rw [if_neg h0]
   by_cases h4 : (d.next.length : Int) = (d.final.length : Int)
   ·rw [if_pos h4]
    by_cases h5 : d.start < 0
    ·rw [if_pos h5, if_neg (by simp [z9Q]; omega)]
    rw [if_neg h5]
    by_cases h6 : (d.final.length : Int) <= d.start
    ·rw [if_pos h6, if_neg (by simp [z9Q]; omega)]
    rw [if_neg h6, zwD, zou hc]
    congr 1
    have e1 : decide (d.next.length = d.final.length) = true := by simp; omega
    have e2 : decide (0 <= d.start /\ d.start < (d.final.length : Int)) = true := by simp; omega
    simp only [z9Q, e1, e2, Bool.true_and]
   ·rw [if_neg h4, if_neg (by simp [z9Q]; omega)]
 ·rw [if_neg h1]
  simp only [Option.bind_some]
  have hno : d.letters < 1 ∨ 6 < d.letters := by omega
  rw [if_pos hno]
  rfl
def zwO (d : DFA) : Int := if zvu d = 0 then (if 12 < d.final.length then 3 else 0) else zvu d
theorem zno {d : DFA} (hc : zwS d) : z4F d = some (zwO d) := by
 unfold z4F zwO
 rw [ztS hc]
 simp only [Option.bind_some]
 split
 ·split
  ·rw [if_pos (by omega)]
  ·rw [if_neg (by omega)]
 ·rfl
theorem zxO {d : DFA} (hc : zwS d) : z9U d = some (zwO d) := by
 unfold z9U zwO
 rw [zsW hc]
 simp only [Option.bind_some]
 split
 ·split
  ·rw [if_pos (by omega)]
  ·rw [if_neg (by omega)]
 ·rfl
theorem zwZ {d : DFA} {m n : Nat} (hd : DfaOk d m n) (hn : n <= 512) : zvu d = 0 := by
 have h1 := hd.lt
 have h2 := hd.m1
 have h3 := hd.m6
 have hf := hd.fin
 have hl := hd.nl
 unfold zvu
 rw [if_neg (by omega), if_neg (by omega), if_pos]
 have e1 : decide (d.next.length = d.final.length) = true := by simp; omega
 have e2 : decide (0 <= d.start /\ d.start < (d.final.length : Int)) = true := by have := hd.s0; have := hd.s1; simp; omega
 simp only [z9Q, e1, e2, Bool.true_and, List.all_eq_true]
 intro r hr
 obtain ⟨a, b⟩ := hd.row r hr
 have e3 : decide ((r.length : Int) = d.letters) = true := by simp; omega
 simp only [zwK, e3, Bool.true_and, List.all_eq_true, decide_eq_true_eq]
 intro x hx
 have := b x hx
 omega
theorem zvF {d : DFA} {m n : Nat} (hd : DfaOk d m n) (hn : n <= 12) : zwO d = 0 := by
 have hf := hd.fin
 unfold zwO
 rw [zwZ hd (by omega), if_pos rfl, if_neg (by omega)]
theorem zvM {d : DFA} {m n : Nat} (hd : DfaOk d m n) (hn : n <= 12) : zwS d := ⟨by rw [hd.fin]; omega, by rw [hd.nl]; omega, fun r hr => by have := (hd.row r hr).1; have := hd.m6; omega⟩
def zwY (m : Nat) (w : ByteArray) : Prop := w.size <= 2048 /\ ∀ c ∈ w.data.toList, 97 <= c.toNat /\ c.toNat < 97 + m
instance (m : Nat) (w : ByteArray) : Decidable (zwY m w) := by unfold zwY; exact inferInstance
theorem zxP {d : DFA} {m n : Nat} (hd : DfaOk d m n) (hn : n <= 12) : z9V d = some (((2 ^ n - 1 : Nat) : Int)) := by
 have h12 := zev hn
 have hp := Nat.two_pow_pos n
 unfold z9V
 rw [hd.fin, znk (by omega), z0K _ (by omega), z6T (by omega), z2E (by omega) (by omega)]
 congr 1
 omega
theorem zbt {r p : Nat} (hr : r < 2 ^ 62) (hp : p < 2 ^ 62) : z3y (r : Int) (p : Int) = some (decide (p &&& r = p)) := by
 unfold z3y
 congr 1
 rw [Bool.eq_iff_iff]; simp only [decide_eq_true_eq]
 exact zor hp hr
def zkJ (d : DFA) : Nat -> List UInt8 -> Nat
 | s, [] => s
 | s, c :: w => zkJ d (mvN d s (c.toNat - 97)) w
theorem zbm (d : DFA) : ∀ (s : Nat) (u v : List UInt8), zkJ d s (u ++ v) = zkJ d (zkJ d s u) v
 | s, [], v => rfl
 | s, c :: u, v => by simp only [List.cons_append, zkJ, zbm]
theorem zsN {d : DFA} {m n : Nat} (hd : DfaOk d m n) : ∀ {w : List UInt8} {s : Nat}, s < 2 ^ n -> (∀ c ∈ w, 97 <= c.toNat /\ c.toNat < 97 + m) -> zkJ d s w < 2 ^ n
 | [], s, hs, _ => hs
 | c :: w, s, hs, hw => by
  have hc := hw c (List.mem_cons_self ..)
  exact zsN (w := w) (s := mvN d s (c.toNat - 97)) hd (zjm hd (by omega)) fun c' hc' => hw c' (List.mem_cons_of_mem _ hc')
end Go.Proofs.Ytbnnipkanechoaa
end
section
namespace Go.Proofs.Ytbnnipkanechoaa
open Go
set_option maxRecDepth 100000
def zxW (a : Nat) : ByteArray := ⟨#[UInt8.ofNat (97 + a)]⟩
abbrev RS := List Nat × List ByteArray
def zk2 (d : DFA) (i a : Nat) (st : RS) : RS := if mvN d (st.1.getD i 0) a ∈ st.1 then st else (st.1 ++ [mvN d (st.1.getD i 0) a], st.2 ++ [st.2.getD i ByteArray.empty ++ zxW a])
def z7f (d : DFA) (i : Nat) (st : RS) : Nat -> RS
 | 0 => st
 | a + 1 => zk2 d i a (z7f d i st a)
def z6J (d : DFA) (m s : Nat) : Nat -> RS
 | 0 => ([s], [ByteArray.empty])
 | k + 1 => if k < (z6J d m s k).1.length then z7f d k (z6J d m s k) m else z6J d m s k
structure RInv (d : DFA) (m n s : Nat) (st : RS) : Prop where
 nd : st.1.Nodup
 lt : ∀ x ∈ st.1, x < 2 ^ n
 len : st.2.length = st.1.length
 f0 : st.1[0]? = some s
 w0 : st.2[0]? = some ByteArray.empty
 ok : ∀ i, i < st.1.length -> (st.2.getD i ByteArray.empty).size <= i /\ (∀ c ∈ (st.2.getD i ByteArray.empty).data.toList, 97 <= c.toNat /\ c.toNat < 97 + m) /\ zkJ d s (st.2.getD i ByteArray.empty).data.toList = st.1.getD i 0
theorem z9v {α : Type} {l r : List α} {i : Nat} (d : α) (h : i < l.length) : (l ++ r).getD i d = l.getD i d := by
 rw [List.getD, List.getD, List.getElem?_append_left h]
theorem zhH {α : Type} {l : List α} {x d : α} {i : Nat} (h : i = l.length) : (l ++ [x]).getD i d = x := by
 subst h; simp [List.getD]
theorem z1x {l : List Nat} {i : Nat} (h : i < l.length) : l.getD i 0 ∈ l := by
 rw [List.getD, List.getElem?_eq_getElem h]; exact List.getElem_mem h
theorem ztn {α : Type} : ∀ {l r : List α}, l.Nodup -> (∀ x ∈ l, x ∈ r) -> l.length <= r.length
 | [], r, _, _ => by simp
 | x :: l, r, hn, hs => by
  obtain ⟨a, b, rfl⟩ := List.append_of_mem (hs x (List.mem_cons_self ..))
  have hn' := List.nodup_cons.1 hn
  have := ztn (r := a ++ b) hn'.2 fun y hy => by
   have h1 := hs y (List.mem_cons_of_mem _ hy)
   have hne : y ≠ x := fun e => hn'.1 (e ▸ hy)
   rcases List.mem_append.1 h1 with h | h
   ·exact List.mem_append.2 (.inl h)
   ·rcases List.mem_cons.1 h with h | h
    ·exact absurd h hne
    ·exact List.mem_append.2 (.inr h)
  simp only [List.length_cons, List.length_append] at *
  omega
theorem z1r {l : List Nat} {N : Nat} (hn : l.Nodup) (hl : ∀ x ∈ l, x < N) : l.length <= N := by
 have := ztn hn (r := List.range N) fun x hx => List.mem_range.2 (hl x hx)
 simpa using this
theorem ztm (a : Nat) : (zxW a).data.toList = [UInt8.ofNat (97 + a)] := rfl
theorem zvh (u v : ByteArray) : (u ++ v).data.toList = u.data.toList ++ v.data.toList := by simp
theorem zvg (u v : ByteArray) : (u ++ v).size = u.size + v.size := by simp
theorem zd7 (a : Nat) : (zxW a).size = 1 := rfl
theorem zp5 {a : Nat} (h : a < 26) : (UInt8.ofNat (97 + a)).toNat = 97 + a := by simp [UInt8.toNat_ofNat']; omega
theorem zuB {d : DFA} {m n s : Nat} (hd : DfaOk d m n) {st : RS} (h : RInv d m n s st) {i a : Nat} (hi : i < st.1.length) (ha : a < m) :
  RInv d m n s (zk2 d i a st) /\ mvN d (st.1.getD i 0) a ∈ (zk2 d i a st).1 /\ ∃ S W, (zk2 d i a st).1 = st.1 ++ S /\ (zk2 d i a st).2 = st.2 ++ W := by
 have hm6 := hd.m6
 unfold zk2
 split
 ·rename_i hm
  exact ⟨h, hm, [], [], by simp, by simp⟩
 ·rename_i hm
  obtain ⟨o1, o2, o3⟩ := h.ok i hi
  refine ⟨⟨?_, ?_, by simp [h.len], ?_, ?_, ?_⟩, by simp, _, _, rfl, rfl⟩
  ·refine List.nodup_append.2 ⟨h.nd, by simp, fun x hx y hy => ?_⟩
   obtain rfl : y = _ := by simpa using hy
   exact fun e => hm (e ▸ hx)
  ·intro x hx
   rcases List.mem_append.1 hx with hx | hx
   ·exact h.lt x hx
   ·obtain rfl : x = _ := by simpa using hx
    exact zjm hd ha
  ·rw [List.getElem?_append_left (by omega)]; exact h.f0
  ·rw [List.getElem?_append_left (by rw [h.len]; omega)]; exact h.w0
  ·intro j hj
   simp only [List.length_append, List.length_singleton] at hj
   by_cases e : j = st.1.length
   ·rw [zhH e, zhH (by rw [h.len]; exact e), zvg, zvh, ztm, zd7, zbm, o3]
    refine ⟨by omega, fun c hc => ?_, ?_⟩
    ·rcases List.mem_append.1 hc with hc | hc
     ·exact o2 c hc
     ·obtain rfl := List.mem_singleton.1 hc
      rw [zp5 (by omega)]; omega
    ·simp only [zkJ]
     rw [zp5 (by omega), Nat.add_sub_cancel_left]
   ·rw [z9v _ (show j < st.2.length by rw [h.len]; omega), z9v _ (show j < st.1.length by omega)]
    exact h.ok j (by omega)
theorem zhD {d : DFA} {m n s : Nat} (hd : DfaOk d m n) {st : RS} (h : RInv d m n s st) {i : Nat} (hi : i < st.1.length) : ∀ a, a <= m ->
  RInv d m n s (z7f d i st a) /\ (∀ b, b < a -> mvN d (st.1.getD i 0) b ∈ (z7f d i st a).1) /\ (∃ S W, (z7f d i st a).1 = st.1 ++ S /\ (z7f d i st a).2 = st.2 ++ W)
 | 0, _ => ⟨h, fun b hb => by omega, [], [], by simp [z7f], by simp [z7f]⟩
 | a + 1, ha => by
  obtain ⟨h1, h2, S, W, h3, h4⟩ := zhD hd h hi a (by omega)
  have hi' : i < (z7f d i st a).1.length := by rw [h3, List.length_append]; omega
  obtain ⟨k1, k2, S', W', k3, k4⟩ := zuB hd h1 hi' (show a < m by omega)
  have e : (z7f d i st a).1.getD i 0 = st.1.getD i 0 := by rw [h3, z9v _ hi]
  rw [e] at k2
  refine ⟨k1, fun b hb => ?_, S ++ S', W ++ W', by rw [z7f, k3, h3, List.append_assoc], by rw [z7f, k4, h4, List.append_assoc]⟩
  by_cases hb' : b = a
  ·subst hb'; exact k2
  ·rw [z7f, k3]; exact List.mem_append.2 (.inl (h2 b (by omega)))
theorem z9S {d : DFA} {m n s : Nat} (hd : DfaOk d m n) (hs : s < 2 ^ n) : ∀ k, RInv d m n s (z6J d m s k) /\ ∀ j, j < k -> j < (z6J d m s k).1.length -> ∀ a, a < m -> mvN d ((z6J d m s k).1.getD j 0) a ∈ (z6J d m s k).1
 | 0 => ⟨⟨by simp [z6J], by simpa [z6J] using hs, rfl, rfl, rfl, fun i hi => by
   obtain rfl : i = 0 := by simpa [z6J] using hi
   exact ⟨Nat.le_refl _, fun c hc => by simp [z6J, List.getD] at hc, rfl⟩⟩, fun j hj => by omega⟩
 | k + 1 => by
  obtain ⟨h1, h2⟩ := z9S hd hs k
  unfold z6J
  split
  ·rename_i hk
   obtain ⟨k1, k2, S, W, k3, k4⟩ := zhD hd h1 hk m (Nat.le_refl _)
   refine ⟨k1, fun j hj hjl a ha => ?_⟩
   by_cases e : j = k
   ·subst e
    have := k2 a ha
    rwa [show (z7f d j (z6J d m s j) m).1.getD j 0 = (z6J d m s j).1.getD j 0 by rw [k3, z9v _ hk]]
   ·have hj' : j < (z6J d m s k).1.length := by omega
    have := h2 j (by omega) hj' a ha
    rw [show (z7f d k (z6J d m s k) m).1.getD j 0 = (z6J d m s k).1.getD j 0 by rw [k3, z9v _ hj'], k3]
    exact List.mem_append.2 (.inl this)
  ·rename_i hk
   exact ⟨h1, fun j hj hjl a ha => h2 j (by omega) hjl a ha⟩
theorem zk8 {d : DFA} {m n s : Nat} (hd : DfaOk d m n) (hs : s < 2 ^ n) (k : Nat) : (z6J d m s k).1.length <= 2 ^ n := z1r (z9S hd hs k).1.nd (z9S hd hs k).1.lt
theorem zfy {d : DFA} {m s : Nat} {k : Nat} (h : ¬ k < (z6J d m s k).1.length) : ∀ j, k <= j -> z6J d m s j = z6J d m s k
 | 0, hj => by
  obtain rfl : k = 0 := by omega
  rfl
 | j + 1, hj => by
  by_cases e : k = j + 1
  ·rw [e]
  ·have ih := zfy h j (by omega)
   rw [z6J, ih, if_neg (by omega)]
def z1s (d : DFA) (m n s : Nat) : RS := z6J d m s (2 ^ n)
theorem zeP {d : DFA} {m n s : Nat} (hd : DfaOk d m n) (hs : s < 2 ^ n) {x a : Nat} (hx : x ∈ (z1s d m n s).1) (ha : a < m) : mvN d x a ∈ (z1s d m n s).1 := by
 obtain ⟨i, hi, rfl⟩ := List.getElem_of_mem hx
 have hl := zk8 hd hs (2 ^ n)
 have := (z9S hd hs (2 ^ n)).2 i (by unfold z1s at hi; omega) hi a ha
 have e : (z6J d m s (2 ^ n)).1.getD i 0 = (z1s d m n s).1[i] := by
  show (z1s d m n s).1.getD i 0 = _
  rw [List.getD, List.getElem?_eq_getElem hi, Option.getD_some]
 rw [e] at this
 exact this
theorem z4E {d : DFA} {m n s : Nat} (hd : DfaOk d m n) (hs : s < 2 ^ n) : RInv d m n s (z1s d m n s) := (z9S hd hs _).1
def toI (l : List Nat) : List Int := l.map fun x => ((x : Nat) : Int)
theorem z0v (l : List Nat) : (toI l).length = l.length := by simp [toI]
theorem z6Q (l : List Nat) (x : Nat) : toI (l ++ [x]) = toI l ++ [((x : Nat) : Int)] := by simp [toI]
theorem z2Q {l : List Nat} {i : Nat} (h : i < l.length) : atI (toI l) (i : Int) = some ((l.getD i 0 : Nat) : Int) := by
 rw [z1P (by rw [z0v]; exact h)]
 simp [toI, List.getD, h]
theorem zk1 {l : List ByteArray} {i : Nat} (h : i < l.length) : atI l (i : Int) = some (l.getD i ByteArray.empty) := by
 rw [z1P h, List.getD, List.getElem?_eq_getElem h, Option.getD_some]
def zmE (n : Nat) (S : List Nat) : List Bool := (List.range (2 ^ n)).map fun x => decide (x ∈ S)
theorem zxr {n : Nat} {S : List Nat} {x : Nat} (h : x < 2 ^ n) : atI (zmE n S) (x : Int) = some (decide (x ∈ S)) := by
 rw [z1P (by simpa [zmE] using h)]; simp [zmE]
theorem ztb {n : Nat} {S : List Nat} {x : Nat} : (zmE n S).set x true = zmE n (S ++ [x]) := by
 apply List.ext_getElem (by simp [zmE])
 intro i h1 h2
 simp only [zmE, List.getElem_set, List.getElem_map, List.getElem_range, List.mem_append, List.mem_singleton]
 by_cases e : x = i
 ·subst e; simp
 ·rw [if_neg e]
  have : ¬ i = x := fun h => e h.symm
  simp [this]
theorem ztc {n s : Nat} : (List.replicate (2 ^ n) false).set s true = zmE n [s] := by
 have : List.replicate (2 ^ n) false = zmE n [] := by
  apply List.ext_getElem (by simp [zmE])
  intro i h1 h2
  simp [zmE]
 rw [this, ztb]; rfl
def ztf (S : List Nat) : List (Int × Bool) := S.map fun x => (((x : Nat) : Int), true)
theorem zte (x : Nat) : ∀ S : List Nat, ((zhG ((x : Nat) : Int) (ztf S)).getD false) = decide (x ∈ S)
 | [] => rfl
 | y :: S => by
  have ih := zte x S
  simp only [ztf, List.map_cons, zhG]
  by_cases e : y = x
  ·subst e; simp
  ·rw [if_neg (by omega)]
   have : ¬ x = y := fun h => e h.symm
   simp only [List.mem_cons, this, false_or]
   exact ih
theorem map_set {x : Nat} : ∀ {S : List Nat}, x ∉ S -> zk6 ((x : Nat) : Int) true (ztf S) = ztf (S ++ [x])
 | [], _ => rfl
 | y :: S, h => by
  have ih := map_set (x := x) (S := S) (fun hh => h (List.mem_cons_of_mem _ hh))
  have hne : y ≠ x := fun e => h (by simp [e])
  simp only [ztf, List.map_cons, zk6, List.cons_append]
  rw [if_neg (by omega)]
  congr 1
theorem zo2 {a : Nat} (h : a < 26) : (⟨#[UInt8.ofNat (IntKind.u8.wrap (IntKind.i64.wrap (97 + (a : Int)))).toNat]⟩ : ByteArray) = zxW a := by
 rw [z2E (by omega) (by omega), zyd (by omega) (by omega)]
 have : (97 + (a : Int)).toNat = 97 + a := by omega
 rw [this]; rfl
theorem zo6 {d : DFA} {m n s : Nat} (hd : DfaOk d m n) (hn : n <= 12) {st : RS} (h : RInv d m n s st) {i : Nat} (hi : i < st.1.length) :
  z1b (z4H d i) LFm (0, zmE n st.1, toI st.1, st.2) = z0B (((i + 1 : Nat) : Int), zmE n (z7f d i st m).1, toI (z7f d i st m).1, (z7f d i st m).2) := by
 have h12 := zev hn
 have hm6 := hd.m6
 have hl := z1r h.nd h.lt
 refine z1I (s := ((0 : Int), zmE n st.1, toI st.1, st.2)) m (fun a => ((a : Int), zmE n (z7f d i st a).1, toI (z7f d i st a).1, (z7f d i st a).2)) rfl (by simp only [LFm]; omega) (fun a ha => ?_) ?_
 ·obtain ⟨k1, _, S, W, k3, k4⟩ := zhD hd h hi a (by omega)
  have hl2 := z1r k1.nd k1.lt
  have hi' : i < (z7f d i st a).1.length := by rw [k3, List.length_append]; omega
  have hx : (z7f d i st a).1.getD i 0 < 2 ^ n := k1.lt _ (z1x hi')
  obtain ⟨o1, _, _⟩ := k1.ok i hi'
  simp only [z4H]
  rw [if_pos (by rw [hd.lt]; omega), z2Q hi']
  simp only [Option.bind_some]
  rw [zt8 hd hn hx ha]
  simp only [Option.bind_some]
  rw [zxr (zjm hd ha)]
  simp only [Option.bind_some, decide_eq_true_eq]
  rw [z1X (by omega), z7f]
  unfold zk2
  have hml := zjm hd (s := (z7f d i st a).1.getD i 0) ha
  have hlt := hd.lt
  clear hd h k3 k4
  revert hml
  generalize z7f d i st a = st' at *
  generalize mvN d (st'.1.getD i 0) a = x
  intro hml
  by_cases hm : x ∈ st'.1
  ·rw [if_pos hm, if_pos hm]
  ·rw [if_neg hm, if_neg hm, z0K _ (by unfold z2i; rw [z0v]; omega), zk1 (by rw [k1.len]; exact hi'), Option.bind_some]
   rw [zo2 (by omega), z0K _ (by unfold z9E; rw [zd7]; omega), z0K _ (by unfold z2i; rw [k1.len]; omega), Int.toNat_natCast, ztb]
   rw [z6Q]
 ·simp only [z4H]
  rw [if_neg (by rw [hd.lt]; omega), z1X (by omega)]
theorem zuP {d : DFA} {m n s : Nat} (hd : DfaOk d m n) (hn : n <= 12) (hs : s < 2 ^ n) : z6G d (s : Int) = some (toI (z1s d m n s).1, (z1s d m n s).2) := by
 have h12 := zev hn
 have hp := Nat.two_pow_pos n
 unfold z6G
 rw [hd.fin, z0K _ (by omega), z6T (by omega), z0K _ (by unfold z2k; omega), z0K _ (by omega), Int.toNat_natCast, Int.toNat_natCast, ztc]
 refine zd5 (s := ((0 : Int), zmE n [s], [(s : Int)], [ByteArray.empty])) (fun z => ∃ k : Nat, k <= 2 ^ n /\ z = ((k : Int), zmE n (z6J d m s k).1, toI (z6J d m s k).1, (z6J d m s k).2)) (fun z => 2 ^ n + 1 - z.1.toNat) ⟨0, by omega, rfl⟩ (by simp only [LFm]; omega) ?_
 rintro z ⟨k, hk, rfl⟩
 have hl := zk8 hd hs k
 simp only [z7E]
 by_cases h : k < (z6J d m s k).1.length
 ·left
  rw [if_pos (by rw [z0v]; omega), zo6 hd hn (z9S hd hs k).1 h]
  refine ⟨_, rfl, ⟨k + 1, by omega, ?_⟩, by simp only; omega⟩
  rw [z6J, if_pos h]
 ·right
  rw [if_neg (by rw [z0v]; omega)]
  unfold z1s
  rw [zfy h _ hk]
theorem zo7 {d : DFA} {m n s : Nat} (hd : DfaOk d m n) (hn : n <= 12) {st : RS} (h : RInv d m n s st) {i : Nat} (hi : i < st.1.length) :
  z1b (z5b d i) LFm (0, toI st.1, st.2, ztf st.1) = z0B (((i + 1 : Nat) : Int), toI (z7f d i st m).1, (z7f d i st m).2, ztf (z7f d i st m).1) := by
 have h12 := zev hn
 have hm6 := hd.m6
 have hl := z1r h.nd h.lt
 refine z1I (s := ((0 : Int), toI st.1, st.2, ztf st.1)) m (fun a => ((a : Int), toI (z7f d i st a).1, (z7f d i st a).2, ztf (z7f d i st a).1)) rfl (by simp only [LFm]; omega) (fun a ha => ?_) ?_
 ·obtain ⟨k1, _, S, W, k3, k4⟩ := zhD hd h hi a (by omega)
  have hl2 := z1r k1.nd k1.lt
  have hi' : i < (z7f d i st a).1.length := by rw [k3, List.length_append]; omega
  have hx : (z7f d i st a).1.getD i 0 < 2 ^ n := k1.lt _ (z1x hi')
  obtain ⟨o1, _, _⟩ := k1.ok i hi'
  simp only [z5b]
  rw [if_pos (by rw [hd.lt]; omega), z2Q hi']
  simp only [Option.bind_some]
  rw [zue hd hn hx ha]
  simp only [Option.bind_some]
  rw [zte]
  simp only [decide_eq_true_eq]
  rw [z1X (by omega), z7f]
  unfold zk2
  by_cases hm : mvN d ((z7f d i st a).1.getD i 0) a ∈ (z7f d i st a).1
  ·rw [if_pos hm, if_pos hm]
  ·rw [if_neg hm, if_neg hm, zk1 (by rw [k1.len]; exact hi'), Option.bind_some]
   rw [z0K _ (by unfold z2i; rw [z0v]; omega), zo2 (by omega), z0K _ (by unfold z9E; rw [zd7]; omega), z0K _ (by unfold z2i; rw [k1.len]; omega), map_set hm, z6Q]
 ·simp only [z5b]
  rw [if_neg (by rw [hd.lt]; omega), z1X (by omega)]
theorem zfJ {d : DFA} {m n s : Nat} (hd : DfaOk d m n) (hn : n <= 12) (hs : s < 2 ^ n) : z4A d (s : Int) = some (toI (z1s d m n s).1, (z1s d m n s).2) := by
 have h12 := zev hn
 have hp := Nat.two_pow_pos n
 unfold z4A
 refine zd5 (s := ((0 : Int), [(s : Int)], [ByteArray.empty], ztf [s])) (fun z => ∃ k : Nat, k <= 2 ^ n /\ z = ((k : Int), toI (z6J d m s k).1, (z6J d m s k).2, ztf (z6J d m s k).1)) (fun z => 2 ^ n + 1 - z.1.toNat) ⟨0, by omega, rfl⟩ (by simp only [LFm]; omega) ?_
 rintro z ⟨k, hk, rfl⟩
 have hl := zk8 hd hs k
 simp only [z8g]
 by_cases h : k < (z6J d m s k).1.length
 ·left
  rw [if_pos (by rw [z0v]; omega), zo7 hd hn (z9S hd hs k).1 h]
  refine ⟨_, rfl, ⟨k + 1, by omega, ?_⟩, by simp only; omega⟩
  rw [z6J, if_pos h]
 ·right
  rw [if_neg (by rw [z0v]; omega)]
  unfold z1s
  rw [zfy h _ hk]
end Go.Proofs.Ytbnnipkanechoaa
end
section
namespace Go.Proofs.Ytbnnipkanechoaa
open Go
set_option maxRecDepth 100000
def zkI (p r : Nat) : Prop := p &&& r = p
theorem z6b {p r : Nat} : zkI p r ↔ ∀ q, p.testBit q = true -> r.testBit q = true := by
 unfold zkI
 constructor
 ·intro h q hq
  have : (p &&& r).testBit q = true := by rw [h]; exact hq
  rw [Nat.testBit_and, Bool.and_eq_true] at this
  exact this.2
 ·intro h
  apply Nat.eq_of_testBit_eq
  intro q
  rw [Nat.testBit_and]
  cases hp : p.testBit q with
  | false => rfl
  | true => rw [h q hp]; rfl
theorem zuA (p : Nat) : zkI p p := Nat.and_self p
theorem zsw {p q r : Nat} (h1 : zkI p q) (h2 : zkI q r) : zkI p r := z6b.2 fun i hi => z6b.1 h2 i (z6b.1 h1 i hi)
theorem zma {p q : Nat} (h1 : zkI p q) (h2 : zkI q p) : p = q := Nat.eq_of_testBit_eq fun i => by
 have a := z6b.1 h1 i
 have b := z6b.1 h2 i
 cases hp : p.testBit i <;> cases hq : q.testBit i <;> simp_all
theorem zwg {d : DFA} {m n : Nat} (hd : DfaOk d m n) {p r a : Nat} (ha : a < m) (h : zkI p r) : zkI (mvN d p a) (mvN d r a) := z6b.2 fun q hq => by
 obtain ⟨i, h1, h2, h3⟩ := (zkf hd ha q).1 hq
 exact (zkf hd ha q).2 ⟨i, h1, z6b.1 h i h2, h3⟩
theorem zoT {d : DFA} {m n : Nat} (hd : DfaOk d m n) : ∀ {w : List UInt8} {p r : Nat}, (∀ c ∈ w, 97 <= c.toNat /\ c.toNat < 97 + m) -> zkI p r -> zkI (zkJ d p w) (zkJ d r w)
 | [], p, r, _, h => h
 | c :: w, p, r, hw, h => zoT (w := w) (p := mvN d p (c.toNat - 97)) (r := mvN d r (c.toNat - 97)) hd (fun c' hc' => hw c' (List.mem_cons_of_mem _ hc')) (zwg hd (by have := hw c (List.mem_cons_self ..); omega) h)
theorem zhr {d : DFA} {m n s : Nat} (hd : DfaOk d m n) (hs : s < 2 ^ n) : ∀ {w : List UInt8} {x : Nat}, (∀ c ∈ w, 97 <= c.toNat /\ c.toNat < 97 + m) -> x ∈ (z1s d m n s).1 -> zkJ d x w ∈ (z1s d m n s).1
 | [], x, _, h => h
 | c :: w, x, hw, h => zhr (w := w) (x := mvN d x (c.toNat - 97)) hd hs (fun c' hc' => hw c' (List.mem_cons_of_mem _ hc')) (zeP hd hs h (by have := hw c (List.mem_cons_self ..); omega))
theorem zeu {d : DFA} {m n s : Nat} (hd : DfaOk d m n) (hs : s < 2 ^ n) : s ∈ (z1s d m n s).1 := by
 have := (z4E hd hs).f0
 exact List.mem_of_getElem? this
def zwV (d : DFA) (m : Nat) (p r : Nat) : Prop := ∃ w : List UInt8, (∀ c ∈ w, 97 <= c.toNat /\ c.toNat < 97 + m) /\ zkI p (zkJ d r w)
theorem zu5 {d : DFA} {m n p r : Nat} (hd : DfaOk d m n) (hr : r < 2 ^ n) : zwV d m p r ↔ ∃ x ∈ (z1s d m n r).1, zkI p x := by
 constructor
 ·rintro ⟨w, h1, h2⟩
  exact ⟨_, zhr hd hr h1 (zeu hd hr), h2⟩
 ·rintro ⟨x, hx, hs⟩
  obtain ⟨i, hi, rfl⟩ := List.getElem_of_mem hx
  obtain ⟨_, o2, o3⟩ := (z4E hd hr).ok i hi
  refine ⟨_, o2, ?_⟩
  rw [o3, List.getD, List.getElem?_eq_getElem hi, Option.getD_some]
  exact hs
theorem zpK (d : DFA) (m p : Nat) : zwV d m p p := ⟨[], fun c hc => by simp at hc, zuA p⟩
theorem zhZ {d : DFA} {m n p q r : Nat} (hd : DfaOk d m n) (h1 : zwV d m p q) (h2 : zwV d m q r) : zwV d m p r := by
 obtain ⟨u, u1, u2⟩ := h1
 obtain ⟨v, v1, v2⟩ := h2
 refine ⟨v ++ u, fun c hc => ?_, ?_⟩
 ·rcases List.mem_append.1 hc with h | h
  ·exact v1 c h
  ·exact u1 c h
 ·rw [zbm]
  exact zsw u2 (zoT hd u1 v2)
end Go.Proofs.Ytbnnipkanechoaa
end
