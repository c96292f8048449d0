/- Proved here: the law ImagesChecks returns true for every input, and its arguments read afterwards as before. No condition. -/
import Derived.Test.YtbnnipkanechoaaMImagesChecks5
import Derived.Shelf.Small.Bits
import Derived.Shelf.Strconv.Itoa0
import Derived.Ground.Names2Prog
import Derived.Shelf.Slices.SearchI
import Derived.Ground.SlgcProg
import Derived.Shelf.SlicesG.Cmp
import Derived.Ground.SlsfProg
import Derived.Shelf.SlSortCmp.Insertion
import Derived.Shelf.SlSortCmp.SiftDown1
import Derived.Shelf.SlSortCmp.HeapSort1
import Derived.Shelf.SlSortCmp.Insertion1
import Derived.Shelf.SlSortCmp.Median1
import Derived.Shelf.SlSortCmp.Pivot1
import Derived.Shelf.SlSortCmp.ReverseRange1
import Derived.Shelf.SlSortCmp.PartialInsertion1
import Derived.Shelf.SlSortCmp.PartitionEqual1
import Derived.Shelf.SlSortCmp.Partition1
import Derived.Shelf.SlSortCmp.Pdq1
import Derived.Shelf.SlSortCmp.Whole1
import Derived.Test.YtbnnipkanechoaaProg
import Derived.ChangeOld
import Derived.ChangeReads
import Derived.Below
import Derived.ChangeSlices
import Derived.Deep.Grids
import Derived.WideShapes
import Derived.WalkKit
import Derived.ProofKit
import Derived.Test.YtbnnipkanechoaaRows
import Derived.Test.YtbnnipkanechoaaChecked
import Derived.OpenShut
import Derived.ShutString
import Derived.Deep.DeepHandedRow
set_option linter.unusedVariables false
set_option linter.unusedSimpArgs false
section
namespace Go.Proofs
open Go.Shelf
def Try.lays128_ren : Go.Shelf.Ren := ⟨fun | 128 => 88 | n => n, fun | 51 => 102 | 3 => 3 | 4 => 4 | 46 => 51 | 5 => 5 | 9 => 9 | n => n, fun | n => n⟩
theorem Try.lays128 : Go.Proofs.Lays.n128 Try.prog Try.lays128_ren := {
 mixed := by kernel_rfl
 f128 := Try.func88.trans (congrArg some (by kernel_rfl))
 t3 := Try.underlying3
 a3 := Try.isAgg3
 z3 := Try.sizeOf3
 v3 := Try.zeroValue3
 t4 := Try.underlying4
 a4 := Try.isAgg4
 z4 := Try.sizeOf4
 v4 := Try.zeroValue4
 t5 := Try.underlying5
 a5 := Try.isAgg5
 z5 := Try.sizeOf5
 v5 := Try.zeroValue5
 t9 := Try.underlying9
 a9 := Try.isAgg9
 z9 := Try.sizeOf9
 v9 := Try.zeroValue9
 t46 := Try.underlying51
 a46 := Try.isAgg51
 z46 := Try.sizeOf51
 v46 := Try.zeroValue51
 t51 := Try.underlying102
 a51 := Try.isAgg102
 z51 := Try.sizeOf102
 v51 := Try.zeroValue102 }
theorem Try.bits_Len32 (x : Int) (w : World) (h0 : 0 <= x) (h1 : x <= 4294967295) :
  Calls Try.prog 88 #[.int .u32 x] w fun e w' => e = .returned (.int .i64 (Lib.bitLen x.toNat)) /\ w' = w := Any.bits_Len32 Try.lays128 x w h0 h1
def Try.lays125_ren : Go.Shelf.Ren := ⟨fun | 125 => 76 | 128 => 88 | 129 => 89 | n => n, fun | 46 => 51 | 3 => 3 | 51 => 102 | 53 => 104 | 4 => 4 | 5 => 5 | 9 => 9 | n => n, fun | n => n⟩
theorem Try.lays125 : Go.Proofs.Lays.n125 Try.prog Try.lays125_ren := {
 mixed := by kernel_rfl
 f125 := Try.func76.trans (congrArg some (by kernel_rfl))
 f128 := Try.func88.trans (congrArg some (by kernel_rfl))
 f129 := Try.func89.trans (congrArg some (by kernel_rfl))
 t3 := Try.underlying3
 a3 := Try.isAgg3
 z3 := Try.sizeOf3
 v3 := Try.zeroValue3
 t4 := Try.underlying4
 a4 := Try.isAgg4
 z4 := Try.sizeOf4
 v4 := Try.zeroValue4
 t5 := Try.underlying5
 a5 := Try.isAgg5
 z5 := Try.sizeOf5
 v5 := Try.zeroValue5
 t9 := Try.underlying9
 a9 := Try.isAgg9
 z9 := Try.sizeOf9
 v9 := Try.zeroValue9
 t46 := Try.underlying51
 a46 := Try.isAgg51
 z46 := Try.sizeOf51
 v46 := Try.zeroValue51
 t51 := Try.underlying102
 a51 := Try.isAgg102
 z51 := Try.sizeOf102
 v51 := Try.zeroValue102
 t53 := Try.underlying104
 a53 := Try.isAgg104
 z53 := Try.sizeOf104
 v53 := Try.zeroValue104 }
theorem Try.bits_Len (x : Int) (w : World) (h0 : 0 <= x) (h1 : x <= 18446744073709551615) :
  Calls Try.prog 76 #[.int .u64 x] w fun e w' => e = .returned (.int .i64 (Lib.bitLen x.toNat)) /\ w' = w := Any.bits_Len Try.lays125 x w h0 h1
def Try.lays129_ren : Go.Shelf.Ren := ⟨fun | 129 => 89 | n => n, fun | 53 => 104 | 3 => 3 | 4 => 4 | 46 => 51 | 5 => 5 | 9 => 9 | n => n, fun | n => n⟩
theorem Try.lays129 : Go.Proofs.Lays.n129 Try.prog Try.lays129_ren := {
 mixed := by kernel_rfl
 f129 := Try.func89.trans (congrArg some (by kernel_rfl))
 t3 := Try.underlying3
 a3 := Try.isAgg3
 z3 := Try.sizeOf3
 v3 := Try.zeroValue3
 t4 := Try.underlying4
 a4 := Try.isAgg4
 z4 := Try.sizeOf4
 v4 := Try.zeroValue4
 t5 := Try.underlying5
 a5 := Try.isAgg5
 z5 := Try.sizeOf5
 v5 := Try.zeroValue5
 t9 := Try.underlying9
 a9 := Try.isAgg9
 z9 := Try.sizeOf9
 v9 := Try.zeroValue9
 t46 := Try.underlying51
 a46 := Try.isAgg51
 z46 := Try.sizeOf51
 v46 := Try.zeroValue51
 t53 := Try.underlying104
 a53 := Try.isAgg104
 z53 := Try.sizeOf104
 v53 := Try.zeroValue104 }
theorem Try.bits_Len64 (x : Int) (w : World) (h0 : 0 <= x) (h1 : x <= 18446744073709551615) :
  Calls Try.prog 89 #[.int .u64 x] w fun e w' => e = .returned (.int .i64 (Lib.bitLen x.toNat)) /\ w' = w := Any.bits_Len64 Try.lays129 x w h0 h1
def Try.laysNm237_ren : Go.Shelf.Ren := ⟨fun | 37 => 77 | n => n, fun | 3 => 3 | 4 => 4 | n => n, fun | n => n⟩
theorem Try.laysNm237 : Go.Proofs.Lays2.n37 Try.prog Try.laysNm237_ren := {
 mixed := by kernel_rfl
 f37 := Try.func77.trans (congrArg some (by kernel_rfl))
 t3 := Try.underlying3
 a3 := Try.isAgg3
 z3 := Try.sizeOf3
 v3 := Try.zeroValue3
 t4 := Try.underlying4
 a4 := Try.isAgg4
 z4 := Try.sizeOf4
 v4 := Try.zeroValue4 }
open Go.RowKit Go.Lib in
theorem Try.cmp_isNaN_int2 (x : Int) (w : World) :
  Calls Try.prog 77 #[.int .i64 x] w fun e w' => e = .returned (.bool false) /\ w' = w := Any.cmp_isNaN_int2 Try.laysNm237 x w
def Try.laysSlC27_f77_ren : Go.Shelf.Ren := ⟨fun | 7 => 77 | n => n, fun | 22 => 3 | 4 => 4 | n => n, fun | n => n⟩
theorem Try.laysSlC27_f77 : Go.Proofs.SlLaysC2.n7 Try.prog Try.laysSlC27_f77_ren := {
 mixed := by kernel_rfl
 f7 := ⟨Try.f77.name, by decide, Try.func77.trans (congrArg some (by kernel_rfl))⟩
 t4 := Try.underlying4
 a4 := Try.isAgg4
 z4 := Try.sizeOf4
 v4 := Try.zeroValue4
 t22 := Try.underlying3
 a22 := Try.isAgg3
 z22 := Try.sizeOf3
 v22 := Try.zeroValue3 }
open Go.Lib in
theorem Try.cmp_isNaN_int (x : Int) (w : World) :
  Calls Try.prog 77 #[.int .i64 x] w fun e w' => e = .returned (.bool false) /\ w' = w := AnyG.cmp_isNaN_int Try.laysSlC27_f77 x w
def Try.laysSlC25_f67_ren : Go.Shelf.Ren := ⟨fun | 5 => 67 | 7 => 77 | n => n, fun | 22 => 3 | 3 => 3 | 4 => 4 | n => n, fun | n => n⟩
theorem Try.laysSlC25_f67 : Go.Proofs.SlLaysC2.n5 Try.prog Try.laysSlC25_f67_ren := {
 mixed := by kernel_rfl
 f5 := ⟨Try.f67.name, by decide, Try.func67.trans (congrArg some (by kernel_rfl))⟩
 f7 := ⟨Try.f77.name, by decide, Try.func77.trans (congrArg some (by kernel_rfl))⟩
 t3 := Try.underlying3
 a3 := Try.isAgg3
 z3 := Try.sizeOf3
 v3 := Try.zeroValue3
 t4 := Try.underlying4
 a4 := Try.isAgg4
 z4 := Try.sizeOf4
 v4 := Try.zeroValue4
 t22 := Try.underlying3
 a22 := Try.isAgg3
 z22 := Try.sizeOf3
 v22 := Try.zeroValue3 }
open Go.Lib in
theorem Try.cmp_Compare_int (x y : Int) (w : World) :
  Calls Try.prog 67 #[.int .i64 x, .int .i64 y] w fun e w' => e = .returned (.int .i64 (Lib.compareInt x y)) /\ w' = w := AnyG.cmp_Compare_int Try.laysSlC25_f67 x y w
def Try.laysSlF20_f80_ren : Go.Shelf.Ren := ⟨fun | 20 => 80 | n => n, fun | 24 => 3 | 22 => 22 | 3 => 3 | 25 => 46 | 4 => 4 | 0 => 0 | n => n, fun | n => n⟩
theorem Try.laysSlF20_f80 : Go.Proofs.SlLaysF.n20 Try.prog Try.laysSlF20_f80_ren := {
 mixed := by kernel_rfl
 f20 := ⟨Try.f80.name, by decide, Try.func80.trans (congrArg some (by kernel_rfl))⟩
 t0 := Try.underlying0
 a0 := Try.isAgg0
 z0 := Try.sizeOf0
 v0 := Try.zeroValue0
 t3 := Try.underlying3
 a3 := Try.isAgg3
 z3 := Try.sizeOf3
 v3 := Try.zeroValue3
 t4 := Try.underlying4
 a4 := Try.isAgg4
 z4 := Try.sizeOf4
 v4 := Try.zeroValue4
 t22 := Try.underlying22
 a22 := Try.isAgg22
 z22 := Try.sizeOf22
 v22 := Try.zeroValue22
 a24 := Try.isAgg3
 z24 := Try.sizeOf3
 t25 := Try.underlying46
 a25 := Try.isAgg46
 z25 := Try.sizeOf46
 v25 := Try.zeroValue46 }
open Go.RowKit Go.Lib Go.Sort in
theorem Try.insertionSortCmpFunc_one {α : Type} [Inhabited α] (enc : α -> Value) (hO : OneCell enc) (cf : α -> α -> Int) (g : Nat) (cb : Array Value) (blk off cap a b : Nat) (d : Array α) (w : World) (eg : ∀ args w, (callFunc g args).run Try.prog w = .ok (.enter g args) w) (hcmp : CmpReads Try.prog g cb enc cf blk off d.size w) (hH : Holds enc w blk off d) (hab : a <= b) (hb : b <= d.size) (hsz : d.size < 4611686018427387904) :
  Calls Try.prog 80 #[.slice (some ⟨blk, off, none⟩) d.size cap, .int .i64 a, .int .i64 b, .func (.func g) #[] cb] w fun e w' =>
   e = .returned (.tuple #[]) /\ ∃ n, w' = (putRow enc w blk off (Sort.insertionSort (ltOf cf) d a b)).drewN n := Any.insertionSortCmpFunc_one Try.laysSlF20_f80 enc hO cf g cb blk off cap a b d w eg hcmp hH hab hb hsz
def Try.laysSlF46_f93_ren : Go.Shelf.Ren := ⟨fun | 46 => 93 | n => n, fun | 24 => 3 | 22 => 22 | 3 => 3 | 25 => 46 | 4 => 4 | 0 => 0 | n => n, fun | n => n⟩
theorem Try.laysSlF46_f93 : Go.Proofs.SlLaysF.n46 Try.prog Try.laysSlF46_f93_ren := {
 mixed := by kernel_rfl
 f46 := ⟨Try.f93.name, by decide, Try.func93.trans (congrArg some (by kernel_rfl))⟩
 t0 := Try.underlying0
 a0 := Try.isAgg0
 z0 := Try.sizeOf0
 v0 := Try.zeroValue0
 t3 := Try.underlying3
 a3 := Try.isAgg3
 z3 := Try.sizeOf3
 v3 := Try.zeroValue3
 t4 := Try.underlying4
 a4 := Try.isAgg4
 z4 := Try.sizeOf4
 v4 := Try.zeroValue4
 t22 := Try.underlying22
 a22 := Try.isAgg22
 z22 := Try.sizeOf22
 v22 := Try.zeroValue22
 a24 := Try.isAgg3
 z24 := Try.sizeOf3
 t25 := Try.underlying46
 a25 := Try.isAgg46
 z25 := Try.sizeOf46
 v25 := Try.zeroValue46 }
open Go.RowKit Go.Lib Go.Sort in
theorem Try.siftDownCmpFunc {α : Type} [Inhabited α] (enc : α -> Value) (cf : α -> α -> Int) (g : Nat) (cb : Array Value) (blk off cap lo hi first : Nat) (d0 d : Array α) (w0 w : World) (eg : ∀ args w, (callFunc g args).run Try.prog w = .ok (.enter g args) w) (hcmp : CmpLays1 Try.prog g cb enc cf blk off d0.size w0) (R : Row1 enc w0 blk off d0) (hs : d0.size = d.size) (S : SW enc w0 blk off d w) (hlo : lo <= hi) (hb : first + hi <= d.size) (hsz : d.size < 4611686018427387904) :
  Calls Try.prog 93 #[.slice (some ⟨blk, off, none⟩) d.size cap, .int .i64 lo, .int .i64 hi, .int .i64 first, .func (.func g) #[] cb] w fun e w' =>
   e = .returned (.tuple #[]) /\ SW enc w0 blk off (siftDown (ltOf cf) hi first lo d) w' := Any.siftDownCmpFunc Try.laysSlF46_f93 enc cf g cb blk off cap lo hi first d0 d w0 w eg hcmp R hs S hlo hb hsz
def Try.laysSlF21_f81_ren : Go.Shelf.Ren := ⟨fun | 21 => 81 | 46 => 93 | n => n, fun | 24 => 3 | 22 => 22 | 3 => 3 | 25 => 46 | 4 => 4 | 0 => 0 | n => n, fun | n => n⟩
theorem Try.laysSlF21_f81 : Go.Proofs.SlLaysF.n21 Try.prog Try.laysSlF21_f81_ren := {
 mixed := by kernel_rfl
 f21 := ⟨Try.f81.name, by decide, Try.func81.trans (congrArg some (by kernel_rfl))⟩
 f46 := ⟨Try.f93.name, by decide, Try.func93.trans (congrArg some (by kernel_rfl))⟩
 t0 := Try.underlying0
 a0 := Try.isAgg0
 z0 := Try.sizeOf0
 v0 := Try.zeroValue0
 t3 := Try.underlying3
 a3 := Try.isAgg3
 z3 := Try.sizeOf3
 v3 := Try.zeroValue3
 t4 := Try.underlying4
 a4 := Try.isAgg4
 z4 := Try.sizeOf4
 v4 := Try.zeroValue4
 t22 := Try.underlying22
 a22 := Try.isAgg22
 z22 := Try.sizeOf22
 v22 := Try.zeroValue22
 a24 := Try.isAgg3
 z24 := Try.sizeOf3
 t25 := Try.underlying46
 a25 := Try.isAgg46
 z25 := Try.sizeOf46
 v25 := Try.zeroValue46 }
open Go.RowKit Go.Lib Go.Sort in
theorem Try.heapSortCmpFunc {α : Type} [Inhabited α] (enc : α -> Value) (cf : α -> α -> Int) (g : Nat) (cb : Array Value) (blk off cap a b : Nat) (d0 d : Array α) (w0 w : World) (eg : ∀ args w, (callFunc g args).run Try.prog w = .ok (.enter g args) w) (hcmp : CmpLays1 Try.prog g cb enc cf blk off d0.size w0) (R : Row1 enc w0 blk off d0) (hs : d0.size = d.size) (S : SW enc w0 blk off d w) (hab : a <= b) (hb : b <= d.size) (hsz : d.size < 4611686018427387904) :
  Calls Try.prog 81 #[.slice (some ⟨blk, off, none⟩) d.size cap, .int .i64 a, .int .i64 b, .func (.func g) #[] cb] w fun e w' =>
   e = .returned (.tuple #[]) /\ SW enc w0 blk off (heapSort (ltOf cf) d a b) w' := Any.heapSortCmpFunc Try.laysSlF21_f81 enc cf g cb blk off cap a b d0 d w0 w eg hcmp R hs S hab hb hsz
open Go.RowKit Go.Lib Go.Sort in
theorem Try.insertionSortCmpFunc_s {α : Type} [Inhabited α] (enc : α -> Value) (cf : α -> α -> Int) (g : Nat) (cb : Array Value) (blk off cap a b : Nat) (d0 d : Array α) (w0 w : World) (eg : ∀ args w, (callFunc g args).run Try.prog w = .ok (.enter g args) w) (hcmp : CmpLays1 Try.prog g cb enc cf blk off d0.size w0) (R : Row1 enc w0 blk off d0) (hs : d0.size = d.size) (S : SW enc w0 blk off d w) (hab : a <= b) (hb : b <= d.size) (hsz : d.size < 4611686018427387904) :
  Calls Try.prog 80 #[.slice (some ⟨blk, off, none⟩) d.size cap, .int .i64 a, .int .i64 b, .func (.func g) #[] cb] w fun e w' => e = .returned (.tuple #[]) /\ SW enc w0 blk off (Sort.insertionSort (ltOf cf) d a b) w' := Any.insertionSortCmpFunc_s Try.laysSlF20_f80 enc cf g cb blk off cap a b d0 d w0 w eg hcmp R hs S hab hb hsz
def Try.laysSlF57_f99_ren : Go.Shelf.Ren := ⟨fun | 57 => 99 | n => n, fun | 24 => 3 | 22 => 22 | 3 => 3 | 70 => 109 | 25 => 46 | 0 => 0 | 4 => 4 | n => n, fun | n => n⟩
theorem Try.laysSlF57_f99 : Go.Proofs.SlLaysF.n57 Try.prog Try.laysSlF57_f99_ren := {
 mixed := by kernel_rfl
 f57 := ⟨Try.f99.name, by decide, Try.func99.trans (congrArg some (by kernel_rfl))⟩
 t0 := Try.underlying0
 a0 := Try.isAgg0
 z0 := Try.sizeOf0
 v0 := Try.zeroValue0
 t3 := Try.underlying3
 a3 := Try.isAgg3
 z3 := Try.sizeOf3
 v3 := Try.zeroValue3
 t4 := Try.underlying4
 a4 := Try.isAgg4
 z4 := Try.sizeOf4
 v4 := Try.zeroValue4
 t22 := Try.underlying22
 a22 := Try.isAgg22
 z22 := Try.sizeOf22
 v22 := Try.zeroValue22
 a24 := Try.isAgg3
 z24 := Try.sizeOf3
 t25 := Try.underlying46
 a25 := Try.isAgg46
 z25 := Try.sizeOf46
 v25 := Try.zeroValue46
 t70 := Try.underlying109
 a70 := Try.isAgg109
 z70 := Try.sizeOf109
 v70 := Try.zeroValue109 }
open Go.RowKit Go.Lib Go.Sort in
theorem Try.order2CmpFunc {α : Type} [Inhabited α] (enc : α -> Value) (cf : α -> α -> Int) (g : Nat) (cb : Array Value) (blk off cap a b c s : Nat) (d0 d : Array α) (w0 W : World) (eg : ∀ args w, (callFunc g args).run Try.prog w = .ok (.enter g args) w) (hcmp : CmpLays1 Try.prog g cb enc cf blk off d0.size w0) (R : Row1 enc w0 blk off d0) (hs : d0.size = d.size) (C : Cnt1 enc w0 blk off d c s W) (ha : a < d.size) (hb : b < d.size) (hsz : d.size < 4611686018427387904) (hss : s < 4611686018427387904) :
  Calls Try.prog 99 #[.slice (some ⟨blk, off, none⟩) d.size cap, .int .i64 a, .int .i64 b, .pointer (some ⟨c, 0, none⟩), .func (.func g) #[] cb] W fun e w' =>
   e = .returned (.tuple #[.int .i64 (order2 (ltOf cf) d a b s).1, .int .i64 (order2 (ltOf cf) d a b s).2.1]) /\ Cnt1 enc w0 blk off d c (order2 (ltOf cf) d a b s).2.2 w' := Any.order2CmpFunc Try.laysSlF57_f99 enc cf g cb blk off cap a b c s d0 d w0 W eg hcmp R hs C ha hb hsz hss
def Try.laysSlF50_f97_ren : Go.Shelf.Ren := ⟨fun | 50 => 97 | 57 => 99 | n => n, fun | 24 => 3 | 22 => 22 | 3 => 3 | 70 => 109 | 25 => 46 | 77 => 112 | 0 => 0 | 4 => 4 | n => n, fun | n => n⟩
theorem Try.laysSlF50_f97 : Go.Proofs.SlLaysF.n50 Try.prog Try.laysSlF50_f97_ren := {
 mixed := by kernel_rfl
 f50 := ⟨Try.f97.name, by decide, Try.func97.trans (congrArg some (by kernel_rfl))⟩
 f57 := ⟨Try.f99.name, by decide, Try.func99.trans (congrArg some (by kernel_rfl))⟩
 t0 := Try.underlying0
 a0 := Try.isAgg0
 z0 := Try.sizeOf0
 v0 := Try.zeroValue0
 t3 := Try.underlying3
 a3 := Try.isAgg3
 z3 := Try.sizeOf3
 v3 := Try.zeroValue3
 t4 := Try.underlying4
 a4 := Try.isAgg4
 z4 := Try.sizeOf4
 v4 := Try.zeroValue4
 t22 := Try.underlying22
 a22 := Try.isAgg22
 z22 := Try.sizeOf22
 v22 := Try.zeroValue22
 a24 := Try.isAgg3
 z24 := Try.sizeOf3
 t25 := Try.underlying46
 a25 := Try.isAgg46
 z25 := Try.sizeOf46
 v25 := Try.zeroValue46
 t70 := Try.underlying109
 a70 := Try.isAgg109
 z70 := Try.sizeOf109
 v70 := Try.zeroValue109
 t77 := Try.underlying112
 a77 := Try.isAgg112
 z77 := Try.sizeOf112
 v77 := Try.zeroValue112 }
open Go.RowKit Go.Lib Go.Sort in
theorem Try.medianCmpFunc {α : Type} [Inhabited α] (enc : α -> Value) (cf : α -> α -> Int) (g : Nat) (cb : Array Value) (blk off cap a b c' c s : Nat) (d0 d : Array α) (w0 W : World) (eg : ∀ args w, (callFunc g args).run Try.prog w = .ok (.enter g args) w) (hcmp : CmpLays1 Try.prog g cb enc cf blk off d0.size w0) (R : Row1 enc w0 blk off d0) (hs : d0.size = d.size) (C : Cnt1 enc w0 blk off d c s W) (ha : a < d.size) (hb : b < d.size) (hc : c' < d.size) (hsz : d.size < 4611686018427387904) (hss : s + 3 < 4611686018427387904) :
  Calls Try.prog 97 #[.slice (some ⟨blk, off, none⟩) d.size cap, .int .i64 a, .int .i64 b, .int .i64 c', .pointer (some ⟨c, 0, none⟩), .func (.func g) #[] cb] W fun e w' =>
   e = .returned (.int .i64 (median (ltOf cf) d a b c' s).1) /\ Cnt1 enc w0 blk off d c (median (ltOf cf) d a b c' s).2 w' := Any.medianCmpFunc Try.laysSlF50_f97 enc cf g cb blk off cap a b c' c s d0 d w0 W eg hcmp R hs C ha hb hc hsz hss
def Try.laysSlF49_f96_ren : Go.Shelf.Ren := ⟨fun | 49 => 96 | 50 => 97 | 57 => 99 | n => n, fun | 24 => 3 | 22 => 22 | 3 => 3 | 70 => 109 | 25 => 46 | 77 => 112 | 0 => 0 | 4 => 4 | n => n, fun | n => n⟩
theorem Try.laysSlF49_f96 : Go.Proofs.SlLaysF.n49 Try.prog Try.laysSlF49_f96_ren := {
 mixed := by kernel_rfl
 f49 := ⟨Try.f96.name, by decide, Try.func96.trans (congrArg some (by kernel_rfl))⟩
 f50 := ⟨Try.f97.name, by decide, Try.func97.trans (congrArg some (by kernel_rfl))⟩
 f57 := ⟨Try.f99.name, by decide, Try.func99.trans (congrArg some (by kernel_rfl))⟩
 t0 := Try.underlying0
 a0 := Try.isAgg0
 z0 := Try.sizeOf0
 v0 := Try.zeroValue0
 t3 := Try.underlying3
 a3 := Try.isAgg3
 z3 := Try.sizeOf3
 v3 := Try.zeroValue3
 t4 := Try.underlying4
 a4 := Try.isAgg4
 z4 := Try.sizeOf4
 v4 := Try.zeroValue4
 t22 := Try.underlying22
 a22 := Try.isAgg22
 z22 := Try.sizeOf22
 v22 := Try.zeroValue22
 a24 := Try.isAgg3
 z24 := Try.sizeOf3
 t25 := Try.underlying46
 a25 := Try.isAgg46
 z25 := Try.sizeOf46
 v25 := Try.zeroValue46
 t70 := Try.underlying109
 a70 := Try.isAgg109
 z70 := Try.sizeOf109
 v70 := Try.zeroValue109
 t77 := Try.underlying112
 a77 := Try.isAgg112
 z77 := Try.sizeOf112
 v77 := Try.zeroValue112 }
open Go.RowKit Go.Lib Go.Sort in
theorem Try.medianAdjacentCmpFunc {α : Type} [Inhabited α] (enc : α -> Value) (cf : α -> α -> Int) (g : Nat) (cb : Array Value) (blk off cap a c s : Nat) (d0 d : Array α) (w0 W : World) (eg : ∀ args w, (callFunc g args).run Try.prog w = .ok (.enter g args) w) (hcmp : CmpLays1 Try.prog g cb enc cf blk off d0.size w0) (R : Row1 enc w0 blk off d0) (hs : d0.size = d.size) (C : Cnt1 enc w0 blk off d c s W) (ha1 : 1 <= a) (ha2 : a + 1 < d.size) (hsz : d.size < 4611686018427387904) (hss : s + 3 < 4611686018427387904) :
  Calls Try.prog 96 #[.slice (some ⟨blk, off, none⟩) d.size cap, .int .i64 a, .pointer (some ⟨c, 0, none⟩), .func (.func g) #[] cb] W fun e w' =>
   e = .returned (.int .i64 (medianAdjacent (ltOf cf) d a s).1) /\ Cnt1 enc w0 blk off d c (medianAdjacent (ltOf cf) d a s).2 w' := Any.medianAdjacentCmpFunc Try.laysSlF49_f96 enc cf g cb blk off cap a c s d0 d w0 W eg hcmp R hs C ha1 ha2 hsz hss
def Try.laysSlF23_f83_ren : Go.Shelf.Ren := ⟨fun | 23 => 83 | 49 => 96 | 50 => 97 | 57 => 99 | n => n, fun | 24 => 3 | 22 => 22 | 3 => 3 | 25 => 46 | 45 => 95 | 0 => 0 | 4 => 4 | 70 => 109 | 77 => 112 | n => n, fun | n => n⟩
theorem Try.laysSlF23_f83 : Go.Proofs.SlLaysF.n23 Try.prog Try.laysSlF23_f83_ren := {
 mixed := by kernel_rfl
 f23 := ⟨Try.f83.name, by decide, Try.func83.trans (congrArg some (by kernel_rfl))⟩
 f49 := ⟨Try.f96.name, by decide, Try.func96.trans (congrArg some (by kernel_rfl))⟩
 f50 := ⟨Try.f97.name, by decide, Try.func97.trans (congrArg some (by kernel_rfl))⟩
 f57 := ⟨Try.f99.name, by decide, Try.func99.trans (congrArg some (by kernel_rfl))⟩
 t0 := Try.underlying0
 a0 := Try.isAgg0
 z0 := Try.sizeOf0
 v0 := Try.zeroValue0
 t3 := Try.underlying3
 a3 := Try.isAgg3
 z3 := Try.sizeOf3
 v3 := Try.zeroValue3
 t4 := Try.underlying4
 a4 := Try.isAgg4
 z4 := Try.sizeOf4
 v4 := Try.zeroValue4
 t22 := Try.underlying22
 a22 := Try.isAgg22
 z22 := Try.sizeOf22
 v22 := Try.zeroValue22
 a24 := Try.isAgg3
 z24 := Try.sizeOf3
 t25 := Try.underlying46
 a25 := Try.isAgg46
 z25 := Try.sizeOf46
 v25 := Try.zeroValue46
 t45 := Try.underlying95
 a45 := Try.isAgg95
 z45 := Try.sizeOf95
 v45 := Try.zeroValue95
 t70 := Try.underlying109
 a70 := Try.isAgg109
 z70 := Try.sizeOf109
 v70 := Try.zeroValue109
 t77 := Try.underlying112
 a77 := Try.isAgg112
 z77 := Try.sizeOf112
 v77 := Try.zeroValue112 }
open Go.RowKit Go.Lib Go.Sort in
theorem Try.choosePivotCmpFunc {α : Type} [Inhabited α] (enc : α -> Value) (cf : α -> α -> Int) (g : Nat) (cb : Array Value) (blk off cap a b : Nat) (d0 d : Array α) (w0 W : World) (eg : ∀ args w, (callFunc g args).run Try.prog w = .ok (.enter g args) w) (hcmp : CmpLays1 Try.prog g cb enc cf blk off d0.size w0) (R : Row1 enc w0 blk off d0) (hs : d0.size = d.size) (S : SW enc w0 blk off d W) (hab : a < b) (hb : b <= d.size) (hsz : d.size < 4611686018427387904) :
  Calls Try.prog 83 #[.slice (some ⟨blk, off, none⟩) d.size cap, .int .i64 a, .int .i64 b, .func (.func g) #[] cb] W fun e w' =>
   e = .returned (.tuple #[.int .i64 (choosePivot (ltOf cf) d a b).1, .int .i64 (hintCode (choosePivot (ltOf cf) d a b).2)]) /\ SW enc w0 blk off d w' := Any.choosePivotCmpFunc Try.laysSlF23_f83 enc cf g cb blk off cap a b d0 d w0 W eg hcmp R hs S hab hb hsz
def Try.laysSlF24_f84_ren : Go.Shelf.Ren := ⟨fun | 24 => 84 | n => n, fun | 24 => 3 | 22 => 22 | 3 => 3 | 25 => 46 | 4 => 4 | 0 => 0 | n => n, fun | n => n⟩
theorem Try.laysSlF24_f84 : Go.Proofs.SlLaysF.n24 Try.prog Try.laysSlF24_f84_ren := {
 mixed := by kernel_rfl
 f24 := ⟨Try.f84.name, by decide, Try.func84.trans (congrArg some (by kernel_rfl))⟩
 t0 := Try.underlying0
 a0 := Try.isAgg0
 z0 := Try.sizeOf0
 v0 := Try.zeroValue0
 t3 := Try.underlying3
 a3 := Try.isAgg3
 z3 := Try.sizeOf3
 v3 := Try.zeroValue3
 t4 := Try.underlying4
 a4 := Try.isAgg4
 z4 := Try.sizeOf4
 v4 := Try.zeroValue4
 t22 := Try.underlying22
 a22 := Try.isAgg22
 z22 := Try.sizeOf22
 v22 := Try.zeroValue22
 a24 := Try.isAgg3
 z24 := Try.sizeOf3
 t25 := Try.underlying46
 a25 := Try.isAgg46
 z25 := Try.sizeOf46
 v25 := Try.zeroValue46 }
open Go.RowKit Go.Lib Go.Sort in
theorem Try.reverseRangeCmpFunc {α : Type} [Inhabited α] (enc : α -> Value) (g : Nat) (cb : Array Value) (blk off cap a b : Nat) (d0 d : Array α) (w0 w : World) (R : Row1 enc w0 blk off d0) (hs : d0.size = d.size) (S : SW enc w0 blk off d w) (hab : a <= b) (hb : b <= d.size) (hsz : d.size < 4611686018427387904) :
  Calls Try.prog 84 #[.slice (some ⟨blk, off, none⟩) d.size cap, .int .i64 a, .int .i64 b, .func (.func g) #[] cb] w fun e w' => e = .returned (.tuple #[]) /\ SW enc w0 blk off (reverseRange d a b) w' := Any.reverseRangeCmpFunc Try.laysSlF24_f84 enc g cb blk off cap a b d0 d w0 w R hs S hab hb hsz
def Try.laysSlF25_f85_ren : Go.Shelf.Ren := ⟨fun | 25 => 85 | n => n, fun | 24 => 3 | 22 => 22 | 3 => 3 | 25 => 46 | 4 => 4 | 0 => 0 | n => n, fun | n => n⟩
theorem Try.laysSlF25_f85 : Go.Proofs.SlLaysF.n25 Try.prog Try.laysSlF25_f85_ren := {
 mixed := by kernel_rfl
 f25 := ⟨Try.f85.name, by decide, Try.func85.trans (congrArg some (by kernel_rfl))⟩
 t0 := Try.underlying0
 a0 := Try.isAgg0
 z0 := Try.sizeOf0
 v0 := Try.zeroValue0
 t3 := Try.underlying3
 a3 := Try.isAgg3
 z3 := Try.sizeOf3
 v3 := Try.zeroValue3
 t4 := Try.underlying4
 a4 := Try.isAgg4
 z4 := Try.sizeOf4
 v4 := Try.zeroValue4
 t22 := Try.underlying22
 a22 := Try.isAgg22
 z22 := Try.sizeOf22
 v22 := Try.zeroValue22
 a24 := Try.isAgg3
 z24 := Try.sizeOf3
 t25 := Try.underlying46
 a25 := Try.isAgg46
 z25 := Try.sizeOf46
 v25 := Try.zeroValue46 }
open Go.RowKit Go.Lib Go.Sort in
theorem Try.partialInsertionSortCmpFunc {α : Type} [Inhabited α] (enc : α -> Value) (cf : α -> α -> Int) (g : Nat) (cb : Array Value) (blk off cap a b : Nat) (d0 d : Array α) (w0 w : World) (eg : ∀ args w, (callFunc g args).run Try.prog w = .ok (.enter g args) w) (hcmp : CmpLays1 Try.prog g cb enc cf blk off d0.size w0) (R : Row1 enc w0 blk off d0) (hs : d0.size = d.size) (S : SW enc w0 blk off d w) (hab : a < b) (hb : b <= d.size) (hsz : d.size < 4611686018427387904) :
  Calls Try.prog 85 #[.slice (some ⟨blk, off, none⟩) d.size cap, .int .i64 a, .int .i64 b, .func (.func g) #[] cb] w fun e w' =>
   e = .returned (.bool (Sort.partialInsertionSort (ltOf cf) d a b).2) /\ SW enc w0 blk off (Sort.partialInsertionSort (ltOf cf) d a b).1 w' := Any.partialInsertionSortCmpFunc Try.laysSlF25_f85 enc cf g cb blk off cap a b d0 d w0 w eg hcmp R hs S hab hb hsz
def Try.laysSlF26_f86_ren : Go.Shelf.Ren := ⟨fun | 26 => 86 | n => n, fun | 24 => 3 | 22 => 22 | 3 => 3 | 25 => 46 | 0 => 0 | 4 => 4 | n => n, fun | n => n⟩
theorem Try.laysSlF26_f86 : Go.Proofs.SlLaysF.n26 Try.prog Try.laysSlF26_f86_ren := {
 mixed := by kernel_rfl
 f26 := ⟨Try.f86.name, by decide, Try.func86.trans (congrArg some (by kernel_rfl))⟩
 t0 := Try.underlying0
 a0 := Try.isAgg0
 z0 := Try.sizeOf0
 v0 := Try.zeroValue0
 t3 := Try.underlying3
 a3 := Try.isAgg3
 z3 := Try.sizeOf3
 v3 := Try.zeroValue3
 t4 := Try.underlying4
 a4 := Try.isAgg4
 z4 := Try.sizeOf4
 v4 := Try.zeroValue4
 t22 := Try.underlying22
 a22 := Try.isAgg22
 z22 := Try.sizeOf22
 v22 := Try.zeroValue22
 a24 := Try.isAgg3
 z24 := Try.sizeOf3
 t25 := Try.underlying46
 a25 := Try.isAgg46
 z25 := Try.sizeOf46
 v25 := Try.zeroValue46 }
open Go.RowKit Go.Lib Go.Sort in
theorem Try.partitionEqualCmpFunc {α : Type} [Inhabited α] (enc : α -> Value) (cf : α -> α -> Int) (g : Nat) (cb : Array Value) (blk off cap a b pivot : Nat) (d0 d : Array α) (w0 w : World) (eg : ∀ args w, (callFunc g args).run Try.prog w = .ok (.enter g args) w) (hcmp : CmpLays1 Try.prog g cb enc cf blk off d0.size w0) (R : Row1 enc w0 blk off d0) (hs : d0.size = d.size) (S : SW enc w0 blk off d w) (hap : a <= pivot) (hpb : pivot < b) (hb : b <= d.size) (hsz : d.size < 4611686018427387904) :
  Calls Try.prog 86 #[.slice (some ⟨blk, off, none⟩) d.size cap, .int .i64 a, .int .i64 b, .int .i64 pivot, .func (.func g) #[] cb] w fun e w' =>
   e = .returned (.int .i64 (Sort.partitionEqual (ltOf cf) d a b pivot).1) /\ SW enc w0 blk off (Sort.partitionEqual (ltOf cf) d a b pivot).2 w' := Any.partitionEqualCmpFunc Try.laysSlF26_f86 enc cf g cb blk off cap a b pivot d0 d w0 w eg hcmp R hs S hap hpb hb hsz
def Try.laysSlF27_f87_ren : Go.Shelf.Ren := ⟨fun | 27 => 87 | n => n, fun | 24 => 3 | 22 => 22 | 3 => 3 | 25 => 46 | 4 => 4 | 0 => 0 | n => n, fun | n => n⟩
theorem Try.laysSlF27_f87 : Go.Proofs.SlLaysF.n27 Try.prog Try.laysSlF27_f87_ren := {
 mixed := by kernel_rfl
 f27 := ⟨Try.f87.name, by decide, Try.func87.trans (congrArg some (by kernel_rfl))⟩
 t0 := Try.underlying0
 a0 := Try.isAgg0
 z0 := Try.sizeOf0
 v0 := Try.zeroValue0
 t3 := Try.underlying3
 a3 := Try.isAgg3
 z3 := Try.sizeOf3
 v3 := Try.zeroValue3
 t4 := Try.underlying4
 a4 := Try.isAgg4
 z4 := Try.sizeOf4
 v4 := Try.zeroValue4
 t22 := Try.underlying22
 a22 := Try.isAgg22
 z22 := Try.sizeOf22
 v22 := Try.zeroValue22
 a24 := Try.isAgg3
 z24 := Try.sizeOf3
 t25 := Try.underlying46
 a25 := Try.isAgg46
 z25 := Try.sizeOf46
 v25 := Try.zeroValue46 }
open Go.RowKit Go.Lib Go.Sort in
theorem Try.partitionCmpFunc {α : Type} [Inhabited α] (enc : α -> Value) (cf : α -> α -> Int) (g : Nat) (cb : Array Value) (blk off cap a b pivot : Nat) (d0 d : Array α) (w0 w : World) (eg : ∀ args w, (callFunc g args).run Try.prog w = .ok (.enter g args) w) (hcmp : CmpLays1 Try.prog g cb enc cf blk off d0.size w0) (R : Row1 enc w0 blk off d0) (hs : d0.size = d.size) (S : SW enc w0 blk off d w) (hap : a <= pivot) (hpb : pivot < b) (hb : b <= d.size) (hsz : d.size < 4611686018427387904) :
  Calls Try.prog 87 #[.slice (some ⟨blk, off, none⟩) d.size cap, .int .i64 a, .int .i64 b, .int .i64 pivot, .func (.func g) #[] cb] w fun e w' =>
   e = .returned (.tuple #[.int .i64 (Sort.partition (ltOf cf) d a b pivot).1, .bool (Sort.partition (ltOf cf) d a b pivot).2.1]) /\ SW enc w0 blk off (Sort.partition (ltOf cf) d a b pivot).2.2 w' := Any.partitionCmpFunc Try.laysSlF27_f87 enc cf g cb blk off cap a b pivot d0 d w0 w eg hcmp R hs S hap hpb hb hsz
def Try.laysSlF14_f75_ren : Go.Shelf.Ren := ⟨fun | 14 => 75 | 20 => 80 | 21 => 81 | 22 => 82 | 23 => 83 | 24 => 84 | 25 => 85 | 26 => 86 | 27 => 87 | 46 => 93 | 47 => 94 | 48 => 95 | 49 => 96 | 50 => 97 | 15 => 76 | 57 => 99 | 28 => 88 | 29 => 89 | n => n, fun | 24 => 3 | 22 => 22 | 3 => 3 | 25 => 46 | 4 => 4 | 0 => 0 | 46 => 96 | 45 => 95 | 50 => 42 | 66 => 105 | 39 => 51 | 55 => 104 | 70 => 109 | 76 => 111 | 77 => 112 | 53 => 102 | 5 => 5 | 9 => 9 | n => n, fun | n => n⟩
theorem Try.laysSlF14_f75 : Go.Proofs.SlLaysF.n14 Try.prog Try.laysSlF14_f75_ren := {
 mixed := by kernel_rfl
 f14 := ⟨Try.f75.name, by decide, Try.func75.trans (congrArg some (by kernel_rfl))⟩
 f15 := Try.func76.trans (congrArg some (by kernel_rfl))
 f20 := ⟨Try.f80.name, by decide, Try.func80.trans (congrArg some (by kernel_rfl))⟩
 f21 := ⟨Try.f81.name, by decide, Try.func81.trans (congrArg some (by kernel_rfl))⟩
 f22 := ⟨Try.f82.name, by decide, Try.func82.trans (congrArg some (by kernel_rfl))⟩
 f23 := ⟨Try.f83.name, by decide, Try.func83.trans (congrArg some (by kernel_rfl))⟩
 f24 := ⟨Try.f84.name, by decide, Try.func84.trans (congrArg some (by kernel_rfl))⟩
 f25 := ⟨Try.f85.name, by decide, Try.func85.trans (congrArg some (by kernel_rfl))⟩
 f26 := ⟨Try.f86.name, by decide, Try.func86.trans (congrArg some (by kernel_rfl))⟩
 f27 := ⟨Try.f87.name, by decide, Try.func87.trans (congrArg some (by kernel_rfl))⟩
 f28 := Try.func88.trans (congrArg some (by kernel_rfl))
 f29 := Try.func89.trans (congrArg some (by kernel_rfl))
 f46 := ⟨Try.f93.name, by decide, Try.func93.trans (congrArg some (by kernel_rfl))⟩
 f47 := Try.func94.trans (congrArg some (by kernel_rfl))
 f48 := Try.func95.trans (congrArg some (by kernel_rfl))
 f49 := ⟨Try.f96.name, by decide, Try.func96.trans (congrArg some (by kernel_rfl))⟩
 f50 := ⟨Try.f97.name, by decide, Try.func97.trans (congrArg some (by kernel_rfl))⟩
 f57 := ⟨Try.f99.name, by decide, Try.func99.trans (congrArg some (by kernel_rfl))⟩
 t0 := Try.underlying0
 a0 := Try.isAgg0
 z0 := Try.sizeOf0
 v0 := Try.zeroValue0
 t3 := Try.underlying3
 a3 := Try.isAgg3
 z3 := Try.sizeOf3
 v3 := Try.zeroValue3
 t4 := Try.underlying4
 a4 := Try.isAgg4
 z4 := Try.sizeOf4
 v4 := Try.zeroValue4
 t5 := Try.underlying5
 a5 := Try.isAgg5
 z5 := Try.sizeOf5
 v5 := Try.zeroValue5
 t9 := Try.underlying9
 a9 := Try.isAgg9
 z9 := Try.sizeOf9
 v9 := Try.zeroValue9
 t22 := Try.underlying22
 a22 := Try.isAgg22
 z22 := Try.sizeOf22
 v22 := Try.zeroValue22
 a24 := Try.isAgg3
 z24 := Try.sizeOf3
 t25 := Try.underlying46
 a25 := Try.isAgg46
 z25 := Try.sizeOf46
 v25 := Try.zeroValue46
 t39 := Try.underlying51
 a39 := Try.isAgg51
 z39 := Try.sizeOf51
 v39 := Try.zeroValue51
 t45 := Try.underlying95
 a45 := Try.isAgg95
 z45 := Try.sizeOf95
 v45 := Try.zeroValue95
 t46 := Try.underlying96
 a46 := Try.isAgg96
 z46 := Try.sizeOf96
 v46 := Try.zeroValue96
 t50 := Try.underlying42
 a50 := Try.isAgg42
 z50 := Try.sizeOf42
 v50 := Try.zeroValue42
 t53 := Try.underlying102
 a53 := Try.isAgg102
 z53 := Try.sizeOf102
 v53 := Try.zeroValue102
 t55 := Try.underlying104
 a55 := Try.isAgg104
 z55 := Try.sizeOf104
 v55 := Try.zeroValue104
 t66 := Try.underlying105
 a66 := Try.isAgg105
 z66 := Try.sizeOf105
 v66 := Try.zeroValue105
 t70 := Try.underlying109
 a70 := Try.isAgg109
 z70 := Try.sizeOf109
 v70 := Try.zeroValue109
 t76 := Try.underlying111
 a76 := Try.isAgg111
 z76 := Try.sizeOf111
 v76 := Try.zeroValue111
 t77 := Try.underlying112
 a77 := Try.isAgg112
 z77 := Try.sizeOf112
 v77 := Try.zeroValue112 }
open Go.RowKit Go.Lib Go.Sort in
theorem Try.pdqsortCmpFunc_all {α : Type} [Inhabited α] (enc : α -> Value) (cf : α -> α -> Int) (g : Nat) (cb : Array Value) (hO : SWO (ltOf cf)) (blk off cap : Nat) (d0 : Array α) (w0 : World) (eg : ∀ args w, (callFunc g args).run Try.prog w = .ok (.enter g args) w) (hcmp : CmpLays1 Try.prog g cb enc cf blk off d0.size w0) (R : Row1 enc w0 blk off d0) :
  ∀ (N a b limit : Nat) (d : Array α) (w : World), b - a < N -> d0.size = d.size -> SW enc w0 blk off d w -> a <= b -> b <= d.size -> d.size < 4611686018427387904 -> limit < 4611686018427387904 -> Below (ltOf cf) a b d ->
  Calls Try.prog 75 #[.slice (some ⟨blk, off, none⟩) d.size cap, .int .i64 a, .int .i64 b, .int .i64 limit, .func (.func g) #[] cb] w fun e w' => e = .returned (.tuple #[]) /\ SW enc w0 blk off (pdq (ltOf cf) d a b limit true true) w' := Any.pdqsortCmpFunc_all Try.laysSlF14_f75 enc cf g cb hO blk off cap d0 w0 eg hcmp R
def Try.laysSlF6_f64_ren : Go.Shelf.Ren := ⟨fun | 6 => 64 | 15 => 76 | 14 => 75 | 28 => 88 | 29 => 89 | 20 => 80 | 21 => 81 | 22 => 82 | 23 => 83 | 24 => 84 | 25 => 85 | 26 => 86 | 27 => 87 | 46 => 93 | 47 => 94 | 48 => 95 | 49 => 96 | 50 => 97 | 57 => 99 | n => n, fun | 22 => 22 | 24 => 3 | 25 => 46 | 3 => 3 | 39 => 51 | 0 => 0 | 53 => 102 | 55 => 104 | 4 => 4 | 46 => 96 | 45 => 95 | 50 => 42 | 5 => 5 | 9 => 9 | 66 => 105 | 70 => 109 | 76 => 111 | 77 => 112 | n => n, fun | n => n⟩
theorem Try.laysSlF6_f64 : Go.Proofs.SlLaysF.n6 Try.prog Try.laysSlF6_f64_ren := {
 mixed := by kernel_rfl
 f6 := ⟨Try.f64.name, by decide, Try.func64.trans (congrArg some (by kernel_rfl))⟩
 f14 := ⟨Try.f75.name, by decide, Try.func75.trans (congrArg some (by kernel_rfl))⟩
 f15 := Try.func76.trans (congrArg some (by kernel_rfl))
 f20 := ⟨Try.f80.name, by decide, Try.func80.trans (congrArg some (by kernel_rfl))⟩
 f21 := ⟨Try.f81.name, by decide, Try.func81.trans (congrArg some (by kernel_rfl))⟩
 f22 := ⟨Try.f82.name, by decide, Try.func82.trans (congrArg some (by kernel_rfl))⟩
 f23 := ⟨Try.f83.name, by decide, Try.func83.trans (congrArg some (by kernel_rfl))⟩
 f24 := ⟨Try.f84.name, by decide, Try.func84.trans (congrArg some (by kernel_rfl))⟩
 f25 := ⟨Try.f85.name, by decide, Try.func85.trans (congrArg some (by kernel_rfl))⟩
 f26 := ⟨Try.f86.name, by decide, Try.func86.trans (congrArg some (by kernel_rfl))⟩
 f27 := ⟨Try.f87.name, by decide, Try.func87.trans (congrArg some (by kernel_rfl))⟩
 f28 := Try.func88.trans (congrArg some (by kernel_rfl))
 f29 := Try.func89.trans (congrArg some (by kernel_rfl))
 f46 := ⟨Try.f93.name, by decide, Try.func93.trans (congrArg some (by kernel_rfl))⟩
 f47 := Try.func94.trans (congrArg some (by kernel_rfl))
 f48 := Try.func95.trans (congrArg some (by kernel_rfl))
 f49 := ⟨Try.f96.name, by decide, Try.func96.trans (congrArg some (by kernel_rfl))⟩
 f50 := ⟨Try.f97.name, by decide, Try.func97.trans (congrArg some (by kernel_rfl))⟩
 f57 := ⟨Try.f99.name, by decide, Try.func99.trans (congrArg some (by kernel_rfl))⟩
 t0 := Try.underlying0
 a0 := Try.isAgg0
 z0 := Try.sizeOf0
 v0 := Try.zeroValue0
 t3 := Try.underlying3
 a3 := Try.isAgg3
 z3 := Try.sizeOf3
 v3 := Try.zeroValue3
 t4 := Try.underlying4
 a4 := Try.isAgg4
 z4 := Try.sizeOf4
 v4 := Try.zeroValue4
 t5 := Try.underlying5
 a5 := Try.isAgg5
 z5 := Try.sizeOf5
 v5 := Try.zeroValue5
 t9 := Try.underlying9
 a9 := Try.isAgg9
 z9 := Try.sizeOf9
 v9 := Try.zeroValue9
 t22 := Try.underlying22
 a22 := Try.isAgg22
 z22 := Try.sizeOf22
 v22 := Try.zeroValue22
 a24 := Try.isAgg3
 z24 := Try.sizeOf3
 t25 := Try.underlying46
 a25 := Try.isAgg46
 z25 := Try.sizeOf46
 v25 := Try.zeroValue46
 t39 := Try.underlying51
 a39 := Try.isAgg51
 z39 := Try.sizeOf51
 v39 := Try.zeroValue51
 t45 := Try.underlying95
 a45 := Try.isAgg95
 z45 := Try.sizeOf95
 v45 := Try.zeroValue95
 t46 := Try.underlying96
 a46 := Try.isAgg96
 z46 := Try.sizeOf96
 v46 := Try.zeroValue96
 t50 := Try.underlying42
 a50 := Try.isAgg42
 z50 := Try.sizeOf42
 v50 := Try.zeroValue42
 t53 := Try.underlying102
 a53 := Try.isAgg102
 z53 := Try.sizeOf102
 v53 := Try.zeroValue102
 t55 := Try.underlying104
 a55 := Try.isAgg104
 z55 := Try.sizeOf104
 v55 := Try.zeroValue104
 t66 := Try.underlying105
 a66 := Try.isAgg105
 z66 := Try.sizeOf105
 v66 := Try.zeroValue105
 t70 := Try.underlying109
 a70 := Try.isAgg109
 z70 := Try.sizeOf109
 v70 := Try.zeroValue109
 t76 := Try.underlying111
 a76 := Try.isAgg111
 z76 := Try.sizeOf111
 v76 := Try.zeroValue111
 t77 := Try.underlying112
 a77 := Try.isAgg112
 z77 := Try.sizeOf112
 v77 := Try.zeroValue112 }
open Go.RowKit Go.Lib Go.Sort in
theorem Try.slices_SortFunc_eq {α : Type} [Inhabited α] (enc : α -> Value) (h1 : OneCell enc) (cf : α -> α -> Int) (hO : SWO (ltOf cf)) (g : Nat) (cb : Array Value) (blk off cap : Nat) (d : Array α) (w : World) (eg : ∀ args w, (callFunc g args).run Try.prog w = .ok (.enter g args) w) (hcmp : CmpLays1 Try.prog g cb enc cf blk off d.size w) (hH : Holds enc w blk off d) (hblk : blk < w.heap.size) (hsz : d.size < 4611686018427387904) :
  Calls Try.prog 64 #[.slice (some ⟨blk, off, none⟩) d.size cap, .func (.func g) #[] cb] w fun e w' =>
   e = .returned (.tuple #[]) /\ ∃ n os, w' = sortWorld enc w blk off n (pdq (ltOf cf) d 0 d.size (Lib.bitLen d.size) true true) os := Any.slices_SortFunc_eq Try.laysSlF6_f64 enc h1 cf hO g cb blk off cap d w eg hcmp hH hblk hsz
open Go.RowKit Go.Lib Go.Sort in
theorem Try.slices_SortFunc {α : Type} [Inhabited α] (enc : α -> Value) (h1 : OneCell enc) (cf : α -> α -> Int) (hO : SWO (ltOf cf)) (g : Nat) (cb : Array Value) (blk off cap : Nat) (d : Array α) (w : World) (eg : ∀ args w, (callFunc g args).run Try.prog w = .ok (.enter g args) w) (hcmp : CmpLays1 Try.prog g cb enc cf blk off d.size w) (hH : Holds enc w blk off d) (hblk : blk < w.heap.size) (hsz : d.size < 4611686018427387904) :
  Calls Try.prog 64 #[.slice (some ⟨blk, off, none⟩) d.size cap, .func (.func g) #[] cb] w fun e w' =>
   e = .returned (.tuple #[]) /\ ∃ d' n os, PermIn 0 d.size d d' /\ SortedIn (ltOf cf) 0 d.size d' /\ w' = sortWorld enc w blk off n d' os := Any.slices_SortFunc Try.laysSlF6_f64 enc h1 cf hO g cb blk off cap d w eg hcmp hH hblk hsz
end Go.Proofs
end
section
namespace Go.Proofs.Ytbnnipkanechoaa
open Go Go.RowKit Go.Sort
set_option maxRecDepth 100000
set_option maxHeartbeats 4000000
def zrH (x : Fin 128) : Value := .int .i64 ((x.val : Nat) : Int)
def cfS (p r : Fin 128) : Int := if Lib.compareInt (szN r.val) (szN p.val) ≠ 0 then Lib.compareInt (szN r.val) (szN p.val) else Lib.compareInt (p.val : Nat) (r.val : Nat)
theorem zyk (k : Nat) (W : World) (hk : k < 128) : Calls Try.prog 91 #[.int .u64 (k : Int)] W fun e w' => e = .returned (.int .i64 (szN k)) /\ w' = W := by
 have h0 : (0 : Int) <= (k : Int) := by omega
 have h1 : (k : Int) < 128 := by omega
 go_enter Try.func91, Try.ntmps91
 go_wp2
 all_goals go_ret
 all_goals refine ⟨congrArg Ending.returned (congrArg (Value.int IntKind.i64) ?_), rfl⟩
 clear h0 h1
 revert k
 decide +kernel
theorem zxi (k : Nat) (W : World) (hk : k < 128) : Calls Try.prog 78 #[.int .u64 (k : Int)] W fun e w' => e = .returned (.int .i64 (szN k)) /\ w' = W := by
 go_enter Try.func78, Try.ntmps78
 go_wp2_with (go_at_call 91; refine (zyk k _ hk).mono ?_; rintro e w' ⟨rfl, rfl⟩)
 go_ret
 exact ⟨rfl, rfl⟩
theorem zvy (k : Nat) (W : World) (hk : k < 128) : Calls Try.prog 68 #[.int .i64 (k : Int)] W fun e w' => e = .returned (.int .i64 (szN k)) /\ w' = W := by
 have hw : IntKind.u64.wrap (k : Int) = (k : Int) := by rw [IntKind.wrap_u64]; omega
 go_enter Try.func68, Try.ntmps68
 go_wp2_with (go_at_call 78; refine (zxi k _ hk).mono ?_; rintro e w' ⟨rfl, rfl⟩)
 go_ret
 exact ⟨rfl, rfl⟩
theorem or2 (a b : Int) (g : Nat) (W : World) (ha : W.cell? ⟨g, 0, none⟩ = some (.int .i64 a)) (hb : W.cell? ⟨g, 1, none⟩ = some (.int .i64 b)) : Calls Try.prog 66 #[.slice (some ⟨g, 0, none⟩) 2 2] W fun e w' => e = .returned (.int .i64 (if a ≠ 0 then a else b)) /\ w' = W := by
 go_enter Try.func66, Try.ntmps66
 go_wp2
 go_loop [8] (fun vi => ∃ k : Nat, k <= 2 /\ vi = .int .i64 k /\ (0 < k -> a = 0) /\ (1 < k -> b = 0)) (fun vi => 2 - (intOf vi).toNat)
 case atStart => exact ⟨0, by omega, rfl, by omega, by omega⟩
 case round =>
  obtain ⟨k, hk, rfl, h1, h2⟩ := hrel
  rcases (by omega : k = 0 ∨ k = 1 ∨ k = 2) with rfl | rfl | rfl
  ·clear h1 h2
   by_cases h : a = 0
   ·subst h
    go_wp2
    go_round
    case rel => exact ⟨1, by omega, by go_num, by simp, by simp⟩
    case measure => simp [intOf]
   ·go_wp2
    go_ret
    simp [h]
  ·have h1 := h1 (by omega)
   clear h2
   subst h1
   by_cases h : b = 0
   ·subst h
    go_wp2
    go_round
    case rel => exact ⟨2, by omega, by go_num, by simp, by simp⟩
    case measure => simp [intOf]
   ·go_wp2
    go_ret
    simp
  ·have h1 := h1 (by omega)
   have h2 := h2 (by omega)
   subst h1 h2
   go_wp2
   go_ret
   simp
theorem zzP (x y : Fin 128) (W : World) : Calls Try.prog 65 #[zrH x, zrH y] W fun e w' => e = .returned (.int .i64 (cfS x y)) /\ ∃ q os', w' = grow (W.drewN q) os' := by
 obtain ⟨x, hx⟩ := x
 obtain ⟨y, hy⟩ := y
 unfold cfS zrH
 simp only
 generalize hc1 : Lib.compareInt (szN y) (szN x) = c1
 generalize hc2 : Lib.compareInt (x : Int) (y : Int) = c2
 have H1 := Lib.hid hc1
 have H2 := Lib.hid hc2
 clear hc1 hc2
 go_enter Try.func65, Try.ntmps65
 go_wp2_with (first | (go_at_call 68; first | (refine (zvy y _ hy).mono ?_; rintro e w' ⟨rfl, rfl⟩) | (refine (zvy x _ hx).mono ?_; rintro e w' ⟨rfl, rfl⟩)) | (go_at_call 67; refine (Try.cmp_Compare_int _ _ _).mono ?_; rintro e w' ⟨rfl, rfl⟩; first | rw [H1.out] | rw [H2.out]) | (go_at_call 66; refine (or2 c1 c2 _ _ ?_ ?_).mono ?_))
 ·simp
 ·simp
 all_goals go_ret
 all_goals exact ⟨rfl, 0, #[_], alloc_eq_grow _ _⟩
theorem ztU (a b : Int) : Lib.compareInt a b < 0 ↔ a < b := by unfold Lib.compareInt; split <;> (try split) <;> omega
theorem zvN (a b : Int) : Lib.compareInt a b = 0 ↔ a = b := by unfold Lib.compareInt; split <;> (try split) <;> omega
theorem zvG (p r : Fin 128) : ltOf cfS p r = true ↔ (szN r.val < szN p.val ∨ (szN r.val = szN p.val /\ p.val < r.val)) := by
 unfold ltOf cfS
 rw [decide_eq_true_iff]
 split
 ·rename_i h
  have := (not_congr (zvN (szN r.val) (szN p.val))).1 h
  rw [ztU]
  omega
 ·rename_i h
  have := (zvN (szN r.val) (szN p.val)).1 (by simpa using h)
  rw [ztU]
  omega
theorem zth (p r : Fin 128) : ltOf cfS p r = false ↔ ¬ (szN r.val < szN p.val ∨ (szN r.val = szN p.val /\ p.val < r.val)) := by
 rw [← zvG]; simp
theorem zB1 : SWO (ltOf cfS) where
 irrefl x := by rw [zth]; omega
 trans x y z h1 h2 := by rw [zvG] at *; omega
 ntrans x y z h1 h2 := by rw [zth] at *; omega
theorem zkm (a b : Int) : leI a b = true ↔ (szN b.toNat < szN a.toNat ∨ (szN a.toNat = szN b.toNat /\ a.toNat <= b.toNat)) := by
 unfold leI zrD; simp
theorem zhC (x : Int) : ∀ l : List Int, (zv0 x l).Perm (x :: l)
 | [] => .refl _
 | y :: l => by
  unfold zv0
  split
  ·exact .refl _
  ·exact ((zhC x l).cons y).trans (.swap x y l)
theorem zer : ∀ l : List Int, (zcO l).Perm l
 | [] => .refl _
 | x :: l => (zhC x (zcO l)).trans ((zer l).cons x)
theorem zhB (x : Int) : ∀ l : List Int, l.Pairwise (fun a b => leI a b = true) -> (zv0 x l).Pairwise (fun a b => leI a b = true)
 | [], _ => by simp [zv0]
 | y :: l, h => by
  unfold zv0
  rw [List.pairwise_cons] at h
  split
  ·rename_i hxy
   refine List.pairwise_cons.2 ⟨fun z hz => ?_, List.pairwise_cons.2 h⟩
   rcases List.mem_cons.1 hz with rfl | hz
   ·exact hxy
   ·have := h.1 z hz
    rw [zkm] at *
    omega
  ·rename_i hxy
   refine List.pairwise_cons.2 ⟨fun z hz => ?_, zhB x l h.2⟩
   rcases List.mem_cons.1 ((zhC x l).mem_iff.1 hz) with rfl | hz
   ·rw [zkm] at *
    omega
   ·exact h.1 z hz
theorem zeO : ∀ l : List Int, (zcO l).Pairwise (fun a b => leI a b = true)
 | [] => by simp [zcO]
 | x :: l => zhB x _ (zeO l)
theorem zaY : ∀ {l1 l2 : List Int}, l1.Perm l2 -> (∀ x ∈ l1, 0 <= x) -> l1.Pairwise (fun a b => leI a b = true) -> l2.Pairwise (fun a b => leI a b = true) -> l1 = l2
 | [], l2, h, _, _, _ => by rw [List.nil_perm] at h; exact h.symm
 | a :: l1, [], h, _, _, _ => by simp at h
 | a :: l1, b :: l2, h, h0, h1, h2 => by
  have hab : a = b := by
   rcases List.mem_cons.1 (h.mem_iff.1 (List.mem_cons_self ..)) with e | ha
   ·exact e
   ·rcases List.mem_cons.1 (h.mem_iff.2 (List.mem_cons_self ..)) with e | hb
    ·exact e.symm
    ·have e1 := (List.pairwise_cons.1 h2).1 a ha
     have e2 := (List.pairwise_cons.1 h1).1 b hb
     have p1 := h0 a (List.mem_cons_self ..)
     have p2 := h0 b (h.mem_iff.2 (List.mem_cons_self ..))
     rw [zkm] at e1 e2
     omega
  subst hab
  rw [zaY (List.perm_cons a |>.1 h) (fun x hx => h0 x (List.mem_cons_of_mem _ hx)) (List.pairwise_cons.1 h1).2 (List.pairwise_cons.1 h2).2]
def toF (x : Int) : Fin 128 := ⟨x.toNat % 128, Nat.mod_lt _ (by decide)⟩
def ofF (f : Fin 128) : Int := (f.val : Int)
theorem zvv {x : Int} (h : 0 <= x /\ x < 128) : ofF (toF x) = x := by simp only [ofF, toF]; omega
def zyl (B : Nat) (K : Nat -> z0o) (b : Nat) : z0o := if B <= b then [0] else K b
theorem znP {xs : List Int} (hx : ∀ x ∈ xs, 0 <= x /\ x < 128) {d' : Array (Fin 128)} (hp : PermIn 0 (xs.map toF).toArray.size (xs.map toF).toArray d') (hs : SortedIn (ltOf cfS) 0 (xs.map toF).toArray.size d') : d'.toList.map ofF = zcO xs := by
 obtain ⟨h1, _, h3⟩ := hp
 have hsz : d'.size = xs.length := by simpa using h1
 have e1 : (xs.map toF).map ofF = xs := by
  rw [List.map_map]
  conv => rhs; rw [← List.map_id xs]
  exact List.map_congr_left fun x hxm => zvv (hx x hxm)
 have hp2 : d'.toList.Perm (xs.map toF) := by
  have : (d'.extract 0 (xs.map toF).toArray.size).toList = d'.toList := by
   rw [← h1]; simp
  rw [this] at h3
  simp at h3
  rwa [List.take_of_length_le (by simp)] at h3
 have hp3 : (d'.toList.map ofF).Perm xs := by
  have := hp2.map ofF
  rwa [e1] at this
 refine zaY (hp3.trans (zer xs).symm) (fun x hxm => (hx x (hp3.mem_iff.1 hxm)).1) ?_ (zeO xs)
 rw [List.pairwise_iff_getElem]
 intro i j hi hj hij
 simp only [List.length_map, Array.length_toList] at hi hj
 have := hs i j (by omega) hij (by simp; omega)
 rw [zth, getElem!_pos d' i hi, getElem!_pos d' j hj] at this
 rw [zkm]
 simp only [List.getElem_map, Array.getElem_toList, ofF, Int.toNat_natCast]
 omega
theorem zpf {w : World} {g n : Nat} {os : Array Obj} {cur : Array Value} {e : TypeId} {fr : Nat × Nat} (d : Array (Fin 128)) (hb : w.heap[g]? = some (.cells cur e fr)) : (sortWorld zrH w g 0 n d os).heap[g]? = some (.cells (putCells zrH 0 d cur) e fr) := by
 unfold sortWorld
 rw [heap_grow_old _ _ (by rw [size_putRow]; exact z3c hb)]
 simp [putRow, mapBlock, Sort.ahead, Array.getElem?_modify, hb, onCells]
theorem zjs {w : World} {g n : Nat} {os : Array Obj} (d : Array (Fin 128)) {b : Nat} (hb : b < w.heap.size) (hne : b ≠ g) : (sortWorld zrH w g 0 n d os).heap[b]? = w.heap[b]? := by
 unfold sortWorld
 rw [heap_grow_old _ _ (by rw [size_putRow]; exact hb)]
 simp [putRow, mapBlock, Sort.ahead, Array.getElem?_modify, Ne.symm hne]
theorem zuC {w : World} {g n : Nat} {os : Array Obj} (d : Array (Fin 128)) : w.heap.size <= (sortWorld zrH w g 0 n d os).heap.size := by
 unfold sortWorld
 rw [size_grow, size_putRow]
 show w.heap.size <= w.heap.size + _
 omega
theorem zrL {I : World -> (Nat -> z0o) -> Prop} : zbw Try.prog I xtC := by
 intro f args r outs h
 unfold xtC at h
 split at h
 case isFalse => cases h
 rename_i hf
 subst hf
 unfold zvQ at h
 split at h
 case h_2 => cases h
 rename_i n cs f fs gs
 split at h
 case isFalse => cases h
 rename_i hfg
 obtain ⟨rfl, hfs, hgs⟩ := hfg
 simp only [Array.isEmpty_iff] at hfs hgs
 subst hfs hgs
 split at h
 case h_2 => cases h
 rename_i xs hxs
 split at h
 case isFalse => cases h
 rename_i hn
 subst hn
 unfold zpT at h
 split at h
 case isFalse => cases h
 rename_i hc
 obtain ⟨hne, hlen, hall⟩ := hc
 have hx : ∀ x ∈ xs, 0 <= x /\ x < 128 := by simpa using hall
 obtain ⟨rfl, rfl⟩ : T.tup [] = r /\ [T.os 1 (zcO xs).length ((zcO xs).map fun x => .sc (.int .i64 x)), .dead] = outs := by simpa using h
 have hcs := zmT hxs
 subst hcs
 clear h hxs hall
 refine ⟨fun vals w => ?_, fun w K vals hs ha hI => ?_⟩
 ·have hb : ∃ c, Try.f64.body = some c := ⟨_, rfl⟩
  obtain ⟨c, hb⟩ := hb
  have hname : Try.f64.name ≠ "runtime.NumGoroutine" := by decide
  simp [callFunc, program, Sem.run, Try.func64, hname, hb]
 ·obtain ⟨v, u, rfl⟩ : ∃ v u, vals = #[v, u] := by
   obtain ⟨l⟩ := vals
   match l, hs with
   | [v, u], _ => exact ⟨v, u, rfl⟩
  have hv : TRep w K (col 0) v (.os 1 xs.length (xs.map fun x => .sc (.int .i64 x))) := ha 0 _ rfl
  have hu : TRep w K [] u (.sc (.func (.func 65) #[] #[])) := ha 1 _ rfl
  rw [hu.sc_eq]
  clear hu ha
  have hl0 : 0 < xs.length := List.length_pos_iff.2 hne
  generalize hT : T.os 1 xs.length (xs.map fun x => T.sc (.int .i64 x)) = t at hv
  cases hv with
  | nil => injection hT with _ e _; omega
  | own c g n cap size cs arr e fz F hfz hc0 hK hg hsz hl hz hn hcap hF hh =>
   injection hT with e1 e2 e3
   subst e1 e2 e3
   have hcell : ∀ j (hj : j < xs.length), arr[j]? = some (.int .i64 xs[j]) := fun j hj => by
    rw [hF j (by simpa using hj)]
    have := hh j (.sc (.int .i64 xs[j])) (by simp [hj])
    rw [this.sc_eq]
   have hH : Holds zrH w g 0 (xs.map toF).toArray := fun j hj => by
    have hj' : j < xs.length := by simpa using hj
    constructor
    ·rw [Nat.zero_add, z4s hg, hcell j hj', getElem!_pos _ j hj]
     simp only [zrH, List.getElem_toArray, List.getElem_map]
     have := zvv (hx _ (List.getElem_mem hj'))
     unfold ofF at this
     rw [this]
    ·unfold World.frozen?
     rw [Nat.zero_add]
     simp only [hg]
     have := hfz j (by omega)
     obtain ⟨lo, hi⟩ := fz
     simp only at this ⊢
     simp only [Bool.and_eq_false_iff, decide_eq_false_iff_not]
     omega
   have eg : ∀ args w, (callFunc 65 args).run Try.prog w = .ok (.enter 65 args) w := enters_of Try.func65 (by kernel_rfl) rfl
   have hcmp : CmpLays1 Try.prog 65 #[] zrH cfS g 0 (xs.map toF).toArray.size w := fun m os dk _ x y => zzP x y _
   have hcon := Try.slices_SortFunc zrH (fun _ => rfl) cfS zB1 65 #[] g 0 cap (xs.map toF).toArray w eg hcmp hH (z3c hg) (by simpa using hlen)
   have hsize : (xs.map toF).toArray.size = xs.length := by simp
   rw [hsize] at hcon
   refine hcon.mono fun e' w' ⟨he, d', m, os, hp, hso, hw⟩ => ?_
   subst hw
   have hsort := znP hx (by rw [hsize]; exact hp) (by rw [hsize]; exact hso)
   have hd : d'.size = xs.length := by have := hp.1; simpa using this
   have hys : (zcO xs).length = xs.length := (zer xs).length_eq
   refine ⟨.tuple #[], zyl w.heap.size K, he, ?_, fun i t hi hio => ?_, rfl, rfl, rfl, zuC d', fun b hb hcb => ⟨by unfold zyl; rw [if_neg (by omega)], zjs d' hb ?_⟩, ?_⟩
   ·exact .tup _ #[] [] (fun _ => undef) rfl (fun j hj => by simp at hj) (fun j t ht => by simp at ht)
   ·match i, hi with
    | 0, hi =>
     refine ⟨_, rfl, ?_⟩
     show TRep _ _ (col 0) (.slice (some ⟨g, 0, none⟩) xs.length cap) _
     rw [← hys]
     refine .own (col 0) g _ cap 1 _ (putCells zrH 0 d' arr) e fz (fun j => .int .i64 ((zcO xs).getD j 0)) (fun i hi => hfz i (by simpa [putCells] using hi)) (by simp [col]) (by unfold zyl; rw [if_neg (by have := z3c hg; omega)]; exact hK) (zpf d' hg) (by simpa [putCells] using hsz) (by simp) (by omega) (by omega) hcap (fun j hj => ?_) (fun j t ht => ?_)
     ·have hj' : j < xs.length := by simpa [hys] using hj
      have hja : j < arr.size := (Array.getElem?_eq_some_iff.1 (hcell j hj')).1
      have hjd : j < d'.size := by omega
      simp only [putCells, Array.getElem?_mapIdx, hcell j hj', Option.map_some]
      rw [if_pos (by omega), Nat.sub_zero, getElem!_pos d' j hjd]
      have : (zcO xs).getD j 0 = ofF d'[j] := by
       rw [← hsort]; simp [List.getD, hjd]
      rw [this]; rfl
     ·simp only [List.getElem?_map, Option.map_eq_some_iff] at ht
      obtain ⟨x, hx', rfl⟩ := ht
      simp only [List.getD, hx']
      exact .sc _ _ rfl
    | 1, hi => cases hi; cases hio
   ·rintro rfl
    rw [hK] at hcb
    simp [col] at hcb
   ·intro b arr0 e0 fz0 hb0
    by_cases hbg : b = g
    ·subst hbg
     rw [hg] at hb0
     cases hb0
     exact ⟨_, _, _, zpf d' hg, by simp [putCells]⟩
    ·exact ⟨_, _, _, (zjs d' (z3c hb0) hbg).trans hb0, rfl⟩
  | _ => cases hT
end Go.Proofs.Ytbnnipkanechoaa
end
section
namespace Go.Proofs.Ytbnnipkanechoaa
structure StOk (ops : Array Oper) (t : SchT) (L : Array Bool) (d : Nat) (ns : List Nat) : Prop where
 ord : z3R .any ops true t L = true
 dep : t.depth = d
 nx : ∀ z ∈ t.nexts, z ∈ ns
structure BrOk (ops : Array Oper) (t : SchT) (L : Array Bool) (d : Nat) (ns hs : List Nat) : Prop where
 ord : z3R .any ops false t L = true
 dep : t.depth = d
 nx : ∀ z ∈ t.nexts, z ∈ ns
 hd : ∀ i ∈ hs, i ∈ t.heads
theorem zmf {ops : Array Oper} {L : Array Bool} (h : decide (Region.ready .any ops L = []) = true) : StOk ops .nil L 0 [] := ⟨by simp only [z3R, h, Bool.and_true], rfl, fun z hz => by simp [SchT.nexts] at hz⟩
theorem zB2 {ops : Array Oper} {k m : Nat} {rest : SchT} {L L' : Array Bool} {d : Nat} {ns : List Nat} (h : StOk ops rest L' d ns) (hL : L.setIfInBounds k true = L')
  (hc : ((m == 0 || m == 3) && (Region.ready .any ops L).contains k && Region.free .any ops L k && !(ns.contains k) && (m == 3 || ns.all fun z => (zwF .any ops ops.size [z]).contains k)) = true) : StOk ops (.op k m rest) L (d + 1) ns := by
 simp only [Bool.and_eq_true, Bool.or_eq_true, Bool.not_eq_true', beq_iff_eq] at hc
 obtain ⟨⟨⟨⟨h1, h2⟩, h3⟩, h4⟩, h5⟩ := hc
 have hm2 : ¬ m = 2 := by omega
 have hk : k ∉ ns := by simpa using h4
 refine ⟨?_, by simp only [SchT.depth, h.dep], fun z hz => h.nx z (by simpa only [SchT.nexts, if_neg hm2] using hz)⟩
 simp only [z3R]
 rw [if_pos (by simpa using h1), hL, h.ord, h2, h3]
 have h6 : rest.nexts.contains k = false := by
  rw [Bool.eq_false_iff]
  intro hh
  exact hk (h.nx k (by simpa using hh))
 rw [h6]
 simp only [Bool.not_false, Bool.and_self, Bool.true_and, Bool.and_true, Bool.or_eq_true, beq_iff_eq]
 rcases h5 with h5 | h5
 ·exact .inl h5
 ·exact .inr (List.all_eq_true.2 fun z hz => List.all_eq_true.1 h5 z (h.nx z hz))
theorem zB3 {ops : Array Oper} {k m : Nat} {rest : SchT} {L L' : Array Bool} {d : Nat} {ns ns' : List Nat} (h : StOk ops rest L' d ns) (hL : L.setIfInBounds k true = L')
  (hc : ((m == 1 || m == 2) && decide (Region.ready .any ops L = [k])) = true) (hn : (if m = 2 then [k] else ns) = ns') : StOk ops (.op k m rest) L (d + 1) ns' := by
 subst hn
 simp only [Bool.and_eq_true, Bool.or_eq_true, beq_iff_eq] at hc
 obtain ⟨h1, h2⟩ := hc
 refine ⟨?_, by simp only [SchT.depth, h.dep], fun z hz => ?_⟩
 ·simp only [z3R]
  rw [if_neg (by omega), hL, h.ord, h2]
  simp [h1]
 ·simp only [SchT.nexts] at hz
  split at hz
  ·rename_i e; rw [if_pos e]; exact hz
  ·rename_i e; rw [if_neg e]; exact h.nx z hz
theorem zD3 {ops : Array Oper} {k m : Nat} {rest : SchT} {L L' : Array Bool} {d : Nat} {ns ns' : List Nat} (h : StOk ops rest L' d ns) (hL : L.setIfInBounds k true = L')
  (hc : ((m == 1 || m == 2) && (Region.ready .any ops L).contains k) = true) (hn : (if m = 2 then [k] else ns) = ns') : BrOk ops (.op k m rest) L (d + 1) ns' [k] := by
 subst hn
 simp only [Bool.and_eq_true, Bool.or_eq_true, beq_iff_eq] at hc
 obtain ⟨h1, h2⟩ := hc
 refine ⟨?_, by simp only [SchT.depth, h.dep], fun z hz => ?_, fun i hi => by simpa [SchT.heads] using hi⟩
 ·simp only [z3R]
  rw [if_neg (by simp), hL, h.ord, h2]
  simp [h1]
 ·simp only [SchT.nexts] at hz
  split at hz
  ·rename_i e; rw [if_pos e]; exact hz
  ·rename_i e; rw [if_neg e]; exact h.nx z hz
theorem z0b {ops : Array Oper} {a b : SchT} {L : Array Bool} {d : Nat} {n1 n2 h1 h2 : List Nat} (ha : BrOk ops a L d n1 h1) (hb : BrOk ops b L d n2 h2) : BrOk ops (.alt a b) L d (n1 ++ n2) (h1 ++ h2) := by
 refine ⟨?_, by simp only [SchT.depth, ha.dep], fun z hz => ?_, fun i hi => ?_⟩
 ·simp only [z3R, ha.ord, hb.ord, ha.dep, hb.dep]; simp
 ·simp only [SchT.nexts, List.mem_append] at hz ⊢
  exact hz.imp (ha.nx z) (hb.nx z)
 ·simp only [SchT.heads, List.mem_append] at hi ⊢
  exact hi.imp (ha.hd i) (hb.hd i)
theorem zx6 {ops : Array Oper} {a b : SchT} {L : Array Bool} {d : Nat} {ns ns' hs : List Nat} (h : BrOk ops (.alt a b) L d ns hs) (hc : ((Region.ready .any ops L).all fun i => hs.contains i) = true) (hn : (ns.all fun z => ns'.contains z) = true) : StOk ops (.alt a b) L d ns' := by
 refine ⟨?_, h.dep, fun z hz => by simpa using List.all_eq_true.1 hn z (h.nx z hz)⟩
 have := h.ord
 simp only [z3R, Bool.and_eq_true, decide_eq_true_eq] at this ⊢
 obtain ⟨⟨⟨h1, h2⟩, h3⟩, h4⟩ := this
 refine ⟨⟨⟨?_, h2⟩, h3⟩, h4⟩
 simp only [Bool.not_true, Bool.false_or, decide_eq_true_eq]
 intro i hi
 have := List.all_eq_true.1 hc i hi
 exact h.hd i (by simpa using this)
def zhY : Nat -> Nat -> List Bool
 | 0, _ => []
 | n + 1, k => (k % 2 == 1) :: zhY n (k / 2)
def mB (n k : Nat) : Array Bool := ⟨zhY n k⟩
theorem zpI : ∀ n k, (zhY n k).length = n
 | 0, _ => rfl
 | n + 1, k => by simp [zhY, zpI n]
theorem zkA : ∀ n k i (h : i < (zhY n k).length), (zhY n k)[i] = k.testBit i
 | 0, k, i, h => by simp [zhY] at h
 | n + 1, k, 0, h => by simp only [zhY, List.getElem_cons_zero, Nat.testBit_zero]; rfl
 | n + 1, k, i + 1, h => by
  simp only [zhY, List.getElem_cons_succ]
  rw [zkA n (k / 2) i, Nat.testBit_succ]
theorem zsG {n a k : Nat} : (mB n a).setIfInBounds k true = mB n (a ||| 2 ^ k) := by
 apply Array.ext
 ·simp [mB, zpI]
 ·intro i h1 h2
  have e1 : i < (zhY n a).length := by simpa [mB] using h1
  have e2 : i < (zhY n (a ||| 2 ^ k)).length := by simpa [mB] using h2
  have b1 := zkA n a i e1
  have b2 := zkA n (a ||| 2 ^ k) i e2
  rw [Array.getElem_setIfInBounds]
  simp only [mB, List.getElem_toArray] at b1 b2 ⊢
  rw [b1, b2, Nat.testBit_or, Nat.testBit_two_pow]
  ·by_cases h : k = i
   ·simp [h]
   ·simp [h]
  ·simpa [mB] using e1
theorem sq {ops : Array Oper} {k m n a : Nat} {rest : SchT} {d : Nat} {ns : List Nat} (h : StOk ops rest (mB n (a ||| 2 ^ k)) d ns)
  (hc : ((m == 0 || m == 3) && (Region.ready .any ops (mB n a)).contains k && Region.free .any ops (mB n a) k && !(ns.contains k) && (m == 3 || ns.all fun z => (zwF .any ops ops.size [z]).contains k)) = true := by kernel_rfl) : StOk ops (.op k m rest) (mB n a) (d + 1) ns := zB2 h zsG hc
theorem se {ops : Array Oper} {k m n a : Nat} {rest : SchT} {d : Nat} {ns ns' : List Nat} (h : StOk ops rest (mB n (a ||| 2 ^ k)) d ns)
  (hc : ((m == 1 || m == 2) && decide (Region.ready .any ops (mB n a) = [k])) = true := by kernel_rfl) (hn : (if m = 2 then [k] else ns) = ns' := by rfl) : StOk ops (.op k m rest) (mB n a) (d + 1) ns' := zB3 h zsG hc hn
theorem be {ops : Array Oper} {k m n a : Nat} {rest : SchT} {d : Nat} {ns ns' : List Nat} (h : StOk ops rest (mB n (a ||| 2 ^ k)) d ns)
  (hc : ((m == 1 || m == 2) && (Region.ready .any ops (mB n a)).contains k) = true := by kernel_rfl) (hn : (if m = 2 then [k] else ns) = ns' := by rfl) : BrOk ops (.op k m rest) (mB n a) (d + 1) ns' [k] := zD3 h zsG hc hn
theorem sa {ops : Array Oper} {a b : SchT} {L : Array Bool} {d : Nat} {ns ns' hs : List Nat} (h : BrOk ops (.alt a b) L d ns hs) (hc : ((Region.ready .any ops L).all fun i => hs.contains i) = true := by kernel_rfl) (hn : (ns.all fun z => ns'.contains z) = true := by rfl) : StOk ops (.alt a b) L d ns' := zx6 h hc hn
def znX (cf : Cfg) (sk : Nat -> Bool) : Code -> Bool
 | .region id ops draw => sk id || (!draw || (match cf.dt id with | some t => zbp ops t | none => (match cf.dr id with | some sch => zt6 ops sch | none => true)))
 | .seq a b => znX cf sk a && znX cf sk b
 | .cond _ x y => znX cf sk x && znX cf sk y
 | .block _ c => znX cf sk c
 | .loop c => znX cf sk c
 | .scope c => znX cf sk c
 | _ => true
def z4W (i : Nat) : Code -> List (Array Oper)
 | .region id ops _ => if Nat.beq id i then [ops] else []
 | .seq a b => z4W i a ++ z4W i b
 | .cond _ x y => z4W i x ++ z4W i y
 | .block _ c => z4W i c
 | .loop c => z4W i c
 | .scope c => z4W i c
 | _ => []
noncomputable def zho (i : Nat) (c : Code) : Array Oper := match z4W i c with | x :: _ => x | [] => #[]
theorem zeS {cf : Cfg} {sk : Nat -> Bool} : ∀ (c : Code), znX cf sk c = true -> (∀ i, sk i = true -> ∃ t, cf.dt i = some t /\ ∀ o ∈ z4W i c, zbp o t = true) -> okC cf c = true
 | .region id ops draw, h, hs => by
  simp only [znX, Bool.or_eq_true] at h
  simp only [okC, Bool.or_eq_true]
  rcases h with h | h
  ·right
   obtain ⟨t, h1, h2⟩ := hs id h
   rw [h1]
   exact h2 ops (by simp [z4W])
  ·exact h
 | .seq a b, h, hs => by
  simp only [znX, Bool.and_eq_true] at h
  simp only [okC, Bool.and_eq_true]
  exact ⟨zeS a h.1 fun i hi => by obtain ⟨t, h1, h2⟩ := hs i hi; exact ⟨t, h1, fun o ho => h2 o (by simp only [z4W, List.mem_append]; exact .inl ho)⟩,
   zeS b h.2 fun i hi => by obtain ⟨t, h1, h2⟩ := hs i hi; exact ⟨t, h1, fun o ho => h2 o (by simp only [z4W, List.mem_append]; exact .inr ho)⟩⟩
 | .cond _ a b, h, hs => by
  simp only [znX, Bool.and_eq_true] at h
  simp only [okC, Bool.and_eq_true]
  exact ⟨zeS a h.1 fun i hi => by obtain ⟨t, h1, h2⟩ := hs i hi; exact ⟨t, h1, fun o ho => h2 o (by simp only [z4W, List.mem_append]; exact .inl ho)⟩,
   zeS b h.2 fun i hi => by obtain ⟨t, h1, h2⟩ := hs i hi; exact ⟨t, h1, fun o ho => h2 o (by simp only [z4W, List.mem_append]; exact .inr ho)⟩⟩
 | .block _ c, h, hs => by simp only [okC]; exact zeS c (by simpa only [znX] using h) (by simpa only [z4W] using hs)
 | .loop c, h, hs => by simp only [okC]; exact zeS c (by simpa only [znX] using h) (by simpa only [z4W] using hs)
 | .scope c, h, hs => by simp only [okC]; exact zeS c (by simpa only [znX] using h) (by simpa only [z4W] using hs)
 | .skip, _, _ => rfl
 | .label .., _, _ => rfl
 | .exit .., _, _ => rfl
 | .ret, _, _ => rfl
 | .rangeFunc .., _, _ => rfl
 | .goto _, _, _ => rfl
 | .refuse _, _, _ => rfl
theorem zhi {c : Code} {i : Nat} {t : SchT} {n : Nat} {ns : List Nat} {L : Array Bool} (hr : (z4W i c).length = 1) (hs : StOk (zho i c) t L n ns) (hL : L = Array.replicate (zho i c).toList.length false) (hd : (decide (n = (zho i c).toList.length) && Region.noSelect (zho i c)) = true) : ∀ o ∈ z4W i c, zbp o t = true := by
 intro o ho
 obtain ⟨x, hx⟩ : ∃ x, z4W i c = [x] := List.length_eq_one_iff.1 hr
 have e : zho i c = x := by unfold zho; rw [hx]
 rw [hx] at ho
 obtain rfl : o = x := by simpa using ho
 rw [e] at hs hL hd
 subst hL
 simp only [Bool.and_eq_true, decide_eq_true_eq] at hd
 unfold zbp
 simp only [Bool.and_eq_true, decide_eq_true_eq]
 exact ⟨⟨hs.dep.trans hd.1, hd.2⟩, hs.ord⟩
theorem zke {P : Program} {f : FuncId} {cf : Cfg} {fn : Func} {c : Code} (l : List Nat) (hf : P.funcs[f]? = some fn) (hb : fn.body = some c) (hn : (fn.name != "runtime.NumGoroutine") = true) (h2 : znX cf l.contains c = true)
  (ht : ∀ i ∈ l, ∃ t, cf.dt i = some t /\ ∀ o ∈ z4W i c, zbp o t = true) : z3S P f cf = true := by
 unfold z3S
 simp only [hf, hb, hn, Bool.true_and]
 exact zeS c h2 fun j hj => ht j (by simpa using hj)
end Go.Proofs.Ytbnnipkanechoaa
end
section
namespace Go.Proofs.Ytbnnipkanechoaa
open Go
set_option maxRecDepth 100000
noncomputable abbrev z0l : Array Oper := (zho 9 cd7)
theorem zpV : StOk z0l zlc (mB 26 67108863) 0 [] := zmf (by kernel_rfl)
theorem zik : StOk z0l zge (mB 26 33554431) 1 [25] := se zpV
theorem zpW : StOk z0l zld (mB 26 25165823) 2 [25] := sq zik
theorem zpX : StOk z0l zle (mB 26 16777215) 2 [25] := se zik
theorem zdq : StOk z0l zco (mB 26 20971519) 3 [22] := se zpW
theorem zpY : StOk z0l zlf (mB 26 8388607) 3 [25] := sq zpX
theorem zac : StOk z0l z9F (mB 26 20709375) 4 [18] := se zdq
theorem zil : StOk z0l zgf (mB 26 20447231) 4 [22] := se zdq
theorem zim : StOk z0l zgg (mB 26 4194303) 4 [22] := sa (z0b (be zpY) (be zdq))
theorem zad : StOk z0l z9G (mB 26 20692991) 5 [18] := se zac
theorem zdr : StOk z0l zcp (mB 26 20676607) 5 [18] := se zac
theorem zds : StOk z0l zcq (mB 26 20185087) 5 [18] := sa (z0b (be zil) (be zac))
theorem zdt : StOk z0l zcr (mB 26 3932159) 5 [18] := sa (z0b (be zim) (be zac))
theorem zpZ : StOk z0l zlg (mB 26 3670015) 5 [22] := sa (z0b (be zim) (be zil))
theorem z8p : StOk z0l z8B (mB 26 20690943) 6 [11] := se zad
theorem zdu : StOk z0l zcs (mB 26 20660223) 6 [18] := sa (z0b (be zdr) (be zad))
theorem zdv : StOk z0l zct (mB 26 20168703) 6 [18] := sa (z0b (be zds) (be zad))
theorem zdw : StOk z0l zcu (mB 26 3915775) 6 [18] := sa (z0b (be zdt) (be zad))
theorem zin : StOk z0l zgh (mB 26 20152319) 6 [18] := sa (z0b (be zds) (be zdr))
theorem zio : StOk z0l zgi (mB 26 3899391) 6 [18] := sa (z0b (be zdt) (be zdr))
theorem zip : StOk z0l zgj (mB 26 3407871) 6 [18] := sa (z0b (be zpZ) (z0b (be zdt) (be zds)))
theorem z7n : StOk z0l z7z (mB 26 20690815) 7 [7] := se z8p
theorem zae : StOk z0l z9H (mB 26 20690687) 7 [11] := se z8p
theorem zaf : StOk z0l z9I (mB 26 20658175) 7 [11] := sa (z0b (be zdu) (be z8p))
theorem zag : StOk z0l z9J (mB 26 20166655) 7 [11] := sa (z0b (be zdv) (be z8p))
theorem zah : StOk z0l z9K (mB 26 3913727) 7 [11] := sa (z0b (be zdw) (be z8p))
theorem ziq : StOk z0l zgk (mB 26 20135935) 7 [18] := sa (z0b (be zin) (z0b (be zdv) (be zdu)))
theorem zir : StOk z0l zgl (mB 26 3883007) 7 [18] := sa (z0b (be zio) (z0b (be zdw) (be zdu)))
theorem zis : StOk z0l zgm (mB 26 3391487) 7 [18] := sa (z0b (be zip) (z0b (be zdw) (be zdv)))
theorem zq0 : StOk z0l zlh (mB 26 3375103) 7 [18] := sa (z0b (be zip) (z0b (be zio) (be zin)))
theorem z7o : StOk z0l z7A (mB 26 20690807) 8 [3] := se z7n
theorem z8q : StOk z0l z8C (mB 26 20690799) 8 [7] := se z7n
theorem z8r : StOk z0l z8D (mB 26 20690559) 8 [7] := sa (z0b (be zae) (be z7n))
theorem z8s : StOk z0l z8E (mB 26 20658047) 8 [7] := sa (z0b (be zaf) (be z7n))
theorem z8t : StOk z0l z8F (mB 26 20166527) 8 [7] := sa (z0b (be zag) (be z7n))
theorem z8u : StOk z0l z8G (mB 26 3913599) 8 [7] := sa (z0b (be zah) (be z7n))
theorem zdx : StOk z0l zcv (mB 26 20657919) 8 [11] := sa (z0b (be zaf) (be zae))
theorem zdy : StOk z0l zcw (mB 26 20166399) 8 [11] := sa (z0b (be zag) (be zae))
theorem zdz : StOk z0l zcx (mB 26 3913471) 8 [11] := sa (z0b (be zah) (be zae))
theorem zdA : StOk z0l zcy (mB 26 20133887) 8 [11] := sa (z0b (be ziq) (z0b (be zag) (be zaf)))
theorem zdB : StOk z0l zcz (mB 26 3880959) 8 [11] := sa (z0b (be zir) (z0b (be zah) (be zaf)))
theorem zdC : StOk z0l zcA (mB 26 3389439) 8 [11] := sa (z0b (be zis) (z0b (be zah) (be zag)))
theorem zq1 : StOk z0l zli (mB 26 3358719) 8 [18] := sa (z0b (be zq0) (z0b (be zis) (z0b (be zir) (be ziq))))
theorem z8v : StOk z0l z8H (mB 26 20690806) 9 [3] := se z7o
theorem z8w : StOk z0l z8I (mB 26 20690791) 9 [3] := sa (z0b (be z8q) (be z7o))
theorem z8x : StOk z0l z8J (mB 26 20690551) 9 [3] := sa (z0b (be z8r) (be z7o))
theorem z8y : StOk z0l z8K (mB 26 20658039) 9 [3] := sa (z0b (be z8s) (be z7o))
theorem z8z : StOk z0l z8L (mB 26 20166519) 9 [3] := sa (z0b (be z8t) (be z7o))
theorem z8A : StOk z0l z8M (mB 26 3913591) 9 [3] := sa (z0b (be z8u) (be z7o))
theorem zbA : StOk z0l zbZ (mB 26 20690543) 9 [7] := sa (z0b (be z8r) (be z8q))
theorem zbB : StOk z0l zc0 (mB 26 20658031) 9 [7] := sa (z0b (be z8s) (be z8q))
theorem zbC : StOk z0l zc1 (mB 26 20166511) 9 [7] := sa (z0b (be z8t) (be z8q))
theorem zbD : StOk z0l zc2 (mB 26 3913583) 9 [7] := sa (z0b (be z8u) (be z8q))
theorem zbE : StOk z0l zc3 (mB 26 20657791) 9 [7] := sa (z0b (be zdx) (z0b (be z8s) (be z8r)))
theorem zbF : StOk z0l zc4 (mB 26 20166271) 9 [7] := sa (z0b (be zdy) (z0b (be z8t) (be z8r)))
theorem zbG : StOk z0l zc5 (mB 26 3913343) 9 [7] := sa (z0b (be zdz) (z0b (be z8u) (be z8r)))
theorem zbH : StOk z0l zc6 (mB 26 20133759) 9 [7] := sa (z0b (be zdA) (z0b (be z8t) (be z8s)))
theorem zbI : StOk z0l zc7 (mB 26 3880831) 9 [7] := sa (z0b (be zdB) (z0b (be z8u) (be z8s)))
theorem zbJ : StOk z0l zc8 (mB 26 3389311) 9 [7] := sa (z0b (be zdC) (z0b (be z8u) (be z8t)))
theorem zkO : StOk z0l zjC (mB 26 20133631) 9 [11] := sa (z0b (be zdA) (z0b (be zdy) (be zdx)))
theorem zkP : StOk z0l zjD (mB 26 3880703) 9 [11] := sa (z0b (be zdB) (z0b (be zdz) (be zdx)))
theorem zkQ : StOk z0l zjE (mB 26 3389183) 9 [11] := sa (z0b (be zdC) (z0b (be zdz) (be zdy)))
theorem zkR : StOk z0l zjF (mB 26 3356671) 9 [11] := sa (z0b (be zq1) (z0b (be zdC) (z0b (be zdB) (be zdA))))
theorem zbK : StOk z0l zc9 (mB 26 20690790) 10 [3] := sa (z0b (be z8w) (be z8v))
theorem zbL : StOk z0l zca (mB 26 20690550) 10 [3] := sa (z0b (be z8x) (be z8v))
theorem zbM : StOk z0l zcb (mB 26 20658038) 10 [3] := sa (z0b (be z8y) (be z8v))
theorem zbN : StOk z0l zcc (mB 26 20166518) 10 [3] := sa (z0b (be z8z) (be z8v))
theorem zbO : StOk z0l zcd (mB 26 3913590) 10 [3] := sa (z0b (be z8A) (be z8v))
theorem zbP : StOk z0l zce (mB 26 20690535) 10 [3] := sa (z0b (be zbA) (z0b (be z8x) (be z8w)))
theorem zbQ : StOk z0l zcf (mB 26 20658023) 10 [3] := sa (z0b (be zbB) (z0b (be z8y) (be z8w)))
theorem zbR : StOk z0l zcg (mB 26 20166503) 10 [3] := sa (z0b (be zbC) (z0b (be z8z) (be z8w)))
theorem zbS : StOk z0l zch (mB 26 3913575) 10 [3] := sa (z0b (be zbD) (z0b (be z8A) (be z8w)))
theorem zbT : StOk z0l zci (mB 26 20657783) 10 [3] := sa (z0b (be zbE) (z0b (be z8y) (be z8x)))
theorem zbU : StOk z0l zcj (mB 26 20166263) 10 [3] := sa (z0b (be zbF) (z0b (be z8z) (be z8x)))
theorem zbV : StOk z0l zck (mB 26 3913335) 10 [3] := sa (z0b (be zbG) (z0b (be z8A) (be z8x)))
theorem zbW : StOk z0l zcl (mB 26 20133751) 10 [3] := sa (z0b (be zbH) (z0b (be z8z) (be z8y)))
theorem zbX : StOk z0l zcm (mB 26 3880823) 10 [3] := sa (z0b (be zbI) (z0b (be z8A) (be z8y)))
theorem zbY : StOk z0l zcn (mB 26 3389303) 10 [3] := sa (z0b (be zbJ) (z0b (be z8A) (be z8z)))
theorem zfK : StOk z0l zf4 (mB 26 20657775) 10 [7] := sa (z0b (be zbE) (z0b (be zbB) (be zbA)))
theorem zfL : StOk z0l zf5 (mB 26 20166255) 10 [7] := sa (z0b (be zbF) (z0b (be zbC) (be zbA)))
theorem zfM : StOk z0l zf6 (mB 26 3913327) 10 [7] := sa (z0b (be zbG) (z0b (be zbD) (be zbA)))
theorem zfN : StOk z0l zf7 (mB 26 20133743) 10 [7] := sa (z0b (be zbH) (z0b (be zbC) (be zbB)))
theorem zfO : StOk z0l zf8 (mB 26 3880815) 10 [7] := sa (z0b (be zbI) (z0b (be zbD) (be zbB)))
theorem zfP : StOk z0l zf9 (mB 26 3389295) 10 [7] := sa (z0b (be zbJ) (z0b (be zbD) (be zbC)))
theorem zfQ : StOk z0l zfa (mB 26 20133503) 10 [7] := sa (z0b (be zkO) (z0b (be zbH) (z0b (be zbF) (be zbE))))
theorem zfR : StOk z0l zfb (mB 26 3880575) 10 [7] := sa (z0b (be zkP) (z0b (be zbI) (z0b (be zbG) (be zbE))))
theorem zfS : StOk z0l zfc (mB 26 3389055) 10 [7] := sa (z0b (be zkQ) (z0b (be zbJ) (z0b (be zbG) (be zbF))))
theorem zfT : StOk z0l zfd (mB 26 3356543) 10 [7] := sa (z0b (be zkR) (z0b (be zbJ) (z0b (be zbI) (be zbH))))
theorem zrU : StOk z0l zov (mB 26 3356415) 10 [11] := sa (z0b (be zkR) (z0b (be zkQ) (z0b (be zkP) (be zkO))))
theorem zfU : StOk z0l zfe (mB 26 20690534) 11 [3] := sa (z0b (be zbP) (z0b (be zbL) (be zbK)))
theorem zfV : StOk z0l zff (mB 26 20658022) 11 [3] := sa (z0b (be zbQ) (z0b (be zbM) (be zbK)))
theorem zfW : StOk z0l zfg (mB 26 20166502) 11 [3] := sa (z0b (be zbR) (z0b (be zbN) (be zbK)))
theorem zfX : StOk z0l zfh (mB 26 3913574) 11 [3] := sa (z0b (be zbS) (z0b (be zbO) (be zbK)))
theorem zfY : StOk z0l zfi (mB 26 20657782) 11 [3] := sa (z0b (be zbT) (z0b (be zbM) (be zbL)))
theorem zfZ : StOk z0l zfj (mB 26 20166262) 11 [3] := sa (z0b (be zbU) (z0b (be zbN) (be zbL)))
theorem zg0 : StOk z0l zfk (mB 26 3913334) 11 [3] := sa (z0b (be zbV) (z0b (be zbO) (be zbL)))
theorem zg1 : StOk z0l zfl (mB 26 20133750) 11 [3] := sa (z0b (be zbW) (z0b (be zbN) (be zbM)))
theorem zg2 : StOk z0l zfm (mB 26 3880822) 11 [3] := sa (z0b (be zbX) (z0b (be zbO) (be zbM)))
theorem zg3 : StOk z0l zfn (mB 26 3389302) 11 [3] := sa (z0b (be zbY) (z0b (be zbO) (be zbN)))
theorem zg4 : StOk z0l zfo (mB 26 20657767) 11 [3] := sa (z0b (be zfK) (z0b (be zbT) (z0b (be zbQ) (be zbP))))
theorem zg5 : StOk z0l zfp (mB 26 20166247) 11 [3] := sa (z0b (be zfL) (z0b (be zbU) (z0b (be zbR) (be zbP))))
theorem zg6 : StOk z0l zfq (mB 26 3913319) 11 [3] := sa (z0b (be zfM) (z0b (be zbV) (z0b (be zbS) (be zbP))))
theorem zg7 : StOk z0l zfr (mB 26 20133735) 11 [3] := sa (z0b (be zfN) (z0b (be zbW) (z0b (be zbR) (be zbQ))))
theorem zg8 : StOk z0l zfs (mB 26 3880807) 11 [3] := sa (z0b (be zfO) (z0b (be zbX) (z0b (be zbS) (be zbQ))))
theorem zg9 : StOk z0l zft (mB 26 3389287) 11 [3] := sa (z0b (be zfP) (z0b (be zbY) (z0b (be zbS) (be zbR))))
theorem zga : StOk z0l zfu (mB 26 20133495) 11 [3] := sa (z0b (be zfQ) (z0b (be zbW) (z0b (be zbU) (be zbT))))
theorem zgb : StOk z0l zfv (mB 26 3880567) 11 [3] := sa (z0b (be zfR) (z0b (be zbX) (z0b (be zbV) (be zbT))))
theorem zgc : StOk z0l zfw (mB 26 3389047) 11 [3] := sa (z0b (be zfS) (z0b (be zbY) (z0b (be zbV) (be zbU))))
theorem zgd : StOk z0l zfx (mB 26 3356535) 11 [3] := sa (z0b (be zfT) (z0b (be zbY) (z0b (be zbX) (be zbW))))
theorem zkS : StOk z0l zjG (mB 26 20133487) 11 [7] := sa (z0b (be zfQ) (z0b (be zfN) (z0b (be zfL) (be zfK))))
theorem zkT : StOk z0l zjH (mB 26 3880559) 11 [7] := sa (z0b (be zfR) (z0b (be zfO) (z0b (be zfM) (be zfK))))
theorem zkU : StOk z0l zjI (mB 26 3389039) 11 [7] := sa (z0b (be zfS) (z0b (be zfP) (z0b (be zfM) (be zfL))))
theorem zkV : StOk z0l zjJ (mB 26 3356527) 11 [7] := sa (z0b (be zfT) (z0b (be zfP) (z0b (be zfO) (be zfN))))
theorem zkW : StOk z0l zjK (mB 26 3356287) 11 [7] := sa (z0b (be zrU) (z0b (be zfT) (z0b (be zfS) (z0b (be zfR) (be zfQ)))))
theorem zkX : StOk z0l zjL (mB 26 20657766) 12 [3] := sa (z0b (be zg4) (z0b (be zfY) (z0b (be zfV) (be zfU))))
theorem zkY : StOk z0l zjM (mB 26 20166246) 12 [3] := sa (z0b (be zg5) (z0b (be zfZ) (z0b (be zfW) (be zfU))))
theorem zkZ : StOk z0l zjN (mB 26 3913318) 12 [3] := sa (z0b (be zg6) (z0b (be zg0) (z0b (be zfX) (be zfU))))
theorem zl0 : StOk z0l zjO (mB 26 20133734) 12 [3] := sa (z0b (be zg7) (z0b (be zg1) (z0b (be zfW) (be zfV))))
theorem zl1 : StOk z0l zjP (mB 26 3880806) 12 [3] := sa (z0b (be zg8) (z0b (be zg2) (z0b (be zfX) (be zfV))))
theorem zl2 : StOk z0l zjQ (mB 26 3389286) 12 [3] := sa (z0b (be zg9) (z0b (be zg3) (z0b (be zfX) (be zfW))))
theorem zl3 : StOk z0l zjR (mB 26 20133494) 12 [3] := sa (z0b (be zga) (z0b (be zg1) (z0b (be zfZ) (be zfY))))
theorem zl4 : StOk z0l zjS (mB 26 3880566) 12 [3] := sa (z0b (be zgb) (z0b (be zg2) (z0b (be zg0) (be zfY))))
theorem zl5 : StOk z0l zjT (mB 26 3389046) 12 [3] := sa (z0b (be zgc) (z0b (be zg3) (z0b (be zg0) (be zfZ))))
theorem zl6 : StOk z0l zjU (mB 26 3356534) 12 [3] := sa (z0b (be zgd) (z0b (be zg3) (z0b (be zg2) (be zg1))))
theorem zl7 : StOk z0l zjV (mB 26 20133479) 12 [3] := sa (z0b (be zkS) (z0b (be zga) (z0b (be zg7) (z0b (be zg5) (be zg4)))))
theorem zl8 : StOk z0l zjW (mB 26 3880551) 12 [3] := sa (z0b (be zkT) (z0b (be zgb) (z0b (be zg8) (z0b (be zg6) (be zg4)))))
theorem zl9 : StOk z0l zjX (mB 26 3389031) 12 [3] := sa (z0b (be zkU) (z0b (be zgc) (z0b (be zg9) (z0b (be zg6) (be zg5)))))
theorem zla : StOk z0l zjY (mB 26 3356519) 12 [3] := sa (z0b (be zkV) (z0b (be zgd) (z0b (be zg9) (z0b (be zg8) (be zg7)))))
theorem zlb : StOk z0l zjZ (mB 26 3356279) 12 [3] := sa (z0b (be zkW) (z0b (be zgd) (z0b (be zgc) (z0b (be zgb) (be zga)))))
theorem zrV : StOk z0l zow (mB 26 3356271) 12 [7] := sa (z0b (be zkW) (z0b (be zkV) (z0b (be zkU) (z0b (be zkT) (be zkS)))))
theorem zrW : StOk z0l zox (mB 26 20133478) 13 [3] := sa (z0b (be zl7) (z0b (be zl3) (z0b (be zl0) (z0b (be zkY) (be zkX)))))
theorem zrX : StOk z0l zoy (mB 26 3880550) 13 [3] := sa (z0b (be zl8) (z0b (be zl4) (z0b (be zl1) (z0b (be zkZ) (be zkX)))))
theorem zrY : StOk z0l zoz (mB 26 3389030) 13 [3] := sa (z0b (be zl9) (z0b (be zl5) (z0b (be zl2) (z0b (be zkZ) (be zkY)))))
theorem zrZ : StOk z0l zoA (mB 26 3356518) 13 [3] := sa (z0b (be zla) (z0b (be zl6) (z0b (be zl2) (z0b (be zl1) (be zl0)))))
theorem zs0 : StOk z0l zoB (mB 26 3356278) 13 [3] := sa (z0b (be zlb) (z0b (be zl6) (z0b (be zl5) (z0b (be zl4) (be zl3)))))
theorem zs1 : StOk z0l zoC (mB 26 3356263) 13 [3] := sa (z0b (be zrV) (z0b (be zlb) (z0b (be zla) (z0b (be zl9) (z0b (be zl8) (be zl7))))))
theorem zs2 : StOk z0l zoD (mB 26 3356262) 14 [3] := sa (z0b (be zs1) (z0b (be zs0) (z0b (be zrZ) (z0b (be zrY) (z0b (be zrX) (be zrW))))))
theorem zs3 : StOk z0l zoE (mB 26 1259110) 15 [3] := sq zs2
theorem zs4 : StOk z0l zoF (mB 26 210534) 16 [3] := sq zs3
theorem zuo : StOk z0l zs5 (mB 26 79462) 17 [3] := sq zs4
theorem zup : StOk z0l zs6 (mB 26 13926) 18 [3] := sq zuo
theorem zuq : StOk z0l zs7 (mB 26 5734) 19 [3] := sq zup
theorem zur : StOk z0l zs8 (mB 26 1638) 20 [3] := sq zuq
theorem zus : StOk z0l zs9 (mB 26 614) 21 [3] := sq zur
theorem zut : StOk z0l zsa (mB 26 102) 22 [3] := sq zus
theorem zuu : StOk z0l zsb (mB 26 38) 23 [3] := sq zut
theorem zuv : StOk z0l zsc (mB 26 6) 24 [3] := sq zuu
theorem zuw : StOk z0l zsd (mB 26 2) 25 [3] := sq zuv
theorem zux : StOk z0l zse (mB 26 0) 26 [3] := sq zuw
theorem zC9 : z3S Try.prog 7 cf7 = true := zke [9] fn7 bd7 rfl (by kernel_rfl) (by simp only [List.forall_mem_cons]; exact ⟨⟨_, rfl, zhi (by kernel_rfl) zux (by kernel_rfl) (by kernel_rfl)⟩, fun _ h => by cases h⟩)
theorem zzO : z3S Try.prog 11 cf11 = true := by kernel_rfl
theorem zzN : z3S Try.prog 12 cf12 = true := by kernel_rfl
theorem zzM : z3S Try.prog 13 cf13 = true := by kernel_rfl
noncomputable abbrev z1k : Array Oper := (zho 10 zAW)
theorem znK : StOk z1k zj8 (mB 14 16383) 0 [] := zmf (by kernel_rfl)
theorem zh6 : StOk z1k zee (mB 14 8191) 1 [13] := se znK
theorem z9i : StOk z1k z8O (mB 14 6143) 2 [13] := sq zh6
theorem znL : StOk z1k zj9 (mB 14 4095) 2 [13] := se zh6
theorem z9j : StOk z1k z8P (mB 14 6127) 3 [13] := se z9i
theorem z9k : StOk z1k z8Q (mB 14 6079) 3 [13] := se z9i
theorem z9l : StOk z1k z8R (mB 14 5887) 3 [13] := se z9i
theorem z9m : StOk z1k z8S (mB 14 5119) 3 [13] := se z9i
theorem z9n : StOk z1k z8T (mB 14 2047) 3 [13] := sq znL
theorem zbc : StOk z1k zau (mB 14 6063) 4 [13] := sa (z0b (be z9k) (be z9j))
theorem zbd : StOk z1k zav (mB 14 5871) 4 [13] := sa (z0b (be z9l) (be z9j))
theorem zbe : StOk z1k zaw (mB 14 5103) 4 [13] := sa (z0b (be z9m) (be z9j))
theorem zbf : StOk z1k zax (mB 14 2031) 4 [13] := sa (z0b (be z9n) (be z9j))
theorem zbg : StOk z1k zay (mB 14 5823) 4 [13] := sa (z0b (be z9l) (be z9k))
theorem zbh : StOk z1k zaz (mB 14 5055) 4 [13] := sa (z0b (be z9m) (be z9k))
theorem zbi : StOk z1k zaA (mB 14 1983) 4 [13] := sa (z0b (be z9n) (be z9k))
theorem zbj : StOk z1k zaB (mB 14 4863) 4 [13] := sa (z0b (be z9m) (be z9l))
theorem zbk : StOk z1k zaC (mB 14 1791) 4 [13] := sa (z0b (be z9n) (be z9l))
theorem zbl : StOk z1k zaD (mB 14 1023) 4 [13] := sa (z0b (be z9n) (be z9m))
theorem zh7 : StOk z1k zef (mB 14 5807) 5 [13] := sa (z0b (be zbg) (z0b (be zbd) (be zbc)))
theorem zh8 : StOk z1k zeg (mB 14 5039) 5 [13] := sa (z0b (be zbh) (z0b (be zbe) (be zbc)))
theorem zh9 : StOk z1k zeh (mB 14 1967) 5 [13] := sa (z0b (be zbi) (z0b (be zbf) (be zbc)))
theorem zha : StOk z1k zei (mB 14 4847) 5 [13] := sa (z0b (be zbj) (z0b (be zbe) (be zbd)))
theorem zhb : StOk z1k zej (mB 14 1775) 5 [13] := sa (z0b (be zbk) (z0b (be zbf) (be zbd)))
theorem zhc : StOk z1k zek (mB 14 1007) 5 [13] := sa (z0b (be zbl) (z0b (be zbf) (be zbe)))
theorem zhd : StOk z1k zel (mB 14 4799) 5 [13] := sa (z0b (be zbj) (z0b (be zbh) (be zbg)))
theorem zhe : StOk z1k zem (mB 14 1727) 5 [13] := sa (z0b (be zbk) (z0b (be zbi) (be zbg)))
theorem zhf : StOk z1k zen (mB 14 959) 5 [13] := sa (z0b (be zbl) (z0b (be zbi) (be zbh)))
theorem zhg : StOk z1k zeo (mB 14 767) 5 [13] := sa (z0b (be zbl) (z0b (be zbk) (be zbj)))
theorem znM : StOk z1k zja (mB 14 4783) 6 [13] := sa (z0b (be zhd) (z0b (be zha) (z0b (be zh8) (be zh7))))
theorem znN : StOk z1k zjb (mB 14 1711) 6 [13] := sa (z0b (be zhe) (z0b (be zhb) (z0b (be zh9) (be zh7))))
theorem znO : StOk z1k zjc (mB 14 943) 6 [13] := sa (z0b (be zhf) (z0b (be zhc) (z0b (be zh9) (be zh8))))
theorem zqF : StOk z1k zlW (mB 14 751) 6 [13] := sa (z0b (be zhg) (z0b (be zhc) (z0b (be zhb) (be zha))))
theorem zqG : StOk z1k zlX (mB 14 703) 6 [13] := sa (z0b (be zhg) (z0b (be zhf) (z0b (be zhe) (be zhd))))
theorem zqH : StOk z1k zlY (mB 14 687) 7 [13] := sa (z0b (be zqG) (z0b (be zqF) (z0b (be znO) (z0b (be znN) (be znM)))))
theorem zqI : StOk z1k zlZ (mB 14 175) 8 [13] := sq zqH
theorem zqJ : StOk z1k zm0 (mB 14 47) 9 [13] := sq zqI
theorem zqK : StOk z1k zm1 (mB 14 15) 10 [13] := sq zqJ
theorem zqL : StOk z1k zm2 (mB 14 7) 11 [13] := sq zqK
theorem zqM : StOk z1k zm3 (mB 14 3) 12 [13] := sq zqL
theorem zqN : StOk z1k zm4 (mB 14 1) 13 [13] := sq zqM
theorem zqO : StOk z1k zm5 (mB 14 0) 14 [13] := sq zqN
theorem zzL : z3S Try.prog 14 cf14 = true := zke [10] zAT zAZ rfl (by kernel_rfl) (by simp only [List.forall_mem_cons]; exact ⟨⟨_, rfl, zhi (by kernel_rfl) zqO (by kernel_rfl) (by kernel_rfl)⟩, fun _ h => by cases h⟩)
noncomputable abbrev z0R : Array Oper := (zho 47 zAJ)
theorem znw : StOk z0R ziU (mB 16 65535) 0 [] := zmf (by kernel_rfl)
theorem znx : StOk z0R ziV (mB 16 32767) 1 [15] := se znw
theorem zgN : StOk z0R zdV (mB 16 16383) 2 [15] := sq znx
theorem zny : StOk z0R ziW (mB 16 16255) 3 [15] := se zgN
theorem zgO : StOk z0R zdW (mB 16 8191) 3 [13] := se zgN
theorem znz : StOk z0R ziX (mB 16 8063) 4 [13] := sa (z0b (be zgO) (be zny))
theorem zgP : StOk z0R zdX (mB 16 4095) 4 [13] := sq zgO
theorem zgQ : StOk z0R zdY (mB 16 4063) 5 [13] := se zgP
theorem zgR : StOk z0R zdZ (mB 16 3967) 5 [13] := sq znz
theorem zb6 : StOk z0R zao (mB 16 2047) 5 [11] := se zgP
theorem znA : StOk z0R ziY (mB 16 3935) 6 [13] := sa (z0b (be zgR) (be zgQ))
theorem zgS : StOk z0R ze0 (mB 16 2015) 6 [11] := sa (z0b (be zb6) (be zgQ))
theorem zgT : StOk z0R ze1 (mB 16 1919) 6 [11] := sa (z0b (be zb6) (be zgR))
theorem zgU : StOk z0R ze2 (mB 16 1023) 6 [11] := sq zb6
theorem zb7 : StOk z0R zap (mB 16 1015) 7 [11] := se zgU
theorem znB : StOk z0R ziZ (mB 16 1887) 7 [11] := sa (z0b (be zgT) (z0b (be zgS) (be znA)))
theorem zgV : StOk z0R ze3 (mB 16 991) 7 [11] := sq zgS
theorem zgW : StOk z0R ze4 (mB 16 895) 7 [11] := sq zgT
theorem z9h : StOk z0R z8N (mB 16 511) 7 [9] := se zgU
theorem zgX : StOk z0R ze5 (mB 16 983) 8 [11] := sa (z0b (be zgV) (be zb7))
theorem zgY : StOk z0R ze6 (mB 16 887) 8 [11] := sa (z0b (be zgW) (be zb7))
theorem zb8 : StOk z0R zaq (mB 16 503) 8 [9] := sa (z0b (be z9h) (be zb7))
theorem zgZ : StOk z0R ze7 (mB 16 863) 8 [11] := sq znB
theorem zb9 : StOk z0R zar (mB 16 479) 8 [9] := sa (z0b (be z9h) (be zgV))
theorem zba : StOk z0R zas (mB 16 383) 8 [9] := sa (z0b (be z9h) (be zgW))
theorem znC : StOk z0R zj0 (mB 16 255) 8 [9] := sq z9h
theorem zbb : StOk z0R zat (mB 16 253) 9 [9] := se znC
theorem znD : StOk z0R zj1 (mB 16 855) 9 [11] := sa (z0b (be zgZ) (z0b (be zgY) (be zgX)))
theorem zh0 : StOk z0R ze8 (mB 16 471) 9 [9] := sa (z0b (be zb9) (z0b (be zb8) (be zgX)))
theorem zh1 : StOk z0R ze9 (mB 16 375) 9 [9] := sa (z0b (be zba) (z0b (be zb8) (be zgY)))
theorem znE : StOk z0R zj2 (mB 16 247) 9 [9] := sq zb8
theorem zh2 : StOk z0R zea (mB 16 351) 9 [9] := sa (z0b (be zba) (z0b (be zb9) (be zgZ)))
theorem znF : StOk z0R zj3 (mB 16 223) 9 [9] := sq zb9
theorem znG : StOk z0R zj4 (mB 16 127) 9 [9] := sq zba
theorem zh3 : StOk z0R zeb (mB 16 245) 10 [9] := sa (z0b (be znE) (be zbb))
theorem zh4 : StOk z0R zec (mB 16 221) 10 [9] := sa (z0b (be znF) (be zbb))
theorem zh5 : StOk z0R zed (mB 16 125) 10 [9] := sa (z0b (be znG) (be zbb))
theorem znH : StOk z0R zj5 (mB 16 343) 10 [9] := sa (z0b (be zh2) (z0b (be zh1) (z0b (be zh0) (be znD))))
theorem znI : StOk z0R zj6 (mB 16 215) 10 [9] := sq zh0
theorem znJ : StOk z0R zj7 (mB 16 119) 10 [9] := sq zh1
theorem zqv : StOk z0R zlM (mB 16 95) 10 [9] := sq zh2
theorem zqw : StOk z0R zlN (mB 16 213) 11 [9] := sa (z0b (be znI) (z0b (be zh4) (be zh3)))
theorem zqx : StOk z0R zlO (mB 16 117) 11 [9] := sa (z0b (be znJ) (z0b (be zh5) (be zh3)))
theorem zqy : StOk z0R zlP (mB 16 93) 11 [9] := sa (z0b (be zqv) (z0b (be zh5) (be zh4)))
theorem zqz : StOk z0R zlQ (mB 16 87) 11 [9] := sq znH
theorem zqA : StOk z0R zlR (mB 16 85) 12 [9] := sa (z0b (be zqz) (z0b (be zqy) (z0b (be zqx) (be zqw))))
theorem zqB : StOk z0R zlS (mB 16 21) 13 [9] := sq zqA
theorem zqC : StOk z0R zlT (mB 16 5) 14 [9] := sq zqB
theorem zqD : StOk z0R zlU (mB 16 1) 15 [9] := sq zqC
theorem zqE : StOk z0R zlV (mB 16 0) 16 [9] := sq zqD
noncomputable abbrev z1S : Array Oper := (zho 77 zAJ)
theorem znp : StOk z1S ziN (mB 13 8191) 0 [] := zmf (by kernel_rfl)
theorem znq : StOk z1S ziO (mB 13 4095) 1 [12] := se znp
theorem zgH : StOk z1S zdP (mB 13 2047) 2 [12] := sq znq
theorem znr : StOk z1S ziP (mB 13 2045) 3 [1] := se zgH
theorem zb4 : StOk z1S zam (mB 13 1023) 3 [10] := se zgH
theorem zgI : StOk z1S zdQ (mB 13 1021) 4 [1, 10] := sa (z0b (be zb4) (be znr))
theorem zb5 : StOk z1S zan (mB 13 895) 4 [7] := se zb4
theorem zgJ : StOk z1S zdR (mB 13 511) 4 [10] := se zb4
theorem zgK : StOk z1S zdS (mB 13 893) 5 [1, 7] := sa (z0b (be zb5) (be zgI))
theorem zns : StOk z1S ziQ (mB 13 509) 5 [1, 10] := sa (z0b (be zgJ) (be zgI))
theorem znt : StOk z1S ziR (mB 13 831) 5 [7] := sq zb5
theorem zgL : StOk z1S zdT (mB 13 383) 5 [7] := sa (z0b (be zgJ) (be zb5))
theorem znu : StOk z1S ziS (mB 13 829) 6 [1, 7] := sq zgK
theorem znv : StOk z1S ziT (mB 13 381) 6 [1, 7] := sa (z0b (be zgL) (z0b (be zns) (be zgK)))
theorem zgM : StOk z1S zdU (mB 13 815) 6 [4] := se znt
theorem zql : StOk z1S zlC (mB 13 319) 6 [7] := sq zgL
theorem zqm : StOk z1S zlD (mB 13 813) 7 [1, 4] := sa (z0b (be zgM) (be znu))
theorem zqn : StOk z1S zlE (mB 13 317) 7 [1, 7] := sq znv
theorem zqo : StOk z1S zlF (mB 13 303) 7 [4] := sa (z0b (be zql) (be zgM))
theorem zqp : StOk z1S zlG (mB 13 301) 8 [1, 4] := sa (z0b (be zqo) (z0b (be zqn) (be zqm)))
theorem zqq : StOk z1S zlH (mB 13 45) 9 [1, 4] := sq zqp
theorem zqr : StOk z1S zlI (mB 13 13) 10 [1, 4] := sq zqq
theorem zqs : StOk z1S zlJ (mB 13 5) 11 [1, 4] := sq zqr
theorem zqt : StOk z1S zlK (mB 13 1) 12 [1, 4] := sq zqs
theorem zqu : StOk z1S zlL (mB 13 0) 13 [1, 4] := sq zqt
theorem zzK : z3S Try.prog 15 cf15 = true := zke [47, 77] zAS zAY rfl (by kernel_rfl) (by simp only [List.forall_mem_cons]; exact ⟨⟨_, rfl, zhi (by kernel_rfl) zqE (by kernel_rfl) (by kernel_rfl)⟩, ⟨_, rfl, zhi (by kernel_rfl) zqu (by kernel_rfl) (by kernel_rfl)⟩, fun _ h => by cases h⟩)
theorem zzJ : z3S Try.prog 16 cf16 = true := by kernel_rfl
theorem zzI : z3S Try.prog 17 cf17 = true := by kernel_rfl
theorem zzH : z3S Try.prog 18 cf18 = true := by kernel_rfl
theorem zzG : z3S Try.prog 19 cf19 = true := by kernel_rfl
theorem zzF : z3S Try.prog 20 cf20 = true := by kernel_rfl
theorem zzE : z3S Try.prog 21 cf21 = true := by kernel_rfl
theorem zzD : z3S Try.prog 22 cf22 = true := by kernel_rfl
theorem zzC : z3S Try.prog 23 cf23 = true := by kernel_rfl
theorem zzB : z3S Try.prog 24 cf24 = true := by kernel_rfl
theorem zzA : z3S Try.prog 25 cf25 = true := by kernel_rfl
theorem zzz : z3S Try.prog 26 cf26 = true := by kernel_rfl
theorem zzy : z3S Try.prog 27 cf27 = true := by kernel_rfl
theorem zzx : z3S Try.prog 28 cf28 = true := by kernel_rfl
theorem zzw : z3S Try.prog 29 cf29 = true := by kernel_rfl
theorem zzv : z3S Try.prog 30 cf30 = true := by kernel_rfl
theorem zzu : z3S Try.prog 31 cf31 = true := by kernel_rfl
noncomputable abbrev z0G : Array Oper := (zho 7 zAV)
theorem zq2 : StOk z0G zlj (mB 17 131071) 0 [] := zmf (by kernel_rfl)
theorem zq3 : StOk z0G zlk (mB 17 65535) 1 [16] := se zq2
theorem zq4 : StOk z0G zll (mB 17 32767) 2 [16] := sq zq3
theorem zq5 : StOk z0G zlm (mB 17 16383) 3 [14] := se zq4
theorem zit : StOk z0G zgn (mB 17 12287) 4 [12] := se zq5
theorem ziu : StOk z0G zgo (mB 17 10239) 5 [12] := se zit
theorem ziv : StOk z0G zgp (mB 17 4095) 5 [12] := sq zit
theorem zai : StOk z0G z9L (mB 17 4031) 6 [6] := se ziv
theorem ziw : StOk z0G zgq (mB 17 3839) 6 [8] := se ziv
theorem zq6 : StOk z0G zln (mB 17 9215) 6 [12] := se ziu
theorem zix : StOk z0G zgr (mB 17 2047) 6 [12] := sq ziu
theorem zdD : StOk z0G zcB (mB 17 4029) 7 [1] := se zai
theorem zaj : StOk z0G z9M (mB 17 3999) 7 [6] := se zai
theorem zdE : StOk z0G zcC (mB 17 3775) 7 [6, 8] := sa (z0b (be ziw) (be zai))
theorem zak : StOk z0G z9N (mB 17 1983) 7 [6] := sa (z0b (be zix) (be zai))
theorem ziy : StOk z0G zgs (mB 17 1791) 7 [8] := sa (z0b (be zix) (be ziw))
theorem ziz : StOk z0G zgt (mB 17 1023) 7 [12] := sq zq6
theorem zdF : StOk z0G zcD (mB 17 3997) 8 [1] := sa (z0b (be zaj) (be zdD))
theorem ziA : StOk z0G zgu (mB 17 3773) 8 [1, 8] := sa (z0b (be zdE) (be zdD))
theorem zdG : StOk z0G zcE (mB 17 1981) 8 [1] := sa (z0b (be zak) (be zdD))
theorem zq7 : StOk z0G zlo (mB 17 3983) 8 [6] := sq zaj
theorem zdH : StOk z0G zcF (mB 17 3743) 8 [6, 8] := sa (z0b (be zdE) (be zaj))
theorem zal : StOk z0G z9O (mB 17 1951) 8 [6] := sa (z0b (be zak) (be zaj))
theorem zdI : StOk z0G zcG (mB 17 1727) 8 [6, 8] := sa (z0b (be ziy) (z0b (be zak) (be zdE)))
theorem zdJ : StOk z0G zcH (mB 17 959) 8 [6] := sa (z0b (be ziz) (be zak))
theorem zq8 : StOk z0G zlp (mB 17 767) 8 [8] := sa (z0b (be ziz) (be ziy))
theorem zq9 : StOk z0G zlq (mB 17 3981) 9 [1] := sq zdF
theorem ziB : StOk z0G zgv (mB 17 3741) 9 [1, 8] := sa (z0b (be zdH) (z0b (be ziA) (be zdF)))
theorem zdK : StOk z0G zcI (mB 17 1949) 9 [1] := sa (z0b (be zal) (z0b (be zdG) (be zdF)))
theorem ziC : StOk z0G zgw (mB 17 1725) 9 [1, 8] := sa (z0b (be zdI) (z0b (be zdG) (be ziA)))
theorem ziD : StOk z0G zgx (mB 17 957) 9 [1] := sa (z0b (be zdJ) (be zdG))
theorem zdL : StOk z0G zcJ (mB 17 3975) 9 [6] := se zq7
theorem zqa : StOk z0G zlr (mB 17 3727) 9 [6, 8] := sq zdH
theorem zqb : StOk z0G zls (mB 17 1935) 9 [6] := sq zal
theorem zdM : StOk z0G zcK (mB 17 1695) 9 [6, 8] := sa (z0b (be zdI) (z0b (be zal) (be zdH)))
theorem zdN : StOk z0G zcL (mB 17 927) 9 [6] := sa (z0b (be zdJ) (be zal))
theorem ziE : StOk z0G zgy (mB 17 703) 9 [6, 8] := sa (z0b (be zq8) (z0b (be zdJ) (be zdI)))
theorem ziF : StOk z0G zgz (mB 17 3973) 10 [1] := sa (z0b (be zdL) (be zq9))
theorem zqc : StOk z0G zlt (mB 17 3725) 10 [1, 8] := sq ziB
theorem zqd : StOk z0G zlu (mB 17 1933) 10 [1] := sq zdK
theorem ziG : StOk z0G zgA (mB 17 1693) 10 [1, 8] := sa (z0b (be zdM) (z0b (be ziC) (z0b (be zdK) (be ziB))))
theorem ziH : StOk z0G zgB (mB 17 925) 10 [1] := sa (z0b (be zdN) (z0b (be ziD) (be zdK)))
theorem zqe : StOk z0G zlv (mB 17 701) 10 [1, 8] := sa (z0b (be ziE) (z0b (be ziD) (be ziC)))
theorem ziI : StOk z0G zgC (mB 17 3719) 10 [6, 8] := sa (z0b (be zqa) (be zdL))
theorem zdO : StOk z0G zcM (mB 17 1927) 10 [6] := sa (z0b (be zqb) (be zdL))
theorem zqf : StOk z0G zlw (mB 17 1679) 10 [6, 8] := sq zdM
theorem zqg : StOk z0G zlx (mB 17 911) 10 [6] := sq zdN
theorem ziJ : StOk z0G zgD (mB 17 671) 10 [6, 8] := sa (z0b (be ziE) (z0b (be zdN) (be zdM)))
theorem zqh : StOk z0G zly (mB 17 3717) 11 [1, 8] := sa (z0b (be ziI) (z0b (be zqc) (be ziF)))
theorem ziK : StOk z0G zgE (mB 17 1925) 11 [1] := sa (z0b (be zdO) (z0b (be zqd) (be ziF)))
theorem zqi : StOk z0G zlz (mB 17 1677) 11 [1, 8] := sq ziG
theorem zqj : StOk z0G zlA (mB 17 909) 11 [1] := sq ziH
theorem zqk : StOk z0G zlB (mB 17 669) 11 [1, 8] := sa (z0b (be ziJ) (z0b (be zqe) (z0b (be ziH) (be ziG))))
theorem ziL : StOk z0G zgF (mB 17 1671) 11 [6, 8] := sa (z0b (be zqf) (z0b (be zdO) (be ziI)))
theorem ziM : StOk z0G zgG (mB 17 903) 11 [6] := sa (z0b (be zqg) (be zdO))
theorem zsf : StOk z0G zoG (mB 17 655) 11 [6, 8] := sq ziJ
theorem zsg : StOk z0G zoH (mB 17 1669) 12 [1, 8] := sa (z0b (be ziL) (z0b (be zqi) (z0b (be ziK) (be zqh))))
theorem zsh : StOk z0G zoI (mB 17 901) 12 [1] := sa (z0b (be ziM) (z0b (be zqj) (be ziK)))
theorem zsi : StOk z0G zoJ (mB 17 653) 12 [1, 8] := sq zqk
theorem zsj : StOk z0G zoK (mB 17 647) 12 [6, 8] := sa (z0b (be zsf) (z0b (be ziM) (be ziL)))
theorem zsk : StOk z0G zoL (mB 17 645) 13 [1, 8] := sa (z0b (be zsj) (z0b (be zsi) (z0b (be zsh) (be zsg))))
theorem zsl : StOk z0G zoM (mB 17 133) 14 [1, 8] := sq zsk
theorem zsm : StOk z0G zoN (mB 17 5) 15 [1, 8] := sq zsl
theorem zsn : StOk z0G zoO (mB 17 1) 16 [1, 8] := sq zsm
theorem zso : StOk z0G zoP (mB 17 0) 17 [1, 8] := sq zsn
theorem zzt : z3S Try.prog 32 cf32 = true := zke [7] zAR zAX rfl (by kernel_rfl) (by simp only [List.forall_mem_cons]; exact ⟨⟨_, rfl, zhi (by kernel_rfl) zso (by kernel_rfl) (by kernel_rfl)⟩, fun _ h => by cases h⟩)
theorem zzs : z3S Try.prog 33 cf33 = true := by kernel_rfl
theorem zzr : z3S Try.prog 34 cf34 = true := by kernel_rfl
theorem zzq : z3S Try.prog 35 cf35 = true := by kernel_rfl
theorem zzp : z3S Try.prog 36 cf36 = true := by kernel_rfl
theorem zzo : z3S Try.prog 37 cf37 = true := by kernel_rfl
theorem zzn : z3S Try.prog 38 cf38 = true := by kernel_rfl
theorem zzm : z3S Try.prog 39 cf39 = true := by kernel_rfl
theorem zzl : z3S Try.prog 40 cf40 = true := by kernel_rfl
theorem zzk : z3S Try.prog 41 cf41 = true := by kernel_rfl
theorem zzj : z3S Try.prog 42 cf42 = true := by kernel_rfl
theorem zzi : z3S Try.prog 43 cf43 = true := by kernel_rfl
theorem zzh : z3S Try.prog 44 cf44 = true := by kernel_rfl
theorem zzg : z3S Try.prog 45 cf45 = true := by kernel_rfl
theorem zzf : z3S Try.prog 46 cf46 = true := by kernel_rfl
theorem zze : z3S Try.prog 47 cf47 = true := by kernel_rfl
theorem zzd : z3S Try.prog 48 cf48 = true := by kernel_rfl
theorem zzc : z3S Try.prog 49 cf49 = true := by kernel_rfl
theorem zzb : z3S Try.prog 50 cf50 = true := by kernel_rfl
theorem zza : z3S Try.prog 51 cf51 = true := by kernel_rfl
theorem zz9 : z3S Try.prog 52 cf52 = true := by kernel_rfl
theorem zz8 : z3S Try.prog 53 cf53 = true := by kernel_rfl
theorem zz7 : z3S Try.prog 54 cf54 = true := by kernel_rfl
theorem zz6 : z3S Try.prog 55 cf55 = true := by kernel_rfl
theorem zz5 : z3S Try.prog 56 cf56 = true := by kernel_rfl
theorem zz4 : z3S Try.prog 57 cf57 = true := by kernel_rfl
theorem zz3 : z3S Try.prog 58 cf58 = true := by kernel_rfl
theorem zz2 : z3S Try.prog 59 cf59 = true := by kernel_rfl
theorem zz1 : z3S Try.prog 60 cf60 = true := by kernel_rfl
theorem zz0 : z3S Try.prog 61 cf61 = true := by kernel_rfl
theorem zyZ : z3S Try.prog 62 cf62 = true := by kernel_rfl
theorem zyY : z3S Try.prog 63 cf63 = true := by kernel_rfl
theorem zyX : z3S Try.prog 65 cf65 = true := by kernel_rfl
theorem zyW : z3S Try.prog 66 cf66 = true := by kernel_rfl
theorem zyV : z3S Try.prog 67 cf67 = true := by kernel_rfl
theorem zyU : z3S Try.prog 68 cf68 = true := by kernel_rfl
theorem zyT : z3S Try.prog 69 cf69 = true := by kernel_rfl
theorem zyS : z3S Try.prog 70 cf70 = true := by kernel_rfl
theorem zyR : z3S Try.prog 71 cf71 = true := by kernel_rfl
theorem zyQ : z3S Try.prog 72 cf72 = true := by kernel_rfl
theorem zyP : z3S Try.prog 73 cf73 = true := by kernel_rfl
theorem zyO : z3S Try.prog 74 cf74 = true := by kernel_rfl
theorem zyN : z3S Try.prog 76 cf76 = true := by kernel_rfl
theorem zyM : z3S Try.prog 77 cf77 = true := by kernel_rfl
theorem zyL : z3S Try.prog 78 cf78 = true := by kernel_rfl
theorem zyK : z3S Try.prog 79 cf79 = true := by kernel_rfl
theorem zyJ : z3S Try.prog 80 cf80 = true := by kernel_rfl
theorem zyI : z3S Try.prog 88 cf88 = true := by kernel_rfl
theorem zyH : z3S Try.prog 89 cf89 = true := by kernel_rfl
theorem zyG : z3S Try.prog 90 cf90 = true := by kernel_rfl
theorem zyF : z3S Try.prog 91 cf91 = true := by kernel_rfl
theorem zyE : z3S Try.prog 92 cf92 = true := by kernel_rfl
theorem zyD : z3S Try.prog 98 cf98 = true := by kernel_rfl
theorem zxJ : z3S Try.prog 100 cf100 = true := by kernel_rfl
theorem z1V {p : Prop} [Decidable p] {a c : Cfg} {r : Option Cfg} {G : Prop} (h : (if p then some a else r) = some c) (h1 : p -> a = c -> G) (h2 : r = some c -> G) : G := by
  split at h
  · rename_i hp; exact h1 hp (Option.some.inj h)
  · exact h2 h
theorem zCb : ∀ f c, z2c f = some c -> z3S Try.prog f c = true := by
  intro f c h
  unfold z2c at h
  refine z1V h (fun e h => by rw [e, ← h]; exact zC9) fun h => ?_
  refine z1V h (fun e h => by rw [e, ← h]; exact zzO) fun h => ?_
  refine z1V h (fun e h => by rw [e, ← h]; exact zzN) fun h => ?_
  refine z1V h (fun e h => by rw [e, ← h]; exact zzM) fun h => ?_
  refine z1V h (fun e h => by rw [e, ← h]; exact zzL) fun h => ?_
  refine z1V h (fun e h => by rw [e, ← h]; exact zzK) fun h => ?_
  refine z1V h (fun e h => by rw [e, ← h]; exact zzJ) fun h => ?_
  refine z1V h (fun e h => by rw [e, ← h]; exact zzI) fun h => ?_
  refine z1V h (fun e h => by rw [e, ← h]; exact zzH) fun h => ?_
  refine z1V h (fun e h => by rw [e, ← h]; exact zzG) fun h => ?_
  refine z1V h (fun e h => by rw [e, ← h]; exact zzF) fun h => ?_
  refine z1V h (fun e h => by rw [e, ← h]; exact zzE) fun h => ?_
  refine z1V h (fun e h => by rw [e, ← h]; exact zzD) fun h => ?_
  refine z1V h (fun e h => by rw [e, ← h]; exact zzC) fun h => ?_
  refine z1V h (fun e h => by rw [e, ← h]; exact zzB) fun h => ?_
  refine z1V h (fun e h => by rw [e, ← h]; exact zzA) fun h => ?_
  refine z1V h (fun e h => by rw [e, ← h]; exact zzz) fun h => ?_
  refine z1V h (fun e h => by rw [e, ← h]; exact zzy) fun h => ?_
  refine z1V h (fun e h => by rw [e, ← h]; exact zzx) fun h => ?_
  refine z1V h (fun e h => by rw [e, ← h]; exact zzw) fun h => ?_
  refine z1V h (fun e h => by rw [e, ← h]; exact zzv) fun h => ?_
  refine z1V h (fun e h => by rw [e, ← h]; exact zzu) fun h => ?_
  refine z1V h (fun e h => by rw [e, ← h]; exact zzt) fun h => ?_
  refine z1V h (fun e h => by rw [e, ← h]; exact zzs) fun h => ?_
  refine z1V h (fun e h => by rw [e, ← h]; exact zzr) fun h => ?_
  refine z1V h (fun e h => by rw [e, ← h]; exact zzq) fun h => ?_
  refine z1V h (fun e h => by rw [e, ← h]; exact zzp) fun h => ?_
  refine z1V h (fun e h => by rw [e, ← h]; exact zzo) fun h => ?_
  refine z1V h (fun e h => by rw [e, ← h]; exact zzn) fun h => ?_
  refine z1V h (fun e h => by rw [e, ← h]; exact zzm) fun h => ?_
  refine z1V h (fun e h => by rw [e, ← h]; exact zzl) fun h => ?_
  refine z1V h (fun e h => by rw [e, ← h]; exact zzk) fun h => ?_
  refine z1V h (fun e h => by rw [e, ← h]; exact zzj) fun h => ?_
  refine z1V h (fun e h => by rw [e, ← h]; exact zzi) fun h => ?_
  refine z1V h (fun e h => by rw [e, ← h]; exact zzh) fun h => ?_
  refine z1V h (fun e h => by rw [e, ← h]; exact zzg) fun h => ?_
  refine z1V h (fun e h => by rw [e, ← h]; exact zzf) fun h => ?_
  refine z1V h (fun e h => by rw [e, ← h]; exact zze) fun h => ?_
  refine z1V h (fun e h => by rw [e, ← h]; exact zzd) fun h => ?_
  refine z1V h (fun e h => by rw [e, ← h]; exact zzc) fun h => ?_
  refine z1V h (fun e h => by rw [e, ← h]; exact zzb) fun h => ?_
  refine z1V h (fun e h => by rw [e, ← h]; exact zza) fun h => ?_
  refine z1V h (fun e h => by rw [e, ← h]; exact zz9) fun h => ?_
  refine z1V h (fun e h => by rw [e, ← h]; exact zz8) fun h => ?_
  refine z1V h (fun e h => by rw [e, ← h]; exact zz7) fun h => ?_
  refine z1V h (fun e h => by rw [e, ← h]; exact zz6) fun h => ?_
  refine z1V h (fun e h => by rw [e, ← h]; exact zz5) fun h => ?_
  refine z1V h (fun e h => by rw [e, ← h]; exact zz4) fun h => ?_
  refine z1V h (fun e h => by rw [e, ← h]; exact zz3) fun h => ?_
  refine z1V h (fun e h => by rw [e, ← h]; exact zz2) fun h => ?_
  refine z1V h (fun e h => by rw [e, ← h]; exact zz1) fun h => ?_
  refine z1V h (fun e h => by rw [e, ← h]; exact zz0) fun h => ?_
  refine z1V h (fun e h => by rw [e, ← h]; exact zyZ) fun h => ?_
  refine z1V h (fun e h => by rw [e, ← h]; exact zyY) fun h => ?_
  refine z1V h (fun e h => by rw [e, ← h]; exact zyX) fun h => ?_
  refine z1V h (fun e h => by rw [e, ← h]; exact zyW) fun h => ?_
  refine z1V h (fun e h => by rw [e, ← h]; exact zyV) fun h => ?_
  refine z1V h (fun e h => by rw [e, ← h]; exact zyU) fun h => ?_
  refine z1V h (fun e h => by rw [e, ← h]; exact zyT) fun h => ?_
  refine z1V h (fun e h => by rw [e, ← h]; exact zyS) fun h => ?_
  refine z1V h (fun e h => by rw [e, ← h]; exact zyR) fun h => ?_
  refine z1V h (fun e h => by rw [e, ← h]; exact zyQ) fun h => ?_
  refine z1V h (fun e h => by rw [e, ← h]; exact zyP) fun h => ?_
  refine z1V h (fun e h => by rw [e, ← h]; exact zyO) fun h => ?_
  refine z1V h (fun e h => by rw [e, ← h]; exact zyN) fun h => ?_
  refine z1V h (fun e h => by rw [e, ← h]; exact zyM) fun h => ?_
  refine z1V h (fun e h => by rw [e, ← h]; exact zyL) fun h => ?_
  refine z1V h (fun e h => by rw [e, ← h]; exact zyK) fun h => ?_
  refine z1V h (fun e h => by rw [e, ← h]; exact zyJ) fun h => ?_
  refine z1V h (fun e h => by rw [e, ← h]; exact zyI) fun h => ?_
  refine z1V h (fun e h => by rw [e, ← h]; exact zyH) fun h => ?_
  refine z1V h (fun e h => by rw [e, ← h]; exact zyG) fun h => ?_
  refine z1V h (fun e h => by rw [e, ← h]; exact zyF) fun h => ?_
  refine z1V h (fun e h => by rw [e, ← h]; exact zyE) fun h => ?_
  refine z1V h (fun e h => by rw [e, ← h]; exact zyD) fun h => ?_
  refine z1V h (fun e h => by rw [e, ← h]; exact zxJ) fun h => ?_
  cases h
end Go.Proofs.Ytbnnipkanechoaa
end
section
namespace Go.Proofs.Ytbnnipkanechoaa
open Go.RowKit
def zhN (P : Program) : Nat -> TypeId -> Bool
 | 0, _ => false
 | m + 1, t =>
  match P.underlying t with
  | some (.slice e) => P.cellsOf e != 0 && zhN P m e
  | some (.pointer e) => zhN P m e
  | some (.struct fs) => fs.toList.all fun f => zhN P m f.type
  | some (.array _ e) => zhN P m e
  | some (.map _ e) => zhN P m e
  | _ => true
section
variable {H : Type} {enc : TypeId × Value -> H} {P : Program} {w : World} {base : Nat}
theorem zi7 {m : Nat} {r r' : TypeId -> List Value -> Option (DataW H × List MemPlace)}
  (hr : ∀ t cs x, zhN P m t = true -> r t cs = some x -> r' t cs = some x) {t : TypeId} {cs : List Value} {x : DataW H × List MemPlace} (hf : zhN P (m + 1) t = true)
  (h : DataW.trodStep enc P w base (fun _ => true) true r t cs = some x) : DataW.trodStep enc P w base (fun b => decide (b < w.heap.size)) true r' t cs = some x := by
 unfold DataW.trodStep at h ⊢
 unfold zhN at hf
 split at h
 case h_1 => exact h
 case h_2 => exact h
 case h_3 => exact h
 case h_4 => exact h
 case h_5 => exact h
 case h_6 e a hu =>
  rw [hu] at hf
  simp only [Option.map_eq_some_iff, Option.bind_eq_some_iff] at h ⊢
  obtain ⟨y, ⟨cs', hc, hy⟩, rfl⟩ := h
  exact ⟨y, ⟨cs', hc, hr _ _ _ hf hy⟩, rfl⟩
 case h_7 => exact h
 case h_8 e a len cap hu =>
  rw [hu] at hf
  simp only [Bool.and_eq_true, bne_iff_ne, ne_eq] at hf
  obtain ⟨hcell, hfe⟩ := hf
  simp only at h ⊢
  split at h
  ·rename_i hc
   rw [if_pos hc]
   simp only [Option.map_eq_some_iff, Option.bind_eq_some_iff, if_true] at h ⊢
   obtain ⟨elems, he, rest, hrest, rfl⟩ := h
   have one : ∀ (i : Nat) (y : DataW H × List MemPlace), (w.cells? base (a.add (i * P.cellsOf e)) (P.cellsOf e)).bind (r e) = some y -> (w.cells? base (a.add (i * P.cellsOf e)) (P.cellsOf e)).bind (r' e) = some y := by
    intro i y hv
    simp only [Option.bind_eq_some_iff] at hv ⊢
    obtain ⟨cs', hc', hy'⟩ := hv
    exact ⟨cs', hc', hr _ _ _ hfe hy'⟩
   refine ⟨elems, mapM_carry he (fun i y _ _ hy => one i y hy), rest, ?_, rfl⟩
   by_cases hb : a.block < w.heap.size
   ·rw [if_pos (by simpa using hb)]
    exact mapM_carry hrest (fun j y _ _ hy => one (len + j) y hy)
   ·rw [if_neg (by simpa using hb)]
    have hz : cap - len = 0 := by
     rcases Nat.eq_zero_or_pos (cap - len) with h0 | h0
     ·exact h0
     ·exfalso
      have hl : rest.length = cap - len := by simpa using mapM_some_length hrest
      have h1 := mapM_some_get hrest 0 0 (by simp [h0])
      obtain ⟨y, hy⟩ : ∃ y, rest[0]? = some y := ⟨rest[0], List.getElem?_eq_getElem (by omega)⟩
      rw [hy] at h1
      simp only [Option.bind_eq_some_iff] at h1
      obtain ⟨cs', hc', _⟩ := h1
      have h2 := World.cells?_block hc' (by omega)
      have h3 : (a.add ((len + 0) * P.cellsOf e)).block = a.block := by unfold Addr.add; split <;> rfl
      omega
    rw [hz] at hrest
    simpa using hrest
  ·cases h
 case h_9 fs _ hu =>
  rw [hu] at hf
  split at h
  ·rename_i hc
   rw [if_pos hc]
   simp only [Option.map_eq_some_iff] at h ⊢
   obtain ⟨xs, hx, rfl⟩ := h
   exact ⟨xs, mapM_carry hx (fun f y hin _ hv => hr _ _ _ (List.all_eq_true.1 hf f hin) hv), rfl⟩
  ·cases h
 case h_10 n e _ hu =>
  rw [hu] at hf
  split at h
  ·rename_i hc
   rw [if_pos hc]
   simp only [Option.map_eq_some_iff] at h ⊢
   obtain ⟨xs, hx, rfl⟩ := h
   exact ⟨xs, mapM_carry hx (fun f y _ _ hv => hr _ _ _ hf hv), rfl⟩
  ·cases h
 case h_11 => exact h
 case h_12 => exact h
 case h_13 => exact h
 case h_14 k e b hu =>
  rw [hu] at hf
  split at h
  ·rename_i es clock hb
   split at h
   ·rename_i hc
    simp only [Option.bind_eq_some_iff] at h
    obtain ⟨entries, he, hd⟩ := h
    split at hd
    ·rename_i hris
     have hx := Option.some.inj hd
     subst hx
     simp only [if_pos hc, Option.bind_eq_some_iff]
     refine ⟨entries, mapM_carry he (fun x y _ hy hv => ?_), by simp [hris]⟩
     simp only [Option.bind_eq_some_iff] at hv ⊢
     obtain ⟨key, hk, hz⟩ := hv
     refine ⟨key, hk, ?_⟩
     split at hz
     ·rename_i hfm
      rw [if_pos hfm]
      simp only [Option.map_eq_some_iff] at hz ⊢
      obtain ⟨q, hq, rfl⟩ := hz
      exact ⟨q, hr _ _ _ hf hq, rfl⟩
     ·cases hz
    ·cases hd
   ·cases h
  ·cases h
 case h_15 => exact h
 case h_16 => exact h
 case h_17 => exact h
 case h_18 => exact h
 case h_19 => exact h
 case h_20 => exact h
 case h_21 => cases h
theorem zpU : ∀ (n m : Nat) (t : TypeId) (cs : List Value) (x : DataW H × List MemPlace), zhN P m t = true ->
  DataW.trod enc P w base (fun _ => true) true n t cs = some x -> DataW.trod enc P w base (fun b => decide (b < w.heap.size)) true n t cs = some x := by
 intro n
 induction n with
 | zero => intro m t cs x _ h; simp [DataW.trod] at h
 | succ n ih =>
  intro m t cs x hf h
  cases m with
  | zero => simp [zhN] at hf
  | succ m =>
   rw [DataW.trod_step] at h ⊢
   exact zi7 (m := m) (fun t cs x hf hx => ih m t cs x hf hx) hf h
theorem zmn {w' : World} (hb : Below w.heap.size w w') {p : MemPlace} (hp : p.block < w.heap.size) : w.sameAt w' p := by
 cases p with
 | cell b off => exact hb.cell (p := ⟨b, off, none⟩) hp
 | map b => exact hb.block b hp
theorem zbz {w' : World} (m : Nat) (hb : Below w.heap.size w w') : ∀ {ts : List TypeId} {vs : List Value} {ds : List (DataW H)} {ps : List MemPlace}, (ts.all (zhN P m)) = true ->
  DataW.TrodAll enc P w 0 (fun _ => true) true ts vs ds ps -> DataW.TrodAll enc P w' 0 (fun b => decide (b < w.heap.size)) true ts vs ds ps
 | [], [], [], ps, _, h => h
 | t :: ts, v :: vs, d :: ds, ps, hf, ⟨p, q, ⟨n, h1⟩, h2, e⟩ => by
  simp only [List.all_cons, Bool.and_eq_true] at hf
  have h3 := zpU n m t _ _ hf.1 h1
  exact ⟨p, q, ⟨n, DataW.trod_carry n _ _ _ h3 (fun z hz => zmn hb (DataW.trod_lt n _ _ _ h3 z hz))⟩, zbz m hb hf.2 h2, e⟩
 | [], _ :: _, _, _, _, h => by cases h
 | [], [], _ :: _, _, _, h => by cases h
 | _ :: _, [], _, _, _, h => by cases h
 | _ :: _, _ :: _, [], _, _, h => by cases h
end
section
variable {H : Type} {enc : TypeId × Value -> H} {P : Program} {w : World} {r : Reach} {b0 : Nat}
open Go.ChangeShapes Go.WideShapes
open Go.Deep (open_bools)
theorem zud (a : Addr) (j : Nat) : (a.add j).block = a.block := by unfold Addr.add; split <;> rfl
end
end Go.Proofs.Ytbnnipkanechoaa
end
section
namespace Go.Proofs.Ytbnnipkanechoaa
open Go.ChangeShapes Go.WideShapes Go.RowKit
def KZ : Nat -> z0o := fun _ => []
theorem ztl {P : Program} {Xc : z0H} {cf : FuncId -> Option Cfg} {f : FuncId} {args : List T} {outs : List T} (hX : zbw P (fun _ _ => True) Xc) (hm : P.follows .mixedOrders = true) (hf : ∀ f c, cf f = some c -> z3S P f c = true)
  (h : Lim P Xc cf f args = some (.sc (.bool true), outs)) (hio : args.all (fun t => !z3u t) = true) (W : World) (vals : Array Value) (hs : vals.size = args.length)
  (ha : ∀ i t, args[i]? = some t -> TRep W KZ [] (vals.getD i undef) t) : Calls P f vals W fun e W' => e = .returned (.bool true) /\ Below W.heap.size W W' := by
 have hc := zxu (I := fun _ _ => True) EnvS.none hX hm hf h
 refine (hc.calls W KZ vals hs (fun i t hi => ?_) trivial).mono fun e W' ⟨v, K', he, hv, _, hst⟩ => ?_
 ·have h1 := List.all_eq_true.1 hio t (List.mem_of_getElem? hi)
  unfold zjA
  rw [if_neg (by simpa using h1)]
  exact ha i t hi
 ·generalize hT : T.sc (.bool true) = t at hv
  cases hv with
  | sc c v hb => cases hT; exact ⟨he, hst.os, hst.tape, hst.output, hst.size, fun b hb => (hst.old b hb (.inl rfl)).2⟩
  | _ => cases hT
section
variable {H : Type} {enc : TypeId × Value -> H} {P : Program} {w : World} {r : Reach} {b0 : Nat}
theorem zt4 {t e : TypeId} {v : Value} {d : DataW H} {ps : List MemPlace} (ht : P.underlying t = some (.slice e)) (he : P.underlying e = some (.int .i64)) (hc : P.cellsOf e = 1)
  (hval : Value.okWide P w r b0 t v) (hd : DataW.Trod enc P w 0 (fun _ => true) true t v d ps) :
  ∃ xs : List Int, TRep w KZ [] v (.sl xs.length (xs.map fun x => .sc (.int .i64 x))) /\ xs.length <= maxLen /\ ∀ x ∈ xs, (Lit.int .i64 x).wf = true := by
 obtain ⟨ga, n, cap, rfl⟩ := okWide_slice ht hval
 obtain ⟨fuel, hf⟩ := hd
 rcases open_ints ht he hc hf with ⟨hcs, _⟩ | ⟨a, len', cap', zs, hcs, _, hl, hm, hz, _, hcell, hwz⟩
 ·simp [Value.cells] at hcs
  obtain ⟨rfl, rfl, rfl⟩ := hcs
  exact ⟨[], .emp _ _ _ (by decide), by decide, fun x hx => by cases hx⟩
 ·simp [Value.cells] at hcs
  obtain ⟨rfl, rfl, rfl⟩ := hcs
  simp only [if_true] at hz
  refine ⟨zs.take n, ?_, by simp; omega, fun x hx => hwz x (List.mem_of_mem_take hx)⟩
  have hln : (zs.take n).length = n := by simp; omega
  rw [hln]
  by_cases h0 : n = 0
  ·subst h0
   simp only [List.take_zero, List.map_nil]
   exact .emp _ _ _ hm
  ·have hc0 := hcell 0 (by omega)
   have hb := World.block_lt_of_cell? w _ hc0
   rw [zud] at hb
   have hsp : a.spot = none := by
    have : a.add 0 = a := by simp [Addr.add]
    rw [this] at hc0
    unfold World.cell? at hc0
    split at hc0
    ·split at hc0
     ·cases hc0
     ·rename_i hh
      simpa using hh
    ·cases hc0
   obtain ⟨g, o, sp⟩ := a
   simp only at hsp
   subst hsp
   refine .fro [] g o n cap _ (fun j => .int .i64 (zs.getD j 0)) rfl hb hl hm (fun j hj => ?_) (fun j t hj => ?_)
   ·have h1 := hcell j (by simp at hj; omega)
    have e : (⟨g, o, none⟩ : Addr).add j = ⟨g, o + j, none⟩ := by
     unfold Addr.add
     split
     ·rename_i h; subst h; rfl
     ·rfl
    rw [e] at h1
    exact h1
   ·simp only [List.getElem?_map, Option.map_eq_some_iff] at hj
    obtain ⟨x, hx, rfl⟩ := hj
    have hjn : j < n := by
     have := (List.getElem?_eq_some_iff.1 hx).1
     simp at this; omega
    rw [List.getElem?_take_of_lt hjn] at hx
    simp only [List.getD, hx]
    exact .sc _ _ rfl
end
end Go.Proofs.Ytbnnipkanechoaa
end
section
/- Proved here: the law ImagesChecks returns true for every input, and its arguments read afterwards as before. No condition. -/
namespace Go.Proofs.Ytbnnipkanechoaa.imagesChecks
open Go.ChangeShapes Go.WideShapes Go.ChangeAt Go.RowKit
open Go.ChangeMaps (open_string shut_string)
theorem own : ownKnob Try.prog.godebug = none := by kernel_rfl
set_option maxRecDepth 100000 in
theorem zve (H : Type) (enc : TypeId × Value -> H) (W : World) (base : Nat) (args : Array Value) (ds gs : List (DataW H)) (before : List MemPlace)
  (hval0 : ∀ (j : Nat) t v, Try.f7.params[j]? = some t -> args[j]? = some v -> Value.okWide Try.prog W .any base t v)
  (hW : DataW.Whole enc Try.prog Try.f7.params.toList Rows.imagesChecksSpec.vars false W args.toList ds gs before) :
  Calls Try.prog 7 args W fun e W' => ∃ v, e = .returned v /\ Rows.imagesChecksSpec.post enc Try.prog Try.f7 false true false false W args v W' := by
 have hW' := hW
 obtain ⟨p, q, hA0, hV, rfl, hfz, hnd⟩ := hW
 have hval := hval0
 have hA : DataW.TrodAll enc Try.prog W 0 (fun _ => true) true Try.f7.params.toList args.toList ds p := hA0
 rw [Try.params7] at hA hval
 obtain ⟨v0, vs0, d0, ds0, p0, q0, hargs, rfl, rfl, h0, r0⟩ := trodAll_cons hA
 obtain ⟨v1, vs1, d1, ds1, p1, q1, rfl, rfl, rfl, h1, r1⟩ := trodAll_cons r0
 obtain ⟨v2, vs2, d2, ds2, p2, q2, rfl, rfl, rfl, h2, r2⟩ := trodAll_cons r1
 obtain ⟨v3, vs3, d3, ds3, p3, q3, rfl, rfl, rfl, h3, r3⟩ := trodAll_cons r2
 obtain ⟨rfl, rfl, rfl⟩ := trodAll_nil r3
 obtain rfl : args = #[v0, v1, v2, v3] := by cases args; simp_all
 obtain ⟨rfl, rfl⟩ := trodVars_none hV
 obtain ⟨a0, t0, w0, z0⟩ := zt4 Try.underlying22 Try.underlying3 (by kernel_rfl) (hval 0 22 v0 rfl rfl) h0
 obtain ⟨a1, rfl, rfl, rfl, w1⟩ := open_int Try.underlying3 (hval 1 3 v1 rfl rfl) h1
 obtain ⟨a2, rfl, rfl, rfl, w2⟩ := open_int Try.underlying3 (hval 2 3 v2 rfl rfl) h2
 obtain ⟨a3, rfl, rfl, rfl, w3⟩ := open_int Try.underlying3 (hval 3 3 v3 rfl rfl) h3
 obtain ⟨outs, hlaw⟩ := zto a0 w0 z0 a1 w1 a2 w2 a3 w3
 refine (ztl zrL (by kernel_rfl) zCb hlaw rfl W _ rfl (fun i t hi => ?_)).mono fun e W' ⟨he, bel⟩ => ?_
 ·match i, hi with
  | 0, hi => cases hi; exact t0
  | 1, hi => cases hi; exact .sc _ _ rfl
  | 2, hi => cases hi; exact .sc _ _ rfl
  | 3, hi => cases hi; exact .sc _ _ rfl
 ·subst he
  exact ⟨_, rfl, _, _, _, [], _, [], hW', trodAll_mk1 (shut_bool Try.underlying4 _), zbz 12 bel (by kernel_rfl) hA0, rfl, bel.frame _, fun h => by cases h⟩
theorem zbv {a b : Bool} (ha : a = true) (hb : b = true) : (a && b) = true := by rw [ha, hb]; rfl
set_option maxHeartbeats 4000000 in
theorem zyt : joinedFacts Try.checked.prog 7 Try.f7 Rows.imagesChecksSpec Rows.imagesChecksRow = true :=
 (zbv (zbv (zbv (zbv (zbv (zbv (zbv (zbv (zbv (zbv (zbv (zbv (zbv (zbv (zbv (zbv (zbv (zbv (zbv (zbv (zbv (zbv (zbv (zbv (zbv (zbv (zbv (zbv (zbv (zbv (zbv (by as_aux_lemma => kernel_rfl)
  (by as_aux_lemma => kernel_rfl))
  (by as_aux_lemma => kernel_rfl))
  (by as_aux_lemma => kernel_rfl))
  (by as_aux_lemma => kernel_rfl))
  (by as_aux_lemma => kernel_rfl))
  (by as_aux_lemma => kernel_rfl))
  (by as_aux_lemma => kernel_rfl))
  (by as_aux_lemma => kernel_rfl))
  (by as_aux_lemma => kernel_rfl))
  (by as_aux_lemma => kernel_rfl))
  (by as_aux_lemma => kernel_rfl))
  (by as_aux_lemma => kernel_rfl))
  (by as_aux_lemma => kernel_rfl))
  (by as_aux_lemma => kernel_rfl))
  (by as_aux_lemma => kernel_rfl))
  (by as_aux_lemma => kernel_rfl))
  (by as_aux_lemma => kernel_rfl))
  (by as_aux_lemma => kernel_rfl))
  (by as_aux_lemma => kernel_rfl))
  (by as_aux_lemma => kernel_rfl))
  (by as_aux_lemma => kernel_rfl))
  (by as_aux_lemma => kernel_rfl))
  (by as_aux_lemma => kernel_rfl))
  (by as_aux_lemma => kernel_rfl))
  (by as_aux_lemma => kernel_rfl))
  (by as_aux_lemma => kernel_rfl))
  (by as_aux_lemma => kernel_rfl))
  (by as_aux_lemma => kernel_rfl))
  (by as_aux_lemma => kernel_rfl))
  (by as_aux_lemma => kernel_rfl))
  (by as_aux_lemma => kernel_rfl))
set_option maxRecDepth 100000 in
theorem zxv (os : Os) (started : os.Started) (H : Type) (enc : TypeId × Value -> H) :
  ReturnsInHanded {} Try.checked os 7 .any (Rows.imagesChecksSpec.pre6 enc Try.prog Try.f7 Rows.imagesChecksRow.domain false) (Rows.imagesChecksSpec.post enc Try.prog Try.f7 false true false false) := by
 refine returnsInHanded_of_change (C := Try.checked) (by kernel_rfl) started (by kernel_rfl) Try.func7
  (ChangeSpec.witness6 (enc := enc) (C := Try.checked) false ⟨#[], #[.slice none 0 0, .int .i64 0, .int .i64 0, .int .i64 0], []⟩ 8 (by kernel_rfl) (by kernel_rfl) (by kernel_rfl) (by kernel_rfl)) ?_
 intro W base args ds gs before hval0 hW hcnd _
 exact zve H enc W base args ds gs before hval0 hW
theorem zB9 : Rows.imagesChecksRow.holds Try.pinned (OpenSpec.ofChange Rows.imagesChecksSpec) :=
 OpenClaim.holds_of_wide 7 Try.f7 rfl rfl rfl rfl rfl rfl rfl ⟨rfl, rfl, rfl, rfl, rfl⟩ rfl rfl rfl rfl rfl (by kernel_rfl) Try.func7 zyt
  (of_decide_eq_true (by kernel_rfl)) (by unfold Func.isWrapper; first | (rw [if_pos (by decide +kernel)]; kernel_rfl) | (rw [if_neg (by decide +kernel)]; exact ⟨rfl, rfl⟩))
  (fun os started H enc _ => zxv os started H enc)
theorem proved : Rows.ImagesChecksSaid :=
 zB9
#print axioms proved
end Go.Proofs.Ytbnnipkanechoaa.imagesChecks
end
