/- Proved here: a part of the proof of the law at hand, in one text: no condition. -/
import Derived.Test.YtodliknibbafeaaGreatMEL2
import Derived.Shelf.Small.Bits
import Derived.Shelf.Small.Wraps
import Derived.Shelf.Strconv.Itoa0
import Derived.Shelf.Sort.Plain
import Derived.Shelf.Slices.Turned
import Derived.Ground.Names2Prog
import Derived.Shelf.Slices.Clone
import Derived.Shelf.Slices.CompactI
import Derived.Shelf.Slices.SearchI
import Derived.Shelf.Slices.Cells
import Derived.Shelf.Slices.In.SortNone
import Derived.Ground.SlgnProg
import Derived.Shelf.SlicesE.Clone
import Derived.Ground.SlsfProg
import Derived.Shelf.SlSortCmp.Insertion
import Derived.Shelf.SlSortCmp.SiftDown1
import Derived.Shelf.SlSortCmp.HeapSort1
import Derived.Shelf.SlSortCmp.Insertion1
import Derived.Shelf.SlSortCmp.Median1
import Derived.Shelf.SlSortCmp.Pivot1
import Derived.Shelf.SlSortCmp.ReverseRange1
import Derived.Shelf.SlSortCmp.PartialInsertion1
import Derived.Shelf.SlSortCmp.PartitionEqual1
import Derived.Shelf.SlSortCmp.Partition1
import Derived.Shelf.SlSortCmp.Pdq1
import Derived.Shelf.SlSortCmp.Whole1
import Derived.Test.YtodliknibbafeaaGreatProg
import Derived.KernelRfl
set_option linter.unusedVariables false
set_option linter.unusedSimpArgs false
section
namespace Go.Proofs
open Go.Shelf
def Tryz.lays128_ren : Go.Shelf.Ren := ⟨fun | 128 => 93 | n => n, fun | 51 => 117 | 3 => 3 | 4 => 4 | 46 => 98 | 5 => 5 | 9 => 9 | n => n, fun | n => n⟩
theorem Tryz.lays128 : Go.Proofs.Lays.n128 Tryz.prog Tryz.lays128_ren := {
  mixed := by kernel_rfl
  f128 := Tryz.func93.trans (congrArg some (by kernel_rfl))
  t3 := Tryz.underlying3
  a3 := Tryz.isAgg3
  z3 := Tryz.sizeOf3
  v3 := Tryz.zeroValue3
  t4 := Tryz.underlying4
  a4 := Tryz.isAgg4
  z4 := Tryz.sizeOf4
  v4 := Tryz.zeroValue4
  t5 := Tryz.underlying5
  a5 := Tryz.isAgg5
  z5 := Tryz.sizeOf5
  v5 := Tryz.zeroValue5
  t9 := Tryz.underlying9
  a9 := Tryz.isAgg9
  z9 := Tryz.sizeOf9
  v9 := Tryz.zeroValue9
  t46 := Tryz.underlying98
  a46 := Tryz.isAgg98
  z46 := Tryz.sizeOf98
  v46 := Tryz.zeroValue98
  t51 := Tryz.underlying117
  a51 := Tryz.isAgg117
  z51 := Tryz.sizeOf117
  v51 := Tryz.zeroValue117 }
theorem Tryz.bits_Len32 (x : Int) (w : World) (h0 : 0 <= x) (h1 : x <= 4294967295) :
    Calls Tryz.prog 93 #[.int .u32 x] w fun e w' => e = .returned (.int .i64 (Lib.bitLen x.toNat)) /\ w' = w := Any.bits_Len32 Tryz.lays128 x w h0 h1
def Tryz.lays125_ren : Go.Shelf.Ren := ⟨fun | 125 => 69 | 128 => 93 | 129 => 94 | n => n, fun | 46 => 98 | 3 => 3 | 51 => 117 | 53 => 119 | 4 => 4 | 5 => 5 | 9 => 9 | n => n, fun | n => n⟩
theorem Tryz.lays125 : Go.Proofs.Lays.n125 Tryz.prog Tryz.lays125_ren := {
  mixed := by kernel_rfl
  f125 := Tryz.func69.trans (congrArg some (by kernel_rfl))
  f128 := Tryz.func93.trans (congrArg some (by kernel_rfl))
  f129 := Tryz.func94.trans (congrArg some (by kernel_rfl))
  t3 := Tryz.underlying3
  a3 := Tryz.isAgg3
  z3 := Tryz.sizeOf3
  v3 := Tryz.zeroValue3
  t4 := Tryz.underlying4
  a4 := Tryz.isAgg4
  z4 := Tryz.sizeOf4
  v4 := Tryz.zeroValue4
  t5 := Tryz.underlying5
  a5 := Tryz.isAgg5
  z5 := Tryz.sizeOf5
  v5 := Tryz.zeroValue5
  t9 := Tryz.underlying9
  a9 := Tryz.isAgg9
  z9 := Tryz.sizeOf9
  v9 := Tryz.zeroValue9
  t46 := Tryz.underlying98
  a46 := Tryz.isAgg98
  z46 := Tryz.sizeOf98
  v46 := Tryz.zeroValue98
  t51 := Tryz.underlying117
  a51 := Tryz.isAgg117
  z51 := Tryz.sizeOf117
  v51 := Tryz.zeroValue117
  t53 := Tryz.underlying119
  a53 := Tryz.isAgg119
  z53 := Tryz.sizeOf119
  v53 := Tryz.zeroValue119 }
theorem Tryz.bits_Len (x : Int) (w : World) (h0 : 0 <= x) (h1 : x <= 18446744073709551615) :
    Calls Tryz.prog 69 #[.int .u64 x] w fun e w' => e = .returned (.int .i64 (Lib.bitLen x.toNat)) /\ w' = w := Any.bits_Len Tryz.lays125 x w h0 h1
def Tryz.lays215_ren : Go.Shelf.Ren := ⟨fun | 215 => 82 | n => n, fun | 3 => 3 | 4 => 4 | n => n, fun | n => n⟩
theorem Tryz.lays215 : Go.Proofs.Lays.n215 Tryz.prog Tryz.lays215_ren := {
  mixed := by kernel_rfl
  f215 := Tryz.func82.trans (congrArg some (by kernel_rfl))
  t3 := Tryz.underlying3
  a3 := Tryz.isAgg3
  z3 := Tryz.sizeOf3
  v3 := Tryz.zeroValue3
  t4 := Tryz.underlying4
  a4 := Tryz.isAgg4
  z4 := Tryz.sizeOf4
  v4 := Tryz.zeroValue4 }
open Go.RowKit in
theorem Tryz.cmp_isNaN_int (x : Int) (w : World) :
    Calls Tryz.prog 82 #[.int .i64 x] w fun e w' => e = .returned (.bool false) /\ w' = w := Any.cmp_isNaN_int Tryz.lays215 x w
def Tryz.lays122_ren : Go.Shelf.Ren := ⟨fun | 122 => 59 | 215 => 82 | n => n, fun | 3 => 3 | 4 => 4 | n => n, fun | n => n⟩
theorem Tryz.lays122 : Go.Proofs.Lays.n122 Tryz.prog Tryz.lays122_ren := {
  mixed := by kernel_rfl
  f122 := Tryz.func59.trans (congrArg some (by kernel_rfl))
  f215 := Tryz.func82.trans (congrArg some (by kernel_rfl))
  t3 := Tryz.underlying3
  a3 := Tryz.isAgg3
  z3 := Tryz.sizeOf3
  v3 := Tryz.zeroValue3
  t4 := Tryz.underlying4
  a4 := Tryz.isAgg4
  z4 := Tryz.sizeOf4
  v4 := Tryz.zeroValue4 }
open Go.RowKit in
theorem Tryz.cmp_Compare_int (x y : Int) (w : World) :
    Calls Tryz.prog 59 #[.int .i64 x, .int .i64 y] w fun e w' => e = .returned (.int .i64 (Lib.compareInt x y)) /\ w' = w := Any.cmp_Compare_int Tryz.lays122 x y w
def Tryz.lays129_ren : Go.Shelf.Ren := ⟨fun | 129 => 94 | n => n, fun | 53 => 119 | 3 => 3 | 4 => 4 | 46 => 98 | 5 => 5 | 9 => 9 | n => n, fun | n => n⟩
theorem Tryz.lays129 : Go.Proofs.Lays.n129 Tryz.prog Tryz.lays129_ren := {
  mixed := by kernel_rfl
  f129 := Tryz.func94.trans (congrArg some (by kernel_rfl))
  t3 := Tryz.underlying3
  a3 := Tryz.isAgg3
  z3 := Tryz.sizeOf3
  v3 := Tryz.zeroValue3
  t4 := Tryz.underlying4
  a4 := Tryz.isAgg4
  z4 := Tryz.sizeOf4
  v4 := Tryz.zeroValue4
  t5 := Tryz.underlying5
  a5 := Tryz.isAgg5
  z5 := Tryz.sizeOf5
  v5 := Tryz.zeroValue5
  t9 := Tryz.underlying9
  a9 := Tryz.isAgg9
  z9 := Tryz.sizeOf9
  v9 := Tryz.zeroValue9
  t46 := Tryz.underlying98
  a46 := Tryz.isAgg98
  z46 := Tryz.sizeOf98
  v46 := Tryz.zeroValue98
  t53 := Tryz.underlying119
  a53 := Tryz.isAgg119
  z53 := Tryz.sizeOf119
  v53 := Tryz.zeroValue119 }
theorem Tryz.bits_Len64 (x : Int) (w : World) (h0 : 0 <= x) (h1 : x <= 18446744073709551615) :
    Calls Tryz.prog 94 #[.int .u64 x] w fun e w' => e = .returned (.int .i64 (Lib.bitLen x.toNat)) /\ w' = w := Any.bits_Len64 Tryz.lays129 x w h0 h1
def Tryz.lays189_ren : Go.Shelf.Ren := ⟨fun | 189 => 117 | 125 => 69 | 257 => 124 | 128 => 93 | 129 => 94 | 294 => 126 | 295 => 127 | 296 => 128 | 297 => 129 | 298 => 130 | 299 => 131 | 216 => 132 | 300 => 133 | 301 => 134 | 328 => 135 | 329 => 102 | 330 => 103 | 331 => 136 | 332 => 137 | 215 => 82 | 343 => 138 | n => n, fun | 28 => 22 | 3 => 3 | 46 => 98 | 0 => 0 | 51 => 117 | 53 => 119 | 4 => 4 | 183 => 110 | 182 => 109 | 131 => 114 | 5 => 5 | 9 => 9 | 218 => 122 | 222 => 126 | 228 => 133 | 229 => 134 | n => n, fun | n => n⟩
theorem Tryz.lays189 : Go.Proofs.Lays.n189 Tryz.prog Tryz.lays189_ren := {
  mixed := by kernel_rfl
  f125 := Tryz.func69.trans (congrArg some (by kernel_rfl))
  f128 := Tryz.func93.trans (congrArg some (by kernel_rfl))
  f129 := Tryz.func94.trans (congrArg some (by kernel_rfl))
  f189 := Tryz.func117.trans (congrArg some (by kernel_rfl))
  f215 := Tryz.func82.trans (congrArg some (by kernel_rfl))
  f216 := Tryz.func132.trans (congrArg some (by kernel_rfl))
  f257 := Tryz.func124.trans (congrArg some (by kernel_rfl))
  f294 := Tryz.func126.trans (congrArg some (by kernel_rfl))
  f295 := Tryz.func127.trans (congrArg some (by kernel_rfl))
  f296 := Tryz.func128.trans (congrArg some (by kernel_rfl))
  f297 := Tryz.func129.trans (congrArg some (by kernel_rfl))
  f298 := Tryz.func130.trans (congrArg some (by kernel_rfl))
  f299 := Tryz.func131.trans (congrArg some (by kernel_rfl))
  f300 := Tryz.func133.trans (congrArg some (by kernel_rfl))
  f301 := Tryz.func134.trans (congrArg some (by kernel_rfl))
  f328 := Tryz.func135.trans (congrArg some (by kernel_rfl))
  f329 := Tryz.func102.trans (congrArg some (by kernel_rfl))
  f330 := Tryz.func103.trans (congrArg some (by kernel_rfl))
  f331 := Tryz.func136.trans (congrArg some (by kernel_rfl))
  f332 := Tryz.func137.trans (congrArg some (by kernel_rfl))
  f343 := Tryz.func138.trans (congrArg some (by kernel_rfl))
  t0 := Tryz.underlying0
  a0 := Tryz.isAgg0
  z0 := Tryz.sizeOf0
  v0 := Tryz.zeroValue0
  t3 := Tryz.underlying3
  a3 := Tryz.isAgg3
  z3 := Tryz.sizeOf3
  v3 := Tryz.zeroValue3
  t4 := Tryz.underlying4
  a4 := Tryz.isAgg4
  z4 := Tryz.sizeOf4
  v4 := Tryz.zeroValue4
  t5 := Tryz.underlying5
  a5 := Tryz.isAgg5
  z5 := Tryz.sizeOf5
  v5 := Tryz.zeroValue5
  t9 := Tryz.underlying9
  a9 := Tryz.isAgg9
  z9 := Tryz.sizeOf9
  v9 := Tryz.zeroValue9
  t28 := Tryz.underlying22
  a28 := Tryz.isAgg22
  z28 := Tryz.sizeOf22
  v28 := Tryz.zeroValue22
  t46 := Tryz.underlying98
  a46 := Tryz.isAgg98
  z46 := Tryz.sizeOf98
  v46 := Tryz.zeroValue98
  t51 := Tryz.underlying117
  a51 := Tryz.isAgg117
  z51 := Tryz.sizeOf117
  v51 := Tryz.zeroValue117
  t53 := Tryz.underlying119
  a53 := Tryz.isAgg119
  z53 := Tryz.sizeOf119
  v53 := Tryz.zeroValue119
  t131 := Tryz.underlying114
  a131 := Tryz.isAgg114
  z131 := Tryz.sizeOf114
  v131 := Tryz.zeroValue114
  t182 := Tryz.underlying109
  a182 := Tryz.isAgg109
  z182 := Tryz.sizeOf109
  v182 := Tryz.zeroValue109
  t183 := Tryz.underlying110
  a183 := Tryz.isAgg110
  z183 := Tryz.sizeOf110
  v183 := Tryz.zeroValue110
  t218 := Tryz.underlying122
  a218 := Tryz.isAgg122
  z218 := Tryz.sizeOf122
  v218 := Tryz.zeroValue122
  t222 := Tryz.underlying126
  a222 := Tryz.isAgg126
  z222 := Tryz.sizeOf126
  v222 := Tryz.zeroValue126
  t228 := Tryz.underlying133
  a228 := Tryz.isAgg133
  z228 := Tryz.sizeOf133
  v228 := Tryz.zeroValue133
  t229 := Tryz.underlying134
  a229 := Tryz.isAgg134
  z229 := Tryz.sizeOf134
  v229 := Tryz.zeroValue134 }
open Go.Sort Go.RowKit in
theorem Tryz.slices_Sort_int (blk off cap : Nat) (zs : List Int) (w : World) (hH : Holds (Value.int .i64) w blk off zs.toArray) (hblk : blk < w.heap.size) (hsz : zs.length < 4611686018427387904) :
    Calls Tryz.prog 117 #[.slice (some ⟨blk, off, none⟩) zs.length cap] w fun e w' =>
      e = .returned (.tuple #[]) /\ ∃ n os, w' = grow (putRow (Value.int .i64) (Sort.ahead w n) blk off (zs.mergeSort fun x y => decide (x <= y)).toArray) os := Any.slices_Sort_int Tryz.lays189 blk off cap zs w hH hblk hsz
def Tryz.lays108_ren : Go.Shelf.Ren := ⟨fun | 108 => 95 | n => n, fun | 28 => 22 | 3 => 3 | 0 => 0 | 4 => 4 | n => n, fun | n => n⟩
theorem Tryz.lays108 : Go.Proofs.Lays.n108 Tryz.prog Tryz.lays108_ren := {
  mixed := by kernel_rfl
  f108 := Tryz.func95.trans (congrArg some (by kernel_rfl))
  t0 := Tryz.underlying0
  a0 := Tryz.isAgg0
  z0 := Tryz.sizeOf0
  v0 := Tryz.zeroValue0
  t3 := Tryz.underlying3
  a3 := Tryz.isAgg3
  z3 := Tryz.sizeOf3
  v3 := Tryz.zeroValue3
  t4 := Tryz.underlying4
  a4 := Tryz.isAgg4
  z4 := Tryz.sizeOf4
  v4 := Tryz.zeroValue4
  t28 := Tryz.underlying22
  a28 := Tryz.isAgg22
  z28 := Tryz.sizeOf22
  v28 := Tryz.zeroValue22 }
open Go.Lib in
theorem Tryz.slices_Index_int (b off n c : Nat) (zs : List Int) (x : Int) (w : World) (hz : n <= zs.length) (hbig : n <= 9223372036854775807) (hc : ∀ j, j < zs.length -> w.cell? ⟨b, off + j, none⟩ = some (.int .i64 (zs.getD j 0))) :
    Calls Tryz.prog 95 #[.slice (some ⟨b, off, none⟩) n c, .int .i64 x] w fun e w' => e = .returned (.int .i64 (Lib.idxOf (zs.take n) x)) /\ w' = w := Any.slices_Index_int Tryz.lays108 b off n c zs x w hz hbig hc
open Go.Lib in
theorem Tryz.slices_Index_int_empty (a : Option Addr) (c : Nat) (x : Int) (w : World) :
    Calls Tryz.prog 95 #[.slice a 0 c, .int .i64 x] w fun e w' => e = .returned (.int .i64 (Lib.idxOf [] x)) /\ w' = w := Any.slices_Index_int_empty Tryz.lays108 a c x w
def Tryz.lays107_ren : Go.Shelf.Ren := ⟨fun | 107 => 74 | 108 => 95 | n => n, fun | 28 => 22 | 3 => 3 | 4 => 4 | 0 => 0 | n => n, fun | n => n⟩
theorem Tryz.lays107 : Go.Proofs.Lays.n107 Tryz.prog Tryz.lays107_ren := {
  mixed := by kernel_rfl
  f107 := Tryz.func74.trans (congrArg some (by kernel_rfl))
  f108 := Tryz.func95.trans (congrArg some (by kernel_rfl))
  t0 := Tryz.underlying0
  a0 := Tryz.isAgg0
  z0 := Tryz.sizeOf0
  v0 := Tryz.zeroValue0
  t3 := Tryz.underlying3
  a3 := Tryz.isAgg3
  z3 := Tryz.sizeOf3
  v3 := Tryz.zeroValue3
  t4 := Tryz.underlying4
  a4 := Tryz.isAgg4
  z4 := Tryz.sizeOf4
  v4 := Tryz.zeroValue4
  t28 := Tryz.underlying22
  a28 := Tryz.isAgg22
  z28 := Tryz.sizeOf22
  v28 := Tryz.zeroValue22 }
open Go.Lib in
theorem Tryz.slices_Contains_int (b off n c : Nat) (zs : List Int) (x : Int) (w : World) (hz : n <= zs.length) (hbig : n <= 9223372036854775807) (hc : ∀ j, j < zs.length -> w.cell? ⟨b, off + j, none⟩ = some (.int .i64 (zs.getD j 0))) :
    Calls Tryz.prog 74 #[.slice (some ⟨b, off, none⟩) n c, .int .i64 x] w fun e w' => e = .returned (.bool ((zs.take n).contains x)) /\ w' = w := Any.slices_Contains_int Tryz.lays107 b off n c zs x w hz hbig hc
open Go.Lib in
theorem Tryz.slices_Contains_int_empty (a : Option Addr) (c : Nat) (x : Int) (w : World) :
    Calls Tryz.prog 74 #[.slice a 0 c, .int .i64 x] w fun e w' => e = .returned (.bool false) /\ w' = w := Any.slices_Contains_int_empty Tryz.lays107 a c x w
def Tryz.laysNm215_ren : Go.Shelf.Ren := ⟨fun | 15 => 116 | n => n, fun | 22 => 22 | 3 => 3 | 4 => 4 | n => n, fun | n => n⟩
theorem Tryz.laysNm215 : Go.Proofs.Lays2.n15 Tryz.prog Tryz.laysNm215_ren := {
  mixed := by kernel_rfl
  f15 := Tryz.func116.trans (congrArg some (by kernel_rfl))
  t3 := Tryz.underlying3
  a3 := Tryz.isAgg3
  z3 := Tryz.sizeOf3
  v3 := Tryz.zeroValue3
  t4 := Tryz.underlying4
  a4 := Tryz.isAgg4
  z4 := Tryz.sizeOf4
  v4 := Tryz.zeroValue4
  t22 := Tryz.underlying22
  a22 := Tryz.isAgg22
  z22 := Tryz.sizeOf22
  v22 := Tryz.zeroValue22
  i3 := by kernel_rfl }
open Go.RowKit Go.Lib in
theorem Tryz.slices_Clone_int (b off n c : Nat) (zs : List Int) (w : World) (hz : n <= zs.length) (hbig : n * 8 <= 140737488355328) (hc : ∀ j, j < zs.length -> w.cell? ⟨b, off + j, none⟩ = some (.int .i64 (zs.getD j 0))) :
    Calls Tryz.prog 116 #[.slice (some ⟨b, off, none⟩) n c] w fun e w' => ∃ v', e = .returned v' /\ w'.ownsRow w.heap.size 3 1 v' n ((zs.take n).map (Value.int .i64)) /\ v' ≠ .slice none 0 0 /\ Below w.heap.size w w' := Any.slices_Clone_int Tryz.laysNm215 b off n c zs w hz hbig hc
open Go.RowKit Go.Lib in
theorem Tryz.slices_Clone_int_nil (n c : Nat) (w : World) :
    Calls Tryz.prog 116 #[.slice none n c] w fun e w' => e = .returned (.slice none 0 0) /\ w' = w := Any.slices_Clone_int_nil Tryz.laysNm215 n c w
open Go.RowKit Go.Lib in
theorem Tryz.slices_Clone_int_zero (a : Addr) (c : Nat) (w : World) :
    Calls Tryz.prog 116 #[.slice (some a) 0 c] w fun e w' => ∃ v', e = .returned v' /\ w'.ownsRow w.heap.size 3 1 v' 0 [] /\ v' ≠ .slice none 0 0 /\ Below w.heap.size w w' := Any.slices_Clone_int_zero Tryz.laysNm215 a c w
def Tryz.laysNm220_ren : Go.Shelf.Ren := ⟨fun | 20 => 118 | n => n, fun | 22 => 22 | 3 => 3 | 4 => 4 | 0 => 0 | n => n, fun | n => n⟩
theorem Tryz.laysNm220 : Go.Proofs.Lays2.n20 Tryz.prog Tryz.laysNm220_ren := {
  mixed := by kernel_rfl
  f20 := Tryz.func118.trans (congrArg some (by kernel_rfl))
  t0 := Tryz.underlying0
  a0 := Tryz.isAgg0
  z0 := Tryz.sizeOf0
  v0 := Tryz.zeroValue0
  t3 := Tryz.underlying3
  a3 := Tryz.isAgg3
  z3 := Tryz.sizeOf3
  v3 := Tryz.zeroValue3
  t4 := Tryz.underlying4
  a4 := Tryz.isAgg4
  z4 := Tryz.sizeOf4
  v4 := Tryz.zeroValue4
  t22 := Tryz.underlying22
  a22 := Tryz.isAgg22
  z22 := Tryz.sizeOf22
  v22 := Tryz.zeroValue22
  i3 := by kernel_rfl }
open Go.RowKit Go.Lib Go.Sort in
theorem Tryz.slices_Compact_int_arr (blk off cap : Nat) (d : Array Int) (w : World) (hH : Holds encI w blk off d) (hsz : d.size <= 9223372036854775807) (hcap : d.size <= cap) :
    Calls Tryz.prog 118 #[.slice (some ⟨blk, off, none⟩) d.size cap] w fun e w' => e = .returned (.slice (some ⟨blk, off, none⟩) (compactUpTo d d.size).length cap) /\ ∃ q, w' = putRow encI (Sort.ahead w q) blk off (compactUpTo d d.size ++ List.replicate (d.size - (compactUpTo d d.size).length) 0).toArray := Any.slices_Compact_int_arr Tryz.laysNm220 blk off cap d w hH hsz hcap
open Go.RowKit Go.Lib Go.Sort in
theorem Tryz.slices_Compact_int (blk off cap : Nat) (zs : List Int) (w : World) (hH : Holds (Value.int .i64) w blk off zs.toArray) (hsz : zs.length <= 9223372036854775807) (hcap : zs.length <= cap) :
    Calls Tryz.prog 118 #[.slice (some ⟨blk, off, none⟩) zs.length cap] w fun e w' => e = .returned (.slice (some ⟨blk, off, none⟩) (Lib.compact zs).length cap) /\ ∃ q, w' = putRow (Value.int .i64) (Sort.ahead w q) blk off (Lib.compact zs ++ List.replicate (zs.length - (Lib.compact zs).length) 0).toArray := Any.slices_Compact_int Tryz.laysNm220 blk off cap zs w hH hsz hcap
open Go.RowKit Go.Lib Go.Sort in
theorem Tryz.slices_Compact_int_empty (a : Option Addr) (cap : Nat) (w : World) :
    Calls Tryz.prog 118 #[.slice a 0 cap] w fun e w' => e = .returned (.slice a 0 cap) /\ w' = w := Any.slices_Compact_int_empty Tryz.laysNm220 a cap w
def Tryz.laysNm237_ren : Go.Shelf.Ren := ⟨fun | 37 => 82 | n => n, fun | 3 => 3 | 4 => 4 | n => n, fun | n => n⟩
theorem Tryz.laysNm237 : Go.Proofs.Lays2.n37 Tryz.prog Tryz.laysNm237_ren := {
  mixed := by kernel_rfl
  f37 := Tryz.func82.trans (congrArg some (by kernel_rfl))
  t3 := Tryz.underlying3
  a3 := Tryz.isAgg3
  z3 := Tryz.sizeOf3
  v3 := Tryz.zeroValue3
  t4 := Tryz.underlying4
  a4 := Tryz.isAgg4
  z4 := Tryz.sizeOf4
  v4 := Tryz.zeroValue4 }
open Go.RowKit Go.Lib in
theorem Tryz.cmp_isNaN_int2 (x : Int) (w : World) :
    Calls Tryz.prog 82 #[.int .i64 x] w fun e w' => e = .returned (.bool false) /\ w' = w := Any.cmp_isNaN_int2 Tryz.laysNm237 x w
def Tryz.laysNm231_ren : Go.Shelf.Ren := ⟨fun | 31 => 132 | 37 => 82 | n => n, fun | 3 => 3 | 4 => 4 | n => n, fun | n => n⟩
theorem Tryz.laysNm231 : Go.Proofs.Lays2.n31 Tryz.prog Tryz.laysNm231_ren := {
  mixed := by kernel_rfl
  f31 := Tryz.func132.trans (congrArg some (by kernel_rfl))
  f37 := Tryz.func82.trans (congrArg some (by kernel_rfl))
  t3 := Tryz.underlying3
  a3 := Tryz.isAgg3
  z3 := Tryz.sizeOf3
  v3 := Tryz.zeroValue3
  t4 := Tryz.underlying4
  a4 := Tryz.isAgg4
  z4 := Tryz.sizeOf4
  v4 := Tryz.zeroValue4 }
open Go.RowKit Go.Lib in
theorem Tryz.cmp_Less_int2 (x y : Int) (w : World) :
    Calls Tryz.prog 132 #[.int .i64 x, .int .i64 y] w fun e w' => e = .returned (.bool (decide (x < y))) /\ w' = w := Any.cmp_Less_int2 Tryz.laysNm231 x y w
open Go.RowKit Go.Lib Go.Sort in
theorem Tryz.slices_Compact_int_cells (b off n c : Nat) (zs : List Int) (w : World) (hz : n <= zs.length) (hbig : n <= 9223372036854775807) (hcap : n <= c) (hc : ∀ j, j < zs.length -> w.cell? ⟨b, off + j, none⟩ = some (.int .i64 (zs.getD j 0))) (hf : ∀ j, j < n -> w.frozen? ⟨b, off + j, none⟩ = false) :
    Calls Tryz.prog 118 #[.slice (some ⟨b, off, none⟩) n c] w fun e w' => e = .returned (.slice (some ⟨b, off, none⟩) (Lib.compact (zs.take n)).length c) /\ ∃ q, w' = (w.drewN q).setCells b off ((Lib.compact (zs.take n) ++ List.replicate (n - (Lib.compact (zs.take n)).length) 0).map (Value.int .i64)) := Any.slices_Compact_int_cells Tryz.laysNm220 b off n c zs w hz hbig hcap hc hf
open Go.RowKit Go.Sort in
theorem Tryz.slices_Sort_int_none (p : Option Addr) (cap : Nat) (w : World) :
    Calls Tryz.prog 117 #[.slice p 0 cap] w fun e w' => e = .returned (.tuple #[]) /\ w' = w := Any.slices_Sort_int_none Tryz.lays189 p cap w
def Tryz.laysSlE041_f116_ren : Go.Shelf.Ren := ⟨fun | 41 => 116 | n => n, fun | 22 => 22 | 23 => 3 | 4 => 4 | n => n, fun | n => n⟩
theorem Tryz.laysSlE041_f116 : Go.Proofs.SlLaysE0.n41 Tryz.prog Tryz.laysSlE041_f116_ren := {
  mixed := by kernel_rfl
  f41 := ⟨Tryz.f116.name, by decide, Tryz.func116.trans (congrArg some (by kernel_rfl))⟩
  t4 := Tryz.underlying4
  a4 := Tryz.isAgg4
  z4 := Tryz.sizeOf4
  v4 := Tryz.zeroValue4
  t22 := Tryz.underlying22
  a22 := Tryz.isAgg22
  z22 := Tryz.sizeOf22
  v22 := Tryz.zeroValue22 }
open Go.RowKit Go.Lib in
theorem Tryz.slices_Clone (i0 : TypeInfo) (z : Value) (size bytes : Nat) (hi : Tryz.prog.info? 3 = some i0) (hz0 : i0.zero = some z) (hz1 : i0.size = size) (hz2 : i0.bytes = bytes) (hzs : z.cells.size = size) (hsz : 0 < size) (z23 : ∀ w, (Go.sizeOf 3).run Tryz.prog w = .ok size w) (b off n c : Nat) (news : List Value) (w : World) (hl : news.length = n * size) (hn : n <= maxLen) (hbig : n * bytes <= 140737488355328) (hc : ∀ j u, news[j]? = some u -> w.cell? ⟨b, off + j, none⟩ = some u) (h1 : ∀ u ∈ news, u.oneCell' = true) :
    Calls Tryz.prog 116 #[.slice (some ⟨b, off, none⟩) n c] w fun e w' => ∃ v', e = .returned v' /\ w'.ownsRow w.heap.size 3 size v' n news /\ v' ≠ .slice none 0 0 /\ Below w.heap.size w w' := AnyE.slices_Clone Tryz.laysSlE041_f116 i0 z size bytes hi hz0 hz1 hz2 hzs hsz z23 b off n c news w hl hn hbig hc h1
open Go.RowKit Go.Lib in
theorem Tryz.slices_Clone_nil (n c : Nat) (w : World) :
    Calls Tryz.prog 116 #[.slice none n c] w fun e w' => e = .returned (.slice none 0 0) /\ w' = w := AnyE.slices_Clone_nil Tryz.laysSlE041_f116 n c w
def Tryz.laysSlF20_f85_ren : Go.Shelf.Ren := ⟨fun | 20 => 85 | n => n, fun | 24 => 22 | 22 => 26 | 3 => 3 | 25 => 78 | 4 => 4 | 0 => 0 | n => n, fun | n => n⟩
theorem Tryz.laysSlF20_f85 : Go.Proofs.SlLaysF.n20 Tryz.prog Tryz.laysSlF20_f85_ren := {
  mixed := by kernel_rfl
  f20 := ⟨Tryz.f85.name, by decide, Tryz.func85.trans (congrArg some (by kernel_rfl))⟩
  t0 := Tryz.underlying0
  a0 := Tryz.isAgg0
  z0 := Tryz.sizeOf0
  v0 := Tryz.zeroValue0
  t3 := Tryz.underlying3
  a3 := Tryz.isAgg3
  z3 := Tryz.sizeOf3
  v3 := Tryz.zeroValue3
  t4 := Tryz.underlying4
  a4 := Tryz.isAgg4
  z4 := Tryz.sizeOf4
  v4 := Tryz.zeroValue4
  t22 := Tryz.underlying26
  a22 := Tryz.isAgg26
  z22 := Tryz.sizeOf26
  v22 := Tryz.zeroValue26
  a24 := Tryz.isAgg22
  z24 := Tryz.sizeOf22
  t25 := Tryz.underlying78
  a25 := Tryz.isAgg78
  z25 := Tryz.sizeOf78
  v25 := Tryz.zeroValue78 }
open Go.RowKit Go.Lib Go.Sort in
theorem Tryz.insertionSortCmpFunc_one_f85 {α : Type} [Inhabited α] (enc : α -> Value) (hO : OneCell enc) (cf : α -> α -> Int) (g : Nat) (cb : Array Value) (blk off cap a b : Nat) (d : Array α) (w : World) (eg : ∀ args w, (callFunc g args).run Tryz.prog w = .ok (.enter g args) w) (hcmp : CmpReads Tryz.prog g cb enc cf blk off d.size w) (hH : Holds enc w blk off d) (hab : a <= b) (hb : b <= d.size) (hsz : d.size < 4611686018427387904) :
    Calls Tryz.prog 85 #[.slice (some ⟨blk, off, none⟩) d.size cap, .int .i64 a, .int .i64 b, .func (.func g) #[] cb] w fun e w' =>
      e = .returned (.tuple #[]) /\ ∃ n, w' = (putRow enc w blk off (Sort.insertionSort (ltOf cf) d a b)).drewN n := Any.insertionSortCmpFunc_one Tryz.laysSlF20_f85 enc hO cf g cb blk off cap a b d w eg hcmp hH hab hb hsz
def Tryz.laysSlF20_f98_ren : Go.Shelf.Ren := ⟨fun | 20 => 98 | n => n, fun | 24 => 3 | 22 => 22 | 3 => 3 | 25 => 44 | 4 => 4 | 0 => 0 | n => n, fun | n => n⟩
theorem Tryz.laysSlF20_f98 : Go.Proofs.SlLaysF.n20 Tryz.prog Tryz.laysSlF20_f98_ren := {
  mixed := by kernel_rfl
  f20 := ⟨Tryz.f98.name, by decide, Tryz.func98.trans (congrArg some (by kernel_rfl))⟩
  t0 := Tryz.underlying0
  a0 := Tryz.isAgg0
  z0 := Tryz.sizeOf0
  v0 := Tryz.zeroValue0
  t3 := Tryz.underlying3
  a3 := Tryz.isAgg3
  z3 := Tryz.sizeOf3
  v3 := Tryz.zeroValue3
  t4 := Tryz.underlying4
  a4 := Tryz.isAgg4
  z4 := Tryz.sizeOf4
  v4 := Tryz.zeroValue4
  t22 := Tryz.underlying22
  a22 := Tryz.isAgg22
  z22 := Tryz.sizeOf22
  v22 := Tryz.zeroValue22
  a24 := Tryz.isAgg3
  z24 := Tryz.sizeOf3
  t25 := Tryz.underlying44
  a25 := Tryz.isAgg44
  z25 := Tryz.sizeOf44
  v25 := Tryz.zeroValue44 }
open Go.RowKit Go.Lib Go.Sort in
theorem Tryz.insertionSortCmpFunc_one_f98 {α : Type} [Inhabited α] (enc : α -> Value) (hO : OneCell enc) (cf : α -> α -> Int) (g : Nat) (cb : Array Value) (blk off cap a b : Nat) (d : Array α) (w : World) (eg : ∀ args w, (callFunc g args).run Tryz.prog w = .ok (.enter g args) w) (hcmp : CmpReads Tryz.prog g cb enc cf blk off d.size w) (hH : Holds enc w blk off d) (hab : a <= b) (hb : b <= d.size) (hsz : d.size < 4611686018427387904) :
    Calls Tryz.prog 98 #[.slice (some ⟨blk, off, none⟩) d.size cap, .int .i64 a, .int .i64 b, .func (.func g) #[] cb] w fun e w' =>
      e = .returned (.tuple #[]) /\ ∃ n, w' = (putRow enc w blk off (Sort.insertionSort (ltOf cf) d a b)).drewN n := Any.insertionSortCmpFunc_one Tryz.laysSlF20_f98 enc hO cf g cb blk off cap a b d w eg hcmp hH hab hb hsz
def Tryz.laysSlF46_f101_ren : Go.Shelf.Ren := ⟨fun | 46 => 101 | n => n, fun | 24 => 22 | 22 => 26 | 3 => 3 | 25 => 78 | 4 => 4 | 0 => 0 | n => n, fun | n => n⟩
theorem Tryz.laysSlF46_f101 : Go.Proofs.SlLaysF.n46 Tryz.prog Tryz.laysSlF46_f101_ren := {
  mixed := by kernel_rfl
  f46 := ⟨Tryz.f101.name, by decide, Tryz.func101.trans (congrArg some (by kernel_rfl))⟩
  t0 := Tryz.underlying0
  a0 := Tryz.isAgg0
  z0 := Tryz.sizeOf0
  v0 := Tryz.zeroValue0
  t3 := Tryz.underlying3
  a3 := Tryz.isAgg3
  z3 := Tryz.sizeOf3
  v3 := Tryz.zeroValue3
  t4 := Tryz.underlying4
  a4 := Tryz.isAgg4
  z4 := Tryz.sizeOf4
  v4 := Tryz.zeroValue4
  t22 := Tryz.underlying26
  a22 := Tryz.isAgg26
  z22 := Tryz.sizeOf26
  v22 := Tryz.zeroValue26
  a24 := Tryz.isAgg22
  z24 := Tryz.sizeOf22
  t25 := Tryz.underlying78
  a25 := Tryz.isAgg78
  z25 := Tryz.sizeOf78
  v25 := Tryz.zeroValue78 }
open Go.RowKit Go.Lib Go.Sort in
theorem Tryz.siftDownCmpFunc_f101 {α : Type} [Inhabited α] (enc : α -> Value) (cf : α -> α -> Int) (g : Nat) (cb : Array Value) (blk off cap lo hi first : Nat) (d0 d : Array α) (w0 w : World) (eg : ∀ args w, (callFunc g args).run Tryz.prog w = .ok (.enter g args) w) (hcmp : CmpLays1 Tryz.prog g cb enc cf blk off d0.size w0) (R : Row1 enc w0 blk off d0) (hs : d0.size = d.size) (S : SW enc w0 blk off d w) (hlo : lo <= hi) (hb : first + hi <= d.size) (hsz : d.size < 4611686018427387904) :
    Calls Tryz.prog 101 #[.slice (some ⟨blk, off, none⟩) d.size cap, .int .i64 lo, .int .i64 hi, .int .i64 first, .func (.func g) #[] cb] w fun e w' =>
      e = .returned (.tuple #[]) /\ SW enc w0 blk off (siftDown (ltOf cf) hi first lo d) w' := Any.siftDownCmpFunc Tryz.laysSlF46_f101 enc cf g cb blk off cap lo hi first d0 d w0 w eg hcmp R hs S hlo hb hsz
def Tryz.laysSlF46_f120_ren : Go.Shelf.Ren := ⟨fun | 46 => 120 | n => n, fun | 24 => 3 | 22 => 22 | 3 => 3 | 25 => 44 | 4 => 4 | 0 => 0 | n => n, fun | n => n⟩
theorem Tryz.laysSlF46_f120 : Go.Proofs.SlLaysF.n46 Tryz.prog Tryz.laysSlF46_f120_ren := {
  mixed := by kernel_rfl
  f46 := ⟨Tryz.f120.name, by decide, Tryz.func120.trans (congrArg some (by kernel_rfl))⟩
  t0 := Tryz.underlying0
  a0 := Tryz.isAgg0
  z0 := Tryz.sizeOf0
  v0 := Tryz.zeroValue0
  t3 := Tryz.underlying3
  a3 := Tryz.isAgg3
  z3 := Tryz.sizeOf3
  v3 := Tryz.zeroValue3
  t4 := Tryz.underlying4
  a4 := Tryz.isAgg4
  z4 := Tryz.sizeOf4
  v4 := Tryz.zeroValue4
  t22 := Tryz.underlying22
  a22 := Tryz.isAgg22
  z22 := Tryz.sizeOf22
  v22 := Tryz.zeroValue22
  a24 := Tryz.isAgg3
  z24 := Tryz.sizeOf3
  t25 := Tryz.underlying44
  a25 := Tryz.isAgg44
  z25 := Tryz.sizeOf44
  v25 := Tryz.zeroValue44 }
open Go.RowKit Go.Lib Go.Sort in
theorem Tryz.siftDownCmpFunc_f120 {α : Type} [Inhabited α] (enc : α -> Value) (cf : α -> α -> Int) (g : Nat) (cb : Array Value) (blk off cap lo hi first : Nat) (d0 d : Array α) (w0 w : World) (eg : ∀ args w, (callFunc g args).run Tryz.prog w = .ok (.enter g args) w) (hcmp : CmpLays1 Tryz.prog g cb enc cf blk off d0.size w0) (R : Row1 enc w0 blk off d0) (hs : d0.size = d.size) (S : SW enc w0 blk off d w) (hlo : lo <= hi) (hb : first + hi <= d.size) (hsz : d.size < 4611686018427387904) :
    Calls Tryz.prog 120 #[.slice (some ⟨blk, off, none⟩) d.size cap, .int .i64 lo, .int .i64 hi, .int .i64 first, .func (.func g) #[] cb] w fun e w' =>
      e = .returned (.tuple #[]) /\ SW enc w0 blk off (siftDown (ltOf cf) hi first lo d) w' := Any.siftDownCmpFunc Tryz.laysSlF46_f120 enc cf g cb blk off cap lo hi first d0 d w0 w eg hcmp R hs S hlo hb hsz
def Tryz.laysSlF21_f86_ren : Go.Shelf.Ren := ⟨fun | 21 => 86 | 46 => 101 | n => n, fun | 24 => 22 | 22 => 26 | 3 => 3 | 25 => 78 | 4 => 4 | 0 => 0 | n => n, fun | n => n⟩
theorem Tryz.laysSlF21_f86 : Go.Proofs.SlLaysF.n21 Tryz.prog Tryz.laysSlF21_f86_ren := {
  mixed := by kernel_rfl
  f21 := ⟨Tryz.f86.name, by decide, Tryz.func86.trans (congrArg some (by kernel_rfl))⟩
  f46 := ⟨Tryz.f101.name, by decide, Tryz.func101.trans (congrArg some (by kernel_rfl))⟩
  t0 := Tryz.underlying0
  a0 := Tryz.isAgg0
  z0 := Tryz.sizeOf0
  v0 := Tryz.zeroValue0
  t3 := Tryz.underlying3
  a3 := Tryz.isAgg3
  z3 := Tryz.sizeOf3
  v3 := Tryz.zeroValue3
  t4 := Tryz.underlying4
  a4 := Tryz.isAgg4
  z4 := Tryz.sizeOf4
  v4 := Tryz.zeroValue4
  t22 := Tryz.underlying26
  a22 := Tryz.isAgg26
  z22 := Tryz.sizeOf26
  v22 := Tryz.zeroValue26
  a24 := Tryz.isAgg22
  z24 := Tryz.sizeOf22
  t25 := Tryz.underlying78
  a25 := Tryz.isAgg78
  z25 := Tryz.sizeOf78
  v25 := Tryz.zeroValue78 }
open Go.RowKit Go.Lib Go.Sort in
theorem Tryz.heapSortCmpFunc_f86 {α : Type} [Inhabited α] (enc : α -> Value) (cf : α -> α -> Int) (g : Nat) (cb : Array Value) (blk off cap a b : Nat) (d0 d : Array α) (w0 w : World) (eg : ∀ args w, (callFunc g args).run Tryz.prog w = .ok (.enter g args) w) (hcmp : CmpLays1 Tryz.prog g cb enc cf blk off d0.size w0) (R : Row1 enc w0 blk off d0) (hs : d0.size = d.size) (S : SW enc w0 blk off d w) (hab : a <= b) (hb : b <= d.size) (hsz : d.size < 4611686018427387904) :
    Calls Tryz.prog 86 #[.slice (some ⟨blk, off, none⟩) d.size cap, .int .i64 a, .int .i64 b, .func (.func g) #[] cb] w fun e w' =>
      e = .returned (.tuple #[]) /\ SW enc w0 blk off (heapSort (ltOf cf) d a b) w' := Any.heapSortCmpFunc Tryz.laysSlF21_f86 enc cf g cb blk off cap a b d0 d w0 w eg hcmp R hs S hab hb hsz
def Tryz.laysSlF21_f106_ren : Go.Shelf.Ren := ⟨fun | 21 => 106 | 46 => 120 | n => n, fun | 24 => 3 | 22 => 22 | 3 => 3 | 25 => 44 | 4 => 4 | 0 => 0 | n => n, fun | n => n⟩
theorem Tryz.laysSlF21_f106 : Go.Proofs.SlLaysF.n21 Tryz.prog Tryz.laysSlF21_f106_ren := {
  mixed := by kernel_rfl
  f21 := ⟨Tryz.f106.name, by decide, Tryz.func106.trans (congrArg some (by kernel_rfl))⟩
  f46 := ⟨Tryz.f120.name, by decide, Tryz.func120.trans (congrArg some (by kernel_rfl))⟩
  t0 := Tryz.underlying0
  a0 := Tryz.isAgg0
  z0 := Tryz.sizeOf0
  v0 := Tryz.zeroValue0
  t3 := Tryz.underlying3
  a3 := Tryz.isAgg3
  z3 := Tryz.sizeOf3
  v3 := Tryz.zeroValue3
  t4 := Tryz.underlying4
  a4 := Tryz.isAgg4
  z4 := Tryz.sizeOf4
  v4 := Tryz.zeroValue4
  t22 := Tryz.underlying22
  a22 := Tryz.isAgg22
  z22 := Tryz.sizeOf22
  v22 := Tryz.zeroValue22
  a24 := Tryz.isAgg3
  z24 := Tryz.sizeOf3
  t25 := Tryz.underlying44
  a25 := Tryz.isAgg44
  z25 := Tryz.sizeOf44
  v25 := Tryz.zeroValue44 }
open Go.RowKit Go.Lib Go.Sort in
theorem Tryz.heapSortCmpFunc_f106 {α : Type} [Inhabited α] (enc : α -> Value) (cf : α -> α -> Int) (g : Nat) (cb : Array Value) (blk off cap a b : Nat) (d0 d : Array α) (w0 w : World) (eg : ∀ args w, (callFunc g args).run Tryz.prog w = .ok (.enter g args) w) (hcmp : CmpLays1 Tryz.prog g cb enc cf blk off d0.size w0) (R : Row1 enc w0 blk off d0) (hs : d0.size = d.size) (S : SW enc w0 blk off d w) (hab : a <= b) (hb : b <= d.size) (hsz : d.size < 4611686018427387904) :
    Calls Tryz.prog 106 #[.slice (some ⟨blk, off, none⟩) d.size cap, .int .i64 a, .int .i64 b, .func (.func g) #[] cb] w fun e w' =>
      e = .returned (.tuple #[]) /\ SW enc w0 blk off (heapSort (ltOf cf) d a b) w' := Any.heapSortCmpFunc Tryz.laysSlF21_f106 enc cf g cb blk off cap a b d0 d w0 w eg hcmp R hs S hab hb hsz
open Go.RowKit Go.Lib Go.Sort in
theorem Tryz.insertionSortCmpFunc_s_f85 {α : Type} [Inhabited α] (enc : α -> Value) (cf : α -> α -> Int) (g : Nat) (cb : Array Value) (blk off cap a b : Nat) (d0 d : Array α) (w0 w : World) (eg : ∀ args w, (callFunc g args).run Tryz.prog w = .ok (.enter g args) w) (hcmp : CmpLays1 Tryz.prog g cb enc cf blk off d0.size w0) (R : Row1 enc w0 blk off d0) (hs : d0.size = d.size) (S : SW enc w0 blk off d w) (hab : a <= b) (hb : b <= d.size) (hsz : d.size < 4611686018427387904) :
    Calls Tryz.prog 85 #[.slice (some ⟨blk, off, none⟩) d.size cap, .int .i64 a, .int .i64 b, .func (.func g) #[] cb] w fun e w' => e = .returned (.tuple #[]) /\ SW enc w0 blk off (Sort.insertionSort (ltOf cf) d a b) w' := Any.insertionSortCmpFunc_s Tryz.laysSlF20_f85 enc cf g cb blk off cap a b d0 d w0 w eg hcmp R hs S hab hb hsz
open Go.RowKit Go.Lib Go.Sort in
theorem Tryz.insertionSortCmpFunc_s_f98 {α : Type} [Inhabited α] (enc : α -> Value) (cf : α -> α -> Int) (g : Nat) (cb : Array Value) (blk off cap a b : Nat) (d0 d : Array α) (w0 w : World) (eg : ∀ args w, (callFunc g args).run Tryz.prog w = .ok (.enter g args) w) (hcmp : CmpLays1 Tryz.prog g cb enc cf blk off d0.size w0) (R : Row1 enc w0 blk off d0) (hs : d0.size = d.size) (S : SW enc w0 blk off d w) (hab : a <= b) (hb : b <= d.size) (hsz : d.size < 4611686018427387904) :
    Calls Tryz.prog 98 #[.slice (some ⟨blk, off, none⟩) d.size cap, .int .i64 a, .int .i64 b, .func (.func g) #[] cb] w fun e w' => e = .returned (.tuple #[]) /\ SW enc w0 blk off (Sort.insertionSort (ltOf cf) d a b) w' := Any.insertionSortCmpFunc_s Tryz.laysSlF20_f98 enc cf g cb blk off cap a b d0 d w0 w eg hcmp R hs S hab hb hsz
def Tryz.laysSlF57_f119_ren : Go.Shelf.Ren := ⟨fun | 57 => 119 | n => n, fun | 24 => 22 | 22 => 26 | 3 => 3 | 70 => 126 | 25 => 78 | 0 => 0 | 4 => 4 | n => n, fun | n => n⟩
theorem Tryz.laysSlF57_f119 : Go.Proofs.SlLaysF.n57 Tryz.prog Tryz.laysSlF57_f119_ren := {
  mixed := by kernel_rfl
  f57 := ⟨Tryz.f119.name, by decide, Tryz.func119.trans (congrArg some (by kernel_rfl))⟩
  t0 := Tryz.underlying0
  a0 := Tryz.isAgg0
  z0 := Tryz.sizeOf0
  v0 := Tryz.zeroValue0
  t3 := Tryz.underlying3
  a3 := Tryz.isAgg3
  z3 := Tryz.sizeOf3
  v3 := Tryz.zeroValue3
  t4 := Tryz.underlying4
  a4 := Tryz.isAgg4
  z4 := Tryz.sizeOf4
  v4 := Tryz.zeroValue4
  t22 := Tryz.underlying26
  a22 := Tryz.isAgg26
  z22 := Tryz.sizeOf26
  v22 := Tryz.zeroValue26
  a24 := Tryz.isAgg22
  z24 := Tryz.sizeOf22
  t25 := Tryz.underlying78
  a25 := Tryz.isAgg78
  z25 := Tryz.sizeOf78
  v25 := Tryz.zeroValue78
  t70 := Tryz.underlying126
  a70 := Tryz.isAgg126
  z70 := Tryz.sizeOf126
  v70 := Tryz.zeroValue126 }
open Go.RowKit Go.Lib Go.Sort in
theorem Tryz.order2CmpFunc_f119 {α : Type} [Inhabited α] (enc : α -> Value) (cf : α -> α -> Int) (g : Nat) (cb : Array Value) (blk off cap a b c s : Nat) (d0 d : Array α) (w0 W : World) (eg : ∀ args w, (callFunc g args).run Tryz.prog w = .ok (.enter g args) w) (hcmp : CmpLays1 Tryz.prog g cb enc cf blk off d0.size w0) (R : Row1 enc w0 blk off d0) (hs : d0.size = d.size) (C : Cnt1 enc w0 blk off d c s W) (ha : a < d.size) (hb : b < d.size) (hsz : d.size < 4611686018427387904) (hss : s < 4611686018427387904) :
    Calls Tryz.prog 119 #[.slice (some ⟨blk, off, none⟩) d.size cap, .int .i64 a, .int .i64 b, .pointer (some ⟨c, 0, none⟩), .func (.func g) #[] cb] W fun e w' =>
      e = .returned (.tuple #[.int .i64 (order2 (ltOf cf) d a b s).1, .int .i64 (order2 (ltOf cf) d a b s).2.1]) /\ Cnt1 enc w0 blk off d c (order2 (ltOf cf) d a b s).2.2 w' := Any.order2CmpFunc Tryz.laysSlF57_f119 enc cf g cb blk off cap a b c s d0 d w0 W eg hcmp R hs C ha hb hsz hss
def Tryz.laysSlF57_f125_ren : Go.Shelf.Ren := ⟨fun | 57 => 125 | n => n, fun | 24 => 3 | 22 => 22 | 3 => 3 | 70 => 126 | 25 => 44 | 0 => 0 | 4 => 4 | n => n, fun | n => n⟩
theorem Tryz.laysSlF57_f125 : Go.Proofs.SlLaysF.n57 Tryz.prog Tryz.laysSlF57_f125_ren := {
  mixed := by kernel_rfl
  f57 := ⟨Tryz.f125.name, by decide, Tryz.func125.trans (congrArg some (by kernel_rfl))⟩
  t0 := Tryz.underlying0
  a0 := Tryz.isAgg0
  z0 := Tryz.sizeOf0
  v0 := Tryz.zeroValue0
  t3 := Tryz.underlying3
  a3 := Tryz.isAgg3
  z3 := Tryz.sizeOf3
  v3 := Tryz.zeroValue3
  t4 := Tryz.underlying4
  a4 := Tryz.isAgg4
  z4 := Tryz.sizeOf4
  v4 := Tryz.zeroValue4
  t22 := Tryz.underlying22
  a22 := Tryz.isAgg22
  z22 := Tryz.sizeOf22
  v22 := Tryz.zeroValue22
  a24 := Tryz.isAgg3
  z24 := Tryz.sizeOf3
  t25 := Tryz.underlying44
  a25 := Tryz.isAgg44
  z25 := Tryz.sizeOf44
  v25 := Tryz.zeroValue44
  t70 := Tryz.underlying126
  a70 := Tryz.isAgg126
  z70 := Tryz.sizeOf126
  v70 := Tryz.zeroValue126 }
open Go.RowKit Go.Lib Go.Sort in
theorem Tryz.order2CmpFunc_f125 {α : Type} [Inhabited α] (enc : α -> Value) (cf : α -> α -> Int) (g : Nat) (cb : Array Value) (blk off cap a b c s : Nat) (d0 d : Array α) (w0 W : World) (eg : ∀ args w, (callFunc g args).run Tryz.prog w = .ok (.enter g args) w) (hcmp : CmpLays1 Tryz.prog g cb enc cf blk off d0.size w0) (R : Row1 enc w0 blk off d0) (hs : d0.size = d.size) (C : Cnt1 enc w0 blk off d c s W) (ha : a < d.size) (hb : b < d.size) (hsz : d.size < 4611686018427387904) (hss : s < 4611686018427387904) :
    Calls Tryz.prog 125 #[.slice (some ⟨blk, off, none⟩) d.size cap, .int .i64 a, .int .i64 b, .pointer (some ⟨c, 0, none⟩), .func (.func g) #[] cb] W fun e w' =>
      e = .returned (.tuple #[.int .i64 (order2 (ltOf cf) d a b s).1, .int .i64 (order2 (ltOf cf) d a b s).2.1]) /\ Cnt1 enc w0 blk off d c (order2 (ltOf cf) d a b s).2.2 w' := Any.order2CmpFunc Tryz.laysSlF57_f125 enc cf g cb blk off cap a b c s d0 d w0 W eg hcmp R hs C ha hb hsz hss
def Tryz.laysSlF50_f105_ren : Go.Shelf.Ren := ⟨fun | 50 => 105 | 57 => 119 | n => n, fun | 24 => 22 | 22 => 26 | 3 => 3 | 70 => 126 | 25 => 78 | 77 => 134 | 0 => 0 | 4 => 4 | n => n, fun | n => n⟩
theorem Tryz.laysSlF50_f105 : Go.Proofs.SlLaysF.n50 Tryz.prog Tryz.laysSlF50_f105_ren := {
  mixed := by kernel_rfl
  f50 := ⟨Tryz.f105.name, by decide, Tryz.func105.trans (congrArg some (by kernel_rfl))⟩
  f57 := ⟨Tryz.f119.name, by decide, Tryz.func119.trans (congrArg some (by kernel_rfl))⟩
  t0 := Tryz.underlying0
  a0 := Tryz.isAgg0
  z0 := Tryz.sizeOf0
  v0 := Tryz.zeroValue0
  t3 := Tryz.underlying3
  a3 := Tryz.isAgg3
  z3 := Tryz.sizeOf3
  v3 := Tryz.zeroValue3
  t4 := Tryz.underlying4
  a4 := Tryz.isAgg4
  z4 := Tryz.sizeOf4
  v4 := Tryz.zeroValue4
  t22 := Tryz.underlying26
  a22 := Tryz.isAgg26
  z22 := Tryz.sizeOf26
  v22 := Tryz.zeroValue26
  a24 := Tryz.isAgg22
  z24 := Tryz.sizeOf22
  t25 := Tryz.underlying78
  a25 := Tryz.isAgg78
  z25 := Tryz.sizeOf78
  v25 := Tryz.zeroValue78
  t70 := Tryz.underlying126
  a70 := Tryz.isAgg126
  z70 := Tryz.sizeOf126
  v70 := Tryz.zeroValue126
  t77 := Tryz.underlying134
  a77 := Tryz.isAgg134
  z77 := Tryz.sizeOf134
  v77 := Tryz.zeroValue134 }
open Go.RowKit Go.Lib Go.Sort in
theorem Tryz.medianCmpFunc_f105 {α : Type} [Inhabited α] (enc : α -> Value) (cf : α -> α -> Int) (g : Nat) (cb : Array Value) (blk off cap a b c' c s : Nat) (d0 d : Array α) (w0 W : World) (eg : ∀ args w, (callFunc g args).run Tryz.prog w = .ok (.enter g args) w) (hcmp : CmpLays1 Tryz.prog g cb enc cf blk off d0.size w0) (R : Row1 enc w0 blk off d0) (hs : d0.size = d.size) (C : Cnt1 enc w0 blk off d c s W) (ha : a < d.size) (hb : b < d.size) (hc : c' < d.size) (hsz : d.size < 4611686018427387904) (hss : s + 3 < 4611686018427387904) :
    Calls Tryz.prog 105 #[.slice (some ⟨blk, off, none⟩) d.size cap, .int .i64 a, .int .i64 b, .int .i64 c', .pointer (some ⟨c, 0, none⟩), .func (.func g) #[] cb] W fun e w' =>
      e = .returned (.int .i64 (median (ltOf cf) d a b c' s).1) /\ Cnt1 enc w0 blk off d c (median (ltOf cf) d a b c' s).2 w' := Any.medianCmpFunc Tryz.laysSlF50_f105 enc cf g cb blk off cap a b c' c s d0 d w0 W eg hcmp R hs C ha hb hc hsz hss
def Tryz.laysSlF50_f122_ren : Go.Shelf.Ren := ⟨fun | 50 => 122 | 57 => 125 | n => n, fun | 24 => 3 | 22 => 22 | 3 => 3 | 70 => 126 | 25 => 44 | 77 => 134 | 0 => 0 | 4 => 4 | n => n, fun | n => n⟩
theorem Tryz.laysSlF50_f122 : Go.Proofs.SlLaysF.n50 Tryz.prog Tryz.laysSlF50_f122_ren := {
  mixed := by kernel_rfl
  f50 := ⟨Tryz.f122.name, by decide, Tryz.func122.trans (congrArg some (by kernel_rfl))⟩
  f57 := ⟨Tryz.f125.name, by decide, Tryz.func125.trans (congrArg some (by kernel_rfl))⟩
  t0 := Tryz.underlying0
  a0 := Tryz.isAgg0
  z0 := Tryz.sizeOf0
  v0 := Tryz.zeroValue0
  t3 := Tryz.underlying3
  a3 := Tryz.isAgg3
  z3 := Tryz.sizeOf3
  v3 := Tryz.zeroValue3
  t4 := Tryz.underlying4
  a4 := Tryz.isAgg4
  z4 := Tryz.sizeOf4
  v4 := Tryz.zeroValue4
  t22 := Tryz.underlying22
  a22 := Tryz.isAgg22
  z22 := Tryz.sizeOf22
  v22 := Tryz.zeroValue22
  a24 := Tryz.isAgg3
  z24 := Tryz.sizeOf3
  t25 := Tryz.underlying44
  a25 := Tryz.isAgg44
  z25 := Tryz.sizeOf44
  v25 := Tryz.zeroValue44
  t70 := Tryz.underlying126
  a70 := Tryz.isAgg126
  z70 := Tryz.sizeOf126
  v70 := Tryz.zeroValue126
  t77 := Tryz.underlying134
  a77 := Tryz.isAgg134
  z77 := Tryz.sizeOf134
  v77 := Tryz.zeroValue134 }
open Go.RowKit Go.Lib Go.Sort in
theorem Tryz.medianCmpFunc_f122 {α : Type} [Inhabited α] (enc : α -> Value) (cf : α -> α -> Int) (g : Nat) (cb : Array Value) (blk off cap a b c' c s : Nat) (d0 d : Array α) (w0 W : World) (eg : ∀ args w, (callFunc g args).run Tryz.prog w = .ok (.enter g args) w) (hcmp : CmpLays1 Tryz.prog g cb enc cf blk off d0.size w0) (R : Row1 enc w0 blk off d0) (hs : d0.size = d.size) (C : Cnt1 enc w0 blk off d c s W) (ha : a < d.size) (hb : b < d.size) (hc : c' < d.size) (hsz : d.size < 4611686018427387904) (hss : s + 3 < 4611686018427387904) :
    Calls Tryz.prog 122 #[.slice (some ⟨blk, off, none⟩) d.size cap, .int .i64 a, .int .i64 b, .int .i64 c', .pointer (some ⟨c, 0, none⟩), .func (.func g) #[] cb] W fun e w' =>
      e = .returned (.int .i64 (median (ltOf cf) d a b c' s).1) /\ Cnt1 enc w0 blk off d c (median (ltOf cf) d a b c' s).2 w' := Any.medianCmpFunc Tryz.laysSlF50_f122 enc cf g cb blk off cap a b c' c s d0 d w0 W eg hcmp R hs C ha hb hc hsz hss
def Tryz.laysSlF49_f104_ren : Go.Shelf.Ren := ⟨fun | 49 => 104 | 50 => 105 | 57 => 119 | n => n, fun | 24 => 22 | 22 => 26 | 3 => 3 | 70 => 126 | 25 => 78 | 77 => 134 | 0 => 0 | 4 => 4 | n => n, fun | n => n⟩
theorem Tryz.laysSlF49_f104 : Go.Proofs.SlLaysF.n49 Tryz.prog Tryz.laysSlF49_f104_ren := {
  mixed := by kernel_rfl
  f49 := ⟨Tryz.f104.name, by decide, Tryz.func104.trans (congrArg some (by kernel_rfl))⟩
  f50 := ⟨Tryz.f105.name, by decide, Tryz.func105.trans (congrArg some (by kernel_rfl))⟩
  f57 := ⟨Tryz.f119.name, by decide, Tryz.func119.trans (congrArg some (by kernel_rfl))⟩
  t0 := Tryz.underlying0
  a0 := Tryz.isAgg0
  z0 := Tryz.sizeOf0
  v0 := Tryz.zeroValue0
  t3 := Tryz.underlying3
  a3 := Tryz.isAgg3
  z3 := Tryz.sizeOf3
  v3 := Tryz.zeroValue3
  t4 := Tryz.underlying4
  a4 := Tryz.isAgg4
  z4 := Tryz.sizeOf4
  v4 := Tryz.zeroValue4
  t22 := Tryz.underlying26
  a22 := Tryz.isAgg26
  z22 := Tryz.sizeOf26
  v22 := Tryz.zeroValue26
  a24 := Tryz.isAgg22
  z24 := Tryz.sizeOf22
  t25 := Tryz.underlying78
  a25 := Tryz.isAgg78
  z25 := Tryz.sizeOf78
  v25 := Tryz.zeroValue78
  t70 := Tryz.underlying126
  a70 := Tryz.isAgg126
  z70 := Tryz.sizeOf126
  v70 := Tryz.zeroValue126
  t77 := Tryz.underlying134
  a77 := Tryz.isAgg134
  z77 := Tryz.sizeOf134
  v77 := Tryz.zeroValue134 }
open Go.RowKit Go.Lib Go.Sort in
theorem Tryz.medianAdjacentCmpFunc_f104 {α : Type} [Inhabited α] (enc : α -> Value) (cf : α -> α -> Int) (g : Nat) (cb : Array Value) (blk off cap a c s : Nat) (d0 d : Array α) (w0 W : World) (eg : ∀ args w, (callFunc g args).run Tryz.prog w = .ok (.enter g args) w) (hcmp : CmpLays1 Tryz.prog g cb enc cf blk off d0.size w0) (R : Row1 enc w0 blk off d0) (hs : d0.size = d.size) (C : Cnt1 enc w0 blk off d c s W) (ha1 : 1 <= a) (ha2 : a + 1 < d.size) (hsz : d.size < 4611686018427387904) (hss : s + 3 < 4611686018427387904) :
    Calls Tryz.prog 104 #[.slice (some ⟨blk, off, none⟩) d.size cap, .int .i64 a, .pointer (some ⟨c, 0, none⟩), .func (.func g) #[] cb] W fun e w' =>
      e = .returned (.int .i64 (medianAdjacent (ltOf cf) d a s).1) /\ Cnt1 enc w0 blk off d c (medianAdjacent (ltOf cf) d a s).2 w' := Any.medianAdjacentCmpFunc Tryz.laysSlF49_f104 enc cf g cb blk off cap a c s d0 d w0 W eg hcmp R hs C ha1 ha2 hsz hss
def Tryz.laysSlF49_f121_ren : Go.Shelf.Ren := ⟨fun | 49 => 121 | 50 => 122 | 57 => 125 | n => n, fun | 24 => 3 | 22 => 22 | 3 => 3 | 70 => 126 | 25 => 44 | 77 => 134 | 0 => 0 | 4 => 4 | n => n, fun | n => n⟩
theorem Tryz.laysSlF49_f121 : Go.Proofs.SlLaysF.n49 Tryz.prog Tryz.laysSlF49_f121_ren := {
  mixed := by kernel_rfl
  f49 := ⟨Tryz.f121.name, by decide, Tryz.func121.trans (congrArg some (by kernel_rfl))⟩
  f50 := ⟨Tryz.f122.name, by decide, Tryz.func122.trans (congrArg some (by kernel_rfl))⟩
  f57 := ⟨Tryz.f125.name, by decide, Tryz.func125.trans (congrArg some (by kernel_rfl))⟩
  t0 := Tryz.underlying0
  a0 := Tryz.isAgg0
  z0 := Tryz.sizeOf0
  v0 := Tryz.zeroValue0
  t3 := Tryz.underlying3
  a3 := Tryz.isAgg3
  z3 := Tryz.sizeOf3
  v3 := Tryz.zeroValue3
  t4 := Tryz.underlying4
  a4 := Tryz.isAgg4
  z4 := Tryz.sizeOf4
  v4 := Tryz.zeroValue4
  t22 := Tryz.underlying22
  a22 := Tryz.isAgg22
  z22 := Tryz.sizeOf22
  v22 := Tryz.zeroValue22
  a24 := Tryz.isAgg3
  z24 := Tryz.sizeOf3
  t25 := Tryz.underlying44
  a25 := Tryz.isAgg44
  z25 := Tryz.sizeOf44
  v25 := Tryz.zeroValue44
  t70 := Tryz.underlying126
  a70 := Tryz.isAgg126
  z70 := Tryz.sizeOf126
  v70 := Tryz.zeroValue126
  t77 := Tryz.underlying134
  a77 := Tryz.isAgg134
  z77 := Tryz.sizeOf134
  v77 := Tryz.zeroValue134 }
open Go.RowKit Go.Lib Go.Sort in
theorem Tryz.medianAdjacentCmpFunc_f121 {α : Type} [Inhabited α] (enc : α -> Value) (cf : α -> α -> Int) (g : Nat) (cb : Array Value) (blk off cap a c s : Nat) (d0 d : Array α) (w0 W : World) (eg : ∀ args w, (callFunc g args).run Tryz.prog w = .ok (.enter g args) w) (hcmp : CmpLays1 Tryz.prog g cb enc cf blk off d0.size w0) (R : Row1 enc w0 blk off d0) (hs : d0.size = d.size) (C : Cnt1 enc w0 blk off d c s W) (ha1 : 1 <= a) (ha2 : a + 1 < d.size) (hsz : d.size < 4611686018427387904) (hss : s + 3 < 4611686018427387904) :
    Calls Tryz.prog 121 #[.slice (some ⟨blk, off, none⟩) d.size cap, .int .i64 a, .pointer (some ⟨c, 0, none⟩), .func (.func g) #[] cb] W fun e w' =>
      e = .returned (.int .i64 (medianAdjacent (ltOf cf) d a s).1) /\ Cnt1 enc w0 blk off d c (medianAdjacent (ltOf cf) d a s).2 w' := Any.medianAdjacentCmpFunc Tryz.laysSlF49_f121 enc cf g cb blk off cap a c s d0 d w0 W eg hcmp R hs C ha1 ha2 hsz hss
def Tryz.laysSlF23_f88_ren : Go.Shelf.Ren := ⟨fun | 23 => 88 | 49 => 104 | 50 => 105 | 57 => 119 | n => n, fun | 24 => 22 | 22 => 26 | 3 => 3 | 25 => 78 | 45 => 109 | 0 => 0 | 4 => 4 | 70 => 126 | 77 => 134 | n => n, fun | n => n⟩
theorem Tryz.laysSlF23_f88 : Go.Proofs.SlLaysF.n23 Tryz.prog Tryz.laysSlF23_f88_ren := {
  mixed := by kernel_rfl
  f23 := ⟨Tryz.f88.name, by decide, Tryz.func88.trans (congrArg some (by kernel_rfl))⟩
  f49 := ⟨Tryz.f104.name, by decide, Tryz.func104.trans (congrArg some (by kernel_rfl))⟩
  f50 := ⟨Tryz.f105.name, by decide, Tryz.func105.trans (congrArg some (by kernel_rfl))⟩
  f57 := ⟨Tryz.f119.name, by decide, Tryz.func119.trans (congrArg some (by kernel_rfl))⟩
  t0 := Tryz.underlying0
  a0 := Tryz.isAgg0
  z0 := Tryz.sizeOf0
  v0 := Tryz.zeroValue0
  t3 := Tryz.underlying3
  a3 := Tryz.isAgg3
  z3 := Tryz.sizeOf3
  v3 := Tryz.zeroValue3
  t4 := Tryz.underlying4
  a4 := Tryz.isAgg4
  z4 := Tryz.sizeOf4
  v4 := Tryz.zeroValue4
  t22 := Tryz.underlying26
  a22 := Tryz.isAgg26
  z22 := Tryz.sizeOf26
  v22 := Tryz.zeroValue26
  a24 := Tryz.isAgg22
  z24 := Tryz.sizeOf22
  t25 := Tryz.underlying78
  a25 := Tryz.isAgg78
  z25 := Tryz.sizeOf78
  v25 := Tryz.zeroValue78
  t45 := Tryz.underlying109
  a45 := Tryz.isAgg109
  z45 := Tryz.sizeOf109
  v45 := Tryz.zeroValue109
  t70 := Tryz.underlying126
  a70 := Tryz.isAgg126
  z70 := Tryz.sizeOf126
  v70 := Tryz.zeroValue126
  t77 := Tryz.underlying134
  a77 := Tryz.isAgg134
  z77 := Tryz.sizeOf134
  v77 := Tryz.zeroValue134 }
open Go.RowKit Go.Lib Go.Sort in
theorem Tryz.choosePivotCmpFunc_f88 {α : Type} [Inhabited α] (enc : α -> Value) (cf : α -> α -> Int) (g : Nat) (cb : Array Value) (blk off cap a b : Nat) (d0 d : Array α) (w0 W : World) (eg : ∀ args w, (callFunc g args).run Tryz.prog w = .ok (.enter g args) w) (hcmp : CmpLays1 Tryz.prog g cb enc cf blk off d0.size w0) (R : Row1 enc w0 blk off d0) (hs : d0.size = d.size) (S : SW enc w0 blk off d W) (hab : a < b) (hb : b <= d.size) (hsz : d.size < 4611686018427387904) :
    Calls Tryz.prog 88 #[.slice (some ⟨blk, off, none⟩) d.size cap, .int .i64 a, .int .i64 b, .func (.func g) #[] cb] W fun e w' =>
      e = .returned (.tuple #[.int .i64 (choosePivot (ltOf cf) d a b).1, .int .i64 (hintCode (choosePivot (ltOf cf) d a b).2)]) /\ SW enc w0 blk off d w' := Any.choosePivotCmpFunc Tryz.laysSlF23_f88 enc cf g cb blk off cap a b d0 d w0 W eg hcmp R hs S hab hb hsz
def Tryz.laysSlF23_f108_ren : Go.Shelf.Ren := ⟨fun | 23 => 108 | 49 => 121 | 50 => 122 | 57 => 125 | n => n, fun | 24 => 3 | 22 => 22 | 3 => 3 | 25 => 44 | 45 => 109 | 0 => 0 | 4 => 4 | 70 => 126 | 77 => 134 | n => n, fun | n => n⟩
theorem Tryz.laysSlF23_f108 : Go.Proofs.SlLaysF.n23 Tryz.prog Tryz.laysSlF23_f108_ren := {
  mixed := by kernel_rfl
  f23 := ⟨Tryz.f108.name, by decide, Tryz.func108.trans (congrArg some (by kernel_rfl))⟩
  f49 := ⟨Tryz.f121.name, by decide, Tryz.func121.trans (congrArg some (by kernel_rfl))⟩
  f50 := ⟨Tryz.f122.name, by decide, Tryz.func122.trans (congrArg some (by kernel_rfl))⟩
  f57 := ⟨Tryz.f125.name, by decide, Tryz.func125.trans (congrArg some (by kernel_rfl))⟩
  t0 := Tryz.underlying0
  a0 := Tryz.isAgg0
  z0 := Tryz.sizeOf0
  v0 := Tryz.zeroValue0
  t3 := Tryz.underlying3
  a3 := Tryz.isAgg3
  z3 := Tryz.sizeOf3
  v3 := Tryz.zeroValue3
  t4 := Tryz.underlying4
  a4 := Tryz.isAgg4
  z4 := Tryz.sizeOf4
  v4 := Tryz.zeroValue4
  t22 := Tryz.underlying22
  a22 := Tryz.isAgg22
  z22 := Tryz.sizeOf22
  v22 := Tryz.zeroValue22
  a24 := Tryz.isAgg3
  z24 := Tryz.sizeOf3
  t25 := Tryz.underlying44
  a25 := Tryz.isAgg44
  z25 := Tryz.sizeOf44
  v25 := Tryz.zeroValue44
  t45 := Tryz.underlying109
  a45 := Tryz.isAgg109
  z45 := Tryz.sizeOf109
  v45 := Tryz.zeroValue109
  t70 := Tryz.underlying126
  a70 := Tryz.isAgg126
  z70 := Tryz.sizeOf126
  v70 := Tryz.zeroValue126
  t77 := Tryz.underlying134
  a77 := Tryz.isAgg134
  z77 := Tryz.sizeOf134
  v77 := Tryz.zeroValue134 }
open Go.RowKit Go.Lib Go.Sort in
theorem Tryz.choosePivotCmpFunc_f108 {α : Type} [Inhabited α] (enc : α -> Value) (cf : α -> α -> Int) (g : Nat) (cb : Array Value) (blk off cap a b : Nat) (d0 d : Array α) (w0 W : World) (eg : ∀ args w, (callFunc g args).run Tryz.prog w = .ok (.enter g args) w) (hcmp : CmpLays1 Tryz.prog g cb enc cf blk off d0.size w0) (R : Row1 enc w0 blk off d0) (hs : d0.size = d.size) (S : SW enc w0 blk off d W) (hab : a < b) (hb : b <= d.size) (hsz : d.size < 4611686018427387904) :
    Calls Tryz.prog 108 #[.slice (some ⟨blk, off, none⟩) d.size cap, .int .i64 a, .int .i64 b, .func (.func g) #[] cb] W fun e w' =>
      e = .returned (.tuple #[.int .i64 (choosePivot (ltOf cf) d a b).1, .int .i64 (hintCode (choosePivot (ltOf cf) d a b).2)]) /\ SW enc w0 blk off d w' := Any.choosePivotCmpFunc Tryz.laysSlF23_f108 enc cf g cb blk off cap a b d0 d w0 W eg hcmp R hs S hab hb hsz
def Tryz.laysSlF24_f89_ren : Go.Shelf.Ren := ⟨fun | 24 => 89 | n => n, fun | 24 => 22 | 22 => 26 | 3 => 3 | 25 => 78 | 4 => 4 | 0 => 0 | n => n, fun | n => n⟩
theorem Tryz.laysSlF24_f89 : Go.Proofs.SlLaysF.n24 Tryz.prog Tryz.laysSlF24_f89_ren := {
  mixed := by kernel_rfl
  f24 := ⟨Tryz.f89.name, by decide, Tryz.func89.trans (congrArg some (by kernel_rfl))⟩
  t0 := Tryz.underlying0
  a0 := Tryz.isAgg0
  z0 := Tryz.sizeOf0
  v0 := Tryz.zeroValue0
  t3 := Tryz.underlying3
  a3 := Tryz.isAgg3
  z3 := Tryz.sizeOf3
  v3 := Tryz.zeroValue3
  t4 := Tryz.underlying4
  a4 := Tryz.isAgg4
  z4 := Tryz.sizeOf4
  v4 := Tryz.zeroValue4
  t22 := Tryz.underlying26
  a22 := Tryz.isAgg26
  z22 := Tryz.sizeOf26
  v22 := Tryz.zeroValue26
  a24 := Tryz.isAgg22
  z24 := Tryz.sizeOf22
  t25 := Tryz.underlying78
  a25 := Tryz.isAgg78
  z25 := Tryz.sizeOf78
  v25 := Tryz.zeroValue78 }
open Go.RowKit Go.Lib Go.Sort in
theorem Tryz.reverseRangeCmpFunc_f89 {α : Type} [Inhabited α] (enc : α -> Value) (g : Nat) (cb : Array Value) (blk off cap a b : Nat) (d0 d : Array α) (w0 w : World) (R : Row1 enc w0 blk off d0) (hs : d0.size = d.size) (S : SW enc w0 blk off d w) (hab : a <= b) (hb : b <= d.size) (hsz : d.size < 4611686018427387904) :
    Calls Tryz.prog 89 #[.slice (some ⟨blk, off, none⟩) d.size cap, .int .i64 a, .int .i64 b, .func (.func g) #[] cb] w fun e w' => e = .returned (.tuple #[]) /\ SW enc w0 blk off (reverseRange d a b) w' := Any.reverseRangeCmpFunc Tryz.laysSlF24_f89 enc g cb blk off cap a b d0 d w0 w R hs S hab hb hsz
def Tryz.laysSlF24_f109_ren : Go.Shelf.Ren := ⟨fun | 24 => 109 | n => n, fun | 24 => 3 | 22 => 22 | 3 => 3 | 25 => 44 | 4 => 4 | 0 => 0 | n => n, fun | n => n⟩
theorem Tryz.laysSlF24_f109 : Go.Proofs.SlLaysF.n24 Tryz.prog Tryz.laysSlF24_f109_ren := {
  mixed := by kernel_rfl
  f24 := ⟨Tryz.f109.name, by decide, Tryz.func109.trans (congrArg some (by kernel_rfl))⟩
  t0 := Tryz.underlying0
  a0 := Tryz.isAgg0
  z0 := Tryz.sizeOf0
  v0 := Tryz.zeroValue0
  t3 := Tryz.underlying3
  a3 := Tryz.isAgg3
  z3 := Tryz.sizeOf3
  v3 := Tryz.zeroValue3
  t4 := Tryz.underlying4
  a4 := Tryz.isAgg4
  z4 := Tryz.sizeOf4
  v4 := Tryz.zeroValue4
  t22 := Tryz.underlying22
  a22 := Tryz.isAgg22
  z22 := Tryz.sizeOf22
  v22 := Tryz.zeroValue22
  a24 := Tryz.isAgg3
  z24 := Tryz.sizeOf3
  t25 := Tryz.underlying44
  a25 := Tryz.isAgg44
  z25 := Tryz.sizeOf44
  v25 := Tryz.zeroValue44 }
open Go.RowKit Go.Lib Go.Sort in
theorem Tryz.reverseRangeCmpFunc_f109 {α : Type} [Inhabited α] (enc : α -> Value) (g : Nat) (cb : Array Value) (blk off cap a b : Nat) (d0 d : Array α) (w0 w : World) (R : Row1 enc w0 blk off d0) (hs : d0.size = d.size) (S : SW enc w0 blk off d w) (hab : a <= b) (hb : b <= d.size) (hsz : d.size < 4611686018427387904) :
    Calls Tryz.prog 109 #[.slice (some ⟨blk, off, none⟩) d.size cap, .int .i64 a, .int .i64 b, .func (.func g) #[] cb] w fun e w' => e = .returned (.tuple #[]) /\ SW enc w0 blk off (reverseRange d a b) w' := Any.reverseRangeCmpFunc Tryz.laysSlF24_f109 enc g cb blk off cap a b d0 d w0 w R hs S hab hb hsz
def Tryz.laysSlF25_f90_ren : Go.Shelf.Ren := ⟨fun | 25 => 90 | n => n, fun | 24 => 22 | 22 => 26 | 3 => 3 | 25 => 78 | 4 => 4 | 0 => 0 | n => n, fun | n => n⟩
theorem Tryz.laysSlF25_f90 : Go.Proofs.SlLaysF.n25 Tryz.prog Tryz.laysSlF25_f90_ren := {
  mixed := by kernel_rfl
  f25 := ⟨Tryz.f90.name, by decide, Tryz.func90.trans (congrArg some (by kernel_rfl))⟩
  t0 := Tryz.underlying0
  a0 := Tryz.isAgg0
  z0 := Tryz.sizeOf0
  v0 := Tryz.zeroValue0
  t3 := Tryz.underlying3
  a3 := Tryz.isAgg3
  z3 := Tryz.sizeOf3
  v3 := Tryz.zeroValue3
  t4 := Tryz.underlying4
  a4 := Tryz.isAgg4
  z4 := Tryz.sizeOf4
  v4 := Tryz.zeroValue4
  t22 := Tryz.underlying26
  a22 := Tryz.isAgg26
  z22 := Tryz.sizeOf26
  v22 := Tryz.zeroValue26
  a24 := Tryz.isAgg22
  z24 := Tryz.sizeOf22
  t25 := Tryz.underlying78
  a25 := Tryz.isAgg78
  z25 := Tryz.sizeOf78
  v25 := Tryz.zeroValue78 }
open Go.RowKit Go.Lib Go.Sort in
theorem Tryz.partialInsertionSortCmpFunc_f90 {α : Type} [Inhabited α] (enc : α -> Value) (cf : α -> α -> Int) (g : Nat) (cb : Array Value) (blk off cap a b : Nat) (d0 d : Array α) (w0 w : World) (eg : ∀ args w, (callFunc g args).run Tryz.prog w = .ok (.enter g args) w) (hcmp : CmpLays1 Tryz.prog g cb enc cf blk off d0.size w0) (R : Row1 enc w0 blk off d0) (hs : d0.size = d.size) (S : SW enc w0 blk off d w) (hab : a < b) (hb : b <= d.size) (hsz : d.size < 4611686018427387904) :
    Calls Tryz.prog 90 #[.slice (some ⟨blk, off, none⟩) d.size cap, .int .i64 a, .int .i64 b, .func (.func g) #[] cb] w fun e w' =>
      e = .returned (.bool (Sort.partialInsertionSort (ltOf cf) d a b).2) /\ SW enc w0 blk off (Sort.partialInsertionSort (ltOf cf) d a b).1 w' := Any.partialInsertionSortCmpFunc Tryz.laysSlF25_f90 enc cf g cb blk off cap a b d0 d w0 w eg hcmp R hs S hab hb hsz
def Tryz.laysSlF25_f110_ren : Go.Shelf.Ren := ⟨fun | 25 => 110 | n => n, fun | 24 => 3 | 22 => 22 | 3 => 3 | 25 => 44 | 4 => 4 | 0 => 0 | n => n, fun | n => n⟩
theorem Tryz.laysSlF25_f110 : Go.Proofs.SlLaysF.n25 Tryz.prog Tryz.laysSlF25_f110_ren := {
  mixed := by kernel_rfl
  f25 := ⟨Tryz.f110.name, by decide, Tryz.func110.trans (congrArg some (by kernel_rfl))⟩
  t0 := Tryz.underlying0
  a0 := Tryz.isAgg0
  z0 := Tryz.sizeOf0
  v0 := Tryz.zeroValue0
  t3 := Tryz.underlying3
  a3 := Tryz.isAgg3
  z3 := Tryz.sizeOf3
  v3 := Tryz.zeroValue3
  t4 := Tryz.underlying4
  a4 := Tryz.isAgg4
  z4 := Tryz.sizeOf4
  v4 := Tryz.zeroValue4
  t22 := Tryz.underlying22
  a22 := Tryz.isAgg22
  z22 := Tryz.sizeOf22
  v22 := Tryz.zeroValue22
  a24 := Tryz.isAgg3
  z24 := Tryz.sizeOf3
  t25 := Tryz.underlying44
  a25 := Tryz.isAgg44
  z25 := Tryz.sizeOf44
  v25 := Tryz.zeroValue44 }
open Go.RowKit Go.Lib Go.Sort in
theorem Tryz.partialInsertionSortCmpFunc_f110 {α : Type} [Inhabited α] (enc : α -> Value) (cf : α -> α -> Int) (g : Nat) (cb : Array Value) (blk off cap a b : Nat) (d0 d : Array α) (w0 w : World) (eg : ∀ args w, (callFunc g args).run Tryz.prog w = .ok (.enter g args) w) (hcmp : CmpLays1 Tryz.prog g cb enc cf blk off d0.size w0) (R : Row1 enc w0 blk off d0) (hs : d0.size = d.size) (S : SW enc w0 blk off d w) (hab : a < b) (hb : b <= d.size) (hsz : d.size < 4611686018427387904) :
    Calls Tryz.prog 110 #[.slice (some ⟨blk, off, none⟩) d.size cap, .int .i64 a, .int .i64 b, .func (.func g) #[] cb] w fun e w' =>
      e = .returned (.bool (Sort.partialInsertionSort (ltOf cf) d a b).2) /\ SW enc w0 blk off (Sort.partialInsertionSort (ltOf cf) d a b).1 w' := Any.partialInsertionSortCmpFunc Tryz.laysSlF25_f110 enc cf g cb blk off cap a b d0 d w0 w eg hcmp R hs S hab hb hsz
def Tryz.laysSlF26_f91_ren : Go.Shelf.Ren := ⟨fun | 26 => 91 | n => n, fun | 24 => 22 | 22 => 26 | 3 => 3 | 25 => 78 | 0 => 0 | 4 => 4 | n => n, fun | n => n⟩
theorem Tryz.laysSlF26_f91 : Go.Proofs.SlLaysF.n26 Tryz.prog Tryz.laysSlF26_f91_ren := {
  mixed := by kernel_rfl
  f26 := ⟨Tryz.f91.name, by decide, Tryz.func91.trans (congrArg some (by kernel_rfl))⟩
  t0 := Tryz.underlying0
  a0 := Tryz.isAgg0
  z0 := Tryz.sizeOf0
  v0 := Tryz.zeroValue0
  t3 := Tryz.underlying3
  a3 := Tryz.isAgg3
  z3 := Tryz.sizeOf3
  v3 := Tryz.zeroValue3
  t4 := Tryz.underlying4
  a4 := Tryz.isAgg4
  z4 := Tryz.sizeOf4
  v4 := Tryz.zeroValue4
  t22 := Tryz.underlying26
  a22 := Tryz.isAgg26
  z22 := Tryz.sizeOf26
  v22 := Tryz.zeroValue26
  a24 := Tryz.isAgg22
  z24 := Tryz.sizeOf22
  t25 := Tryz.underlying78
  a25 := Tryz.isAgg78
  z25 := Tryz.sizeOf78
  v25 := Tryz.zeroValue78 }
open Go.RowKit Go.Lib Go.Sort in
theorem Tryz.partitionEqualCmpFunc_f91 {α : Type} [Inhabited α] (enc : α -> Value) (cf : α -> α -> Int) (g : Nat) (cb : Array Value) (blk off cap a b pivot : Nat) (d0 d : Array α) (w0 w : World) (eg : ∀ args w, (callFunc g args).run Tryz.prog w = .ok (.enter g args) w) (hcmp : CmpLays1 Tryz.prog g cb enc cf blk off d0.size w0) (R : Row1 enc w0 blk off d0) (hs : d0.size = d.size) (S : SW enc w0 blk off d w) (hap : a <= pivot) (hpb : pivot < b) (hb : b <= d.size) (hsz : d.size < 4611686018427387904) :
    Calls Tryz.prog 91 #[.slice (some ⟨blk, off, none⟩) d.size cap, .int .i64 a, .int .i64 b, .int .i64 pivot, .func (.func g) #[] cb] w fun e w' =>
      e = .returned (.int .i64 (Sort.partitionEqual (ltOf cf) d a b pivot).1) /\ SW enc w0 blk off (Sort.partitionEqual (ltOf cf) d a b pivot).2 w' := Any.partitionEqualCmpFunc Tryz.laysSlF26_f91 enc cf g cb blk off cap a b pivot d0 d w0 w eg hcmp R hs S hap hpb hb hsz
def Tryz.laysSlF26_f111_ren : Go.Shelf.Ren := ⟨fun | 26 => 111 | n => n, fun | 24 => 3 | 22 => 22 | 3 => 3 | 25 => 44 | 0 => 0 | 4 => 4 | n => n, fun | n => n⟩
theorem Tryz.laysSlF26_f111 : Go.Proofs.SlLaysF.n26 Tryz.prog Tryz.laysSlF26_f111_ren := {
  mixed := by kernel_rfl
  f26 := ⟨Tryz.f111.name, by decide, Tryz.func111.trans (congrArg some (by kernel_rfl))⟩
  t0 := Tryz.underlying0
  a0 := Tryz.isAgg0
  z0 := Tryz.sizeOf0
  v0 := Tryz.zeroValue0
  t3 := Tryz.underlying3
  a3 := Tryz.isAgg3
  z3 := Tryz.sizeOf3
  v3 := Tryz.zeroValue3
  t4 := Tryz.underlying4
  a4 := Tryz.isAgg4
  z4 := Tryz.sizeOf4
  v4 := Tryz.zeroValue4
  t22 := Tryz.underlying22
  a22 := Tryz.isAgg22
  z22 := Tryz.sizeOf22
  v22 := Tryz.zeroValue22
  a24 := Tryz.isAgg3
  z24 := Tryz.sizeOf3
  t25 := Tryz.underlying44
  a25 := Tryz.isAgg44
  z25 := Tryz.sizeOf44
  v25 := Tryz.zeroValue44 }
open Go.RowKit Go.Lib Go.Sort in
theorem Tryz.partitionEqualCmpFunc_f111 {α : Type} [Inhabited α] (enc : α -> Value) (cf : α -> α -> Int) (g : Nat) (cb : Array Value) (blk off cap a b pivot : Nat) (d0 d : Array α) (w0 w : World) (eg : ∀ args w, (callFunc g args).run Tryz.prog w = .ok (.enter g args) w) (hcmp : CmpLays1 Tryz.prog g cb enc cf blk off d0.size w0) (R : Row1 enc w0 blk off d0) (hs : d0.size = d.size) (S : SW enc w0 blk off d w) (hap : a <= pivot) (hpb : pivot < b) (hb : b <= d.size) (hsz : d.size < 4611686018427387904) :
    Calls Tryz.prog 111 #[.slice (some ⟨blk, off, none⟩) d.size cap, .int .i64 a, .int .i64 b, .int .i64 pivot, .func (.func g) #[] cb] w fun e w' =>
      e = .returned (.int .i64 (Sort.partitionEqual (ltOf cf) d a b pivot).1) /\ SW enc w0 blk off (Sort.partitionEqual (ltOf cf) d a b pivot).2 w' := Any.partitionEqualCmpFunc Tryz.laysSlF26_f111 enc cf g cb blk off cap a b pivot d0 d w0 w eg hcmp R hs S hap hpb hb hsz
def Tryz.laysSlF27_f92_ren : Go.Shelf.Ren := ⟨fun | 27 => 92 | n => n, fun | 24 => 22 | 22 => 26 | 3 => 3 | 25 => 78 | 4 => 4 | 0 => 0 | n => n, fun | n => n⟩
theorem Tryz.laysSlF27_f92 : Go.Proofs.SlLaysF.n27 Tryz.prog Tryz.laysSlF27_f92_ren := {
  mixed := by kernel_rfl
  f27 := ⟨Tryz.f92.name, by decide, Tryz.func92.trans (congrArg some (by kernel_rfl))⟩
  t0 := Tryz.underlying0
  a0 := Tryz.isAgg0
  z0 := Tryz.sizeOf0
  v0 := Tryz.zeroValue0
  t3 := Tryz.underlying3
  a3 := Tryz.isAgg3
  z3 := Tryz.sizeOf3
  v3 := Tryz.zeroValue3
  t4 := Tryz.underlying4
  a4 := Tryz.isAgg4
  z4 := Tryz.sizeOf4
  v4 := Tryz.zeroValue4
  t22 := Tryz.underlying26
  a22 := Tryz.isAgg26
  z22 := Tryz.sizeOf26
  v22 := Tryz.zeroValue26
  a24 := Tryz.isAgg22
  z24 := Tryz.sizeOf22
  t25 := Tryz.underlying78
  a25 := Tryz.isAgg78
  z25 := Tryz.sizeOf78
  v25 := Tryz.zeroValue78 }
open Go.RowKit Go.Lib Go.Sort in
theorem Tryz.partitionCmpFunc_f92 {α : Type} [Inhabited α] (enc : α -> Value) (cf : α -> α -> Int) (g : Nat) (cb : Array Value) (blk off cap a b pivot : Nat) (d0 d : Array α) (w0 w : World) (eg : ∀ args w, (callFunc g args).run Tryz.prog w = .ok (.enter g args) w) (hcmp : CmpLays1 Tryz.prog g cb enc cf blk off d0.size w0) (R : Row1 enc w0 blk off d0) (hs : d0.size = d.size) (S : SW enc w0 blk off d w) (hap : a <= pivot) (hpb : pivot < b) (hb : b <= d.size) (hsz : d.size < 4611686018427387904) :
    Calls Tryz.prog 92 #[.slice (some ⟨blk, off, none⟩) d.size cap, .int .i64 a, .int .i64 b, .int .i64 pivot, .func (.func g) #[] cb] w fun e w' =>
      e = .returned (.tuple #[.int .i64 (Sort.partition (ltOf cf) d a b pivot).1, .bool (Sort.partition (ltOf cf) d a b pivot).2.1]) /\ SW enc w0 blk off (Sort.partition (ltOf cf) d a b pivot).2.2 w' := Any.partitionCmpFunc Tryz.laysSlF27_f92 enc cf g cb blk off cap a b pivot d0 d w0 w eg hcmp R hs S hap hpb hb hsz
def Tryz.laysSlF27_f112_ren : Go.Shelf.Ren := ⟨fun | 27 => 112 | n => n, fun | 24 => 3 | 22 => 22 | 3 => 3 | 25 => 44 | 4 => 4 | 0 => 0 | n => n, fun | n => n⟩
theorem Tryz.laysSlF27_f112 : Go.Proofs.SlLaysF.n27 Tryz.prog Tryz.laysSlF27_f112_ren := {
  mixed := by kernel_rfl
  f27 := ⟨Tryz.f112.name, by decide, Tryz.func112.trans (congrArg some (by kernel_rfl))⟩
  t0 := Tryz.underlying0
  a0 := Tryz.isAgg0
  z0 := Tryz.sizeOf0
  v0 := Tryz.zeroValue0
  t3 := Tryz.underlying3
  a3 := Tryz.isAgg3
  z3 := Tryz.sizeOf3
  v3 := Tryz.zeroValue3
  t4 := Tryz.underlying4
  a4 := Tryz.isAgg4
  z4 := Tryz.sizeOf4
  v4 := Tryz.zeroValue4
  t22 := Tryz.underlying22
  a22 := Tryz.isAgg22
  z22 := Tryz.sizeOf22
  v22 := Tryz.zeroValue22
  a24 := Tryz.isAgg3
  z24 := Tryz.sizeOf3
  t25 := Tryz.underlying44
  a25 := Tryz.isAgg44
  z25 := Tryz.sizeOf44
  v25 := Tryz.zeroValue44 }
open Go.RowKit Go.Lib Go.Sort in
theorem Tryz.partitionCmpFunc_f112 {α : Type} [Inhabited α] (enc : α -> Value) (cf : α -> α -> Int) (g : Nat) (cb : Array Value) (blk off cap a b pivot : Nat) (d0 d : Array α) (w0 w : World) (eg : ∀ args w, (callFunc g args).run Tryz.prog w = .ok (.enter g args) w) (hcmp : CmpLays1 Tryz.prog g cb enc cf blk off d0.size w0) (R : Row1 enc w0 blk off d0) (hs : d0.size = d.size) (S : SW enc w0 blk off d w) (hap : a <= pivot) (hpb : pivot < b) (hb : b <= d.size) (hsz : d.size < 4611686018427387904) :
    Calls Tryz.prog 112 #[.slice (some ⟨blk, off, none⟩) d.size cap, .int .i64 a, .int .i64 b, .int .i64 pivot, .func (.func g) #[] cb] w fun e w' =>
      e = .returned (.tuple #[.int .i64 (Sort.partition (ltOf cf) d a b pivot).1, .bool (Sort.partition (ltOf cf) d a b pivot).2.1]) /\ SW enc w0 blk off (Sort.partition (ltOf cf) d a b pivot).2.2 w' := Any.partitionCmpFunc Tryz.laysSlF27_f112 enc cf g cb blk off cap a b pivot d0 d w0 w eg hcmp R hs S hap hpb hb hsz
def Tryz.laysSlF14_f68_ren : Go.Shelf.Ren := ⟨fun | 14 => 68 | 20 => 85 | 21 => 86 | 22 => 87 | 23 => 88 | 24 => 89 | 25 => 90 | 26 => 91 | 27 => 92 | 46 => 101 | 47 => 102 | 48 => 103 | 49 => 104 | 50 => 105 | 15 => 69 | 57 => 119 | 28 => 93 | 29 => 94 | n => n, fun | 24 => 22 | 22 => 26 | 3 => 3 | 25 => 78 | 4 => 4 | 0 => 0 | 46 => 110 | 45 => 109 | 50 => 114 | 66 => 122 | 39 => 98 | 55 => 119 | 70 => 126 | 76 => 133 | 77 => 134 | 53 => 117 | 5 => 5 | 9 => 9 | n => n, fun | n => n⟩
theorem Tryz.laysSlF14_f68 : Go.Proofs.SlLaysF.n14 Tryz.prog Tryz.laysSlF14_f68_ren := {
  mixed := by kernel_rfl
  f14 := ⟨Tryz.f68.name, by decide, Tryz.func68.trans (congrArg some (by kernel_rfl))⟩
  f15 := Tryz.func69.trans (congrArg some (by kernel_rfl))
  f20 := ⟨Tryz.f85.name, by decide, Tryz.func85.trans (congrArg some (by kernel_rfl))⟩
  f21 := ⟨Tryz.f86.name, by decide, Tryz.func86.trans (congrArg some (by kernel_rfl))⟩
  f22 := ⟨Tryz.f87.name, by decide, Tryz.func87.trans (congrArg some (by kernel_rfl))⟩
  f23 := ⟨Tryz.f88.name, by decide, Tryz.func88.trans (congrArg some (by kernel_rfl))⟩
  f24 := ⟨Tryz.f89.name, by decide, Tryz.func89.trans (congrArg some (by kernel_rfl))⟩
  f25 := ⟨Tryz.f90.name, by decide, Tryz.func90.trans (congrArg some (by kernel_rfl))⟩
  f26 := ⟨Tryz.f91.name, by decide, Tryz.func91.trans (congrArg some (by kernel_rfl))⟩
  f27 := ⟨Tryz.f92.name, by decide, Tryz.func92.trans (congrArg some (by kernel_rfl))⟩
  f28 := Tryz.func93.trans (congrArg some (by kernel_rfl))
  f29 := Tryz.func94.trans (congrArg some (by kernel_rfl))
  f46 := ⟨Tryz.f101.name, by decide, Tryz.func101.trans (congrArg some (by kernel_rfl))⟩
  f47 := Tryz.func102.trans (congrArg some (by kernel_rfl))
  f48 := Tryz.func103.trans (congrArg some (by kernel_rfl))
  f49 := ⟨Tryz.f104.name, by decide, Tryz.func104.trans (congrArg some (by kernel_rfl))⟩
  f50 := ⟨Tryz.f105.name, by decide, Tryz.func105.trans (congrArg some (by kernel_rfl))⟩
  f57 := ⟨Tryz.f119.name, by decide, Tryz.func119.trans (congrArg some (by kernel_rfl))⟩
  t0 := Tryz.underlying0
  a0 := Tryz.isAgg0
  z0 := Tryz.sizeOf0
  v0 := Tryz.zeroValue0
  t3 := Tryz.underlying3
  a3 := Tryz.isAgg3
  z3 := Tryz.sizeOf3
  v3 := Tryz.zeroValue3
  t4 := Tryz.underlying4
  a4 := Tryz.isAgg4
  z4 := Tryz.sizeOf4
  v4 := Tryz.zeroValue4
  t5 := Tryz.underlying5
  a5 := Tryz.isAgg5
  z5 := Tryz.sizeOf5
  v5 := Tryz.zeroValue5
  t9 := Tryz.underlying9
  a9 := Tryz.isAgg9
  z9 := Tryz.sizeOf9
  v9 := Tryz.zeroValue9
  t22 := Tryz.underlying26
  a22 := Tryz.isAgg26
  z22 := Tryz.sizeOf26
  v22 := Tryz.zeroValue26
  a24 := Tryz.isAgg22
  z24 := Tryz.sizeOf22
  t25 := Tryz.underlying78
  a25 := Tryz.isAgg78
  z25 := Tryz.sizeOf78
  v25 := Tryz.zeroValue78
  t39 := Tryz.underlying98
  a39 := Tryz.isAgg98
  z39 := Tryz.sizeOf98
  v39 := Tryz.zeroValue98
  t45 := Tryz.underlying109
  a45 := Tryz.isAgg109
  z45 := Tryz.sizeOf109
  v45 := Tryz.zeroValue109
  t46 := Tryz.underlying110
  a46 := Tryz.isAgg110
  z46 := Tryz.sizeOf110
  v46 := Tryz.zeroValue110
  t50 := Tryz.underlying114
  a50 := Tryz.isAgg114
  z50 := Tryz.sizeOf114
  v50 := Tryz.zeroValue114
  t53 := Tryz.underlying117
  a53 := Tryz.isAgg117
  z53 := Tryz.sizeOf117
  v53 := Tryz.zeroValue117
  t55 := Tryz.underlying119
  a55 := Tryz.isAgg119
  z55 := Tryz.sizeOf119
  v55 := Tryz.zeroValue119
  t66 := Tryz.underlying122
  a66 := Tryz.isAgg122
  z66 := Tryz.sizeOf122
  v66 := Tryz.zeroValue122
  t70 := Tryz.underlying126
  a70 := Tryz.isAgg126
  z70 := Tryz.sizeOf126
  v70 := Tryz.zeroValue126
  t76 := Tryz.underlying133
  a76 := Tryz.isAgg133
  z76 := Tryz.sizeOf133
  v76 := Tryz.zeroValue133
  t77 := Tryz.underlying134
  a77 := Tryz.isAgg134
  z77 := Tryz.sizeOf134
  v77 := Tryz.zeroValue134 }
open Go.RowKit Go.Lib Go.Sort in
theorem Tryz.pdqsortCmpFunc_all_f68 {α : Type} [Inhabited α] (enc : α -> Value) (cf : α -> α -> Int) (g : Nat) (cb : Array Value) (hO : SWO (ltOf cf)) (blk off cap : Nat) (d0 : Array α) (w0 : World) (eg : ∀ args w, (callFunc g args).run Tryz.prog w = .ok (.enter g args) w) (hcmp : CmpLays1 Tryz.prog g cb enc cf blk off d0.size w0) (R : Row1 enc w0 blk off d0) :
    ∀ (N a b limit : Nat) (d : Array α) (w : World), b - a < N -> d0.size = d.size -> SW enc w0 blk off d w -> a <= b -> b <= d.size -> d.size < 4611686018427387904 -> limit < 4611686018427387904 -> Below (ltOf cf) a b d ->
    Calls Tryz.prog 68 #[.slice (some ⟨blk, off, none⟩) d.size cap, .int .i64 a, .int .i64 b, .int .i64 limit, .func (.func g) #[] cb] w fun e w' => e = .returned (.tuple #[]) /\ SW enc w0 blk off (pdq (ltOf cf) d a b limit true true) w' := Any.pdqsortCmpFunc_all Tryz.laysSlF14_f68 enc cf g cb hO blk off cap d0 w0 eg hcmp R
def Tryz.laysSlF14_f96_ren : Go.Shelf.Ren := ⟨fun | 14 => 96 | 20 => 98 | 21 => 106 | 22 => 107 | 23 => 108 | 24 => 109 | 25 => 110 | 26 => 111 | 27 => 112 | 46 => 120 | 47 => 102 | 48 => 103 | 49 => 121 | 50 => 122 | 15 => 69 | 57 => 125 | 28 => 93 | 29 => 94 | n => n, fun | 24 => 3 | 22 => 22 | 3 => 3 | 25 => 44 | 4 => 4 | 0 => 0 | 46 => 110 | 45 => 109 | 50 => 114 | 66 => 122 | 39 => 98 | 55 => 119 | 70 => 126 | 76 => 133 | 77 => 134 | 53 => 117 | 5 => 5 | 9 => 9 | n => n, fun | n => n⟩
theorem Tryz.laysSlF14_f96 : Go.Proofs.SlLaysF.n14 Tryz.prog Tryz.laysSlF14_f96_ren := {
  mixed := by kernel_rfl
  f14 := ⟨Tryz.f96.name, by decide, Tryz.func96.trans (congrArg some (by kernel_rfl))⟩
  f15 := Tryz.func69.trans (congrArg some (by kernel_rfl))
  f20 := ⟨Tryz.f98.name, by decide, Tryz.func98.trans (congrArg some (by kernel_rfl))⟩
  f21 := ⟨Tryz.f106.name, by decide, Tryz.func106.trans (congrArg some (by kernel_rfl))⟩
  f22 := ⟨Tryz.f107.name, by decide, Tryz.func107.trans (congrArg some (by kernel_rfl))⟩
  f23 := ⟨Tryz.f108.name, by decide, Tryz.func108.trans (congrArg some (by kernel_rfl))⟩
  f24 := ⟨Tryz.f109.name, by decide, Tryz.func109.trans (congrArg some (by kernel_rfl))⟩
  f25 := ⟨Tryz.f110.name, by decide, Tryz.func110.trans (congrArg some (by kernel_rfl))⟩
  f26 := ⟨Tryz.f111.name, by decide, Tryz.func111.trans (congrArg some (by kernel_rfl))⟩
  f27 := ⟨Tryz.f112.name, by decide, Tryz.func112.trans (congrArg some (by kernel_rfl))⟩
  f28 := Tryz.func93.trans (congrArg some (by kernel_rfl))
  f29 := Tryz.func94.trans (congrArg some (by kernel_rfl))
  f46 := ⟨Tryz.f120.name, by decide, Tryz.func120.trans (congrArg some (by kernel_rfl))⟩
  f47 := Tryz.func102.trans (congrArg some (by kernel_rfl))
  f48 := Tryz.func103.trans (congrArg some (by kernel_rfl))
  f49 := ⟨Tryz.f121.name, by decide, Tryz.func121.trans (congrArg some (by kernel_rfl))⟩
  f50 := ⟨Tryz.f122.name, by decide, Tryz.func122.trans (congrArg some (by kernel_rfl))⟩
  f57 := ⟨Tryz.f125.name, by decide, Tryz.func125.trans (congrArg some (by kernel_rfl))⟩
  t0 := Tryz.underlying0
  a0 := Tryz.isAgg0
  z0 := Tryz.sizeOf0
  v0 := Tryz.zeroValue0
  t3 := Tryz.underlying3
  a3 := Tryz.isAgg3
  z3 := Tryz.sizeOf3
  v3 := Tryz.zeroValue3
  t4 := Tryz.underlying4
  a4 := Tryz.isAgg4
  z4 := Tryz.sizeOf4
  v4 := Tryz.zeroValue4
  t5 := Tryz.underlying5
  a5 := Tryz.isAgg5
  z5 := Tryz.sizeOf5
  v5 := Tryz.zeroValue5
  t9 := Tryz.underlying9
  a9 := Tryz.isAgg9
  z9 := Tryz.sizeOf9
  v9 := Tryz.zeroValue9
  t22 := Tryz.underlying22
  a22 := Tryz.isAgg22
  z22 := Tryz.sizeOf22
  v22 := Tryz.zeroValue22
  a24 := Tryz.isAgg3
  z24 := Tryz.sizeOf3
  t25 := Tryz.underlying44
  a25 := Tryz.isAgg44
  z25 := Tryz.sizeOf44
  v25 := Tryz.zeroValue44
  t39 := Tryz.underlying98
  a39 := Tryz.isAgg98
  z39 := Tryz.sizeOf98
  v39 := Tryz.zeroValue98
  t45 := Tryz.underlying109
  a45 := Tryz.isAgg109
  z45 := Tryz.sizeOf109
  v45 := Tryz.zeroValue109
  t46 := Tryz.underlying110
  a46 := Tryz.isAgg110
  z46 := Tryz.sizeOf110
  v46 := Tryz.zeroValue110
  t50 := Tryz.underlying114
  a50 := Tryz.isAgg114
  z50 := Tryz.sizeOf114
  v50 := Tryz.zeroValue114
  t53 := Tryz.underlying117
  a53 := Tryz.isAgg117
  z53 := Tryz.sizeOf117
  v53 := Tryz.zeroValue117
  t55 := Tryz.underlying119
  a55 := Tryz.isAgg119
  z55 := Tryz.sizeOf119
  v55 := Tryz.zeroValue119
  t66 := Tryz.underlying122
  a66 := Tryz.isAgg122
  z66 := Tryz.sizeOf122
  v66 := Tryz.zeroValue122
  t70 := Tryz.underlying126
  a70 := Tryz.isAgg126
  z70 := Tryz.sizeOf126
  v70 := Tryz.zeroValue126
  t76 := Tryz.underlying133
  a76 := Tryz.isAgg133
  z76 := Tryz.sizeOf133
  v76 := Tryz.zeroValue133
  t77 := Tryz.underlying134
  a77 := Tryz.isAgg134
  z77 := Tryz.sizeOf134
  v77 := Tryz.zeroValue134 }
open Go.RowKit Go.Lib Go.Sort in
theorem Tryz.pdqsortCmpFunc_all_f96 {α : Type} [Inhabited α] (enc : α -> Value) (cf : α -> α -> Int) (g : Nat) (cb : Array Value) (hO : SWO (ltOf cf)) (blk off cap : Nat) (d0 : Array α) (w0 : World) (eg : ∀ args w, (callFunc g args).run Tryz.prog w = .ok (.enter g args) w) (hcmp : CmpLays1 Tryz.prog g cb enc cf blk off d0.size w0) (R : Row1 enc w0 blk off d0) :
    ∀ (N a b limit : Nat) (d : Array α) (w : World), b - a < N -> d0.size = d.size -> SW enc w0 blk off d w -> a <= b -> b <= d.size -> d.size < 4611686018427387904 -> limit < 4611686018427387904 -> Below (ltOf cf) a b d ->
    Calls Tryz.prog 96 #[.slice (some ⟨blk, off, none⟩) d.size cap, .int .i64 a, .int .i64 b, .int .i64 limit, .func (.func g) #[] cb] w fun e w' => e = .returned (.tuple #[]) /\ SW enc w0 blk off (pdq (ltOf cf) d a b limit true true) w' := Any.pdqsortCmpFunc_all Tryz.laysSlF14_f96 enc cf g cb hO blk off cap d0 w0 eg hcmp R
def Tryz.laysSlF6_f41_ren : Go.Shelf.Ren := ⟨fun | 6 => 41 | 15 => 69 | 14 => 68 | 28 => 93 | 29 => 94 | 20 => 85 | 21 => 86 | 22 => 87 | 23 => 88 | 24 => 89 | 25 => 90 | 26 => 91 | 27 => 92 | 46 => 101 | 47 => 102 | 48 => 103 | 49 => 104 | 50 => 105 | 57 => 119 | n => n, fun | 22 => 26 | 24 => 22 | 25 => 78 | 3 => 3 | 39 => 98 | 0 => 0 | 53 => 117 | 55 => 119 | 4 => 4 | 46 => 110 | 45 => 109 | 50 => 114 | 5 => 5 | 9 => 9 | 66 => 122 | 70 => 126 | 76 => 133 | 77 => 134 | n => n, fun | n => n⟩
theorem Tryz.laysSlF6_f41 : Go.Proofs.SlLaysF.n6 Tryz.prog Tryz.laysSlF6_f41_ren := {
  mixed := by kernel_rfl
  f6 := ⟨Tryz.f41.name, by decide, Tryz.func41.trans (congrArg some (by kernel_rfl))⟩
  f14 := ⟨Tryz.f68.name, by decide, Tryz.func68.trans (congrArg some (by kernel_rfl))⟩
  f15 := Tryz.func69.trans (congrArg some (by kernel_rfl))
  f20 := ⟨Tryz.f85.name, by decide, Tryz.func85.trans (congrArg some (by kernel_rfl))⟩
  f21 := ⟨Tryz.f86.name, by decide, Tryz.func86.trans (congrArg some (by kernel_rfl))⟩
  f22 := ⟨Tryz.f87.name, by decide, Tryz.func87.trans (congrArg some (by kernel_rfl))⟩
  f23 := ⟨Tryz.f88.name, by decide, Tryz.func88.trans (congrArg some (by kernel_rfl))⟩
  f24 := ⟨Tryz.f89.name, by decide, Tryz.func89.trans (congrArg some (by kernel_rfl))⟩
  f25 := ⟨Tryz.f90.name, by decide, Tryz.func90.trans (congrArg some (by kernel_rfl))⟩
  f26 := ⟨Tryz.f91.name, by decide, Tryz.func91.trans (congrArg some (by kernel_rfl))⟩
  f27 := ⟨Tryz.f92.name, by decide, Tryz.func92.trans (congrArg some (by kernel_rfl))⟩
  f28 := Tryz.func93.trans (congrArg some (by kernel_rfl))
  f29 := Tryz.func94.trans (congrArg some (by kernel_rfl))
  f46 := ⟨Tryz.f101.name, by decide, Tryz.func101.trans (congrArg some (by kernel_rfl))⟩
  f47 := Tryz.func102.trans (congrArg some (by kernel_rfl))
  f48 := Tryz.func103.trans (congrArg some (by kernel_rfl))
  f49 := ⟨Tryz.f104.name, by decide, Tryz.func104.trans (congrArg some (by kernel_rfl))⟩
  f50 := ⟨Tryz.f105.name, by decide, Tryz.func105.trans (congrArg some (by kernel_rfl))⟩
  f57 := ⟨Tryz.f119.name, by decide, Tryz.func119.trans (congrArg some (by kernel_rfl))⟩
  t0 := Tryz.underlying0
  a0 := Tryz.isAgg0
  z0 := Tryz.sizeOf0
  v0 := Tryz.zeroValue0
  t3 := Tryz.underlying3
  a3 := Tryz.isAgg3
  z3 := Tryz.sizeOf3
  v3 := Tryz.zeroValue3
  t4 := Tryz.underlying4
  a4 := Tryz.isAgg4
  z4 := Tryz.sizeOf4
  v4 := Tryz.zeroValue4
  t5 := Tryz.underlying5
  a5 := Tryz.isAgg5
  z5 := Tryz.sizeOf5
  v5 := Tryz.zeroValue5
  t9 := Tryz.underlying9
  a9 := Tryz.isAgg9
  z9 := Tryz.sizeOf9
  v9 := Tryz.zeroValue9
  t22 := Tryz.underlying26
  a22 := Tryz.isAgg26
  z22 := Tryz.sizeOf26
  v22 := Tryz.zeroValue26
  a24 := Tryz.isAgg22
  z24 := Tryz.sizeOf22
  t25 := Tryz.underlying78
  a25 := Tryz.isAgg78
  z25 := Tryz.sizeOf78
  v25 := Tryz.zeroValue78
  t39 := Tryz.underlying98
  a39 := Tryz.isAgg98
  z39 := Tryz.sizeOf98
  v39 := Tryz.zeroValue98
  t45 := Tryz.underlying109
  a45 := Tryz.isAgg109
  z45 := Tryz.sizeOf109
  v45 := Tryz.zeroValue109
  t46 := Tryz.underlying110
  a46 := Tryz.isAgg110
  z46 := Tryz.sizeOf110
  v46 := Tryz.zeroValue110
  t50 := Tryz.underlying114
  a50 := Tryz.isAgg114
  z50 := Tryz.sizeOf114
  v50 := Tryz.zeroValue114
  t53 := Tryz.underlying117
  a53 := Tryz.isAgg117
  z53 := Tryz.sizeOf117
  v53 := Tryz.zeroValue117
  t55 := Tryz.underlying119
  a55 := Tryz.isAgg119
  z55 := Tryz.sizeOf119
  v55 := Tryz.zeroValue119
  t66 := Tryz.underlying122
  a66 := Tryz.isAgg122
  z66 := Tryz.sizeOf122
  v66 := Tryz.zeroValue122
  t70 := Tryz.underlying126
  a70 := Tryz.isAgg126
  z70 := Tryz.sizeOf126
  v70 := Tryz.zeroValue126
  t76 := Tryz.underlying133
  a76 := Tryz.isAgg133
  z76 := Tryz.sizeOf133
  v76 := Tryz.zeroValue133
  t77 := Tryz.underlying134
  a77 := Tryz.isAgg134
  z77 := Tryz.sizeOf134
  v77 := Tryz.zeroValue134 }
open Go.RowKit Go.Lib Go.Sort in
theorem Tryz.slices_SortFunc_eq_f41 {α : Type} [Inhabited α] (enc : α -> Value) (h1 : OneCell enc) (cf : α -> α -> Int) (hO : SWO (ltOf cf)) (g : Nat) (cb : Array Value) (blk off cap : Nat) (d : Array α) (w : World) (eg : ∀ args w, (callFunc g args).run Tryz.prog w = .ok (.enter g args) w) (hcmp : CmpLays1 Tryz.prog g cb enc cf blk off d.size w) (hH : Holds enc w blk off d) (hblk : blk < w.heap.size) (hsz : d.size < 4611686018427387904) :
    Calls Tryz.prog 41 #[.slice (some ⟨blk, off, none⟩) d.size cap, .func (.func g) #[] cb] w fun e w' =>
      e = .returned (.tuple #[]) /\ ∃ n os, w' = sortWorld enc w blk off n (pdq (ltOf cf) d 0 d.size (Lib.bitLen d.size) true true) os := Any.slices_SortFunc_eq Tryz.laysSlF6_f41 enc h1 cf hO g cb blk off cap d w eg hcmp hH hblk hsz
def Tryz.laysSlF6_f75_ren : Go.Shelf.Ren := ⟨fun | 6 => 75 | 15 => 69 | 14 => 96 | 28 => 93 | 29 => 94 | 20 => 98 | 21 => 106 | 22 => 107 | 23 => 108 | 24 => 109 | 25 => 110 | 26 => 111 | 27 => 112 | 46 => 120 | 47 => 102 | 48 => 103 | 49 => 121 | 50 => 122 | 57 => 125 | n => n, fun | 22 => 22 | 24 => 3 | 25 => 44 | 3 => 3 | 39 => 98 | 0 => 0 | 53 => 117 | 55 => 119 | 4 => 4 | 46 => 110 | 45 => 109 | 50 => 114 | 5 => 5 | 9 => 9 | 66 => 122 | 70 => 126 | 76 => 133 | 77 => 134 | n => n, fun | n => n⟩
theorem Tryz.laysSlF6_f75 : Go.Proofs.SlLaysF.n6 Tryz.prog Tryz.laysSlF6_f75_ren := {
  mixed := by kernel_rfl
  f6 := ⟨Tryz.f75.name, by decide, Tryz.func75.trans (congrArg some (by kernel_rfl))⟩
  f14 := ⟨Tryz.f96.name, by decide, Tryz.func96.trans (congrArg some (by kernel_rfl))⟩
  f15 := Tryz.func69.trans (congrArg some (by kernel_rfl))
  f20 := ⟨Tryz.f98.name, by decide, Tryz.func98.trans (congrArg some (by kernel_rfl))⟩
  f21 := ⟨Tryz.f106.name, by decide, Tryz.func106.trans (congrArg some (by kernel_rfl))⟩
  f22 := ⟨Tryz.f107.name, by decide, Tryz.func107.trans (congrArg some (by kernel_rfl))⟩
  f23 := ⟨Tryz.f108.name, by decide, Tryz.func108.trans (congrArg some (by kernel_rfl))⟩
  f24 := ⟨Tryz.f109.name, by decide, Tryz.func109.trans (congrArg some (by kernel_rfl))⟩
  f25 := ⟨Tryz.f110.name, by decide, Tryz.func110.trans (congrArg some (by kernel_rfl))⟩
  f26 := ⟨Tryz.f111.name, by decide, Tryz.func111.trans (congrArg some (by kernel_rfl))⟩
  f27 := ⟨Tryz.f112.name, by decide, Tryz.func112.trans (congrArg some (by kernel_rfl))⟩
  f28 := Tryz.func93.trans (congrArg some (by kernel_rfl))
  f29 := Tryz.func94.trans (congrArg some (by kernel_rfl))
  f46 := ⟨Tryz.f120.name, by decide, Tryz.func120.trans (congrArg some (by kernel_rfl))⟩
  f47 := Tryz.func102.trans (congrArg some (by kernel_rfl))
  f48 := Tryz.func103.trans (congrArg some (by kernel_rfl))
  f49 := ⟨Tryz.f121.name, by decide, Tryz.func121.trans (congrArg some (by kernel_rfl))⟩
  f50 := ⟨Tryz.f122.name, by decide, Tryz.func122.trans (congrArg some (by kernel_rfl))⟩
  f57 := ⟨Tryz.f125.name, by decide, Tryz.func125.trans (congrArg some (by kernel_rfl))⟩
  t0 := Tryz.underlying0
  a0 := Tryz.isAgg0
  z0 := Tryz.sizeOf0
  v0 := Tryz.zeroValue0
  t3 := Tryz.underlying3
  a3 := Tryz.isAgg3
  z3 := Tryz.sizeOf3
  v3 := Tryz.zeroValue3
  t4 := Tryz.underlying4
  a4 := Tryz.isAgg4
  z4 := Tryz.sizeOf4
  v4 := Tryz.zeroValue4
  t5 := Tryz.underlying5
  a5 := Tryz.isAgg5
  z5 := Tryz.sizeOf5
  v5 := Tryz.zeroValue5
  t9 := Tryz.underlying9
  a9 := Tryz.isAgg9
  z9 := Tryz.sizeOf9
  v9 := Tryz.zeroValue9
  t22 := Tryz.underlying22
  a22 := Tryz.isAgg22
  z22 := Tryz.sizeOf22
  v22 := Tryz.zeroValue22
  a24 := Tryz.isAgg3
  z24 := Tryz.sizeOf3
  t25 := Tryz.underlying44
  a25 := Tryz.isAgg44
  z25 := Tryz.sizeOf44
  v25 := Tryz.zeroValue44
  t39 := Tryz.underlying98
  a39 := Tryz.isAgg98
  z39 := Tryz.sizeOf98
  v39 := Tryz.zeroValue98
  t45 := Tryz.underlying109
  a45 := Tryz.isAgg109
  z45 := Tryz.sizeOf109
  v45 := Tryz.zeroValue109
  t46 := Tryz.underlying110
  a46 := Tryz.isAgg110
  z46 := Tryz.sizeOf110
  v46 := Tryz.zeroValue110
  t50 := Tryz.underlying114
  a50 := Tryz.isAgg114
  z50 := Tryz.sizeOf114
  v50 := Tryz.zeroValue114
  t53 := Tryz.underlying117
  a53 := Tryz.isAgg117
  z53 := Tryz.sizeOf117
  v53 := Tryz.zeroValue117
  t55 := Tryz.underlying119
  a55 := Tryz.isAgg119
  z55 := Tryz.sizeOf119
  v55 := Tryz.zeroValue119
  t66 := Tryz.underlying122
  a66 := Tryz.isAgg122
  z66 := Tryz.sizeOf122
  v66 := Tryz.zeroValue122
  t70 := Tryz.underlying126
  a70 := Tryz.isAgg126
  z70 := Tryz.sizeOf126
  v70 := Tryz.zeroValue126
  t76 := Tryz.underlying133
  a76 := Tryz.isAgg133
  z76 := Tryz.sizeOf133
  v76 := Tryz.zeroValue133
  t77 := Tryz.underlying134
  a77 := Tryz.isAgg134
  z77 := Tryz.sizeOf134
  v77 := Tryz.zeroValue134 }
open Go.RowKit Go.Lib Go.Sort in
theorem Tryz.slices_SortFunc_eq_f75 {α : Type} [Inhabited α] (enc : α -> Value) (h1 : OneCell enc) (cf : α -> α -> Int) (hO : SWO (ltOf cf)) (g : Nat) (cb : Array Value) (blk off cap : Nat) (d : Array α) (w : World) (eg : ∀ args w, (callFunc g args).run Tryz.prog w = .ok (.enter g args) w) (hcmp : CmpLays1 Tryz.prog g cb enc cf blk off d.size w) (hH : Holds enc w blk off d) (hblk : blk < w.heap.size) (hsz : d.size < 4611686018427387904) :
    Calls Tryz.prog 75 #[.slice (some ⟨blk, off, none⟩) d.size cap, .func (.func g) #[] cb] w fun e w' =>
      e = .returned (.tuple #[]) /\ ∃ n os, w' = sortWorld enc w blk off n (pdq (ltOf cf) d 0 d.size (Lib.bitLen d.size) true true) os := Any.slices_SortFunc_eq Tryz.laysSlF6_f75 enc h1 cf hO g cb blk off cap d w eg hcmp hH hblk hsz
open Go.RowKit Go.Lib Go.Sort in
theorem Tryz.slices_SortFunc_f41 {α : Type} [Inhabited α] (enc : α -> Value) (h1 : OneCell enc) (cf : α -> α -> Int) (hO : SWO (ltOf cf)) (g : Nat) (cb : Array Value) (blk off cap : Nat) (d : Array α) (w : World) (eg : ∀ args w, (callFunc g args).run Tryz.prog w = .ok (.enter g args) w) (hcmp : CmpLays1 Tryz.prog g cb enc cf blk off d.size w) (hH : Holds enc w blk off d) (hblk : blk < w.heap.size) (hsz : d.size < 4611686018427387904) :
    Calls Tryz.prog 41 #[.slice (some ⟨blk, off, none⟩) d.size cap, .func (.func g) #[] cb] w fun e w' =>
      e = .returned (.tuple #[]) /\ ∃ d' n os, PermIn 0 d.size d d' /\ SortedIn (ltOf cf) 0 d.size d' /\ w' = sortWorld enc w blk off n d' os := Any.slices_SortFunc Tryz.laysSlF6_f41 enc h1 cf hO g cb blk off cap d w eg hcmp hH hblk hsz
open Go.RowKit Go.Lib Go.Sort in
theorem Tryz.slices_SortFunc_f75 {α : Type} [Inhabited α] (enc : α -> Value) (h1 : OneCell enc) (cf : α -> α -> Int) (hO : SWO (ltOf cf)) (g : Nat) (cb : Array Value) (blk off cap : Nat) (d : Array α) (w : World) (eg : ∀ args w, (callFunc g args).run Tryz.prog w = .ok (.enter g args) w) (hcmp : CmpLays1 Tryz.prog g cb enc cf blk off d.size w) (hH : Holds enc w blk off d) (hblk : blk < w.heap.size) (hsz : d.size < 4611686018427387904) :
    Calls Tryz.prog 75 #[.slice (some ⟨blk, off, none⟩) d.size cap, .func (.func g) #[] cb] w fun e w' =>
      e = .returned (.tuple #[]) /\ ∃ d' n os, PermIn 0 d.size d d' /\ SortedIn (ltOf cf) 0 d.size d' /\ w' = sortWorld enc w blk off n d' os := Any.slices_SortFunc Tryz.laysSlF6_f75 enc h1 cf hO g cb blk off cap d w eg hcmp hH hblk hsz
end Go.Proofs
end
namespace Go.Proofs.YtodliknibbafeaaGreat
section
set_option maxHeartbeats 400000
open Go.RowKit
theorem z8E {a b : Int} (h : a = b) : Ending.returned (.int .i64 a) = .returned (.int .i64 b) := by rw [h]
theorem IntsAt.get {w : World} {v : Value} {xs : List Int} (h : IntsAt w v xs) : ∃ ga cap, v = .slice ga xs.length cap /\ xs.length <= 9223372036854775807 /\ Cells w ga xs.length (fun j => .int .i64 (xs.getD j 0)) := by
  obtain ⟨ga, cap, e, h1, h2, h3⟩ := h
  exact ⟨ga, cap, e, by unfold maxLen at h2; omega, h3⟩
theorem zan (v u : Value) (xs ys : List Int) (w : World) (h1 : IntsAt w v xs) (h2 : IntsAt w u ys) :
    Calls Tryz.prog 42 #[v, u] w fun e w' => e = .returned (.int .i64 (z2p xs ys)) /\ w = w' := by
  obtain ⟨ga, ca, rfl, n1, c1⟩ := h1.get
  obtain ⟨gb, cb, rfl, n2, c2⟩ := h2.get
  have C1 := Lib.hid c1
  have C2 := Lib.hid c2
  clear c1 c2 h1 h2
  go_enter Tryz.func42, Tryz.ntmps42
  go_wp2
  go_loop [11] (fun vi => ∃ k : Nat, k <= xs.length /\ k <= ys.length /\ vi = .int .i64 k /\ (∀ i, i < k -> xs.getD i 0 = ys.getD i 0)) (fun vi => xs.length - (intOf vi).toNat)
  case atStart => exact ⟨0, Nat.zero_le _, Nat.zero_le _, rfl, fun i hi => by omega⟩
  case round =>
    obtain ⟨k, hk, hk2, rfl, hall⟩ := hrel
    have HA := Lib.hid hall
    clear hall
    by_cases hl1 : k < xs.length
    · obtain ⟨a, oa, rfl, d1⟩ := C1.out k hl1
      simp only [] at d1
      have z1 : (0 : Int) <= (k : Int) := by omega
      have z2 : (k : Int) < (xs.length : Int) := by omega
      by_cases hl2 : k < ys.length
      · obtain ⟨b, ob, rfl, d2⟩ := C2.out k hl2
        simp only [] at d2
        have z3 : (k : Int) < (ys.length : Int) := by omega
        have HT := Lib.hid (z9f xs ys k hl1 hl2 HA.out)
        generalize hx : xs.getD k 0 = x at *
        generalize hy : ys.getD k 0 = y at *
        have HX := Lib.hid hx
        have HY := Lib.hid hy
        clear hx hy
        by_cases he : x = y
        · subst he
          have hc : Lib.compareInt x x = 0 := by unfold Lib.compareInt; simp
          go_wp2_with (go_at_call 59; refine (Tryz.cmp_Compare_int _ _ _).mono ?_; rintro e w' ⟨rfl, rfl⟩; rw [hc])
          go_round
          case rel => exact ⟨k + 1, by omega, by omega, by go_num, fun i hi => by
            by_cases e : i = k
            · subst e; rw [HX.out, HY.out]
            · exact HA.out i (by omega)⟩
          case measure => simp [intOf]; omega
        · have HE := Lib.hid (HT.out he)
          by_cases hxy : x < y
          · have hc : Lib.compareInt x y = -1 := by unfold Lib.compareInt; simp [hxy]
            have HC := Lib.hid hc
            clear he hc
            go_wp2_with (go_at_call 59; refine (Tryz.cmp_Compare_int _ _ _).mono ?_; rintro e w' ⟨rfl, rfl⟩; rw [HC.out])
            go_ret
            exact ⟨z8E (by rw [HE.out, if_pos hxy]), rfl⟩
          · have hyx : y < x := by omega
            have hc : Lib.compareInt x y = 1 := by unfold Lib.compareInt; simp [hxy, hyx]
            have HC := Lib.hid hc
            clear he hc
            go_wp2_with (go_at_call 59; refine (Tryz.cmp_Compare_int _ _ _).mono ?_; rintro e w' ⟨rfl, rfl⟩; rw [HC.out])
            go_ret
            exact ⟨z8E (by rw [HE.out, if_neg (by omega)]), rfl⟩
      · have HE := Lib.hid (z8d xs ys (fun i h1 h2 => HA.out i (by omega)))
        have q1 : ¬ xs.length < ys.length := by omega
        have q2 : ys.length < xs.length := by omega
        go_wp2
        go_ret
        exact ⟨z8E (by rw [HE.out, if_neg q1, if_pos q2]), rfl⟩
    · have HE := Lib.hid (z8d xs ys (fun i h1 h2 => HA.out i (by omega)))
      have q0 : ¬ ys.length < xs.length := by omega
      by_cases q1 : xs.length < ys.length
      · go_wp2
        go_ret
        exact ⟨z8E (by rw [HE.out, if_pos q1]), rfl⟩
      · go_wp2
        go_ret
        exact ⟨z8E (by rw [HE.out, if_neg q1, if_neg q0]), rfl⟩
end
section
def z0z {σ ρ : Type} (b : σ -> Option (σ ⊕ ρ)) : Nat -> σ -> Option ρ
  | 0, _ => none
  | n + 1, s => match b s with
    | none => none
    | some (.inl s') => z0z b n s'
    | some (.inr r) => some r
def z0y {σ ρ : Type} (s : σ) : Option (σ ⊕ ρ) := some (.inl s)
def z0k {σ ρ : Type} (x : Option ρ) : Option (σ ⊕ ρ) := x.map .inr
def chk {α : Type} (p : Prop) [Decidable p] (x : Option α) : Option α := if p then x else none
def atI {α : Type} (xs : List α) (i : Int) : Option α := if 0 <= i then xs[i.toNat]? else none
def zjU (s : ByteArray) (i : Int) : Option Int := if 0 <= i then (s[i.toNat]?).map fun b => (b.toNat : Int) else none
def z1F {α : Type} (xs : List α) (l h : Int) : Option (List α) := if 0 <= l /\ l <= h /\ h <= xs.length then some ((xs.drop l.toNat).take (h.toNat - l.toNat)) else none
def zgL (s : ByteArray) (l h : Int) : Option ByteArray := if 0 <= l /\ l <= h /\ h <= s.size then some (s.extract l.toNat h.toNat) else none
def z1c (bytes n : Nat) : Prop := n * bytes <= 140737488355328 /\ n <= 4611686018427387904
instance (b n : Nat) : Decidable (z1c b n) := by unfold z1c; exact inferInstance
def z1v (bytes l : Int) : Prop := 0 <= l /\ l <= 140737488355328 /\ bytes * l <= 140737488355328
instance (b n : Int) : Decidable (z1v b n) := by unfold z1v; exact inferInstance
def zfB (a b : ByteArray) : Prop := ((a.size : Int) + b.size) <= 9223372036854775807
instance (a b : ByteArray) : Decidable (zfB a b) := by unfold zfB; exact inferInstance
def z1U (l : List Int) : ByteArray := ⟨(l.map fun z => UInt8.ofNat z.toNat).toArray⟩
def zkG (s : ByteArray) : List Int := s.data.toList.map fun b => (b.toNat : Int)
def zaH {κ ν : Type} [DecidableEq κ] (k : κ) : List (κ × ν) -> Option ν
  | [] => none
  | (a, v) :: r => if a = k then some v else zaH k r
def z9s {κ ν : Type} [DecidableEq κ] (k : κ) (v : ν) : List (κ × ν) -> List (κ × ν)
  | [] => [(k, v)]
  | (a, u) :: r => if a = k then (k, v) :: r else (a, u) :: z9s k v r
def zpF (k : IntKind) (a b : Int) : Int := k.wrap (BitVec.ofInt k.bits a &&& BitVec.ofInt k.bits b).toNat
def orI (k : IntKind) (a b : Int) : Int := k.wrap (BitVec.ofInt k.bits a ||| BitVec.ofInt k.bits b).toNat
def znD (k : IntKind) (a b : Int) : Int := k.wrap (BitVec.ofInt k.bits a ^^^ BitVec.ofInt k.bits b).toNat
def zjZ (k : IntKind) (a b : Int) : Int := k.wrap (BitVec.ofInt k.bits a &&& ~~~ BitVec.ofInt k.bits b).toNat
theorem zgy : ∃ f : IntKind -> Int -> Int -> Int, ∀ k a b, f k a b = k.wrap (a * 2 ^ (min b.toNat k.bits)) := ⟨_, fun _ _ _ => rfl⟩
noncomputable def znn : IntKind -> Int -> Int -> Int := Classical.choose zgy
theorem zjl (k : IntKind) (a b : Int) : znn k a b = k.wrap (a * 2 ^ (min b.toNat k.bits)) := Classical.choose_spec zgy k a b
def znQ (k : IntKind) (a b : Int) : Int := a.fdiv (2 ^ (min b.toNat k.bits))
def znS (k : IntKind) (a b : Int) : Int := k.wrap (a.tdiv b)
def zkh (a b : ByteArray) : Bool := Go.Op.bytesLess a.toList b.toList
theorem z3z {α : Type} {p : Prop} [Decidable p] {x : Option α} {r : α} (h : chk p x = some r) : p /\ x = some r := by
  unfold chk at h; split at h
  · exact ⟨by assumption, h⟩
  · cases h
theorem z1B {α β : Type} {x : Option α} {f : α -> Option β} {r : β} (h : x.bind f = some r) : ∃ v, x = some v /\ f v = some r := by
  cases x with
  | none => cases h
  | some v => exact ⟨v, rfl, h⟩
theorem z3R {σ ρ : Type} {x : Option ρ} {o : σ ⊕ ρ} (h : z0k x = some o) : ∃ r, x = some r /\ o = .inr r := by
  unfold z0k at h
  cases x with
  | none => cases h
  | some v => cases h; exact ⟨v, rfl, rfl⟩
theorem z4G {σ ρ : Type} {s : σ} {o : σ ⊕ ρ} (h : z0y s = some o) : o = .inl s := by cases h; rfl
theorem zew {α : Type} {xs : List α} {i : Int} {v : α} (h : atI xs i = some v) : 0 <= i /\ i < xs.length /\ i.toNat + 1 <= xs.length /\ xs[i.toNat]? = some v /\ ∀ hh : i.toNat < xs.length, xs[i.toNat]'hh = v := by
  unfold atI at h
  split at h
  · have := (List.getElem?_eq_some_iff.1 h).1
    exact ⟨by assumption, by omega, this, h, fun _ => (List.getElem?_eq_some_iff.1 h).2⟩
  · cases h
theorem zfC {s : ByteArray} {i v : Int} (h : zjU s i = some v) : 0 <= i /\ i < s.size /\ ∃ b, s[i.toNat]? = some b /\ v = (b.toNat : Int) /\ ∀ hh : i.toNat < s.size, ((s[i.toNat]'hh).toNat : Int) = v := by
  unfold zjU at h
  split at h
  · simp only [Option.map_eq_some_iff] at h
    obtain ⟨b, hb, rfl⟩ := h
    have : i.toNat < s.size := by
      rcases Nat.lt_or_ge i.toNat s.size with h' | h'
      · exact h'
      · rw [getElem?_neg s i.toNat (by omega)] at hb; cases hb
    exact ⟨by assumption, by omega, b, hb, rfl, fun hh => by rw [getElem?_pos s i.toNat hh] at hb; cases hb; rfl⟩
  · cases h
theorem zdl {α β : Type} {xs : List α} {i : Int} {f : α -> Option β} {r : β} (h : (atI xs i).bind f = some r) : ∃ v, (0 <= i /\ i < xs.length /\ i.toNat + 1 <= xs.length /\ xs[i.toNat]? = some v /\ ∀ hh : i.toNat < xs.length, xs[i.toNat]'hh = v) /\ f v = some r := by
  obtain ⟨v, h1, h2⟩ := z1B h
  exact ⟨v, zew h1, h2⟩
theorem zjX {α β : Type} {xs : List α} {i : Nat} {f : α -> Option β} {r : β} (h : (atI xs (i : Int)).bind f = some r) : ∃ v, (i < xs.length /\ i + 1 <= xs.length /\ xs[i]? = some v /\ ∀ hh : i < xs.length, xs[i]'hh = v) /\ f v = some r := by
  obtain ⟨v, h1, h2⟩ := z1B h
  obtain ⟨a, b, c, d, e⟩ := zew h1
  simp only [Int.toNat_natCast] at c d e
  exact ⟨v, ⟨by omega, c, d, e⟩, h2⟩
theorem ziH {α : Type} {b n : Nat} {x : Option α} {r : α} (h : chk (z1c b n) x = some r) : (n * b <= 140737488355328 /\ n <= 4611686018427387904) /\ x = some r := z3z h
theorem zni {α : Type} {n : Nat} {x : Option α} {r : α} (h : chk (z1c 1 n) x = some r) : (n <= 140737488355328 /\ n <= 4611686018427387904) /\ x = some r := by
  obtain ⟨⟨a, b⟩, h⟩ := z3z h
  exact ⟨⟨by omega, b⟩, h⟩
theorem znU {α : Type} {b l : Int} {x : Option α} {r : α} (h : chk (z1v b l) x = some r) : (0 <= l /\ l <= 140737488355328 /\ b * l <= 140737488355328 /\ max l 0 = l) /\ x = some r := by
  obtain ⟨⟨a, b, c⟩, h⟩ := z3z h
  exact ⟨⟨a, b, c, by omega⟩, h⟩
theorem z1E {α : Type} {xs ys : List α} {l h : Int} (e : z1F xs l h = some ys) : 0 <= l /\ l <= h /\ h <= xs.length /\ ys = (xs.drop l.toNat).take (h.toNat - l.toNat) /\ ys.length = h.toNat - l.toNat := by
  unfold z1F at e
  split at e
  · cases e
    refine ⟨by omega, by omega, by omega, rfl, ?_⟩
    simp; omega
  · cases e
theorem zcU {s t : ByteArray} {l h : Int} (e : zgL s l h = some t) : 0 <= l /\ l <= h /\ h <= s.size /\ t = s.extract l.toNat h.toNat := by
  unfold zgL at e
  split at e
  · cases e; exact ⟨by omega, by omega, by omega, rfl⟩
  · cases e
theorem z1g {σ ρ : Type} {b : σ -> Option (σ ⊕ ρ)} (I : σ -> Prop) (m : σ -> Nat) (Post : ρ -> Prop) (step : ∀ s, I s -> (∃ s', b s = some (.inl s') /\ I s' /\ m s' < m s) ∨ (∃ r, b s = some (.inr r) /\ Post r)) :
    ∀ (n : Nat) (s : σ), I s -> m s < n -> ∃ r, z0z b n s = some r /\ Post r
  | 0, s, _, h => by omega
  | n + 1, s, hI, hm => by
    rcases step s hI with ⟨s', e, hI', hm'⟩ | ⟨r, e, hr⟩
    · obtain ⟨r, h1, h2⟩ := z1g I m Post step n s' hI' (by omega)
      exact ⟨r, by simp only [z0z, e]; exact h1, h2⟩
    · exact ⟨r, by simp only [z0z, e], hr⟩
theorem z7F {P : Program} {C : z0b} {cf : Cfg} {LF : Nat} {c : Code} {fr : Fr} {Q : X -> Fr -> Prop} {o : Operand} (ho : cdO c = some o) (hv : rdV (opE fr o) = some (.bool true)) (h : wpC P C cf LF (cdA c) fr Q) : wpC P C cf LF c fr Q :=
  zns ho fun Q1 Q2 h1 h2 => by rw [hv, zb4]; exact ⟨fun _ => h1.out h, fun e => by cases e⟩
theorem z7G {P : Program} {C : z0b} {cf : Cfg} {LF : Nat} {c : Code} {fr : Fr} {Q : X -> Fr -> Prop} {o : Operand} (ho : cdO c = some o) (hv : rdV (opE fr o) = some (.bool false)) (h : wpC P C cf LF (cdB c) fr Q) : wpC P C cf LF c fr Q :=
  zns ho fun Q1 Q2 h1 h2 => by rw [hv, zb4]; exact ⟨(fun e => by cases e), fun _ => h2.out h⟩
def z5v {σ ρ : Type} (H : σ -> Fr) (cn : Fr -> Fr) (o : σ ⊕ ρ) (Q : X -> Fr -> Prop) : X -> Fr -> Prop
  | .n, fr => ∃ s', o = .inl s' /\ cn fr = H s'
  | .x i, fr => (∃ r, o = .inr r) /\ Q (.x i) fr
  | .r, fr => (∃ r, o = .inr r) /\ Q .r fr
theorem z6l {σ ρ : Type} {H : σ -> Fr} {cn : Fr -> Fr} {o : σ ⊕ ρ} {Q : X -> Fr -> Prop} {fr : Fr} {s : σ} (ho : o = .inl s) (h : cn fr = H s) : z5v H cn o Q .n fr := ⟨s, ho, h⟩
theorem z6k {σ ρ : Type} {H : σ -> Fr} {cn : Fr -> Fr} {o : σ ⊕ ρ} {Q : X -> Fr -> Prop} {fr : Fr} {i : Nat} {r : ρ} (ho : o = .inr r) (h : Q (.x i) fr) : z5v H cn o Q (.x i) fr := ⟨⟨r, ho⟩, h⟩
theorem zij {σ ρ : Type} {H : σ -> Fr} {cn : Fr -> Fr} {o : σ ⊕ ρ} {Q : X -> Fr -> Prop} {fr : Fr} {r : ρ} (ho : o = .inr r) (h : Q .r fr) : z5v H cn o Q .r fr := ⟨⟨r, ho⟩, h⟩
theorem z9U {σ ρ : Type} {B : Fr -> Option (X × Fr)} {cn : Fr -> Fr} {body : σ -> Option (σ ⊕ ρ)} {H : σ -> Fr} {r : ρ} {Q : X -> Fr -> Prop}
    (round : ∀ s o, body s = some o -> (∀ r', o = .inr r' -> r' = r) -> ∃ x fr', B (H s) = some (x, fr') /\ z5v H cn o Q x fr') :
    ∀ (n : Nat) (s : σ) (fr : Fr), z0z body n s = some r -> cn fr = H s -> ∃ x fr', z6z B cn n fr = some (x, fr') /\ Q x fr'
  | 0, s, fr, h, _ => by cases h
  | n + 1, s, fr, h, h0 => by
    simp only [z0z] at h
    split at h
    · cases h
    · rename_i s' e
      obtain ⟨x, fr', e1, e2⟩ := round s _ e (fun r' h' => by cases h')
      cases x with
      | n =>
        obtain ⟨s2, e3, e4⟩ := e2
        cases e3
        obtain ⟨x2, fr2, e5, e6⟩ := z9U round n s' fr' h e4
        exact ⟨x2, fr2, by simp only [z6z, h0, e1]; exact e5, e6⟩
      | x i => obtain ⟨⟨r', e3⟩, _⟩ := e2; cases e3
      | r => obtain ⟨⟨r', e3⟩, _⟩ := e2; cases e3
    · rename_i r0 e
      cases h
      obtain ⟨x, fr', e1, e2⟩ := round s _ e (fun r' h' => by cases h'; rfl)
      cases x with
      | n => obtain ⟨s2, e3, _⟩ := e2; cases e3
      | x i => exact ⟨_, _, by simp only [z6z, h0, e1], e2.2⟩
      | r => exact ⟨_, _, by simp only [z6z, h0, e1], e2.2⟩
theorem z6X {P : Program} {C : z0b} {cf : Cfg} {LF : Nat} {c : Code} {fr : Fr} {Q : X -> Fr -> Prop} {σ ρ : Type} {lv : List Nat} {body : σ -> Option (σ ⊕ ρ)} {s0 : σ} {r : ρ} (h : z0z body LF s0 = some r) (H : σ -> Fr) (hk : z7d c = 5) (hv : cf.live (z4M (lpC c)) = some lv)
    (h0 : z4p (some lv) fr = H s0) (round : ∀ s o, body s = some o -> (∀ r', o = .inr r' -> r' = r) -> wpC P C cf LF (lpC c) (H s) (z5v H (z4p (some lv)) o Q)) : wpC P C cf LF c fr Q := by
  cases c with
  | loop b =>
    obtain ⟨x, fr', e1, e2⟩ := z9U (B := fun fr => z0S P C cf LF b fr) (cn := z4p (some lv)) (H := H) (body := body) (r := r) (Q := Q) (fun s o h1 h2 => by have := round s o h1 h2; unfold wpC at this; exact this) LF s0 fr h h0
    unfold wpC
    refine ⟨x, fr', ?_, e2⟩
    simp only [z0S]
    simp only [lpC] at hv
    rw [hv]
    exact e1
  | _ => cases hk
theorem zfj (k : IntKind) (a b : Int) : z2u .add k a b = some (.int k (k.wrap (a + b))) := rfl
theorem zf8 (k : IntKind) (a b : Int) : z2u .sub k a b = some (.int k (k.wrap (a - b))) := rfl
theorem zfc (k : IntKind) (a b : Int) : z2u .mul k a b = some (.int k (k.wrap (a * b))) := rfl
theorem zfa (k : IntKind) (a b : Int) : z2u .quo k a b = if b = 0 then none else some (.int k (znS k a b)) := rfl
theorem zf9 (k : IntKind) (a b : Int) : z2u .rem k a b = if b = 0 then none else some (.int k (a.tmod b)) := rfl
theorem zfi (k : IntKind) (a b : Int) : z2u .and k a b = some (.int k (zpF k a b)) := Eq.trans rfl rfl
theorem zh6 (k : IntKind) (a b : Int) : z2u .or k a b = some (.int k (orI k a b)) := Eq.trans rfl rfl
theorem zf7 (k : IntKind) (a b : Int) : z2u .xor k a b = some (.int k (znD k a b)) := Eq.trans rfl rfl
theorem zaD (k : IntKind) (a b : Int) : z2u .andNot k a b = some (.int k (zjZ k a b)) := Eq.trans rfl rfl
theorem zfh (k : IntKind) (a b : Int) : z2u .eql k a b = some (.bool (decide (a = b))) := rfl
theorem zfb (k : IntKind) (a b : Int) : z2u .neq k a b = some (.bool (!decide (a = b))) := rfl
theorem zfd (k : IntKind) (a b : Int) : z2u .lss k a b = some (.bool (decide (a < b))) := rfl
theorem zfe (k : IntKind) (a b : Int) : z2u .leq k a b = some (.bool (decide (a <= b))) := rfl
theorem zff (k : IntKind) (a b : Int) : z2u .gtr k a b = some (.bool (decide (b < a))) := rfl
theorem zfg (k : IntKind) (a b : Int) : z2u .geq k a b = some (.bool (decide (b <= a))) := rfl
theorem z9J {a b : ByteArray} : a.toList = b.toList ↔ a = b := by
  constructor
  · intro h
    have h1 : a.data.toList = b.data.toList := by simpa [ByteArray.toList_eq] using h
    obtain ⟨⟨x⟩⟩ := a
    obtain ⟨⟨y⟩⟩ := b
    simp at h1
    rw [h1]
  · intro h; rw [h]
theorem zeS (a b : ByteArray) : z5u .eql a b = some (.bool (decide (a = b))) := by
  simp only [z5u]
  congr 2
  rw [Bool.eq_iff_iff]; simp [z9J]
theorem zeP (a b : ByteArray) : z5u .neq a b = some (.bool (!decide (a = b))) := by
  simp only [z5u]
  congr 3
  rw [Bool.eq_iff_iff]; simp [z9J]
theorem zeQ (a b : ByteArray) : z5u .lss a b = some (.bool (zkh a b)) := rfl
theorem zeR (a b : ByteArray) : z5u .geq a b = some (.bool (!zkh a b)) := rfl
theorem zeT (a b : ByteArray) : z5u .add a b = if zfB a b then some (.string (a ++ b)) else none := by
  have hm : IntKind.i64.max = 9223372036854775807 := by decide
  show (if ((a.size + b.size : Nat) : Int) > IntKind.i64.max then none else some (Value.string (a ++ b))) = _
  rw [hm]
  by_cases h : zfB a b
  · rw [if_pos h]
    unfold zfB at h
    rw [if_neg (by omega)]
  · rw [if_neg h]
    unfold zfB at h
    rw [if_pos (by omega)]
theorem ziK (op : BinOp) (u : Option TyI) (k k' : IntKind) (a b : Int) : zk8 op u (.int k a) (.int k' b) = match op with
    | .shl => if b < 0 then none else some (.int k (znn k a b))
    | .shr => if b < 0 then none else some (.int k (znQ k a b))
    | _ => if k = k' then z2u op k a b else none := by
  cases op
  case shl => simp only [zjl]; rfl
  all_goals rfl
theorem ziJ (op : BinOp) (u : Option TyI) (a b : ByteArray) : zk8 op u (.string a) (.string b) = z5u op a b := rfl
theorem zhE (op : BinOp) (u : Option TyI) (a b : Bool) : zk8 op u (.bool a) (.bool b) = match u with
    | some ⟨.bool, _, _, _⟩ => (match op with | .eql => some (.bool (a == b)) | .neq => some (.bool (!(a == b))) | _ => none)
    | _ => none := rfl
theorem zer : ∀ l : List Int, z5B (l.map fun z => .sc (.int .u8 z)) = some (l.map fun z => UInt8.ofNat z.toNat)
  | [] => rfl
  | z :: l => by simp [z5B, zer l]
theorem z9c {α β : Type} {g : α -> List β} {m : Nat} (hg : ∀ x, (g x).length = m) : ∀ (xs : List α) (i : Nat), (xs.flatMap g).drop (i * m) = (xs.drop i).flatMap g
  | xs, 0 => by simp
  | [], i + 1 => by simp
  | x :: xs, i + 1 => by
    have := z9c hg xs i
    rw [List.flatMap_cons, List.drop_succ_cons, ← this, List.drop_append, List.drop_eq_nil_of_le (by rw [hg, Nat.add_mul]; omega), List.nil_append, hg]
    congr 1
    rw [Nat.add_mul]; omega
theorem zcn {α β : Type} {g : α -> List β} {m : Nat} (hg : ∀ x, (g x).length = m) : ∀ (xs : List α) (i : Nat), (xs.flatMap g).take (i * m) = (xs.take i).flatMap g
  | xs, 0 => by simp
  | [], i + 1 => by simp
  | x :: xs, i + 1 => by
    have := zcn hg xs i
    rw [List.flatMap_cons, List.take_succ_cons, List.flatMap_cons, ← this, List.take_append, List.take_of_length_le (by rw [hg, Nat.add_mul]; omega), hg]
    congr 2
    rw [Nat.add_mul]; omega
theorem z9b {α β : Type} {g : α -> List β} {m : Nat} (hg : ∀ x, (g x).length = m) {xs : List α} {i : Nat} {v : α} (h : xs[i]? = some v) :
    i * m + m <= xs.length * m /\ ((xs.flatMap g).drop (i * m)).take m = g v /\ (∀ j, j < m -> (xs.flatMap g)[i * m + j]? = (g v)[j]?) /\ ∀ j c, (g v)[j]? = some c -> ∀ hh : i * m + j < (xs.flatMap g).length, (xs.flatMap g)[i * m + j]'hh = c := by
  obtain ⟨hi, hv⟩ := List.getElem?_eq_some_iff.1 h
  have hd : xs.drop i = v :: xs.drop (i + 1) := by rw [← hv]; exact List.drop_eq_getElem_cons hi
  have h2 : ((xs.flatMap g).drop (i * m)) = g v ++ (xs.drop (i + 1)).flatMap g := by rw [z9c hg, hd, List.flatMap_cons]
  have key : ∀ j, j < m -> (xs.flatMap g)[i * m + j]? = (g v)[j]? := fun j hj => by
    rw [← List.getElem?_drop, h2, List.getElem?_append_left (by rw [hg]; exact hj)]
  refine ⟨?_, ?_, key, fun j c hc hh => ?_⟩
  · calc i * m + m = (i + 1) * m := by rw [Nat.add_mul, Nat.one_mul]
      _ <= _ := Nat.mul_le_mul_right _ hi
  · rw [h2, List.take_append_of_le_length (by rw [hg]; exact Nat.le_refl _), List.take_of_length_le (by rw [hg]; exact Nat.le_refl _)]
  · have hj : j < m := by rw [← hg v]; exact (List.getElem?_eq_some_iff.1 hc).1
    have := key j hj
    rw [hc, List.getElem?_eq_getElem hh] at this
    exact Option.some.inj this
theorem z7a {α β : Type} {g : α -> β} {xs ys : List α} {l h : Int} (e : z1F xs l h = some ys) : ((xs.map g).drop l.toNat).take (h.toNat - l.toNat) = ys.map g := by
  obtain ⟨_, _, _, e2, _⟩ := z1E e
  rw [e2, List.map_take, List.map_drop]
theorem zcV {α β : Type} {g : α -> List β} {m : Nat} (hg : ∀ x, (g x).length = m) {xs ys : List α} {l h : Int} (e : z1F xs l h = some ys) : ((xs.flatMap g).drop (l.toNat * m)).take ((h.toNat - l.toNat) * m) = ys.flatMap g := by
  obtain ⟨_, _, _, e2, _⟩ := z1E e
  rw [e2, z9c hg, zcn hg]
theorem z6Z {α : Type} {xs ys : List α} {l h : Int} (e : z1F xs l h = some ys) (f : α -> T) : T.sl (h.toNat - l.toNat) (ys.map f) = T.sl ys.length (ys.map f) := by
  obtain ⟨_, _, _, _, e2⟩ := z1E e
  rw [e2]
theorem zeY {α : Type} {xs ys : List α} {l h : Int} (e : z1F xs l h = some ys) (f : α -> List T) : T.sl (h.toNat - l.toNat) (ys.flatMap f) = T.sl ys.length (ys.flatMap f) := by
  obtain ⟨_, _, _, _, e2⟩ := z1E e
  rw [e2]
theorem z6q {l h : Int} (a : 0 <= l) (b : l <= h) : 0 <= h /\ l <= (h.toNat : Int) := by omega
theorem z8J : ∀ a b : List T, z9p (a ++ b) = (z9p a || z9p b)
  | [], b => by simp [z9p]
  | t :: a, b => by simp [z9p, z8J a b, Bool.or_assoc]
theorem zdS {α : Type} (g : α -> T) : ∀ l : List α, z9p (l.map g) = l.any fun x => opn (g x)
  | [] => rfl
  | x :: l => by simp [z9p, zdS g l]
theorem zc6 {α : Type} (g : α -> List T) : ∀ l : List α, z9p (l.flatMap g) = l.any fun x => z9p (g x)
  | [] => rfl
  | x :: l => by simp [z8J, zc6 g l]
theorem zef (k : ByteArray) (kd : IntKind) : ∀ m : List (ByteArray × Int), z2D (.string k) (m.map fun p => (Value.string p.1, Value.int kd p.2)) = (zaH k m).map (Value.int kd)
  | [] => rfl
  | (a, v) :: m => by
    simp only [List.map_cons, z2D, zaH, z6x, zef k kd m]
    by_cases h : a = k <;> simp [h]
theorem zeg (k : ByteArray) : ∀ m : List (ByteArray × Bool), z2D (.string k) (m.map fun p => (Value.string p.1, Value.bool p.2)) = (zaH k m).map Value.bool
  | [] => rfl
  | (a, v) :: m => by
    simp only [List.map_cons, z2D, zaH, z6x, zeg k m]
    by_cases h : a = k <;> simp [h]
theorem zeh (k : Int) (kk kd : IntKind) : ∀ m : List (Int × Int), z2D (.int kk k) (m.map fun p => (Value.int kk p.1, Value.int kd p.2)) = (zaH k m).map (Value.int kd)
  | [] => rfl
  | (a, v) :: m => by
    simp only [List.map_cons, z2D, zaH, z6x, zeh k kk kd m]
    by_cases h : a = k <;> simp [h]
theorem zei (k : Int) (kk : IntKind) : ∀ m : List (Int × Bool), z2D (.int kk k) (m.map fun p => (Value.int kk p.1, Value.bool p.2)) = (zaH k m).map Value.bool
  | [] => rfl
  | (a, v) :: m => by
    simp only [List.map_cons, z2D, zaH, z6x, zei k kk m]
    by_cases h : a = k <;> simp [h]
theorem zgB (k : ByteArray) (kd : IntKind) (v : Int) : ∀ m : List (ByteArray × Int), zbD (.string k) (.int kd v) (m.map fun p => (Value.string p.1, Value.int kd p.2)) = (z9s k v m).map fun p => (Value.string p.1, Value.int kd p.2)
  | [] => rfl
  | (a, u) :: m => by
    simp only [List.map_cons, zbD, z9s, z6x, zgB k kd v m]
    by_cases h : a = k <;> simp [h]
theorem zgC (k : ByteArray) (v : Bool) : ∀ m : List (ByteArray × Bool), zbD (.string k) (.bool v) (m.map fun p => (Value.string p.1, Value.bool p.2)) = (z9s k v m).map fun p => (Value.string p.1, Value.bool p.2)
  | [] => rfl
  | (a, u) :: m => by
    simp only [List.map_cons, zbD, z9s, z6x, zgC k v m]
    by_cases h : a = k <;> simp [h]
theorem zgD (k : Int) (kk kd : IntKind) (v : Int) : ∀ m : List (Int × Int), zbD (.int kk k) (.int kd v) (m.map fun p => (Value.int kk p.1, Value.int kd p.2)) = (z9s k v m).map fun p => (Value.int kk p.1, Value.int kd p.2)
  | [] => rfl
  | (a, u) :: m => by
    simp only [List.map_cons, zbD, z9s, z6x, zgD k kk kd v m]
    by_cases h : a = k <;> simp [h]
theorem zgE (k : Int) (kk : IntKind) (v : Bool) : ∀ m : List (Int × Bool), zbD (.int kk k) (.bool v) (m.map fun p => (Value.int kk p.1, Value.bool p.2)) = (z9s k v m).map fun p => (Value.int kk p.1, Value.bool p.2)
  | [] => rfl
  | (a, u) :: m => by
    simp only [List.map_cons, zbD, z9s, z6x, zgE k kk v m]
    by_cases h : a = k <;> simp [h]
theorem zib (k v : Value) : zbD k v [] = [(k, v)] := rfl
theorem zic {κ ν : Type} [DecidableEq κ] (k : κ) (v : ν) : z9s k v [] = [(k, v)] := rfl
theorem ziw (kd : IntKind) (z : Int) (o : Option Int) : (o.map (Value.int kd)).getD (.int kd z) = .int kd (o.getD z) := by cases o <;> rfl
theorem zhe (z : Bool) (o : Option Bool) : (o.map Value.bool).getD (.bool z) = .bool (o.getD z) := by cases o <;> rfl
@[simp] theorem oneNil : (Value.slice none 0 0).oneCell' = true := rfl
@[simp] theorem bszL (a : Array UInt8) : ByteArray.size ⟨a⟩ = a.size := rfl
@[simp] theorem bempty : (⟨#[]⟩ : ByteArray) = ByteArray.empty := rfl
@[simp] theorem voG0 (p l : List T) : (p ++ l)[p.length]? = l[0]? := by rw [List.getElem?_append_right (Nat.le_refl _), Nat.sub_self]
@[simp] theorem voG (p l : List T) (j : Nat) : (p ++ l)[p.length + j]? = l[j]? := by rw [List.getElem?_append_right (by omega), Nat.add_sub_cancel_left]
@[simp] theorem voSet0 (p l : List T) (x : T) : (p ++ l).set p.length x = p ++ l.set 0 x := by rw [List.set_append_right _ _ (Nat.le_refl _), Nat.sub_self]
@[simp] theorem voSet (p l : List T) (j : Nat) (x : T) : (p ++ l).set (p.length + j) x = p ++ l.set j x := by rw [List.set_append_right _ _ (by omega), Nat.add_sub_cancel_left]
section
variable {P : Program} {C : z0b} {cf : Cfg} {LF : Nat} {c : Code} {fr fr1 : Fr} {Q : X -> Fr -> Prop}
theorem zr {l : List Oper} (hl : rgL c = some l) (hd : rgD c = false) (hz : cf.fz (rgI c) = none) (hf : zcS P C cf.wio l.toArray l fr = some fr1) (h : Q .n fr1) : wpC P C cf LF c fr Q :=
  zil hl hd hz fun Q' hQ => by rw [hf, zcB]; exact hQ.out _ h
theorem zq (hk : z7d c = 2) (h : wpC P C cf LF (znq c) fr (zcN (fun fr' => wpC P C cf LF (znp c) fr' Q) Q)) : wpC P C cf LF c fr Q := zlq hk h
theorem zb (hk : z7d c = 4) (h : wpC P C cf LF (blC c) fr (z3B (blI c) Q)) : wpC P C cf LF c fr Q := zjq hk h
end
@[simp] theorem voLe (a j k n : Nat) : (a + j + k <= a + n) = (j + k <= n) := by simp only [eq_iff_iff]; omega
end
section
open Go
theorem zdY {σ ρ : Type} {b : σ -> Option (σ ⊕ ρ)} {x : Option ρ} : ∀ (n : Nat) (f : Nat -> σ) (m : Nat), n < m -> (∀ k, k < n -> b (f k) = z0y (f (k + 1))) -> b (f n) = z0k x -> z0z b m (f 0) = x
  | 0, f, m + 1, _, _, hl => by
    simp only [z0z, hl]
    cases x <;> rfl
  | n + 1, f, m + 1, hm, hs, hl => by
    simp only [z0z, hs 0 (by omega), z0y]
    exact zdY n (fun k => f (k + 1)) m (by omega) (fun k hk => hs (k + 1) (by omega)) hl
theorem z1G {σ ρ : Type} {b : σ -> Option (σ ⊕ ρ)} {x : Option ρ} (n : Nat) (f : Nat -> σ) {s : σ} (h0 : s = f 0) (hn : n < LFm) (step : ∀ k, k < n -> b (f k) = z0y (f (k + 1))) (last : b (f n) = z0k x) : z0z b LFm s = x := by
  subst h0; exact zdY n f LFm hn step last
theorem z9S {σ ρ : Type} {b : σ -> Option (σ ⊕ ρ)} {x : Option ρ} {p : Nat -> Bool} {A : Nat -> Option ρ} : ∀ (n : Nat) (f : Nat -> σ) (m i : Nat), n < m -> (∀ k, k < n -> b (f k) = if p (i + k) = true then z0k (A (i + k)) else z0y (f (k + 1))) -> b (f n) = z0k x ->
    z0z b m (f 0) = match ((List.range n).map (i + ·)).find? p with | some k => A k | none => x
  | 0, f, m + 1, i, _, _, hl => by
    simp only [z0z, hl]
    cases x <;> rfl
  | n + 1, f, m + 1, i, hm, hs, hl => by
    have h0 := hs 0 (by omega)
    have hmap : (List.range (n + 1)).map (i + ·) = i :: (List.range n).map (i + 1 + ·) := by
      rw [List.range_succ_eq_map, List.map_cons, List.map_map]
      congr 1
      apply List.map_congr_left
      intro k _
      simp only [Function.comp]
      omega
    rw [hmap, List.find?_cons]
    simp only [Nat.add_zero] at h0
    by_cases hp : p i = true
    · rw [if_pos hp] at h0
      rw [hp]
      simp only [z0z, h0]
      generalize A i = y
      cases y <;> rfl
    · rw [if_neg hp] at h0
      have hp' : p i = false := by simpa using hp
      rw [hp']
      simp only [z0z, h0, z0y]
      exact z9S n (fun k => f (k + 1)) m (i + 1) (by omega) (fun k hk => by rw [hs (k + 1) (by omega), show i + (k + 1) = i + 1 + k by omega]) hl
theorem z8P {σ ρ : Type} {b : σ -> Option (σ ⊕ ρ)} {x : Option ρ} (n : Nat) (f : Nat -> σ) (p : Nat -> Bool) (A : Nat -> Option ρ) {s : σ} (h0 : s = f 0) (hn : n < LFm) (step : ∀ k, k < n -> b (f k) = if p k = true then z0k (A k) else z0y (f (k + 1))) (last : b (f n) = z0k x) :
    z0z b LFm s = match (List.range n).find? p with | some k => A k | none => x := by
  subst h0
  have := z9S n f LFm 0 hn (p := p) (A := A) (fun k hk => by rw [step k hk]; simp) last
  simpa using this
theorem z1J {k : Nat} (h : k < 4611686018427387904) : IntKind.i64.wrap ((k : Int) + 1) = ((k + 1 : Nat) : Int) := by
  rw [IntWalk.i64_in _ (by omega)]; omega
theorem z7B {x : Int} (h : -9223372036854775808 <= x) (h2 : x < 9223372036854775808) : IntKind.i64.wrap x = x := IntWalk.i64_in _ (by omega)
theorem z0p {α : Type} {xs : List α} {k : Nat} (h : k < xs.length) : atI xs (k : Int) = some xs[k] := by
  unfold atI; rw [if_pos (by omega), Int.toNat_natCast, List.getElem?_eq_getElem h]
theorem z8G {α : Type} {xs : List α} {k : Nat} (h : k <= xs.length) : z1F xs 0 (k : Int) = some (xs.take k) := by
  unfold z1F; rw [if_pos (by omega)]; simp
theorem z8H {α : Type} {xs : List α} {k : Nat} (h : k <= xs.length) : z1F xs (k : Int) (xs.length : Int) = some (xs.drop k) := by
  unfold z1F; rw [if_pos (by omega)]; simp [List.take_of_length_le]
theorem z0B {α : Type} {p : Prop} [Decidable p] (x : Option α) (h : p) : chk p x = x := by unfold chk; rw [if_pos h]
theorem zhk {p : Nat -> Bool} {n : Nat} : (List.range n).find? p = none ↔ ∀ k, k < n -> p k = false := by simp
theorem zhj {p : Nat -> Bool} {n k : Nat} : (List.range n).find? p = some k ↔ k < n /\ p k = true /\ ∀ j, j < k -> p j = false := by
  rw [List.find?_range_eq_some]; simp; constructor
  · rintro ⟨a, b, c⟩; exact ⟨b, a, c⟩
  · rintro ⟨a, b, c⟩; exact ⟨b, a, c⟩
theorem zaL {ρ : Type} {p : Nat -> Bool} {n : Nat} (a b : ρ) : (match (List.range n).find? p with | some _ => a | none => b) = if (List.range n).all (fun k => !p k) then b else a := by
  cases h : (List.range n).find? p with
  | none => rw [zhk] at h; rw [if_pos (by simpa using h)]
  | some k =>
    rw [zhj] at h
    rw [if_neg]
    simp only [List.all_eq_true, List.mem_range, Bool.not_eq_true']
    intro hh
    have := hh k h.1
    rw [h.2.1] at this
    cases this
theorem zgK {α : Type} (p : α -> Bool) (l : List α) (d : α) : (List.range l.length).all (fun k => p (l.getD k d)) = l.all p := by
  rw [Bool.eq_iff_iff, List.all_eq_true, List.all_eq_true]
  constructor
  · intro h x hx
    obtain ⟨i, hi, rfl⟩ := List.getElem_of_mem hx
    have := h i (List.mem_range.2 hi)
    simpa only [List.getD, List.getElem?_eq_getElem hi, Option.getD_some] using this
  · intro h i hi
    have hi := List.mem_range.1 hi
    have := h _ (List.getElem_mem hi)
    simpa only [List.getD, List.getElem?_eq_getElem hi, Option.getD_some] using this
theorem z8Q {α ρ : Type} {b : Int -> Option (Int ⊕ ρ)} {l : List α} (d : α) (p : α -> Bool) {A B : Option ρ} (h : l.length < 4611686018427387904) (step : ∀ k, k < l.length -> b (k : Int) = if p (l.getD k d) = true then z0y ((k + 1 : Nat) : Int) else z0k A) (last : b (l.length : Int) = z0k B) :
    z0z b LFm 0 = if l.all p = true then B else A := by
  rw [z8P (s := (0 : Int)) l.length (fun k => (k : Int)) (fun k => !p (l.getD k d)) (fun _ => A) (x := B) rfl (by simp only [LFm]; omega) (fun k hk => ?_) last]
  · rw [zaL]
    simp only [Bool.not_not]
    rw [zgK]
  · rw [step k hk]
    cases p (l.getD k d) <;> simp
end
section
structure Run {ρ : Type} (x : Option ρ) (K : ρ -> Prop) : Prop where
  out : ∃ v, x = some v /\ K v
structure RK {σ ρ : Type} (o : σ ⊕ ρ) (K : ρ -> Prop) (o' : σ ⊕ ρ) : Prop where
  eq : o' = o
  k : ∀ r, o' = .inr r -> K r
class Head {σ ρ : Type} (b : σ -> Option (σ ⊕ ρ)) where
  H : σ -> Fr
class Ok {ρ : Type} (x : Option ρ) (S : outParam (ρ -> Prop)) : Prop where
  ok : ∀ r, x = some r -> S r
section
variable {G : Prop} {ρ : Type} {K : ρ -> Prop}
theorem zav {b n : Nat} {x : Option ρ} (k : n * b <= 140737488355328 -> n <= 4611686018427387904 -> Run x K -> G) (h : Run (chk (z1c b n) x) K) : G := by
  obtain ⟨v, e, hk⟩ := h
  obtain ⟨⟨a, c⟩, e⟩ := z3z e
  exact k a c ⟨v, e, hk⟩
theorem z7w {n : Nat} {x : Option ρ} (k : n <= 140737488355328 -> n <= 4611686018427387904 -> Run x K -> G) (h : Run (chk (z1c 1 n) x) K) : G := zav (fun a b => k (by omega) b) h
theorem zio {b l : Int} {x : Option ρ} (k : 0 <= l -> l <= 140737488355328 -> b * l <= 140737488355328 -> max l 0 = l -> Run x K -> G) (h : Run (chk (z1v b l) x) K) : G := by
  obtain ⟨v, e, hk⟩ := h
  obtain ⟨⟨a, c, d⟩, e⟩ := z3z e
  exact k a c d (by omega) ⟨v, e, hk⟩
theorem zbU {l : Int} {x : Option ρ} (k : 0 <= l -> l <= 140737488355328 -> max l 0 = l -> Run x K -> G) (h : Run (chk (z1v 1 l) x) K) : G := zio (fun a b _ d => k a b d) h
theorem zbS {i : Int} {n : Nat} {x : Option ρ} (k : 0 <= i -> i < (n : Int) -> i.toNat < n -> i.toNat + 1 <= n -> Run x K -> G) (h : Run (chk (0 <= i /\ i < (n : Int)) x) K) : G := by
  obtain ⟨v, e, hk⟩ := h
  obtain ⟨⟨a, c⟩, e⟩ := z3z e
  exact k a c (by omega) (by omega) ⟨v, e, hk⟩
theorem z7t {i n : Int} {x : Option ρ} (k : 0 <= i -> i < n -> i.toNat < n.toNat -> i.toNat + 1 <= n.toNat -> Run x K -> G) (h : Run (chk (0 <= i /\ i < n) x) K) : G := by
  obtain ⟨v, e, hk⟩ := h
  obtain ⟨⟨a, c⟩, e⟩ := z3z e
  exact k a c (by omega) (by omega) ⟨v, e, hk⟩
theorem zc0 {p : Prop} [Decidable p] {x : Option ρ} (k : p -> Run x K -> G) (h : Run (chk p x) K) : G := by
  obtain ⟨v, e, hk⟩ := h
  obtain ⟨a, e⟩ := z3z e
  exact k a ⟨v, e, hk⟩
theorem zbT {α : Type} {xs : List α} {i : Nat} {f : α -> Option ρ} (k : ∀ v, i < xs.length -> i + 1 <= xs.length -> xs[i]? = some v -> (∀ hh : i < xs.length, xs[i]'hh = v) -> Run (f v) K -> G) (h : Run ((atI xs (i : Int)).bind f) K) : G := by
  obtain ⟨r, e, hk⟩ := h
  obtain ⟨v, ⟨a, b, c, d⟩, e⟩ := zjX e
  exact k v a b c d ⟨r, e, hk⟩
theorem zj1 {α : Type} {xs : List α} {i : Int} {f : α -> Option ρ} (k : ∀ v, 0 <= i -> i < xs.length -> i.toNat + 1 <= xs.length -> xs[i.toNat]? = some v -> (∀ hh : i.toNat < xs.length, xs[i.toNat]'hh = v) -> Run (f v) K -> G) (h : Run ((atI xs i).bind f) K) : G := by
  obtain ⟨r, e, hk⟩ := h
  obtain ⟨v, ⟨a, b, c, d, d2⟩, e⟩ := zdl e
  exact k v a b c d d2 ⟨r, e, hk⟩
theorem z7y {s : ByteArray} {i : Int} {f : Int -> Option ρ} (k : ∀ v, 0 <= i -> i < s.size -> (∃ b, s[i.toNat]? = some b /\ v = (b.toNat : Int)) -> (∀ hh : i.toNat < s.size, ((s[i.toNat]'hh).toNat : Int) = v) -> Run (f v) K -> G) (h : Run ((zjU s i).bind f) K) : G := by
  obtain ⟨r, e, hk⟩ := h
  obtain ⟨v, e1, e2⟩ := z1B e
  obtain ⟨a, b, c, d1, d2, d3⟩ := zfC e1
  exact k v a b ⟨c, d1, d2⟩ d3 ⟨r, e2, hk⟩
theorem z9u {α : Type} {xs : List α} {i : Int} {v : α} {f : α -> Option ρ} (hv : xs[i.toNat]? = some v) (hi : 0 <= i) (k : Run (f v) K -> G) (h : Run ((atI xs i).bind f) K) : G := by
  obtain ⟨r, e, hk⟩ := h
  unfold atI at e
  rw [if_pos hi, hv] at e
  exact k ⟨r, e, hk⟩
theorem z7v {α : Type} {xs : List α} {i : Nat} {v : α} {f : α -> Option ρ} (hv : xs[i]? = some v) (k : Run (f v) K -> G) (h : Run ((atI xs (i : Int)).bind f) K) : G := z9u (i := (i : Int)) hv (Int.natCast_nonneg i) k h
theorem zj2 {α : Type} {xs : List α} {v : α} {f : α -> Option ρ} (hv : xs[0]? = some v) (k : Run (f v) K -> G) (h : Run ((atI xs 0).bind f) K) : G := z9u (i := 0) hv (Int.le_refl 0) k h
theorem z4E {α : Type} {e : Option α} {v : α} {f : α -> Option ρ} (hv : e = some v) (k : Run (f v) K -> G) (h : Run (e.bind f) K) : G := by subst hv; exact k h
theorem z7x {α : Type} {e : Option α} {S : α -> Prop} [Ok e S] {f : α -> Option ρ} (k : ∀ v, e = some v -> S v -> Run (f v) K -> G) (h : Run (e.bind f) K) : G := by
  obtain ⟨r, e1, hk⟩ := h
  obtain ⟨v, e2, e3⟩ := z1B e1
  exact k v e2 (Ok.ok v e2) ⟨r, e3, hk⟩
theorem zj0 {p : Prop} [Decidable p] {x y : Option ρ} (k : (p = True) -> Run x K -> G) (k2 : (p = False) -> Run y K -> G) (h : Run (if p then x else y) K) : G := by
  by_cases c : p
  · rw [if_pos c] at h; exact k (eq_true c) h
  · rw [if_neg c] at h; exact k2 (eq_false c) h
theorem p_0 {α : Type} {xs : List α} {f : α -> Option ρ} (k : ∀ v, 0 < xs.length -> xs ≠ [] -> xs[0]? = some v -> (∀ hh : 0 < xs.length, xs[0]'hh = v) -> Run (f v) K -> G) (h : Run ((atI xs 0).bind f) K) : G := by
  obtain ⟨r, e, hk⟩ := h
  obtain ⟨v, ⟨b, c, d, d2⟩, e⟩ := zjX (i := 0) e
  exact k v b (List.length_pos_iff.1 b) d d2 ⟨r, e, hk⟩
theorem zbV {α : Type} {xs : List α} {i : Nat} {f : α -> Option ρ} (k : ∀ v, (OfNat.ofNat i : Nat) < xs.length -> xs ≠ [] -> xs[(OfNat.ofNat i : Nat)]? = some v -> (∀ hh : (OfNat.ofNat i : Nat) < xs.length, xs[(OfNat.ofNat i : Nat)]'hh = v) -> Run (f v) K -> G) (h : Run ((atI xs (OfNat.ofNat i : Int)).bind f) K) : G := by
  obtain ⟨r, e, hk⟩ := h
  obtain ⟨v, ⟨b, c, d, d2⟩, e⟩ := zjX (i := i) e
  exact k v b (List.length_pos_iff.1 (Nat.lt_of_le_of_lt (Nat.zero_le _) b)) d d2 ⟨r, e, hk⟩
class IsS (α : Type) : Prop
theorem zc2 {α : Type} [IsS α] {xs : List α} {i : Int} {f : α -> Option ρ} (k : ∀ v, 0 <= i -> i < xs.length -> i.toNat + 1 <= xs.length -> xs[i.toNat]? = some v -> (∀ m, i.toNat * m + m <= xs.length * m) -> (∀ (g : α -> List T) (m : Nat), (∀ x, (g x).length = m) -> ((xs.flatMap g).drop (i.toNat * m)).take m = g v) ->
    (∀ (g : α -> List T) (m j : Nat), (∀ x, (g x).length = m) -> j < m -> (xs.flatMap g)[i.toNat * m + j]? = (g v)[j]?) -> (∀ (g : α -> List T) (m : Nat), (∀ x, (g x).length = m) -> 0 < m -> (xs.flatMap g)[i.toNat * m]? = (g v)[0]?) -> Run (f v) K -> G) (h : Run ((atI xs i).bind f) K) : G := by
  obtain ⟨r, e, hk⟩ := h
  obtain ⟨v, ⟨a, b, c, d, d2⟩, e⟩ := zdl e
  refine k v a b c d (fun m => ?_) (fun g m hg => (z9b hg d).2.1) (fun g m j hg hj => (z9b hg d).2.2.1 j hj) (fun g m hg hj => (z9b hg d).2.2.1 0 hj) ⟨r, e, hk⟩
  calc i.toNat * m + m = (i.toNat + 1) * m := by rw [Nat.add_mul, Nat.one_mul]
    _ <= _ := Nat.mul_le_mul_right _ c
theorem zc1 {α : Type} {l : List α} {j : Nat} {a : α} {i : Int} {f : α -> Option ρ} (k : ∀ v, 0 <= i -> i < l.length -> i.toNat + 1 <= l.length -> (∀ (g : α -> T) hh, ((l.map g).set j (g a))[i.toNat]'hh = g v) -> (∀ (g : α -> T), ((l.map g).set j (g a))[i.toNat]? = some (g v)) -> Run (f v) K -> G) (h : Run ((atI (l.set j a) i).bind f) K) : G := by
  obtain ⟨r, e, hk⟩ := h
  obtain ⟨v, ⟨x, b, c, d, d2⟩, e⟩ := zdl e
  rw [List.length_set] at b c
  have key : ∀ (g : α -> T), ((l.map g).set j (g a))[i.toNat]? = some (g v) := fun g => by rw [← List.map_set, List.getElem?_map, d]; rfl
  exact k v x b c (fun g hh => (List.getElem?_eq_some_iff.1 (key g)).2) key ⟨r, e, hk⟩
theorem zc3 {α : Type} {l : List α} {a : α} {i : Int} {f : α -> Option ρ} (k : ∀ v, 0 <= i -> i < (l.length : Int) + 1 -> i.toNat <= l.length -> (∀ (g : α -> T) hh, (l.map g ++ [g a])[i.toNat]'hh = g v) -> (∀ g : α -> T, (l.map g ++ [g a])[i.toNat]? = some (g v)) -> Run (f v) K -> G) (h : Run ((atI (l ++ [a]) i).bind f) K) : G := by
  obtain ⟨r, e, hk⟩ := h
  obtain ⟨v, ⟨x, b, c, d, d2⟩, e⟩ := zdl e
  rw [List.length_append, List.length_singleton] at b c
  have key : ∀ (g : α -> T), (l.map g ++ [g a])[i.toNat]? = some (g v) := fun g => by
    have := congrArg (Option.map g) d
    rwa [← List.getElem?_map, List.map_append] at this
  exact k v x (by omega) (by omega) (fun g hh => (List.getElem?_eq_some_iff.1 (key g)).2) key ⟨r, e, hk⟩
theorem z3v {α : Type} {xs : List α} {l u : Int} {f : List α -> Option ρ} (k : ∀ v : List α, 0 <= l -> l <= u -> u <= xs.length -> 0 <= u -> l <= (u.toNat : Int) -> l <= max u 0 -> (∀ g : α -> T, ((xs.map g).drop l.toNat).take (u.toNat - l.toNat) = v.map g) -> (∀ g : α -> T, T.sl (u.toNat - l.toNat) (v.map g) = T.sl v.length (v.map g)) -> Run (f v) K -> G) (h : Run ((z1F xs l u).bind f) K) : G := by
  obtain ⟨r, e, hk⟩ := h
  obtain ⟨v, e1, e2⟩ := z1B e
  obtain ⟨a, b, c, -⟩ := z1E e1
  obtain ⟨d, g⟩ := z6q a b
  exact k v a b c d g (by omega) (fun g => z7a e1) (fun g => z6Z e1 g) ⟨r, e2, hk⟩
theorem z3w {α : Type} [IsS α] {xs : List α} {l u : Int} {f : List α -> Option ρ} (k : ∀ v : List α, 0 <= l -> l <= u -> u <= xs.length -> 0 <= u -> l <= (u.toNat : Int) -> l <= max u 0 -> (∀ (g : α -> List T) (m : Nat), (∀ x, (g x).length = m) -> ((xs.flatMap g).drop (l.toNat * m)).take ((u.toNat - l.toNat) * m) = v.flatMap g) -> (∀ g : α -> List T, T.sl (u.toNat - l.toNat) (v.flatMap g) = T.sl v.length (v.flatMap g)) -> Run (f v) K -> G) (h : Run ((z1F xs l u).bind f) K) : G := by
  obtain ⟨r, e, hk⟩ := h
  obtain ⟨v, e1, e2⟩ := z1B e
  obtain ⟨a, b, c, -⟩ := z1E e1
  obtain ⟨d, g⟩ := z6q a b
  exact k v a b c d g (by omega) (fun g m hg => zcV hg e1) (fun g => zeY e1 g) ⟨r, e2, hk⟩
theorem z3u {s : ByteArray} {l u : Int} {f : ByteArray -> Option ρ} (k : ∀ v, 0 <= l -> l <= u -> u <= s.size -> 0 <= u -> l <= (u.toNat : Int) -> l <= max u 0 -> s.extract l.toNat u.toNat = v -> Run (f v) K -> G) (h : Run ((zgL s l u).bind f) K) : G := by
  obtain ⟨r, e, hk⟩ := h
  obtain ⟨v, e1, e2⟩ := z1B e
  obtain ⟨a, b, c, d⟩ := zcU e1
  obtain ⟨d1, g⟩ := z6q a b
  exact k v a b c d1 g (by omega) d.symm ⟨r, e2, hk⟩
theorem z4F {α β : Type} {e : Option (α ⊕ β)} {S : α ⊕ β -> Prop} [Ok e S] {f : α ⊕ β -> Option ρ} (k : ∀ v, S (.inl v) -> Run (f (.inl v)) K -> G) (k2 : ∀ v, S (.inr v) -> Run (f (.inr v)) K -> G) (h : Run (e.bind f) K) : G := by
  obtain ⟨r, e1, hk⟩ := h
  obtain ⟨v, e2, e3⟩ := z1B e1
  cases v with
  | inl v => exact k v (Ok.ok _ e2) ⟨r, e3, hk⟩
  | inr v => exact k2 v (Ok.ok _ e2) ⟨r, e3, hk⟩
theorem zbX {α : Type} {m : Option α} {x y : Option ρ} (k : m.isSome = true -> Run x K -> G) (k2 : m = none -> Run y K -> G) (h : Run (if m.isSome = true then x else y) K) : G := by
  cases m with
  | some v => exact k rfl (by simpa using h)
  | none => exact k2 rfl (by simpa using h)
theorem zbY {b : Bool} {x y : Option ρ} (k : b = true -> Run x K -> G) (k2 : b = false -> Run y K -> G) (h : Run (if b = true then x else y) K) : G := by
  cases b with
  | true => exact k rfl (by simpa using h)
  | false => exact k2 rfl (by simpa using h)
theorem zbZ {α : Type} {xs : List α} {x y : Option ρ} (k : ((xs.length : Int) = 0) = True -> xs = [] -> Run x K -> G) (k2 : ((xs.length : Int) = 0) = False -> xs ≠ [] -> Run y K -> G) (h : Run (if (xs.length : Int) = 0 then x else y) K) : G := by
  by_cases c : (xs.length : Int) = 0
  · rw [if_pos c] at h; exact k (eq_true c) (List.eq_nil_of_length_eq_zero (by omega)) h
  · rw [if_neg c] at h; exact k2 (eq_false c) (fun e => c (by rw [e]; rfl)) h
theorem zbW {α : Type} {xs : List α} {x y : Option ρ} (k : ((0 : Int) < (xs.length : Int)) = True -> xs ≠ [] -> 0 < xs.length -> Run x K -> G) (k2 : ((0 : Int) < (xs.length : Int)) = False -> xs = [] -> Run y K -> G) (h : Run (if (0 : Int) < (xs.length : Int) then x else y) K) : G := by
  by_cases c : (0 : Int) < (xs.length : Int)
  · rw [if_pos c] at h; exact k (eq_true c) (fun e => by subst e; simp at c) (by omega) h
  · rw [if_neg c] at h; exact k2 (eq_false c) (List.eq_nil_of_length_eq_zero (by omega)) h
theorem z7s {v : ρ} (k : K v -> G) (h : Run (some v) K) : G := by
  obtain ⟨r, e, hk⟩ := h
  cases e; exact k hk
theorem z7u (h : Run none K) : G := by
  obtain ⟨r, e, hk⟩ := h
  cases e
theorem z5x {x : Option ρ} {r : ρ} (h : x = some r) : Run x (· = r) := ⟨r, h, rfl⟩
theorem z2m {α β : Type} {P : α × β -> Prop} (h : ∀ a, ∀ b, P (a, b)) : ∀ s : α × β, P s := fun s => h s.1 s.2
end
section
variable {P : Program} {C : z0b} {cf : Cfg} {LF : Nat} {c : Code} {fr : Fr} {Q : X -> Fr -> Prop} {σ ρ : Type} {K : ρ -> Prop} {o : σ ⊕ ρ} {H : σ -> Fr} {cn : Fr -> Fr}
theorem ziZ {s : σ} (h : Run (z0y s : Option (σ ⊕ ρ)) (RK o K)) (e : cn fr = H s) : z5v H cn o Q .n fr := by
  obtain ⟨r, e1, e2⟩ := h
  have := z4G e1
  exact z6l (e2.eq.symm.trans this) e
theorem ziX {i : Nat} {x : Option ρ} (k : Run x K -> Q (.x i) fr) (h : Run (z0k x : Option (σ ⊕ ρ)) (RK o K)) : z5v H cn o Q (.x i) fr := by
  obtain ⟨r, e1, e2⟩ := h
  obtain ⟨v, e3, rfl⟩ := z3R e1
  exact z6k (e2.eq.symm) (k ⟨v, e3, e2.k _ rfl⟩)
theorem ziY {x : Option ρ} (k : Run x K -> Q .r fr) (h : Run (z0k x : Option (σ ⊕ ρ)) (RK o K)) : z5v H cn o Q .r fr := by
  obtain ⟨r, e1, e2⟩ := h
  obtain ⟨v, e3, rfl⟩ := z3R e1
  exact zij (e2.eq.symm) (k ⟨v, e3, e2.k _ rfl⟩)
theorem zcT {lv : List Nat} {body : σ -> Option (σ ⊕ ρ)} [hd : Head body] {s0 : σ} (hk : z7d c = 5) (hv : cf.live (z4M (lpC c)) = some lv) (h : Run (z0z body LF s0) K)
    (h0 : z4p (some lv) fr = hd.H s0) (round : ∀ s, ∀ o, Run (body s) (RK o K) -> wpC P C cf LF (lpC c) (hd.H s) (z5v hd.H (z4p (some lv)) o Q)) : wpC P C cf LF c fr Q := by
  obtain ⟨r, e, hk2⟩ := h
  exact z6X e hd.H hk hv h0 fun s o h1 h2 => round s o ⟨o, h1, rfl, fun r' e' => by rw [h2 r' e']; exact hk2⟩
end
def z7q {α : Type} (k : Nat) (v : α) : List (Nat × α) -> List (Nat × α)
  | [] => []
  | (j, u) :: r => if j = k then (j, v) :: r else (j, u) :: z7q k v r
def z6W {α : Type} : List (Nat × α) -> List (Nat × α) -> List (Nat × α)
  | [], l => l
  | (k, v) :: r, l => z6W r (z7q k v l)
def z6H (x : List (Nat × E) × List (Nat × T)) (fr : Fr) : Fr := { fr with tm := z6W x.1 fr.tm, ob := z6W x.2 fr.ob }
class Hd {σ ρ : Type} (b : σ -> Option (σ ⊕ ρ)) where
  H : σ -> List (Nat × E) × List (Nat × T)
section
variable {P : Program} {C : z0b} {cf : Cfg} {LF : Nat} {c : Code} {fr fr0 : Fr} {Q : X -> Fr -> Prop} {σ ρ : Type} {K : ρ -> Prop}
theorem z4C {lv : List Nat} {body : σ -> Option (σ ⊕ ρ)} [hd : Hd body] {s0 : σ} (hk : z7d c = 5) (hv : cf.live (z4M (lpC c)) = some lv) (h : Run (z0z body LF s0) K)
    (hf : z4p (some lv) fr = fr0) (h0 : fr0 = z6H (Hd.H body s0) fr0) (round : ∀ s, ∀ o, Run (body s) (RK o K) -> wpC P C cf LF (lpC c) (z6H (Hd.H body s) fr0) (z5v (fun s => z6H (Hd.H body s) fr0) (z4p (some lv)) o Q)) : wpC P C cf LF c fr Q := by
  obtain ⟨r, e, hk2⟩ := h
  exact z6X e (fun s => z6H (Hd.H body s) fr0) hk hv (hf.trans h0) fun s o h1 h2 => round s o ⟨o, h1, rfl, fun r' e' => by rw [h2 r' e']; exact hk2⟩
end
@[simp] theorem zi9 {α : Type} (c : Nat) : ∀ l : List α, (l.map fun _ => c).sum = l.length * c
  | [] => by simp
  | x :: l => by simp only [List.map_cons, List.sum_cons, zi9 c l, List.length_cons, Nat.add_mul]; omega
abbrev xI (x : Int) : E := .one (.t none (.sc (.int .i64 x)))
theorem ziV {a b : Fr} (h : z4g a b) : z4g a b := h
section
variable {P : Program} {C : z0b} {cf : Cfg} {LF : Nat} {c : Code} {fr : Fr}
theorem zcy {Q : X -> Fr -> Prop} {id i : Nat} (h : z3B id Q (.x i) fr) : z3B id Q (.x i) fr := h
theorem zb2 {Q : X -> Fr -> Prop} (h : wpC P C cf LF c fr Q) : wpC P C cf LF c fr Q := h
theorem zcs {wio : FuncId -> Nat -> Bool} {M : List Nat} {ops : Array Oper} {l : List (Nat × Nat)} {Q : Fr -> Prop} (h : z3T P C wio M ops l fr Q) : z3T P C wio M ops l fr Q := h
theorem zbA {l : List Oper} {Q : Fr -> Prop} (h : ∃ fr2, z2w P l fr = some fr2 /\ Q fr2) : ∃ fr2, z2w P l fr = some fr2 /\ Q fr2 := h
theorem tpN {i : Nat} {t : SchT} {Q : Fr -> Prop} (e : t = .nil) (h : Q fr) : z2E P C cf c i t fr Q := by subst e; exact zke h
theorem tpA {i : Nat} {t a b : SchT} {Q : Fr -> Prop} (e : t = .alt a b) (h : z2E P C cf c i a fr (fun x => z2E P C cf c i b fr (fun y => z4g x y) /\ Q x)) : z2E P C cf c i t fr Q := by subst e; exact zjj h
theorem tpO {i k m : Nat} {t rest : SchT} {o : Oper} {fr1 : Fr} {Q : Fr -> Prop} (e : t = .op k m rest) (ho : zc7 c k = some o) (hg : o.guard = none) (hs : z0d P C cf.wio (cf.wr i).isEmpty (cf.wr i).contains fr o m = some fr1) (h : z2E P C cf c i rest fr1 Q) : z2E P C cf c i t fr Q := by subst e; exact zlk ho hg hs h
theorem tpT {i k m : Nat} {t rest : SchT} {o : Oper} {g : Option (Option Nat × Bool)} {fr1 : Fr} {Q : Fr -> Prop} (e : t = .op k m rest) (ho : zc7 c k = some o) (hg : zjF c o = some g) (hv : zj8 g fr = some true) (hs : z0d P C cf.wio (cf.wr i).isEmpty (cf.wr i).contains fr o m = some fr1) (h : z2E P C cf c i rest fr1 Q) : z2E P C cf c i t fr Q := by subst e; exact zll ho hg hv hs h
theorem tpF {i k m : Nat} {t rest : SchT} {o : Oper} {g : Option (Option Nat × Bool)} {fr1 : Fr} {Q : Fr -> Prop} (e : t = .op k m rest) (ho : zc7 c k = some o) (hg : zjF c o = some g) (hv : zj8 g fr = some false) (hs : nrmO? (putF fr o.dst (.one (.k undef))) = some fr1) (h : z2E P C cf c i rest fr1 Q) : z2E P C cf c i t fr Q := by subst e; exact zlm ho hg hv hs h
theorem zct {i : Nat} {t : SchT} {Q : Fr -> Prop} (h : z2E P C cf c i t fr Q) : z2E P C cf c i t fr Q := h
end
theorem zfQ {G : Prop} (g : G := by
  repeat' (first
    | with_reducible refine z0o ?_
    | with_reducible refine z2O ?_
    | with_reducible refine z4u ?_
    | with_reducible refine z2i ?_
    | ((with_reducible refine zcy ?_); first | refine z0V rfl ?_ | refine z1I rfl ?_)
    | with_reducible refine z3A ?_
    | (revert h; with_reducible refine ziX fun h => ?_)
    | (revert h; with_reducible refine ziY fun h => ?_)
    | ((with_reducible refine ziZ h ?_); simp [*, z6H, z6W, z7q, Hd.H]; done)
    | (revert h; first
      | with_reducible refine z7u
      | with_reducible refine z7w fun _ _ h => ?_
      | with_reducible refine zav fun _ _ h => ?_
      | with_reducible refine zbU fun _ _ _ h => ?_
      | with_reducible refine zio fun _ _ _ _ h => ?_
      | with_reducible refine zbS fun _ _ _ _ h => ?_
      | with_reducible refine z7t fun _ _ _ _ h => ?_
      | with_reducible refine zc0 fun _ h => ?_
      | with_reducible refine z9u (by assumption) (by assumption) fun h => ?_
      | with_reducible refine z7v (by assumption) fun h => ?_
      | with_reducible refine zj2 (by assumption) fun h => ?_
      | with_reducible refine z4E (by assumption) fun h => ?_
      | with_reducible refine zc2 fun _ _ _ _ _ _ k k1 k2 h => ?_
      | with_reducible refine zc1 fun _ _ _ _ k k1 h => ?_
      | with_reducible refine zc3 fun _ _ _ _ k k1 h => ?_
      | with_reducible refine p_0 fun _ _ _ _ _ h => ?_
      | with_reducible refine zbV fun _ _ _ _ _ h => ?_
      | with_reducible refine zbT fun _ _ _ _ _ h => ?_
      | with_reducible refine zj1 fun _ _ _ _ _ _ h => ?_
      | with_reducible refine z7y fun _ _ _ _ _ h => ?_
      | ((with_reducible refine z3w fun _ _ _ _ _ _ _ k k2 h => ?_); try simp at k; try simp only [Int.reduceToNat, Int.toNat_natCast, Nat.sub_zero] at k2)
      | ((with_reducible refine z3v fun _ _ _ _ _ _ _ k k2 h => ?_); try simp at k; try simp only [Int.reduceToNat, Int.toNat_natCast, Nat.sub_zero] at k2)
      | ((with_reducible refine z3u fun _ _ _ _ _ _ _ k h => ?_); try simp only [Int.reduceToNat, Int.toNat_natCast] at k)
      | ((with_reducible refine z4F (fun _ k h => ?_) fun _ k h => ?_) <;> (try simp at k))
      | ((with_reducible refine z7x fun _ _ k h => ?_); try simp at k))
    | ((with_reducible refine zb2 ?_); first
      | refine zq rfl ?_
      | refine zb rfl ?_
      | refine z4B rfl ?_
      | refine z4m rfl ?_
      | refine z4D rfl ?_
      | refine z4n rfl ?_
      | refine zat rfl ?_
      | refine zr rfl rfl rfl (by simp [*]; with_reducible rfl) ?_
      | refine z3C rfl rfl rfl rfl ?_
      | refine z6n rfl rfl rfl rfl ?_
      | refine z7F rfl (by first | (simp [*]; done) | fail) ?_
      | refine z7G rfl (by first | (simp [*]; done) | fail) ?_
      | refine zbO rfl rfl (by simp [*]; rfl) ?_
      | (refine z4C rfl rfl h (by simp [*]; rfl) (by first | (simp [*, z6H, z6W, z7q, Hd.H]; done) | fail) ?_; clear h; (repeat' refine z2m fun _ => ?_); intro _ _ h; simp only [z6H, z6W, z7q, Hd.H, Nat.reduceEqDiff, if_true, if_false]))
    | ((with_reducible refine zcs ?_); first
      | (refine z1x rfl rfl fun Q' hQ => ?_; simp [*]; refine hQ.out _ ?_; clear hQ; clear Q')
      | (refine z1i rfl rfl fun Q1 Q2 h1 h2 => ?_; simp [*, z2J]; (first | refine h1.out ?_ | refine h2.out ?_); clear h1 h2; clear Q1 Q2; intro Q' hQ; simp [*]; refine hQ.out _ ?_; clear hQ; clear Q')
      | (refine z1n rfl fun Q' hQ => ?_; simp [*]; refine hQ.out _ ?_; clear hQ; clear Q'))
    | ((with_reducible refine zct ?_); first
      | refine tpN rfl ?_
      | refine tpA rfl ?_
      | refine tpO rfl rfl rfl (by simp [*, z0d, z0e]; rfl) ?_
      | refine tpT rfl rfl rfl (by first | (simp [*]; done) | fail) (by simp [*, z0d, z0e]; rfl) ?_
      | refine tpF rfl rfl rfl (by first | (simp [*]; done) | fail) (by simp [*]; rfl) ?_)
    | ((with_reducible refine zbA ?_); refine z6i rfl (by simp [*]; rfl) ?_)
    | ((with_reducible refine And.intro ?_ ?_); rotate_left)
    | ((with_reducible refine ziV ?_); simp [*, z4g]; done)
    | (revert h; first
      | with_reducible refine zbX (fun _ h => ?_) fun _ h => ?_
      | with_reducible refine zbY (fun _ h => ?_) fun _ h => ?_
      | with_reducible refine zbZ (fun _ _ h => ?_) fun _ _ h => ?_
      | with_reducible refine zbW (fun _ _ _ h => ?_) fun _ _ h => ?_
      | with_reducible refine zj0 (fun _ h => ?_) fun _ h => ?_
      | ((with_reducible refine z7s fun h => ?_); cases h; simp [*]; done)))) : G := g
end
section
open Go
structure Tape where
  l : List Int
  at_ : Int
deriving Inhabited
structure DFA where
  letters : Int
  start : Int
  final : List Bool
  next : List (List Int)
deriving Inhabited
structure Imgs where
  sets : List Int
  class_ : List Int
  height : List Int
  tiles : List (List Int)
  words : List ByteArray
  back : List ByteArray
deriving Inhabited
structure Dgm where
  sets : List Int
  next : List (List Int)
  below : List (List Bool)
deriving Inhabited
structure Hol where
  set : Int
  tiles : List Int
  words : List ByteArray
  perms : List (List Int)
deriving Inhabited
instance : IsS Hol := ⟨⟩
end
section
attribute [simp] undef scB ext z1b z2o Function.comp_def z9Z zcH z7H zd4 nav sub upd z1T z3h z0W z9o z0w zft z2N zkB z3k z5A zem zfs onA kill z1M z9O z9r setCells z5Y z7e zjK z2j zcf z6p zit z5S z7k setT moveT zeX zdQ plugL' zfp zf1 z2L zkx zkw zj4 zkI zkH nrmO? plugL putR z4Q explode cellsE z2c rdV scE ziK ziJ zhE zfj zf8 zfc zfa zf9 zfi zh6 zf7 zaD zfh zfb zfd zfe zff zfg zeS zeP zeQ zeR zeT zef zeg zeh zei zgB zgC zgD zgE ziw zhe zib zic List.map_flatMap zdS zc6 zer z1U zkG unS zlv zlw zen opE zk7 zde zf5 zeZ zhN zo1 z5i ze5 zhQ zdO z7Z zl7 z5B zh5 ziF zjT z4z z4L z5q z3D z7I zhP ziq zez zlg z9t zh3 z4I z4O z5o z2k z1H z2Z zgt zbB z4g zhF zaU znt zk3 zgP zh4 z9l zaV zjJ z5n zaW zjB zis zes zle zdj zkX opn z9p z3a zdJ zjY zhI zlh z1z z9A z4r z9a clB ioF zlp zl2 z6F z4A putF opF zdn z2R zj8 zcS z5t z4M onE ids z9w z9v z4o zfk z4p z2w z5z z3y z3o z3S zkl zgH zbC z5s z7r zks zf0 zc5 zd5 zgQ zl8 zkr zcz zkq z9y zcB znX zo0 znW znZ zlO z4P z0e wrF z6r noM zli zla zkK zk6 ze2 zkn zaB zaz zcg z8O zjE z7X zlf zhz z6s z5U zd1 zcr z9Y zjN zjM Option.map_some zaO zhm
end
section
open Go
def z9x : List T -> Option (List Int)
  | [] => some []
  | .sc (.int .i64 x) :: l => (z9x l).map (x :: ·)
  | _ => none
theorem z4J : ∀ xs : List Int, z9x (xs.map fun x => .sc (.int .i64 x)) = some xs
  | [] => rfl
  | x :: xs => by simp [z9x, z4J xs]
theorem z4K : ∀ {cs : List T} {xs : List Int}, z9x cs = some xs -> cs = xs.map fun x => .sc (.int .i64 x)
  | [], xs, h => by simp [z9x] at h; subst h; rfl
  | c :: cs, xs, h => by
    unfold z9x at h
    split at h
    · rename_i he; cases he
    · rename_i x l he
      cases he
      simp only [Option.map_eq_some_iff] at h
      obtain ⟨ys, hy, rfl⟩ := h
      simp [← z4K hy]
    · cases h
def szN (s : Nat) : Nat := (List.range 7).countP fun q => s.testBit q
def znk (p r : Nat) : Bool := decide (szN r < szN p) || (decide (szN p = szN r) && decide (p <= r))
def leI (a b : Int) : Bool := znk a.toNat b.toNat
def zjD (x : Int) : List Int -> List Int
  | [] => [x]
  | y :: l => if leI x y = true then x :: y :: l else y :: zjD x l
def z7E : List Int -> List Int
  | [] => []
  | x :: l => zjD x (z7E l)
def zhW (xs : List Int) : Option (List Int) := if xs ≠ [] /\ xs.length < 4611686018427387904 /\ xs.all (fun x => decide (0 <= x /\ x < 128)) = true then some (z7E xs) else none
def zhR (fn : FuncId) (args : List T) : Option (T × List T) := match args with
  | [.os 1 n cs, .sc (.func (.func f) fs gs)] => if f = fn /\ fs.isEmpty /\ gs.isEmpty then (match z9x cs with | some xs => if xs.length = n then (zhW xs).map fun ys => (.tup [], [.os 1 ys.length (ys.map fun x => .sc (.int .i64 x)), .dead]) else none | none => none) else none
  | _ => none
def zcD (x : List Int) : T := .sl x.length (x.map fun z => .sc (.int .i64 z))
def zcQ : List T -> Option (List (List Int))
  | [] => some []
  | .sl n cs :: l => (match z9x cs with | some x => if x.length = n then (zcQ l).map (x :: ·) else none | none => none)
  | _ => none
theorem zbI : ∀ xs : List (List Int), zcQ (xs.map zcD) = some xs
  | [] => rfl
  | x :: xs => by simp [zcD, zcQ, z4J, zbI xs]
theorem zbJ : ∀ {cs : List T} {xs : List (List Int)}, zcQ cs = some xs -> cs = xs.map zcD
  | [], xs, h => by simp [zcQ] at h; subst h; rfl
  | c :: cs, xs, h => by
    unfold zcQ at h
    split at h
    · rename_i he; cases he
    · rename_i n es l he
      cases he
      split at h
      case h_2 => cases h
      rename_i x hx
      split at h
      case isFalse => cases h
      rename_i hn
      simp only [Option.map_eq_some_iff] at h
      obtain ⟨ys, hy, rfl⟩ := h
      subst hn
      rw [z4K hx, zbJ hy, List.map_cons, zcD]
    · cases h
def zjC (x : List Int) : List (List Int) -> List (List Int)
  | [] => [x]
  | y :: l => if z2p x y <= 0 then x :: y :: l else y :: zjC x l
def z5O : List (List Int) -> List (List Int)
  | [] => []
  | x :: l => zjC x (z5O l)
def zeD (xs : List (List Int)) : Option (List (List Int)) := if xs ≠ [] /\ xs.length < 4611686018427387904 then some (z5O xs) else none
def zhS (fn : FuncId) (args : List T) : Option (T × List T) := match args with
  | [.os 1 n cs, .sc (.func (.func f) fs gs)] => if f = fn /\ fs.isEmpty /\ gs.isEmpty then (match zcQ cs with | some xs => if xs.length = n then (zeD xs).map fun ys => (.tup [], [.os 1 ys.length (ys.map zcD), .dead]) else none | none => none) else none
  | _ => none
def z9C (xs : List Int) : Option (List Int) := if xs ≠ [] /\ xs.length < 4611686018427387904 then some (xs.mergeSort fun x y => decide (x <= y)) else none
def zdo (args : List T) : Option (T × List T) := match args with
  | [.os 1 n cs] => (match z9x cs with | some xs => if xs.length = n then (z9C xs).map fun ys => (.tup [], [.os 1 ys.length (ys.map fun x => .sc (.int .i64 x))]) else none | none => none)
  | _ => none
def z9D (xs : List Int) : Option (List Int) := if xs.length * 8 <= 140737488355328 then some xs else none
def zdp (args : List T) : Option (T × List T) := match args with
  | [.sl n cs] => (match z9x cs with | some xs => if xs.length = n then (z9D xs).map fun ys => (.os 1 ys.length (ys.map fun x => .sc (.int .i64 x)), [.dead]) else none | none => none)
  | _ => none
def xtC : z0b := fun f args => if f = 75 then zhR 76 args else if f = 41 then zhS 42 args else if f = 117 then zdo args else if f = 116 then zdp args else none
end
section
open Go
set_option maxRecDepth 100000
@[simp] theorem ty3 : z1e Tryz.prog 3 = some ⟨.int .i64, 1, 8, (some [(.sc (.int .i64 0))])⟩ := by kernel_rfl
@[simp] theorem ty4 : z1e Tryz.prog 4 = some ⟨.bool, 1, 1, (some [(.sc (.bool false))])⟩ := by kernel_rfl
@[simp] theorem ty5 : z1e Tryz.prog 5 = some ⟨.int .u8, 1, 1, (some [(.sc (.int .u8 0))])⟩ := by kernel_rfl
@[simp] theorem ty9 : z1e Tryz.prog 9 = some ⟨.string, 1, 16, (some [(.sc (.string ByteArray.empty))])⟩ := by kernel_rfl
@[simp] theorem ty22 : z1e Tryz.prog 22 = some ⟨.slice 3, 1, 24, (some [(.os 1 0 [])])⟩ := by kernel_rfl
@[simp] theorem ty23 : z1e Tryz.prog 23 = some ⟨.pointer 53, 1, 8, (some [(.sc (.pointer none))])⟩ := by kernel_rfl
@[simp] theorem ty25 : z1e Tryz.prog 25 = some ⟨.slice 4, 1, 24, (some [(.os 1 0 [])])⟩ := by kernel_rfl
@[simp] theorem ty26 : z1e Tryz.prog 26 = some ⟨.slice 22, 1, 24, (some [(.os 1 0 [])])⟩ := by kernel_rfl
noncomputable def zo7 : Array Field := match Tryz.prog.underlying 28 with | some (.struct fs) => fs | _ => #[]
@[simp] theorem ty28 : z1e Tryz.prog 28 = some ⟨.struct zo7, 4, 64, (some [(.sc (.int .i64 0)), (.sc (.int .i64 0)), (.os 1 0 []), (.os 1 0 [])])⟩ := by kernel_rfl
@[simp] theorem fi28_0 : z1a Tryz.prog 28 0 = some (0, 1, false) := by kernel_rfl
@[simp] theorem fi28_1 : z1a Tryz.prog 28 1 = some (1, 1, false) := by kernel_rfl
@[simp] theorem fi28_2 : z1a Tryz.prog 28 2 = some (2, 1, false) := by kernel_rfl
@[simp] theorem fi28_3 : z1a Tryz.prog 28 3 = some (3, 1, false) := by kernel_rfl
@[simp] theorem znP : z5N Tryz.prog 28 = (some [(.sc (.int .i64 0)), (.sc (.int .i64 0)), (.os 1 0 []), (.os 1 0 [])]) := by kernel_rfl
@[simp] theorem bs28 (fr : Fr) (parts : List (Nat × Operand)) : z5C Tryz.prog fr 28 parts = match z4O fr (z1a Tryz.prog 28) ([(.sc (.int .i64 0)), (.sc (.int .i64 0)), (.os 1 0 []), (.os 1 0 [])].map (A.t none)) parts with | some xs => some (E.ag xs) | none => none := z2s znP fr parts
@[simp] theorem ty31 : z1e Tryz.prog 31 = some ⟨.slice 9, 1, 24, (some [(.os 1 0 [])])⟩ := by kernel_rfl
noncomputable def zo6 : Array Field := match Tryz.prog.underlying 33 with | some (.struct fs) => fs | _ => #[]
@[simp] theorem ty33 : z1e Tryz.prog 33 = some ⟨.struct zo6, 4, 80, (some [(.sc (.int .i64 0)), (.os 1 0 []), (.os 1 0 []), (.os 1 0 [])])⟩ := by kernel_rfl
@[simp] theorem fi33_0 : z1a Tryz.prog 33 0 = some (0, 1, false) := by kernel_rfl
@[simp] theorem fi33_1 : z1a Tryz.prog 33 1 = some (1, 1, false) := by kernel_rfl
@[simp] theorem fi33_2 : z1a Tryz.prog 33 2 = some (2, 1, false) := by kernel_rfl
@[simp] theorem fi33_3 : z1a Tryz.prog 33 3 = some (3, 1, false) := by kernel_rfl
@[simp] theorem znO : z5N Tryz.prog 33 = (some [(.sc (.int .i64 0)), (.os 1 0 []), (.os 1 0 []), (.os 1 0 [])]) := by kernel_rfl
@[simp] theorem bs33 (fr : Fr) (parts : List (Nat × Operand)) : z5C Tryz.prog fr 33 parts = match z4O fr (z1a Tryz.prog 33) ([(.sc (.int .i64 0)), (.os 1 0 []), (.os 1 0 []), (.os 1 0 [])].map (A.t none)) parts with | some xs => some (E.ag xs) | none => none := z2s znO fr parts
@[simp] theorem ty34 : z1e Tryz.prog 34 = some ⟨.int .i64, 1, 8, (some [(.sc (.int .i64 0))])⟩ := by kernel_rfl
@[simp] theorem ty41 : z1e Tryz.prog 41 = some ⟨.slice 33, 1, 24, (some [(.os 4 0 [])])⟩ := by kernel_rfl
noncomputable def zo5 : Array Field := match Tryz.prog.underlying 53 with | some (.struct fs) => fs | _ => #[]
@[simp] theorem ty53 : z1e Tryz.prog 53 = some ⟨.struct zo5, 2, 32, (some [(.os 1 0 []), (.sc (.int .i64 0))])⟩ := by kernel_rfl
@[simp] theorem fi53_0 : z1a Tryz.prog 53 0 = some (0, 1, false) := by kernel_rfl
@[simp] theorem fi53_1 : z1a Tryz.prog 53 1 = some (1, 1, false) := by kernel_rfl
@[simp] theorem znN : z5N Tryz.prog 53 = (some [(.os 1 0 []), (.sc (.int .i64 0))]) := by kernel_rfl
@[simp] theorem bs53 (fr : Fr) (parts : List (Nat × Operand)) : z5C Tryz.prog fr 53 parts = match z4O fr (z1a Tryz.prog 53) ([(.os 1 0 []), (.sc (.int .i64 0))].map (A.t none)) parts with | some xs => some (E.ag xs) | none => none := z2s znN fr parts
noncomputable def zo4 : Array Field := match Tryz.prog.underlying 59 with | some (.struct fs) => fs | _ => #[]
@[simp] theorem ty59 : z1e Tryz.prog 59 = some ⟨.struct zo4, 6, 144, (some [(.os 1 0 []), (.os 1 0 []), (.os 1 0 []), (.os 1 0 []), (.os 1 0 []), (.os 1 0 [])])⟩ := by kernel_rfl
@[simp] theorem fi59_0 : z1a Tryz.prog 59 0 = some (0, 1, false) := by kernel_rfl
@[simp] theorem fi59_1 : z1a Tryz.prog 59 1 = some (1, 1, false) := by kernel_rfl
@[simp] theorem fi59_2 : z1a Tryz.prog 59 2 = some (2, 1, false) := by kernel_rfl
@[simp] theorem fi59_3 : z1a Tryz.prog 59 3 = some (3, 1, false) := by kernel_rfl
@[simp] theorem fi59_4 : z1a Tryz.prog 59 4 = some (4, 1, false) := by kernel_rfl
@[simp] theorem fi59_5 : z1a Tryz.prog 59 5 = some (5, 1, false) := by kernel_rfl
@[simp] theorem znM : z5N Tryz.prog 59 = (some [(.os 1 0 []), (.os 1 0 []), (.os 1 0 []), (.os 1 0 []), (.os 1 0 []), (.os 1 0 [])]) := by kernel_rfl
@[simp] theorem bs59 (fr : Fr) (parts : List (Nat × Operand)) : z5C Tryz.prog fr 59 parts = match z4O fr (z1a Tryz.prog 59) ([(.os 1 0 []), (.os 1 0 []), (.os 1 0 []), (.os 1 0 []), (.os 1 0 []), (.os 1 0 [])].map (A.t none)) parts with | some xs => some (E.ag xs) | none => none := z2s znM fr parts
@[simp] theorem ty62 : z1e Tryz.prog 62 = some ⟨.map 3 3, 1, 8, (some [(.sc (.map none))])⟩ := by kernel_rfl
@[simp] theorem mt62 : zc9 Tryz.prog 62 = some ((some .i64), 3) := by kernel_rfl
@[simp] theorem zv62 : zfK Tryz.prog 3 = some (.int .i64 0) := by kernel_rfl
@[simp] theorem ty67 : z1e Tryz.prog 67 = some ⟨.slice 5, 1, 24, (some [(.os 1 0 [])])⟩ := by kernel_rfl
@[simp] theorem ty75 : z1e Tryz.prog 75 = some ⟨.map 9 4, 1, 8, (some [(.sc (.map none))])⟩ := by kernel_rfl
@[simp] theorem mt75 : zc9 Tryz.prog 75 = some (none, 4) := by kernel_rfl
@[simp] theorem zv75 : zfK Tryz.prog 4 = some (.bool false) := by kernel_rfl
@[simp] theorem ty85 : z1e Tryz.prog 85 = some ⟨.slice 25, 1, 24, (some [(.os 1 0 [])])⟩ := by kernel_rfl
noncomputable def zo3 : Array Field := match Tryz.prog.underlying 87 with | some (.struct fs) => fs | _ => #[]
@[simp] theorem ty87 : z1e Tryz.prog 87 = some ⟨.struct zo3, 3, 72, (some [(.os 1 0 []), (.os 1 0 []), (.os 1 0 [])])⟩ := by kernel_rfl
@[simp] theorem fi87_0 : z1a Tryz.prog 87 0 = some (0, 1, false) := by kernel_rfl
@[simp] theorem fi87_1 : z1a Tryz.prog 87 1 = some (1, 1, false) := by kernel_rfl
@[simp] theorem fi87_2 : z1a Tryz.prog 87 2 = some (2, 1, false) := by kernel_rfl
@[simp] theorem znL : z5N Tryz.prog 87 = (some [(.os 1 0 []), (.os 1 0 []), (.os 1 0 [])]) := by kernel_rfl
@[simp] theorem bs87 (fr : Fr) (parts : List (Nat × Operand)) : z5C Tryz.prog fr 87 parts = match z4O fr (z1a Tryz.prog 87) ([(.os 1 0 []), (.os 1 0 []), (.os 1 0 [])].map (A.t none)) parts with | some xs => some (E.ag xs) | none => none := z2s znL fr parts
@[simp] theorem ty98 : z1e Tryz.prog 98 = some ⟨.int .u64, 1, 8, (some [(.sc (.int .u64 0))])⟩ := by kernel_rfl
@[simp] theorem ty117 : z1e Tryz.prog 117 = some ⟨.int .u32, 1, 4, (some [(.sc (.int .u32 0))])⟩ := by kernel_rfl
@[simp] theorem ty119 : z1e Tryz.prog 119 = some ⟨.int .u64, 1, 8, (some [(.sc (.int .u64 0))])⟩ := by kernel_rfl
def cf3 : Cfg := { wio := fun f i => (f == 8 && (i == 0)) || (f == 13 && (i == 0)) || (f == 14 && (i == 0)) || (f == 18 && (i == 0)) || (f == 7 && (i == 0)) || (f == 999999 && (i == 0)) || (f == 777777 && (i == 9 || i == 10)), live := fun r => if r = 5 then some [4, 5, 24, 25] else if r = 10 then some [4, 5, 7] else if r = 14 then some [4, 5, 7, 8, 43, 44] else none, dr := fun r => none }
@[simp] theorem wio3 : cf3.wio = fun f i => (f == 8 && (i == 0)) || (f == 13 && (i == 0)) || (f == 14 && (i == 0)) || (f == 18 && (i == 0)) || (f == 7 && (i == 0)) || (f == 999999 && (i == 0)) || (f == 777777 && (i == 9 || i == 10)) := rfl
@[simp] theorem live3 : cf3.live = fun r => if r = 5 then some [4, 5, 24, 25] else if r = 10 then some [4, 5, 7] else if r = 14 then some [4, 5, 7, 8, 43, 44] else none := rfl
@[simp] theorem wr3 : cf3.wr = fun _ => [] := rfl
def cf6 : Cfg := { wio := fun f i => (f == 999999 && (i == 0)), live := fun r => none, dr := fun r => none }
@[simp] theorem wio6 : cf6.wio = fun f i => (f == 999999 && (i == 0)) := rfl
@[simp] theorem live6 : cf6.live = fun r => none := rfl
@[simp] theorem wr6 : cf6.wr = fun _ => [] := rfl
def zdq : SchT := .nil
def zdr : SchT := .op 16 2 zdq
def zds : SchT := .op 15 0 zdr
def zdt : SchT := .op 14 2 zds
def za3 : SchT := .op 12 2 zdt
def za4 : SchT := .op 11 1 za3
def za5 : SchT := .op 13 3 za3
def z6e : SchT := .op 6 2 za5
def za6 : SchT := .op 8 2 za5
def zdu : SchT := .op 10 1 za4
def za7 : SchT := .op 13 3 za4
def z7J : SchT := .op 1 2 z6e
def z6f : SchT := .op 5 1 z6e
def z7K : SchT := .alt (.op 6 2 za6) (.op 8 2 z6e)
def z6g : SchT := .alt (.op 6 2 za7) (.op 11 1 z6e)
def za8 : SchT := .alt (.op 8 2 za7) (.op 11 1 za6)
def za9 : SchT := .op 13 3 zdu
def z7L : SchT := .alt (.op 1 2 z6f) (.op 5 1 z7J)
def zaa : SchT := .alt (.op 1 2 z7K) (.op 8 2 z7J)
def z7M : SchT := .alt (.op 1 2 z6g) (.op 11 1 z7J)
def zdv : SchT := .op 4 0 z6f
def z7N : SchT := .alt (.op 5 1 z7K) (.op 8 2 z6f)
def z6h : SchT := .alt (.op 5 1 z6g) (.op 11 1 z6f)
def z7O : SchT := .alt (.op 6 2 za8) (.alt (.op 8 2 z6g) (.op 11 1 z7K))
def z7P : SchT := .alt (.op 6 2 za9) (.op 10 1 z6g)
def zdw : SchT := .alt (.op 8 2 za9) (.op 10 1 za8)
def zdx : SchT := .op 4 3 z7L
def zab : SchT := .alt (.op 1 2 z7N) (.alt (.op 5 1 zaa) (.op 8 2 z7L))
def z7Q : SchT := .alt (.op 1 2 z6h) (.alt (.op 5 1 z7M) (.op 11 1 z7L))
def zac : SchT := .alt (.op 1 2 z7O) (.alt (.op 8 2 z7M) (.op 11 1 zaa))
def zad : SchT := .alt (.op 1 2 z7P) (.op 10 1 z7M)
def z7R : SchT := .op 3 1 zdv
def zdy : SchT := .op 4 3 z7N
def zdz : SchT := .op 4 0 z6h
def z7S : SchT := .alt (.op 5 1 z7O) (.alt (.op 8 2 z6h) (.op 11 1 z7N))
def z7T : SchT := .alt (.op 5 1 z7P) (.op 10 1 z6h)
def zae : SchT := .alt (.op 6 2 zdw) (.alt (.op 8 2 z7P) (.op 10 1 z7O))
def zaf : SchT := .alt (.op 1 2 z7R) (.op 3 1 zdx)
def zdA : SchT := .op 4 3 zab
def zdB : SchT := .op 4 3 z7Q
def zag : SchT := .alt (.op 1 2 z7S) (.alt (.op 5 1 zac) (.alt (.op 8 2 z7Q) (.op 11 1 zab)))
def zah : SchT := .alt (.op 1 2 z7T) (.alt (.op 5 1 zad) (.op 10 1 z7Q))
def zdC : SchT := .alt (.op 1 2 zae) (.alt (.op 8 2 zad) (.op 10 1 zac))
def zai : SchT := .alt (.op 3 1 zdy) (.op 8 2 z7R)
def z7U : SchT := .alt (.op 3 1 zdz) (.op 11 1 z7R)
def zdD : SchT := .op 4 3 z7S
def zdE : SchT := .op 4 0 z7T
def zaj : SchT := .alt (.op 5 1 zae) (.alt (.op 8 2 z7T) (.op 10 1 z7S))
def zdF : SchT := .alt (.op 1 2 zai) (.alt (.op 3 1 zdA) (.op 8 2 zaf))
def zak : SchT := .alt (.op 1 2 z7U) (.alt (.op 3 1 zdB) (.op 11 1 zaf))
def zdG : SchT := .op 4 3 zag
def zdH : SchT := .op 4 3 zah
def zdI : SchT := .alt (.op 1 2 zaj) (.alt (.op 5 1 zdC) (.alt (.op 8 2 zah) (.op 10 1 zag)))
def zal : SchT := .alt (.op 3 1 zdD) (.alt (.op 8 2 z7U) (.op 11 1 zai))
def zam : SchT := .alt (.op 3 1 zdE) (.op 10 1 z7U)
def zgg : SchT := .op 4 3 zaj
def zgh : SchT := .alt (.op 1 2 zal) (.alt (.op 3 1 zdG) (.alt (.op 8 2 zak) (.op 11 1 zdF)))
def zgi : SchT := .alt (.op 1 2 zam) (.alt (.op 3 1 zdH) (.op 10 1 zak))
def zgj : SchT := .op 4 3 zdI
def zgk : SchT := .alt (.op 3 1 zgg) (.alt (.op 8 2 zam) (.op 10 1 zal))
def zgl : SchT := .alt (.op 1 2 zgk) (.alt (.op 3 1 zgj) (.alt (.op 8 2 zgi) (.op 10 1 zgh)))
def zgm : SchT := .op 9 3 zgl
def zgn : SchT := .op 7 3 zgm
def zgo : SchT := .op 2 3 zgn
def zgp : SchT := .op 0 3 zgo
def cf7 : Cfg := { wio := fun f i => (f == 8 && (i == 0)) || (f == 999999 && (i == 0)), live := fun r => if r = 5 then some [0, 1, 6, 7, 8, 9] else if r = 9 then some [0, 1, 6, 7, 8, 10] else if r = 13 then some [0, 1, 6, 7, 8, 10, 11, 12] else if r = 17 then some [0, 1, 6, 7, 8, 10, 11, 13] else none, dr := fun r => if r = 20 then some [(0, 0), (1, 0), (2, 0), (3, 0), (4, 0), (5, 0), (6, 0), (7, 0), (8, 0), (9, 0), (10, 0), (11, 2)] else if r = 21 then some [(1, 0), (2, 0), (3, 0), (5, 3), (6, 3), (7, 3), (8, 3), (0, 1), (4, 2), (9, 2), (10, 0)] else none, wr := fun r => if r = 7 then [0] else [], fz := fun r => if r = 999998 then some [] else none, dt := fun r => if r = 7 then some (zgp) else none }
@[simp] theorem wio7 : cf7.wio = fun f i => (f == 8 && (i == 0)) || (f == 999999 && (i == 0)) := rfl
@[simp] theorem live7 : cf7.live = fun r => if r = 5 then some [0, 1, 6, 7, 8, 9] else if r = 9 then some [0, 1, 6, 7, 8, 10] else if r = 13 then some [0, 1, 6, 7, 8, 10, 11, 12] else if r = 17 then some [0, 1, 6, 7, 8, 10, 11, 13] else none := rfl
@[simp] theorem wr7 : cf7.wr = fun r => if r = 7 then [0] else [] := rfl
def cf8 : Cfg := { wio := fun f i => (f == 999999 && (i == 0)), live := fun r => none, dr := fun r => if r = 1 then some [(0, 0), (1, 0), (2, 0), (3, 0), (4, 0), (5, 0), (6, 0), (7, 0), (8, 0), (9, 0)] else if r = 4 then some [(0, 0), (1, 0), (2, 0), (3, 0), (4, 0), (5, 0), (6, 0), (7, 0), (8, 0), (9, 0), (10, 0), (11, 0), (12, 1), (13, 0)] else none }
@[simp] theorem wio8 : cf8.wio = fun f i => (f == 999999 && (i == 0)) := rfl
@[simp] theorem live8 : cf8.live = fun r => none := rfl
@[simp] theorem wr8 : cf8.wr = fun _ => [] := rfl
def cf9 : Cfg := { wio := fun f i => (f == 999999 && (i == 0)), live := fun r => if r = 6 then some [1, 5, 26, 27] else none, dr := fun r => none, fz := fun r => if r = 999998 then some [] else none }
@[simp] theorem wio9 : cf9.wio = fun f i => (f == 999999 && (i == 0)) := rfl
@[simp] theorem live9 : cf9.live = fun r => if r = 6 then some [1, 5, 26, 27] else none := rfl
@[simp] theorem wr9 : cf9.wr = fun _ => [] := rfl
def cf10 : Cfg := { wio := fun f i => (f == 999999 && (i == 0)) || (f == 777777 && (i == 24)), live := fun r => if r = 6 then some [1, 4, 5, 23, 24] else if r = 11 then some [1, 4, 5, 33, 34, 35] else none, dr := fun r => none, fz := fun r => if r = 16 then some [5] else if r = 999998 then some [] else none }
@[simp] theorem wio10 : cf10.wio = fun f i => (f == 999999 && (i == 0)) || (f == 777777 && (i == 24)) := rfl
@[simp] theorem live10 : cf10.live = fun r => if r = 6 then some [1, 4, 5, 23, 24] else if r = 11 then some [1, 4, 5, 33, 34, 35] else none := rfl
@[simp] theorem wr10 : cf10.wr = fun _ => [] := rfl
def cf11 : Cfg := { wio := fun f i => (f == 999999 && (i == 0)), live := fun r => if r = 4 then some [0, 1, 12, 13] else none, dr := fun r => if r = 6 then some [(0, 0), (1, 0), (2, 0), (3, 0), (4, 0), (5, 0), (6, 0), (7, 0), (8, 1), (9, 0)] else none }
@[simp] theorem wio11 : cf11.wio = fun f i => (f == 999999 && (i == 0)) := rfl
@[simp] theorem live11 : cf11.live = fun r => if r = 4 then some [0, 1, 12, 13] else none := rfl
@[simp] theorem wr11 : cf11.wr = fun _ => [] := rfl
def cf12 : Cfg := { wio := fun f i => (f == 999999 && (i == 0)), live := fun r => none, dr := fun r => none }
@[simp] theorem wio12 : cf12.wio = fun f i => (f == 999999 && (i == 0)) := rfl
@[simp] theorem live12 : cf12.live = fun r => none := rfl
@[simp] theorem wr12 : cf12.wr = fun _ => [] := rfl
def cf15 : Cfg := { wio := fun f i => (f == 999999 && (i == 0)), live := fun r => if r = 6 then some [1, 4, 6, 29, 30, 31] else if r = 13 then some [1, 4, 6, 10, 11, 48, 49, 50] else none, dr := fun r => none, fz := fun r => if r = 11 then some [6] else if r = 999998 then some [] else none, dt := fun r => if r = 15 then some (.op 0 0 (.op 1 0 (.op 2 0 (.op 3 0 (.op 4 0 (.op 5 0 (.op 6 0 (.alt (.op 7 1 (.op 8 0 (.op 9 0 (.op 10 3 (.op 11 1 (.op 12 2 (.op 13 0 .nil))))))) (.op 11 1 (.op 7 1 (.op 8 0 (.op 9 0 (.op 10 3 (.op 12 2 (.op 13 0 .nil))))))))))))))) else none }
@[simp] theorem wio15 : cf15.wio = fun f i => (f == 999999 && (i == 0)) := rfl
@[simp] theorem live15 : cf15.live = fun r => if r = 6 then some [1, 4, 6, 29, 30, 31] else if r = 13 then some [1, 4, 6, 10, 11, 48, 49, 50] else none := rfl
@[simp] theorem wr15 : cf15.wr = fun _ => [] := rfl
def cf16 : Cfg := { wio := fun f i => (f == 999999 && (i == 0)), live := fun r => none, dr := fun r => none }
@[simp] theorem wio16 : cf16.wio = fun f i => (f == 999999 && (i == 0)) := rfl
@[simp] theorem live16 : cf16.live = fun r => none := rfl
@[simp] theorem wr16 : cf16.wr = fun _ => [] := rfl
def cf17 : Cfg := { wio := fun f i => (f == 999999 && (i == 0)), live := fun r => if r = 4 then some [0, 1, 12, 13] else none, dr := fun r => if r = 6 then some [(0, 0), (1, 0), (2, 0), (3, 0), (4, 0), (5, 0), (6, 0), (7, 0), (8, 0)] else none }
@[simp] theorem wio17 : cf17.wio = fun f i => (f == 999999 && (i == 0)) := rfl
@[simp] theorem live17 : cf17.live = fun r => if r = 4 then some [0, 1, 12, 13] else none := rfl
@[simp] theorem wr17 : cf17.wr = fun _ => [] := rfl
def cf21 : Cfg := { wio := fun f i => (f == 999999 && (i == 0)), live := fun r => if r = 2 then some [1, 10, 11, 12] else if r = 8 then some [1, 7, 10, 11, 12, 22, 23, 24] else none, dr := fun r => none }
@[simp] theorem wio21 : cf21.wio = fun f i => (f == 999999 && (i == 0)) := rfl
@[simp] theorem live21 : cf21.live = fun r => if r = 2 then some [1, 10, 11, 12] else if r = 8 then some [1, 7, 10, 11, 12, 22, 23, 24] else none := rfl
@[simp] theorem wr21 : cf21.wr = fun _ => [] := rfl
def cf22 : Cfg := { wio := fun f i => (f == 41 && (i == 0)) || (f == 999999 && (i == 0)), live := fun r => if r = 11 then some [6, 7, 8, 35, 36, 37] else if r = 16 then some [6, 7, 8, 11, 35, 36, 37] else if r = 19 then some [6, 7, 8, 11, 35, 36, 37, 55, 56, 57] else none, dr := fun r => none, fz := fun r => if r = 7 then some [5] else if r = 22 then some [14] else if r = 999998 then some [] else none }
@[simp] theorem wio22 : cf22.wio = fun f i => (f == 41 && (i == 0)) || (f == 999999 && (i == 0)) := rfl
@[simp] theorem live22 : cf22.live = fun r => if r = 11 then some [6, 7, 8, 35, 36, 37] else if r = 16 then some [6, 7, 8, 11, 35, 36, 37] else if r = 19 then some [6, 7, 8, 11, 35, 36, 37, 55, 56, 57] else none := rfl
@[simp] theorem wr22 : cf22.wr = fun _ => [] := rfl
def cf23 : Cfg := { wio := fun f i => (f == 999999 && (i == 0)), live := fun r => none, dr := fun r => none }
@[simp] theorem wio23 : cf23.wio = fun f i => (f == 999999 && (i == 0)) := rfl
@[simp] theorem live23 : cf23.live = fun r => none := rfl
@[simp] theorem wr23 : cf23.wr = fun _ => [] := rfl
def cf24 : Cfg := { wio := fun f i => (f == 999999 && (i == 0)) || (f == 777780 && (i == 22)), live := fun r => if r = 7 then some [0, 5, 6, 7] else if r = 10 then some [0, 5, 6, 7, 30, 31, 32] else none, dr := fun r => none, fz := fun r => if r = 6 then some [6] else if r = 13 then some [10] else if r = 999998 then some [] else none }
@[simp] theorem wio24 : cf24.wio = fun f i => (f == 999999 && (i == 0)) || (f == 777780 && (i == 22)) := rfl
@[simp] theorem live24 : cf24.live = fun r => if r = 7 then some [0, 5, 6, 7] else if r = 10 then some [0, 5, 6, 7, 30, 31, 32] else none := rfl
@[simp] theorem wr24 : cf24.wr = fun _ => [] := rfl
def cf25 : Cfg := { wio := fun f i => (f == 999999 && (i == 0)), live := fun r => if r = 4 then some [0, 1, 17, 18] else if r = 10 then some [0, 1, 6, 7, 17, 18, 62, 63] else if r = 16 then some [0, 1, 6, 7, 17, 18, 80, 81] else if r = 21 then some [0, 1, 6, 7, 9, 17, 18, 80, 81, 102, 103] else none, dr := fun r => if r = 12 then some [(0, 0), (1, 0), (2, 0), (3, 0), (4, 0), (5, 0), (6, 0), (7, 0), (8, 0), (9, 0), (10, 0)] else if r = 18 then some [(0, 0), (1, 0), (2, 0), (3, 0), (4, 0), (5, 0), (6, 0), (7, 0), (8, 0), (9, 0), (10, 0), (11, 0), (12, 0)] else if r = 23 then some [(0, 0), (1, 0), (2, 0), (3, 0), (4, 0), (5, 0), (6, 0), (7, 0), (8, 0), (9, 0), (10, 0), (11, 0), (12, 0), (13, 0), (14, 0), (15, 0), (16, 0)] else none, dt := fun r => if r = 6 then some (.op 0 0 (.op 1 0 (.op 2 0 (.op 3 0 (.op 4 3 (.op 5 3 (.op 6 3 (.op 7 3 (.alt (.op 8 1 (.op 9 1 (.op 10 2 (.op 11 2 .nil)))) (.op 9 1 (.op 8 1 (.op 10 2 (.op 11 2 .nil))))))))))))) else none }
@[simp] theorem wio25 : cf25.wio = fun f i => (f == 999999 && (i == 0)) := rfl
@[simp] theorem live25 : cf25.live = fun r => if r = 4 then some [0, 1, 17, 18] else if r = 10 then some [0, 1, 6, 7, 17, 18, 62, 63] else if r = 16 then some [0, 1, 6, 7, 17, 18, 80, 81] else if r = 21 then some [0, 1, 6, 7, 9, 17, 18, 80, 81, 102, 103] else none := rfl
@[simp] theorem wr25 : cf25.wr = fun _ => [] := rfl
def z9E : SchT := .nil
def z6J : SchT := .op 13 2 z9E
def z3G : SchT := .op 11 0 z6J
def z9F : SchT := .op 12 1 z6J
def z3H : SchT := .op 4 1 z3G
def z3I : SchT := .op 6 1 z3G
def z3J : SchT := .op 8 1 z3G
def z3K : SchT := .op 10 1 z3G
def z3L : SchT := .op 11 0 z9F
def z4U : SchT := .alt (.op 4 1 z3I) (.op 6 1 z3H)
def z4V : SchT := .alt (.op 4 1 z3J) (.op 8 1 z3H)
def z4W : SchT := .alt (.op 4 1 z3K) (.op 10 1 z3H)
def z4X : SchT := .alt (.op 4 1 z3L) (.op 12 1 z3H)
def z4Y : SchT := .alt (.op 6 1 z3J) (.op 8 1 z3I)
def z4Z : SchT := .alt (.op 6 1 z3K) (.op 10 1 z3I)
def z5a : SchT := .alt (.op 6 1 z3L) (.op 12 1 z3I)
def z5b : SchT := .alt (.op 8 1 z3K) (.op 10 1 z3J)
def z5c : SchT := .alt (.op 8 1 z3L) (.op 12 1 z3J)
def z5d : SchT := .alt (.op 10 1 z3L) (.op 12 1 z3K)
def z6K : SchT := .alt (.op 4 1 z4Y) (.alt (.op 6 1 z4V) (.op 8 1 z4U))
def z6L : SchT := .alt (.op 4 1 z4Z) (.alt (.op 6 1 z4W) (.op 10 1 z4U))
def z6M : SchT := .alt (.op 4 1 z5a) (.alt (.op 6 1 z4X) (.op 12 1 z4U))
def z6N : SchT := .alt (.op 4 1 z5b) (.alt (.op 8 1 z4W) (.op 10 1 z4V))
def z6O : SchT := .alt (.op 4 1 z5c) (.alt (.op 8 1 z4X) (.op 12 1 z4V))
def z6P : SchT := .alt (.op 4 1 z5d) (.alt (.op 10 1 z4X) (.op 12 1 z4W))
def z6Q : SchT := .alt (.op 6 1 z5b) (.alt (.op 8 1 z4Z) (.op 10 1 z4Y))
def z6R : SchT := .alt (.op 6 1 z5c) (.alt (.op 8 1 z5a) (.op 12 1 z4Y))
def z6S : SchT := .alt (.op 6 1 z5d) (.alt (.op 10 1 z5a) (.op 12 1 z4Z))
def z6T : SchT := .alt (.op 8 1 z5d) (.alt (.op 10 1 z5c) (.op 12 1 z5b))
def z9G : SchT := .alt (.op 4 1 z6Q) (.alt (.op 6 1 z6N) (.alt (.op 8 1 z6L) (.op 10 1 z6K)))
def z9H : SchT := .alt (.op 4 1 z6R) (.alt (.op 6 1 z6O) (.alt (.op 8 1 z6M) (.op 12 1 z6K)))
def z9I : SchT := .alt (.op 4 1 z6S) (.alt (.op 6 1 z6P) (.alt (.op 10 1 z6M) (.op 12 1 z6L)))
def zbp : SchT := .alt (.op 4 1 z6T) (.alt (.op 8 1 z6P) (.alt (.op 10 1 z6O) (.op 12 1 z6N)))
def zbq : SchT := .alt (.op 6 1 z6T) (.alt (.op 8 1 z6S) (.alt (.op 10 1 z6R) (.op 12 1 z6Q)))
def zbr : SchT := .alt (.op 4 1 zbq) (.alt (.op 6 1 zbp) (.alt (.op 8 1 z9I) (.alt (.op 10 1 z9H) (.op 12 1 z9G))))
def zbs : SchT := .op 9 0 zbr
def zbt : SchT := .op 7 0 zbs
def zbu : SchT := .op 5 0 zbt
def zbv : SchT := .op 3 0 zbu
def zbw : SchT := .op 2 0 zbv
def zbx : SchT := .op 1 0 zbw
def zby : SchT := .op 0 0 zbx
def cf29 : Cfg := { wio := fun f i => (f == 999999 && (i == 0)), live := fun r => if r = 12 then some [2, 5, 7, 8, 9, 10, 53, 54] else if r = 19 then some [2, 5, 7, 8, 10, 85, 86, 87] else if r = 23 then some [2, 5, 7, 8, 10, 14, 17, 85, 86, 87, 99, 100] else none, dr := fun r => if r = 14 then some [(0, 0), (1, 0), (2, 0), (3, 0), (4, 0), (5, 1), (6, 0), (7, 2)] else if r = 16 then some [(0, 0), (1, 0), (2, 0), (3, 0), (4, 0), (5, 0), (6, 0), (7, 0), (8, 0), (9, 0), (10, 0), (11, 0), (12, 0), (13, 0), (14, 2)] else if r = 26 then some [(0, 0), (1, 0), (2, 0), (3, 0), (4, 0), (5, 0), (6, 0), (7, 0), (8, 2)] else none, fz := fun r => if r = 8 then some [5] else if r = 10 then some [8] else if r = 999998 then some [] else none, dt := fun r => if r = 10 then some (zby) else none }
@[simp] theorem wio29 : cf29.wio = fun f i => (f == 999999 && (i == 0)) := rfl
@[simp] theorem live29 : cf29.live = fun r => if r = 12 then some [2, 5, 7, 8, 9, 10, 53, 54] else if r = 19 then some [2, 5, 7, 8, 10, 85, 86, 87] else if r = 23 then some [2, 5, 7, 8, 10, 14, 17, 85, 86, 87, 99, 100] else none := rfl
@[simp] theorem wr29 : cf29.wr = fun _ => [] := rfl
def cf30 : Cfg := { wio := fun f i => (f == 57 && (i == 0)) || (f == 999999 && (i == 0)), live := fun r => if r = 3 then some [1, 4, 11, 12, 13] else if r = 11 then some [1, 4, 7, 36, 37, 38] else none, dr := fun r => if r = 13 then some [(0, 0), (1, 0), (2, 0), (3, 0), (4, 0), (5, 0), (6, 0), (7, 0)] else if r = 17 then some [(0, 0), (1, 0), (2, 0), (3, 0)] else none, fz := fun r => if r = 16 then some [1, 4] else if r = 999998 then some [] else none, dt := fun r => if r = 7 then some (.op 1 3 (.op 2 0 (.op 3 0 (.op 4 0 (.op 5 0 (.op 6 0 (.alt (.op 0 1 (.op 7 1 (.op 8 2 (.op 9 0 (.op 10 2 .nil))))) (.op 7 1 (.alt (.op 0 1 (.op 8 2 (.op 9 0 (.op 10 2 .nil)))) (.op 8 2 (.op 0 1 (.op 9 0 (.op 10 2 .nil))))))))))))) else none }
@[simp] theorem wio30 : cf30.wio = fun f i => (f == 57 && (i == 0)) || (f == 999999 && (i == 0)) := rfl
@[simp] theorem live30 : cf30.live = fun r => if r = 3 then some [1, 4, 11, 12, 13] else if r = 11 then some [1, 4, 7, 36, 37, 38] else none := rfl
@[simp] theorem wr30 : cf30.wr = fun _ => [] := rfl
def cf31 : Cfg := { wio := fun f i => (f == 999999 && (i == 0)), live := fun r => if r = 4 then some [2, 3, 4, 5, 8, 10, 11, 35, 36, 37] else if r = 10 then some [2, 4, 5, 8, 10, 11, 14, 53, 54, 55] else if r = 13 then some [2, 4, 5, 8, 10, 11, 14, 16, 53, 54, 55, 60, 61] else none, dr := fun r => if r = 6 then some [(0, 0), (1, 0), (2, 0), (3, 0), (4, 0), (5, 0), (6, 0), (7, 1), (8, 2), (9, 0), (10, 2)] else if r = 16 then some [(0, 0), (1, 0), (2, 0), (4, 0), (5, 0), (6, 0), (7, 0), (8, 0), (3, 1), (9, 1), (10, 0), (11, 0)] else if r = 17 then some [(0, 0), (1, 0), (2, 0), (3, 0), (4, 0), (5, 0), (6, 0), (7, 0), (8, 0), (9, 0), (10, 0)] else if r = 18 then some [(0, 0), (1, 0), (2, 0), (3, 0), (4, 0), (5, 0), (6, 0), (7, 0), (8, 0), (9, 0), (10, 0), (11, 0), (12, 0), (13, 0)] else if r = 19 then some [(0, 0), (1, 0), (3, 0), (4, 0), (2, 1), (5, 1), (6, 0)] else none, fz := fun r => if r = 999998 then some [] else none }
@[simp] theorem wio31 : cf31.wio = fun f i => (f == 999999 && (i == 0)) := rfl
@[simp] theorem live31 : cf31.live = fun r => if r = 4 then some [2, 3, 4, 5, 8, 10, 11, 35, 36, 37] else if r = 10 then some [2, 4, 5, 8, 10, 11, 14, 53, 54, 55] else if r = 13 then some [2, 4, 5, 8, 10, 11, 14, 16, 53, 54, 55, 60, 61] else none := rfl
@[simp] theorem wr31 : cf31.wr = fun _ => [] := rfl
def cf32 : Cfg := { wio := fun f i => (f == 999999 && (i == 0)), live := fun r => none, dr := fun r => none }
@[simp] theorem wio32 : cf32.wio = fun f i => (f == 999999 && (i == 0)) := rfl
@[simp] theorem live32 : cf32.live = fun r => none := rfl
@[simp] theorem wr32 : cf32.wr = fun _ => [] := rfl
def cf35 : Cfg := { wio := fun f i => (f == 999999 && (i == 0)), live := fun r => if r = 3 then some [1, 2, 7, 11, 12, 13] else none, dr := fun r => none }
@[simp] theorem wio35 : cf35.wio = fun f i => (f == 999999 && (i == 0)) := rfl
@[simp] theorem live35 : cf35.live = fun r => if r = 3 then some [1, 2, 7, 11, 12, 13] else none := rfl
@[simp] theorem wr35 : cf35.wr = fun _ => [] := rfl
def cf37 : Cfg := { wio := fun f i => (f == 999999 && (i == 0)), live := fun r => if r = 2 then some [1, 7, 8, 9] else none, dr := fun r => none }
@[simp] theorem wio37 : cf37.wio = fun f i => (f == 999999 && (i == 0)) := rfl
@[simp] theorem live37 : cf37.live = fun r => if r = 2 then some [1, 7, 8, 9] else none := rfl
@[simp] theorem wr37 : cf37.wr = fun _ => [] := rfl
def cf38 : Cfg := { wio := fun f i => (f == 999999 && (i == 0)), live := fun r => if r = 5 then some [3, 14, 15] else none, dr := fun r => none }
@[simp] theorem wio38 : cf38.wio = fun f i => (f == 999999 && (i == 0)) := rfl
@[simp] theorem live38 : cf38.live = fun r => if r = 5 then some [3, 14, 15] else none := rfl
@[simp] theorem wr38 : cf38.wr = fun _ => [] := rfl
def cf39 : Cfg := { wio := fun f i => (f == 999999 && (i == 0)), live := fun r => if r = 3 then some [3, 9, 10, 11] else none, dr := fun r => none }
@[simp] theorem wio39 : cf39.wio = fun f i => (f == 999999 && (i == 0)) := rfl
@[simp] theorem live39 : cf39.live = fun r => if r = 3 then some [3, 9, 10, 11] else none := rfl
@[simp] theorem wr39 : cf39.wr = fun _ => [] := rfl
def cf40 : Cfg := { wio := fun f i => (f == 999999 && (i == 0)), live := fun r => if r = 3 then some [1, 5, 11, 12, 13] else none, dr := fun r => none }
@[simp] theorem wio40 : cf40.wio = fun f i => (f == 999999 && (i == 0)) := rfl
@[simp] theorem live40 : cf40.live = fun r => if r = 3 then some [1, 5, 11, 12, 13] else none := rfl
@[simp] theorem wr40 : cf40.wr = fun _ => [] := rfl
def cf42 : Cfg := { wio := fun f i => (f == 999999 && (i == 0)), live := fun r => if r = 2 then some [0, 1, 9, 10, 11] else none, dr := fun r => none }
@[simp] theorem wio42 : cf42.wio = fun f i => (f == 999999 && (i == 0)) := rfl
@[simp] theorem live42 : cf42.live = fun r => if r = 2 then some [0, 1, 9, 10, 11] else none := rfl
@[simp] theorem wr42 : cf42.wr = fun _ => [] := rfl
def cf43 : Cfg := { wio := fun f i => (f == 999999 && (i == 0)), live := fun r => if r = 4 then some [0, 13, 14, 15] else none, dr := fun r => none }
@[simp] theorem wio43 : cf43.wio = fun f i => (f == 999999 && (i == 0)) := rfl
@[simp] theorem live43 : cf43.live = fun r => if r = 4 then some [0, 13, 14, 15] else none := rfl
@[simp] theorem wr43 : cf43.wr = fun _ => [] := rfl
def cf44 : Cfg := { wio := fun f i => (f == 999999 && (i == 0)), live := fun r => none, dr := fun r => none }
@[simp] theorem wio44 : cf44.wio = fun f i => (f == 999999 && (i == 0)) := rfl
@[simp] theorem live44 : cf44.live = fun r => none := rfl
@[simp] theorem wr44 : cf44.wr = fun _ => [] := rfl
def cf45 : Cfg := { wio := fun f i => (f == 999999 && (i == 0)), live := fun r => if r = 4 then some [0, 8, 9, 10] else none, dr := fun r => none }
@[simp] theorem wio45 : cf45.wio = fun f i => (f == 999999 && (i == 0)) := rfl
@[simp] theorem live45 : cf45.live = fun r => if r = 4 then some [0, 8, 9, 10] else none := rfl
@[simp] theorem wr45 : cf45.wr = fun _ => [] := rfl
def cf46 : Cfg := { wio := fun f i => (f == 999999 && (i == 0)), live := fun r => if r = 3 then some [3, 8, 9] else none, dr := fun r => none }
@[simp] theorem wio46 : cf46.wio = fun f i => (f == 999999 && (i == 0)) := rfl
@[simp] theorem live46 : cf46.live = fun r => if r = 3 then some [3, 8, 9] else none := rfl
@[simp] theorem wr46 : cf46.wr = fun _ => [] := rfl
def cf47 : Cfg := { wio := fun f i => (f == 999999 && (i == 0)), live := fun r => if r = 3 then some [1, 5, 11, 12, 13] else none, dr := fun r => none }
@[simp] theorem wio47 : cf47.wio = fun f i => (f == 999999 && (i == 0)) := rfl
@[simp] theorem live47 : cf47.live = fun r => if r = 3 then some [1, 5, 11, 12, 13] else none := rfl
@[simp] theorem wr47 : cf47.wr = fun _ => [] := rfl
def cf48 : Cfg := { wio := fun f i => (f == 999999 && (i == 0)), live := fun r => if r = 2 then some [0, 1, 5] else none, dr := fun r => none, fz := fun r => if r = 999998 then some [] else none, dt := fun r => if r = 6 then some (.op 1 0 (.op 2 0 (.op 3 0 (.op 5 3 (.op 8 3 (.op 9 3 (.op 10 3 (.alt (.op 0 1 (.alt (.op 4 2 (.op 6 1 (.op 7 2 (.op 11 2 (.op 12 0 .nil))))) (.op 6 1 (.op 4 2 (.op 7 2 (.op 11 2 (.op 12 0 .nil))))))) (.op 6 1 (.op 0 1 (.op 4 2 (.op 7 2 (.op 11 2 (.op 12 0 .nil)))))))))))))) else none }
@[simp] theorem wio48 : cf48.wio = fun f i => (f == 999999 && (i == 0)) := rfl
@[simp] theorem live48 : cf48.live = fun r => if r = 2 then some [0, 1, 5] else none := rfl
@[simp] theorem wr48 : cf48.wr = fun _ => [] := rfl
def cf49 : Cfg := { wio := fun f i => (f == 999999 && (i == 0)), live := fun r => if r = 4 then some [0, 1, 12, 13] else none, dr := fun r => if r = 6 then some [(0, 0), (1, 0), (2, 0), (3, 0), (4, 0), (5, 0), (6, 0), (7, 0), (8, 0)] else none }
@[simp] theorem wio49 : cf49.wio = fun f i => (f == 999999 && (i == 0)) := rfl
@[simp] theorem live49 : cf49.live = fun r => if r = 4 then some [0, 1, 12, 13] else none := rfl
@[simp] theorem wr49 : cf49.wr = fun _ => [] := rfl
def cf51 : Cfg := { wio := fun f i => (f == 75 && (i == 0)) || (f == 999999 && (i == 0)), live := fun r => if r = 3 then some [3, 18, 19] else none, dr := fun r => if r = 1 then some [(0, 0), (1, 0), (2, 0), (3, 0), (4, 0), (5, 0), (6, 1), (7, 0), (8, 0), (9, 0), (10, 0), (11, 0)] else none }
@[simp] theorem wio51 : cf51.wio = fun f i => (f == 75 && (i == 0)) || (f == 999999 && (i == 0)) := rfl
@[simp] theorem live51 : cf51.live = fun r => if r = 3 then some [3, 18, 19] else none := rfl
@[simp] theorem wr51 : cf51.wr = fun _ => [] := rfl
def cf52 : Cfg := { wio := fun f i => (f == 999999 && (i == 0)), live := fun r => if r = 3 then some [1, 2, 4, 5, 24, 25, 26] else if r = 9 then some [1, 2, 4, 5, 8, 44, 45, 46] else if r = 13 then some [1, 2, 4, 5, 8, 9, 10, 44, 45, 46, 59, 60] else if r = 20 then some [1, 4, 8, 87, 88] else if r = 24 then some [1, 4, 8, 12, 13, 87, 88, 97, 98, 99] else if r = 27 then some [1, 4, 8, 12, 13, 15, 16, 87, 88, 97, 98, 99, 104, 105, 106] else none, dr := fun r => if r = 11 then some [(0, 0), (1, 0), (2, 0), (3, 0), (4, 0), (5, 1), (6, 0), (7, 2)] else if r = 15 then some [(0, 0), (1, 0), (2, 0), (3, 0), (4, 0), (5, 0), (6, 0), (7, 0), (8, 0), (9, 0), (10, 1), (11, 0), (12, 0), (13, 0), (14, 2)] else if r = 17 then some [(0, 0), (1, 0), (2, 0), (3, 0), (4, 0), (5, 1), (6, 0), (7, 2)] else none, dt := fun r => if r = 7 then some (.op 0 0 (.op 1 0 (.op 2 0 (.op 4 0 (.op 5 0 (.alt (.op 3 1 (.alt (.op 6 1 (.op 7 0 (.op 8 1 (.op 9 2 .nil)))) (.op 8 1 (.op 6 1 (.op 7 0 (.op 9 2 .nil)))))) (.alt (.op 6 1 (.alt (.op 3 1 (.op 7 0 (.op 8 1 (.op 9 2 .nil)))) (.op 8 1 (.op 3 1 (.op 7 0 (.op 9 2 .nil)))))) (.op 8 1 (.alt (.op 3 1 (.op 6 1 (.op 7 0 (.op 9 2 .nil)))) (.op 6 1 (.op 3 1 (.op 7 0 (.op 9 2 .nil))))))))))))) else none }
@[simp] theorem wio52 : cf52.wio = fun f i => (f == 999999 && (i == 0)) := rfl
@[simp] theorem live52 : cf52.live = fun r => if r = 3 then some [1, 2, 4, 5, 24, 25, 26] else if r = 9 then some [1, 2, 4, 5, 8, 44, 45, 46] else if r = 13 then some [1, 2, 4, 5, 8, 9, 10, 44, 45, 46, 59, 60] else if r = 20 then some [1, 4, 8, 87, 88] else if r = 24 then some [1, 4, 8, 12, 13, 87, 88, 97, 98, 99] else if r = 27 then some [1, 4, 8, 12, 13, 15, 16, 87, 88, 97, 98, 99, 104, 105, 106] else none := rfl
@[simp] theorem wr52 : cf52.wr = fun _ => [] := rfl
def cf53 : Cfg := { wio := fun f i => (f == 999999 && (i == 0)), live := fun r => if r = 4 then some [1, 4, 5, 15, 16] else if r = 8 then some [1, 4, 5, 6, 15, 16, 24, 25, 26] else none, dr := fun r => none }
@[simp] theorem wio53 : cf53.wio = fun f i => (f == 999999 && (i == 0)) := rfl
@[simp] theorem live53 : cf53.live = fun r => if r = 4 then some [1, 4, 5, 15, 16] else if r = 8 then some [1, 4, 5, 6, 15, 16, 24, 25, 26] else none := rfl
@[simp] theorem wr53 : cf53.wr = fun _ => [] := rfl
def cf54 : Cfg := { wio := fun f i => (f == 57 && (i == 0)) || (f == 999999 && (i == 0)), live := fun r => if r = 4 then some [1, 2, 5, 6, 23, 24] else if r = 8 then some [1, 2, 5, 6, 7, 23, 24, 33, 34] else if r = 17 then some [1, 2, 9, 60, 61, 62] else if r = 21 then some [1, 2, 9, 11, 60, 61, 62, 75, 76] else none, dr := fun r => if r = 23 then some [(0, 0), (1, 0), (2, 0), (3, 0), (4, 0), (5, 0), (6, 0), (7, 0), (8, 0), (9, 0), (10, 0), (11, 0), (12, 0), (13, 0), (14, 0), (15, 0), (16, 0), (17, 0), (18, 0)] else if r = 24 then some [(0, 0), (1, 0), (2, 0), (3, 0), (4, 0), (5, 0), (6, 0), (7, 0), (8, 0), (9, 0), (10, 0), (11, 0), (12, 0), (13, 2)] else none, fz := fun r => if r = 14 then some [5] else none }
@[simp] theorem wio54 : cf54.wio = fun f i => (f == 57 && (i == 0)) || (f == 999999 && (i == 0)) := rfl
@[simp] theorem live54 : cf54.live = fun r => if r = 4 then some [1, 2, 5, 6, 23, 24] else if r = 8 then some [1, 2, 5, 6, 7, 23, 24, 33, 34] else if r = 17 then some [1, 2, 9, 60, 61, 62] else if r = 21 then some [1, 2, 9, 11, 60, 61, 62, 75, 76] else none := rfl
@[simp] theorem wr54 : cf54.wr = fun _ => [] := rfl
def cf55 : Cfg := { wio := fun f i => (f == 999999 && (i == 0)), live := fun r => if r = 5 then some [1, 2, 5, 21, 22, 23] else if r = 12 then some [2, 5, 8, 45, 46, 47] else if r = 15 then some [2, 5, 8, 10, 45, 46, 47, 51, 52, 53] else none, dr := fun r => if r = 17 then some [(0, 0), (1, 0), (2, 0), (3, 0), (4, 0), (5, 0), (6, 0), (7, 0), (8, 0), (9, 0), (10, 0), (11, 0), (12, 0), (13, 0), (14, 1), (15, 0)] else none }
@[simp] theorem wio55 : cf55.wio = fun f i => (f == 999999 && (i == 0)) := rfl
@[simp] theorem live55 : cf55.live = fun r => if r = 5 then some [1, 2, 5, 21, 22, 23] else if r = 12 then some [2, 5, 8, 45, 46, 47] else if r = 15 then some [2, 5, 8, 10, 45, 46, 47, 51, 52, 53] else none := rfl
@[simp] theorem wr55 : cf55.wr = fun _ => [] := rfl
def cf56 : Cfg := { wio := fun f i => (f == 999999 && (i == 0)), live := fun r => if r = 6 then some [2, 6, 7, 8, 9] else if r = 9 then some [2, 6, 7, 8, 9, 38, 39, 40] else none, dr := fun r => if r = 8 then some [(0, 0), (1, 0), (2, 0), (3, 0), (4, 0), (5, 0), (6, 0), (7, 0), (8, 0), (9, 0)] else if r = 13 then some [(0, 0), (1, 0), (2, 0), (3, 0), (4, 0), (5, 0), (6, 0), (7, 0), (8, 0), (9, 0), (10, 0), (11, 0), (12, 1), (13, 0), (14, 0), (15, 0), (16, 2)] else none }
@[simp] theorem wio56 : cf56.wio = fun f i => (f == 999999 && (i == 0)) := rfl
@[simp] theorem live56 : cf56.live = fun r => if r = 6 then some [2, 6, 7, 8, 9] else if r = 9 then some [2, 6, 7, 8, 9, 38, 39, 40] else none := rfl
@[simp] theorem wr56 : cf56.wr = fun _ => [] := rfl
def cf57 : Cfg := { wio := fun f i => (f == 81 && (i == 0)) || (f == 999999 && (i == 0)), live := fun r => none, dr := fun r => none }
@[simp] theorem wio57 : cf57.wio = fun f i => (f == 81 && (i == 0)) || (f == 999999 && (i == 0)) := rfl
@[simp] theorem live57 : cf57.live = fun r => none := rfl
@[simp] theorem wr57 : cf57.wr = fun _ => [] := rfl
def cf58 : Cfg := { wio := fun f i => (f == 999999 && (i == 0)), live := fun r => none, dr := fun r => if r = 1 then some [(0, 0), (1, 0), (2, 0), (3, 0), (4, 0), (5, 0), (6, 0), (7, 0), (8, 0), (9, 0), (10, 0), (11, 0), (12, 0), (13, 0), (14, 0), (15, 0), (16, 0), (17, 0), (18, 0), (19, 0), (20, 1), (21, 0)] else none }
@[simp] theorem wio58 : cf58.wio = fun f i => (f == 999999 && (i == 0)) := rfl
@[simp] theorem live58 : cf58.live = fun r => none := rfl
@[simp] theorem wr58 : cf58.wr = fun _ => [] := rfl
def cf59 : Cfg := { wio := fun f i => (f == 999999 && (i == 0)), live := fun r => none, dr := fun r => none }
@[simp] theorem wio59 : cf59.wio = fun f i => (f == 999999 && (i == 0)) := rfl
@[simp] theorem live59 : cf59.live = fun r => none := rfl
@[simp] theorem wr59 : cf59.wr = fun _ => [] := rfl
def cf60 : Cfg := { wio := fun f i => (f == 999999 && (i == 0)), live := fun r => if r = 3 then some [1, 5, 8, 9, 10] else none, dr := fun r => none }
@[simp] theorem wio60 : cf60.wio = fun f i => (f == 999999 && (i == 0)) := rfl
@[simp] theorem live60 : cf60.live = fun r => if r = 3 then some [1, 5, 8, 9, 10] else none := rfl
@[simp] theorem wr60 : cf60.wr = fun _ => [] := rfl
def cf61 : Cfg := { wio := fun f i => (f == 999999 && (i == 0)), live := fun r => if r = 3 then some [1, 2, 5, 15, 16] else if r = 8 then some [1, 2, 5, 25, 26] else if r = 11 then some [1, 2, 5, 7, 25, 26, 29, 30, 31] else none, dr := fun r => if r = 13 then some [(0, 0), (1, 0), (2, 0), (3, 0), (4, 0), (5, 0), (6, 0), (7, 0), (8, 0), (9, 0), (10, 0), (11, 0), (12, 0), (13, 0), (14, 2)] else none }
@[simp] theorem wio61 : cf61.wio = fun f i => (f == 999999 && (i == 0)) := rfl
@[simp] theorem live61 : cf61.live = fun r => if r = 3 then some [1, 2, 5, 15, 16] else if r = 8 then some [1, 2, 5, 25, 26] else if r = 11 then some [1, 2, 5, 7, 25, 26, 29, 30, 31] else none := rfl
@[simp] theorem wr61 : cf61.wr = fun _ => [] := rfl
def cf62 : Cfg := { wio := fun f i => (f == 999999 && (i == 0)), live := fun r => if r = 3 then some [0, 1, 5, 14, 15, 16] else if r = 9 then some [0, 5, 8, 28, 29, 30] else none, dr := fun r => none }
@[simp] theorem wio62 : cf62.wio = fun f i => (f == 999999 && (i == 0)) := rfl
@[simp] theorem live62 : cf62.live = fun r => if r = 3 then some [0, 1, 5, 14, 15, 16] else if r = 9 then some [0, 5, 8, 28, 29, 30] else none := rfl
@[simp] theorem wr62 : cf62.wr = fun _ => [] := rfl
def cf63 : Cfg := { wio := fun f i => (f == 999999 && (i == 0)), live := fun r => if r = 2 then some [5, 6, 7] else none, dr := fun r => none }
@[simp] theorem wio63 : cf63.wio = fun f i => (f == 999999 && (i == 0)) := rfl
@[simp] theorem live63 : cf63.live = fun r => if r = 2 then some [5, 6, 7] else none := rfl
@[simp] theorem wr63 : cf63.wr = fun _ => [] := rfl
def cf64 : Cfg := { wio := fun f i => (f == 999999 && (i == 0)), live := fun r => if r = 3 then some [3, 10, 11, 12] else none, dr := fun r => none }
@[simp] theorem wio64 : cf64.wio = fun f i => (f == 999999 && (i == 0)) := rfl
@[simp] theorem live64 : cf64.live = fun r => if r = 3 then some [3, 10, 11, 12] else none := rfl
@[simp] theorem wr64 : cf64.wr = fun _ => [] := rfl
def cf65 : Cfg := { wio := fun f i => (f == 999999 && (i == 0)), live := fun r => if r = 9 then some [1, 3, 38, 39, 40] else if r = 14 then some [1, 3, 38, 39, 40, 49, 50, 51] else none, dr := fun r => none }
@[simp] theorem wio65 : cf65.wio = fun f i => (f == 999999 && (i == 0)) := rfl
@[simp] theorem live65 : cf65.live = fun r => if r = 9 then some [1, 3, 38, 39, 40] else if r = 14 then some [1, 3, 38, 39, 40, 49, 50, 51] else none := rfl
@[simp] theorem wr65 : cf65.wr = fun _ => [] := rfl
def cf67 : Cfg := { wio := fun f i => (f == 999999 && (i == 0)), live := fun r => none, dr := fun r => none }
@[simp] theorem wio67 : cf67.wio = fun f i => (f == 999999 && (i == 0)) := rfl
@[simp] theorem live67 : cf67.live = fun r => none := rfl
@[simp] theorem wr67 : cf67.wr = fun _ => [] := rfl
def cf70 : Cfg := { wio := fun f i => (f == 999999 && (i == 0)), live := fun r => if r = 3 then some [3, 6, 7, 8] else none, dr := fun r => none }
@[simp] theorem wio70 : cf70.wio = fun f i => (f == 999999 && (i == 0)) := rfl
@[simp] theorem live70 : cf70.live = fun r => if r = 3 then some [3, 6, 7, 8] else none := rfl
@[simp] theorem wr70 : cf70.wr = fun _ => [] := rfl
def cf71 : Cfg := { wio := fun f i => (f == 999999 && (i == 0)), live := fun r => if r = 3 then some [1, 5, 10, 11, 12] else none, dr := fun r => none }
@[simp] theorem wio71 : cf71.wio = fun f i => (f == 999999 && (i == 0)) := rfl
@[simp] theorem live71 : cf71.live = fun r => if r = 3 then some [1, 5, 10, 11, 12] else none := rfl
@[simp] theorem wr71 : cf71.wr = fun _ => [] := rfl
def cf72 : Cfg := { wio := fun f i => (f == 999999 && (i == 0)), live := fun r => if r = 2 then some [0, 1, 5] else none, dr := fun r => if r = 4 then some [(0, 0), (1, 0), (2, 0), (3, 0), (4, 0), (5, 0), (6, 0), (7, 0), (8, 0)] else if r = 5 then some [(0, 0), (1, 0), (2, 0), (3, 0), (4, 0), (5, 0), (6, 0), (7, 0), (8, 0), (9, 0)] else none }
@[simp] theorem wio72 : cf72.wio = fun f i => (f == 999999 && (i == 0)) := rfl
@[simp] theorem live72 : cf72.live = fun r => if r = 2 then some [0, 1, 5] else none := rfl
@[simp] theorem wr72 : cf72.wr = fun _ => [] := rfl
def cf73 : Cfg := { wio := fun f i => (f == 999999 && (i == 0)), live := fun r => if r = 5 then some [2, 6, 7, 8, 9] else if r = 8 then some [2, 6, 7, 8, 9, 30, 31] else none, dr := fun r => if r = 10 then some [(0, 0), (1, 0), (2, 0), (3, 0), (4, 0), (5, 0), (6, 1), (7, 0)] else if r = 14 then some [(0, 0), (1, 0), (2, 0), (3, 0), (4, 0), (5, 0), (6, 0), (7, 0), (8, 1), (9, 0), (10, 0), (11, 1), (12, 2), (13, 0)] else none }
@[simp] theorem wio73 : cf73.wio = fun f i => (f == 999999 && (i == 0)) := rfl
@[simp] theorem live73 : cf73.live = fun r => if r = 5 then some [2, 6, 7, 8, 9] else if r = 8 then some [2, 6, 7, 8, 9, 30, 31] else none := rfl
@[simp] theorem wr73 : cf73.wr = fun _ => [] := rfl
def cf74 : Cfg := { wio := fun f i => (f == 999999 && (i == 0)), live := fun r => none, dr := fun r => none }
@[simp] theorem wio74 : cf74.wio = fun f i => (f == 999999 && (i == 0)) := rfl
@[simp] theorem live74 : cf74.live = fun r => none := rfl
@[simp] theorem wr74 : cf74.wr = fun _ => [] := rfl
def cf76 : Cfg := { wio := fun f i => (f == 999999 && (i == 0)), live := fun r => none, dr := fun r => none }
@[simp] theorem wio76 : cf76.wio = fun f i => (f == 999999 && (i == 0)) := rfl
@[simp] theorem live76 : cf76.live = fun r => none := rfl
@[simp] theorem wr76 : cf76.wr = fun _ => [] := rfl
def cf77 : Cfg := { wio := fun f i => (f == 999999 && (i == 0)), live := fun r => if r = 3 then some [3, 6, 7, 8] else none, dr := fun r => none }
@[simp] theorem wio77 : cf77.wio = fun f i => (f == 999999 && (i == 0)) := rfl
@[simp] theorem live77 : cf77.live = fun r => if r = 3 then some [3, 6, 7, 8] else none := rfl
@[simp] theorem wr77 : cf77.wr = fun _ => [] := rfl
def cf78 : Cfg := { wio := fun f i => (f == 999999 && (i == 0)), live := fun r => none, dr := fun r => none }
@[simp] theorem wio78 : cf78.wio = fun f i => (f == 999999 && (i == 0)) := rfl
@[simp] theorem live78 : cf78.live = fun r => none := rfl
@[simp] theorem wr78 : cf78.wr = fun _ => [] := rfl
def cf79 : Cfg := { wio := fun f i => (f == 999999 && (i == 0)), live := fun r => none, dr := fun r => none }
@[simp] theorem wio79 : cf79.wio = fun f i => (f == 999999 && (i == 0)) := rfl
@[simp] theorem live79 : cf79.live = fun r => none := rfl
@[simp] theorem wr79 : cf79.wr = fun _ => [] := rfl
def cf80 : Cfg := { wio := fun f i => (f == 999999 && (i == 0)), live := fun r => none, dr := fun r => if r = 1 then some [(0, 0), (1, 0), (2, 0), (3, 0), (4, 0), (5, 0), (6, 0), (7, 0), (8, 1), (9, 0)] else none }
@[simp] theorem wio80 : cf80.wio = fun f i => (f == 999999 && (i == 0)) := rfl
@[simp] theorem live80 : cf80.live = fun r => none := rfl
@[simp] theorem wr80 : cf80.wr = fun _ => [] := rfl
def cf81 : Cfg := { wio := fun f i => (f == 98 && (i == 0)) || (f == 99 && (i == 0)) || (f == 999999 && (i == 0)), live := fun r => if r = 2 then some [0, 1, 2, 6, 7, 8] else if r = 7 then some [0, 1, 2, 6] else if r = 9 then some [0, 1, 2, 6, 7, 8] else none, dr := fun r => none }
@[simp] theorem wio81 : cf81.wio = fun f i => (f == 98 && (i == 0)) || (f == 99 && (i == 0)) || (f == 999999 && (i == 0)) := rfl
@[simp] theorem live81 : cf81.live = fun r => if r = 2 then some [0, 1, 2, 6, 7, 8] else if r = 7 then some [0, 1, 2, 6] else if r = 9 then some [0, 1, 2, 6, 7, 8] else none := rfl
@[simp] theorem wr81 : cf81.wr = fun _ => [] := rfl
def cf82 : Cfg := { wio := fun f i => (f == 999999 && (i == 0)), live := fun r => none, dr := fun r => none }
@[simp] theorem wio82 : cf82.wio = fun f i => (f == 999999 && (i == 0)) := rfl
@[simp] theorem live82 : cf82.live = fun r => none := rfl
@[simp] theorem wr82 : cf82.wr = fun _ => [] := rfl
def cf83 : Cfg := { wio := fun f i => (f == 999999 && (i == 0)), live := fun r => if r = 4 then some [0, 13, 14, 15] else none, dr := fun r => none }
@[simp] theorem wio83 : cf83.wio = fun f i => (f == 999999 && (i == 0)) := rfl
@[simp] theorem live83 : cf83.live = fun r => if r = 4 then some [0, 13, 14, 15] else none := rfl
@[simp] theorem wr83 : cf83.wr = fun _ => [] := rfl
def cf84 : Cfg := { wio := fun f i => (f == 999999 && (i == 0)), live := fun r => none, dr := fun r => none }
@[simp] theorem wio84 : cf84.wio = fun f i => (f == 999999 && (i == 0)) := rfl
@[simp] theorem live84 : cf84.live = fun r => none := rfl
@[simp] theorem wr84 : cf84.wr = fun _ => [] := rfl
def cf95 : Cfg := { wio := fun f i => (f == 999999 && (i == 0)), live := fun r => if r = 2 then some [0, 1, 7, 8] else none, dr := fun r => none }
@[simp] theorem wio95 : cf95.wio = fun f i => (f == 999999 && (i == 0)) := rfl
@[simp] theorem live95 : cf95.live = fun r => if r = 2 then some [0, 1, 7, 8] else none := rfl
@[simp] theorem wr95 : cf95.wr = fun _ => [] := rfl
def cf97 : Cfg := { wio := fun f i => (f == 999999 && (i == 0)), live := fun r => none, dr := fun r => none }
@[simp] theorem wio97 : cf97.wio = fun f i => (f == 999999 && (i == 0)) := rfl
@[simp] theorem live97 : cf97.live = fun r => none := rfl
@[simp] theorem wr97 : cf97.wr = fun _ => [] := rfl
def cf98 : Cfg := { wio := fun f i => (f == 999999 && (i == 0)), live := fun r => if r = 1 then some [0, 1, 2, 3, 8] else if r = 4 then some [0, 1, 2, 3, 8, 9] else none, dr := fun r => if r = 4 then some [(0, 0), (1, 0), (2, 0), (3, 0), (4, 0), (5, 0), (6, 0), (7, 0), (8, 0), (9, 0), (10, 0), (11, 0), (12, 0), (13, 0), (14, 1), (15, 0), (16, 0)] else if r = 6 then some [(0, 0), (1, 0), (2, 3), (3, 3), (4, 3), (5, 0), (6, 0), (7, 0), (8, 0), (9, 0), (10, 0), (11, 0), (12, 0), (13, 0), (14, 0), (15, 2), (16, 0), (17, 2)] else none }
@[simp] theorem wio98 : cf98.wio = fun f i => (f == 999999 && (i == 0)) := rfl
@[simp] theorem live98 : cf98.live = fun r => if r = 1 then some [0, 1, 2, 3, 8] else if r = 4 then some [0, 1, 2, 3, 8, 9] else none := rfl
@[simp] theorem wr98 : cf98.wr = fun _ => [] := rfl
def cf99 : Cfg := { wio := fun f i => (f == 115 && (i == 0)) || (f == 99 && (i == 0)) || (f == 999999 && (i == 0)), live := fun r => if r = 3 then some [0, 1, 4, 10, 11] else if r = 9 then some [0, 10, 13] else if r = 15 then some [0, 2, 4, 14, 15] else if r = 21 then some [0, 14, 17] else if r = 33 then some [0, 1, 2, 3, 4, 18, 19, 20, 21, 22] else none, dr := fun r => if r = 5 then some [(0, 0), (1, 0), (2, 0), (3, 0), (4, 0), (5, 0), (6, 0), (7, 0), (8, 0), (9, 1), (10, 0)] else if r = 11 then some [(0, 0), (1, 0), (2, 3), (3, 3), (4, 3), (5, 0), (6, 0), (7, 0), (8, 0), (9, 0), (10, 0), (11, 0), (12, 0), (13, 0), (14, 0), (15, 2), (16, 0), (17, 2)] else if r = 17 then some [(0, 0), (1, 0), (2, 0), (3, 0), (4, 0), (5, 0), (6, 0), (7, 0), (8, 0), (9, 1), (10, 0), (11, 0)] else if r = 23 then some [(0, 0), (1, 0), (2, 3), (3, 3), (4, 3), (5, 0), (6, 0), (7, 0), (8, 0), (9, 0), (10, 0), (11, 0), (12, 0), (13, 0), (14, 0), (15, 2), (16, 0), (17, 2)] else if r = 35 then some [(0, 0), (1, 0), (2, 0), (3, 0), (4, 0), (5, 0), (6, 0), (7, 0), (8, 0), (9, 0), (10, 0), (11, 1), (12, 0), (13, 0)] else none }
@[simp] theorem wio99 : cf99.wio = fun f i => (f == 115 && (i == 0)) || (f == 99 && (i == 0)) || (f == 999999 && (i == 0)) := rfl
@[simp] theorem live99 : cf99.live = fun r => if r = 3 then some [0, 1, 4, 10, 11] else if r = 9 then some [0, 10, 13] else if r = 15 then some [0, 2, 4, 14, 15] else if r = 21 then some [0, 14, 17] else if r = 33 then some [0, 1, 2, 3, 4, 18, 19, 20, 21, 22] else none := rfl
@[simp] theorem wr99 : cf99.wr = fun _ => [] := rfl
def cf100 : Cfg := { wio := fun f i => (f == 117 && (i == 0)) || (f == 999999 && (i == 0)) || (f == 777777 && (i == 118)), live := fun r => none, dr := fun r => none, fz := fun r => if r = 999998 then some [] else none }
@[simp] theorem wio100 : cf100.wio = fun f i => (f == 117 && (i == 0)) || (f == 999999 && (i == 0)) || (f == 777777 && (i == 118)) := rfl
@[simp] theorem live100 : cf100.live = fun r => none := rfl
@[simp] theorem wr100 : cf100.wr = fun _ => [] := rfl
def cf113 : Cfg := { wio := fun f i => (f == 999999 && (i == 0)), live := fun r => none, dr := fun r => if r = 1 then some [(0, 0), (1, 0), (2, 0), (3, 0), (4, 0), (5, 0), (6, 0), (7, 0), (8, 0), (9, 0), (10, 0), (11, 0), (12, 0), (13, 0), (14, 0), (15, 0), (16, 0), (17, 0), (18, 0)] else none }
@[simp] theorem wio113 : cf113.wio = fun f i => (f == 999999 && (i == 0)) := rfl
@[simp] theorem live113 : cf113.live = fun r => none := rfl
@[simp] theorem wr113 : cf113.wr = fun _ => [] := rfl
def cf114 : Cfg := { wio := fun f i => (f == 999999 && (i == 0)), live := fun r => none, dr := fun r => none }
@[simp] theorem wio114 : cf114.wio = fun f i => (f == 999999 && (i == 0)) := rfl
@[simp] theorem live114 : cf114.live = fun r => none := rfl
@[simp] theorem wr114 : cf114.wr = fun _ => [] := rfl
def cf115 : Cfg := { wio := fun f i => (f == 123 && (i == 0)) || (f == 999999 && (i == 0)), live := fun r => if r = 2 then some [0, 2, 4, 10, 11] else none, dr := fun r => none }
@[simp] theorem wio115 : cf115.wio = fun f i => (f == 123 && (i == 0)) || (f == 999999 && (i == 0)) := rfl
@[simp] theorem live115 : cf115.live = fun r => if r = 2 then some [0, 2, 4, 10, 11] else none := rfl
@[simp] theorem wr115 : cf115.wr = fun _ => [] := rfl
def cf118 : Cfg := { wio := fun f i => (f == 999999 && (i == 0)), live := fun r => if r = 4 then some [0, 3] else if r = 9 then some [0, 3, 4, 5] else none, dr := fun r => if r = 6 then some [(0, 0), (1, 0), (2, 0), (3, 0), (4, 0), (5, 0), (6, 0), (7, 0), (8, 0), (9, 0)] else if r = 11 then some [(0, 0), (1, 0), (2, 0), (3, 0), (4, 0), (5, 0), (6, 0), (7, 0), (8, 0), (9, 0)] else none }
@[simp] theorem wio118 : cf118.wio = fun f i => (f == 999999 && (i == 0)) := rfl
@[simp] theorem live118 : cf118.live = fun r => if r = 4 then some [0, 3] else if r = 9 then some [0, 3, 4, 5] else none := rfl
@[simp] theorem wr118 : cf118.wr = fun _ => [] := rfl
def cf123 : Cfg := { wio := fun f i => (f == 999999 && (i == 0)), live := fun r => if r = 1 then some [0, 1, 2, 3, 10] else none, dr := fun r => if r = 3 then some [(0, 0), (1, 0), (2, 0), (3, 0), (4, 3), (5, 3), (6, 3), (7, 3), (8, 0), (9, 0), (10, 0), (11, 0), (12, 0), (13, 0), (14, 0), (15, 0), (16, 0), (17, 0), (18, 0), (19, 0), (20, 0), (21, 2), (22, 0), (23, 2)] else none }
@[simp] theorem wio123 : cf123.wio = fun f i => (f == 999999 && (i == 0)) := rfl
@[simp] theorem live123 : cf123.live = fun r => if r = 1 then some [0, 1, 2, 3, 10] else none := rfl
@[simp] theorem wr123 : cf123.wr = fun _ => [] := rfl
def z0X (f : FuncId) : Option Cfg :=
  if f = 3 then some cf3 else
  if f = 6 then some cf6 else
  if f = 7 then some cf7 else
  if f = 8 then some cf8 else
  if f = 9 then some cf9 else
  if f = 10 then some cf10 else
  if f = 11 then some cf11 else
  if f = 12 then some cf12 else
  if f = 15 then some cf15 else
  if f = 16 then some cf16 else
  if f = 17 then some cf17 else
  if f = 21 then some cf21 else
  if f = 22 then some cf22 else
  if f = 23 then some cf23 else
  if f = 24 then some cf24 else
  if f = 25 then some cf25 else
  if f = 29 then some cf29 else
  if f = 30 then some cf30 else
  if f = 31 then some cf31 else
  if f = 32 then some cf32 else
  if f = 35 then some cf35 else
  if f = 37 then some cf37 else
  if f = 38 then some cf38 else
  if f = 39 then some cf39 else
  if f = 40 then some cf40 else
  if f = 42 then some cf42 else
  if f = 43 then some cf43 else
  if f = 44 then some cf44 else
  if f = 45 then some cf45 else
  if f = 46 then some cf46 else
  if f = 47 then some cf47 else
  if f = 48 then some cf48 else
  if f = 49 then some cf49 else
  if f = 51 then some cf51 else
  if f = 52 then some cf52 else
  if f = 53 then some cf53 else
  if f = 54 then some cf54 else
  if f = 55 then some cf55 else
  if f = 56 then some cf56 else
  if f = 57 then some cf57 else
  if f = 58 then some cf58 else
  if f = 59 then some cf59 else
  if f = 60 then some cf60 else
  if f = 61 then some cf61 else
  if f = 62 then some cf62 else
  if f = 63 then some cf63 else
  if f = 64 then some cf64 else
  if f = 65 then some cf65 else
  if f = 67 then some cf67 else
  if f = 70 then some cf70 else
  if f = 71 then some cf71 else
  if f = 72 then some cf72 else
  if f = 73 then some cf73 else
  if f = 74 then some cf74 else
  if f = 76 then some cf76 else
  if f = 77 then some cf77 else
  if f = 78 then some cf78 else
  if f = 79 then some cf79 else
  if f = 80 then some cf80 else
  if f = 81 then some cf81 else
  if f = 82 then some cf82 else
  if f = 83 then some cf83 else
  if f = 84 then some cf84 else
  if f = 95 then some cf95 else
  if f = 97 then some cf97 else
  if f = 98 then some cf98 else
  if f = 99 then some cf99 else
  if f = 100 then some cf100 else
  if f = 113 then some cf113 else
  if f = 114 then some cf114 else
  if f = 115 then some cf115 else
  if f = 118 then some cf118 else
  if f = 123 then some cf123 else none
theorem zoK : z0X 3 = some cf3 := rfl
theorem zoJ : z0X 6 = some cf6 := rfl
theorem zoI : z0X 7 = some cf7 := rfl
theorem zoH : z0X 8 = some cf8 := rfl
theorem zoG : z0X 9 = some cf9 := rfl
theorem znf : z0X 10 = some cf10 := rfl
theorem zne : z0X 11 = some cf11 := rfl
theorem znd : z0X 16 = some cf16 := rfl
theorem znc : z0X 17 = some cf17 := rfl
theorem znb : z0X 21 = some cf21 := rfl
theorem zna : z0X 22 = some cf22 := rfl
theorem zn9 : z0X 23 = some cf23 := rfl
theorem zn8 : z0X 24 = some cf24 := rfl
theorem zn7 : z0X 37 = some cf37 := rfl
theorem zn6 : z0X 38 = some cf38 := rfl
theorem zn5 : z0X 39 = some cf39 := rfl
theorem zn4 : z0X 40 = some cf40 := rfl
theorem zn3 : z0X 43 = some cf43 := rfl
theorem zn2 : z0X 44 = some cf44 := rfl
theorem zn1 : z0X 45 = some cf45 := rfl
theorem zn0 : z0X 46 = some cf46 := rfl
theorem zmZ : z0X 47 = some cf47 := rfl
theorem zmY : z0X 48 = some cf48 := rfl
theorem zmX : z0X 59 = some cf59 := rfl
theorem zmW : z0X 67 = some cf67 := rfl
theorem zmV : z0X 70 = some cf70 := rfl
theorem zmU : z0X 71 = some cf71 := rfl
theorem zmT : z0X 72 = some cf72 := rfl
theorem zmS : z0X 82 = some cf82 := rfl
theorem zmR : z0X 83 = some cf83 := rfl
theorem zmQ : z0X 84 = some cf84 := rfl
theorem zkW : z0X 100 = some cf100 := rfl
theorem zkV : z0X 118 = some cf118 := rfl
theorem fn3 : Tryz.prog.funcs[3]? = some Tryz.f3 := by kernel_rfl
theorem fn6 : Tryz.prog.funcs[6]? = some Tryz.f6 := by kernel_rfl
theorem fn7 : Tryz.prog.funcs[7]? = some Tryz.f7 := by kernel_rfl
theorem fn8 : Tryz.prog.funcs[8]? = some Tryz.f8 := by kernel_rfl
theorem fn9 : Tryz.prog.funcs[9]? = some Tryz.f9 := by kernel_rfl
theorem zoy : Tryz.prog.funcs[10]? = some Tryz.f10 := by kernel_rfl
theorem zox : Tryz.prog.funcs[11]? = some Tryz.f11 := by kernel_rfl
theorem zow : Tryz.prog.funcs[16]? = some Tryz.f16 := by kernel_rfl
theorem zov : Tryz.prog.funcs[17]? = some Tryz.f17 := by kernel_rfl
theorem zou : Tryz.prog.funcs[21]? = some Tryz.f21 := by kernel_rfl
theorem zot : Tryz.prog.funcs[22]? = some Tryz.f22 := by kernel_rfl
theorem zos : Tryz.prog.funcs[23]? = some Tryz.f23 := by kernel_rfl
theorem zor : Tryz.prog.funcs[24]? = some Tryz.f24 := by kernel_rfl
theorem zoq : Tryz.prog.funcs[29]? = some Tryz.f29 := by kernel_rfl
theorem zop : Tryz.prog.funcs[37]? = some Tryz.f37 := by kernel_rfl
theorem zoo : Tryz.prog.funcs[38]? = some Tryz.f38 := by kernel_rfl
theorem zon : Tryz.prog.funcs[39]? = some Tryz.f39 := by kernel_rfl
theorem zom : Tryz.prog.funcs[40]? = some Tryz.f40 := by kernel_rfl
theorem zol : Tryz.prog.funcs[43]? = some Tryz.f43 := by kernel_rfl
theorem zok : Tryz.prog.funcs[44]? = some Tryz.f44 := by kernel_rfl
theorem zoj : Tryz.prog.funcs[45]? = some Tryz.f45 := by kernel_rfl
theorem zoi : Tryz.prog.funcs[46]? = some Tryz.f46 := by kernel_rfl
theorem zoh : Tryz.prog.funcs[47]? = some Tryz.f47 := by kernel_rfl
theorem zog : Tryz.prog.funcs[48]? = some Tryz.f48 := by kernel_rfl
theorem zof : Tryz.prog.funcs[59]? = some Tryz.f59 := by kernel_rfl
theorem zoe : Tryz.prog.funcs[67]? = some Tryz.f67 := by kernel_rfl
theorem zod : Tryz.prog.funcs[70]? = some Tryz.f70 := by kernel_rfl
theorem zoc : Tryz.prog.funcs[71]? = some Tryz.f71 := by kernel_rfl
theorem zob : Tryz.prog.funcs[72]? = some Tryz.f72 := by kernel_rfl
theorem zoa : Tryz.prog.funcs[82]? = some Tryz.f82 := by kernel_rfl
theorem zo9 : Tryz.prog.funcs[83]? = some Tryz.f83 := by kernel_rfl
theorem zo8 : Tryz.prog.funcs[84]? = some Tryz.f84 := by kernel_rfl
theorem zlF : Tryz.prog.funcs[100]? = some Tryz.f100 := by kernel_rfl
theorem zlE : Tryz.prog.funcs[118]? = some Tryz.f118 := by kernel_rfl
noncomputable def cd3 : Code := match Tryz.f3.body with | some c => c | none => .skip
theorem bd3 : Tryz.f3.body = some cd3 := by kernel_rfl
noncomputable def cd6 : Code := match Tryz.f6.body with | some c => c | none => .skip
theorem bd6 : Tryz.f6.body = some cd6 := by kernel_rfl
noncomputable def cd7 : Code := match Tryz.f7.body with | some c => c | none => .skip
theorem bd7 : Tryz.f7.body = some cd7 := by kernel_rfl
noncomputable def cd8 : Code := match Tryz.f8.body with | some c => c | none => .skip
theorem bd8 : Tryz.f8.body = some cd8 := by kernel_rfl
noncomputable def cd9 : Code := match Tryz.f9.body with | some c => c | none => .skip
theorem bd9 : Tryz.f9.body = some cd9 := by kernel_rfl
noncomputable def zpb : Code := match Tryz.f10.body with | some c => c | none => .skip
theorem zpE : Tryz.f10.body = some zpb := by kernel_rfl
noncomputable def zpa : Code := match Tryz.f11.body with | some c => c | none => .skip
theorem zpD : Tryz.f11.body = some zpa := by kernel_rfl
noncomputable def zp9 : Code := match Tryz.f16.body with | some c => c | none => .skip
theorem zpC : Tryz.f16.body = some zp9 := by kernel_rfl
noncomputable def zp8 : Code := match Tryz.f17.body with | some c => c | none => .skip
theorem zpB : Tryz.f17.body = some zp8 := by kernel_rfl
noncomputable def zp7 : Code := match Tryz.f21.body with | some c => c | none => .skip
theorem zpA : Tryz.f21.body = some zp7 := by kernel_rfl
noncomputable def zp6 : Code := match Tryz.f22.body with | some c => c | none => .skip
theorem zpz : Tryz.f22.body = some zp6 := by kernel_rfl
noncomputable def zp5 : Code := match Tryz.f23.body with | some c => c | none => .skip
theorem zpy : Tryz.f23.body = some zp5 := by kernel_rfl
noncomputable def zp4 : Code := match Tryz.f24.body with | some c => c | none => .skip
theorem zpx : Tryz.f24.body = some zp4 := by kernel_rfl
noncomputable def znC : Code := match Tryz.f29.body with | some c => c | none => .skip
theorem zpw : Tryz.f29.body = some znC := by kernel_rfl
noncomputable def zp3 : Code := match Tryz.f37.body with | some c => c | none => .skip
theorem zpv : Tryz.f37.body = some zp3 := by kernel_rfl
noncomputable def zp2 : Code := match Tryz.f38.body with | some c => c | none => .skip
theorem zpu : Tryz.f38.body = some zp2 := by kernel_rfl
noncomputable def zp1 : Code := match Tryz.f39.body with | some c => c | none => .skip
theorem zpt : Tryz.f39.body = some zp1 := by kernel_rfl
noncomputable def zp0 : Code := match Tryz.f40.body with | some c => c | none => .skip
theorem zps : Tryz.f40.body = some zp0 := by kernel_rfl
noncomputable def zoZ : Code := match Tryz.f43.body with | some c => c | none => .skip
theorem zpr : Tryz.f43.body = some zoZ := by kernel_rfl
noncomputable def zoY : Code := match Tryz.f44.body with | some c => c | none => .skip
theorem zpq : Tryz.f44.body = some zoY := by kernel_rfl
noncomputable def zoX : Code := match Tryz.f45.body with | some c => c | none => .skip
theorem zpp : Tryz.f45.body = some zoX := by kernel_rfl
noncomputable def zoW : Code := match Tryz.f46.body with | some c => c | none => .skip
theorem zpo : Tryz.f46.body = some zoW := by kernel_rfl
noncomputable def zoV : Code := match Tryz.f47.body with | some c => c | none => .skip
theorem zpn : Tryz.f47.body = some zoV := by kernel_rfl
noncomputable def zoU : Code := match Tryz.f48.body with | some c => c | none => .skip
theorem zpm : Tryz.f48.body = some zoU := by kernel_rfl
noncomputable def zoT : Code := match Tryz.f59.body with | some c => c | none => .skip
theorem zpl : Tryz.f59.body = some zoT := by kernel_rfl
noncomputable def zoS : Code := match Tryz.f67.body with | some c => c | none => .skip
theorem zpk : Tryz.f67.body = some zoS := by kernel_rfl
noncomputable def zoR : Code := match Tryz.f70.body with | some c => c | none => .skip
theorem zpj : Tryz.f70.body = some zoR := by kernel_rfl
noncomputable def zoQ : Code := match Tryz.f71.body with | some c => c | none => .skip
theorem zpi : Tryz.f71.body = some zoQ := by kernel_rfl
noncomputable def zoP : Code := match Tryz.f72.body with | some c => c | none => .skip
theorem zph : Tryz.f72.body = some zoP := by kernel_rfl
noncomputable def zoO : Code := match Tryz.f82.body with | some c => c | none => .skip
theorem zpg : Tryz.f82.body = some zoO := by kernel_rfl
noncomputable def zoN : Code := match Tryz.f83.body with | some c => c | none => .skip
theorem zpf : Tryz.f83.body = some zoN := by kernel_rfl
noncomputable def zoM : Code := match Tryz.f84.body with | some c => c | none => .skip
theorem zpe : Tryz.f84.body = some zoM := by kernel_rfl
noncomputable def znh : Code := match Tryz.f100.body with | some c => c | none => .skip
theorem znm : Tryz.f100.body = some znh := by kernel_rfl
noncomputable def zng : Code := match Tryz.f118.body with | some c => c | none => .skip
theorem znl : Tryz.f118.body = some zng := by kernel_rfl
def xt : z0b := xtC
noncomputable def L : z0b := Lim Tryz.prog xt z0X
theorem ziN {f : FuncId} {c : Cfg} {fn : Func} {args : List T} {o : T × List T} (hc : z0X f = some c) (hfn : Tryz.prog.funcs[f]? = some fn) (h : zaY Tryz.prog L c LFm fn args = some o) : L f args = some o := zgZ hc hfn h
end
section
open Go
theorem z7A {f : FuncId} {cf : Cfg} {fn : Func} {c : Code} {args : List T} {r : T} {outs : List T} (hc : z0X f = some cf) (hfn : Tryz.prog.funcs[f]? = some fn) (hb : fn.body = some c) (ha : args.length <= fn.ntmps /\ (args.filter z3a).length <= 1 := by exact ⟨of_decide_eq_true rfl, of_decide_eq_true rfl⟩) (hz : cf.fz 999998 = none := by rfl) (g : wpC Tryz.prog L cf LFm c (z3S fn.ntmps args) (zjN Tryz.prog fn args r outs) := by simp only [z3S, z3y, z3o, z5z, z3a]; exact zfQ) : L f args = some (r, outs) := ziN hc hfn (zjn hb ha g hz)
theorem zhL {f : FuncId} {cf : Cfg} {fn : Func} {c : Code} {args : List T} {r : T} {outs : List T} (hc : z0X f = some cf) (hfn : Tryz.prog.funcs[f]? = some fn) (hb : fn.body = some c) (ha : args.length <= fn.ntmps /\ (args.filter z3a).length <= 1 := by exact ⟨of_decide_eq_true rfl, of_decide_eq_true rfl⟩) (hz : (cf.fz 999998).isSome = true := by rfl) (g : wpC Tryz.prog L cf LFm c (z3S fn.ntmps args) (zjM Tryz.prog fn args r outs) := by simp only [z3S, z3y, z3o, z5z, z3a]; exact zfQ) : L f args = some (r, outs) := ziN hc hfn (zap hb ha hz g)
end
section
open Go
noncomputable section
set_option maxRecDepth 100000
set_option maxHeartbeats 6000000
def z6u (a0 : Int) (a1 : Int) : Option (Int) :=
  if a1 < 1 then
    some 0
  else
    chk (¬ a1 = 0) <|
    if (Int.tmod a0 a1) < 0 then
      some (IntKind.i64.wrap ((Int.tmod a0 a1) + a1))
    else
      some (Int.tmod a0 a1)
instance made_Mod_ok {a0 : Int} {a1 : Int} : Ok (z6u a0 a1) (fun r => L 16 [.sc (.int .i64 a0), .sc (.int .i64 a1)] = some (.sc (.int .i64 r), [.dead, .dead])) := ⟨fun r h => by have h := z5x h; unfold z6u at h; exact z7A znd zow zpC⟩
def z0O (a0 : Tape) (a1 : Int) : Option (Int × Tape) :=
  if (a0.l.length : Int) <= a0.at_ then
    some (0, a0)
  else
    (atI a0.l (IntKind.i64.wrap ((IntKind.i64.wrap (a0.at_ + 1)) - 1))).bind fun v3 =>
    (z6u v3 a1).bind fun v4 =>
    some (v4, (⟨a0.l, IntKind.i64.wrap (a0.at_ + 1)⟩ : Tape))
instance made_Tape_Next_ok {a0 : Tape} {a1 : Int} : Ok (z0O a0 a1) (fun r => L 8 [.vr [.sl a0.l.length (a0.l.map fun x0 => .sc (.int .i64 x0)), .sc (.int .i64 a0.at_)], .sc (.int .i64 a1)] = some (.sc (.int .i64 r.1), [.vr [.sl r.2.l.length (r.2.l.map fun x0 => .sc (.int .i64 x0)), .sc (.int .i64 r.2.at_)], .dead])) := ⟨fun r h => by have h := z5x h; unfold z0O at h; exact z7A zoH fn8 bd8⟩
def z6t (a0 : List Int) : Option (Tape) :=
  if 80 < (a0.length : Int) then
    (z1F a0 0 80).bind fun v2 =>
    some (⟨v2, 0⟩ : Tape)
  else
    some (⟨a0, 0⟩ : Tape)
instance made_New_ok {a0 : List Int} : Ok (z6t a0) (fun r => L 6 [.sl a0.length (a0.map fun x0 => .sc (.int .i64 x0))] = some (.vr [.sl r.l.length (r.l.map fun x0 => .sc (.int .i64 x0)), .sc (.int .i64 r.at_)], [.dead])) := ⟨fun r h => by have h := z5x h; unfold z6t at h; exact z7A zoJ fn6 bd6⟩
def z0F (v90 : Int × Tape) (w125 : Int) : Int × List Int × Int × List (List Int) × List Int -> Option ((Int × List Int × Int × List (List Int) × List Int) ⊕ ((Int × List Int × Int × List (List Int)) ⊕ (DFA × Tape)))
  | (w162, w163, w164, w165, w166) =>
  if w162 < (IntKind.i64.wrap (1 + v90.1)) then
    (z0O (⟨w163, w164⟩ : Tape) (w166.length : Int)).bind fun v173 =>
    (atI w165 w162).bind fun v174 =>
    (atI w166 v173.1).bind fun v175 =>
    (atI v174 w125).bind fun v176 =>
    (z1F w166 0 v173.1).bind fun v177 =>
    (z1F w166 (IntKind.i64.wrap (v173.1 + 1)) (w166.length : Int)).bind fun v178 =>
    chk (z1c 8 (v177.length)) <|
    chk (z1c 8 (v177.length + v178.length)) <|
    z0y (IntKind.i64.wrap (w162 + 1), v173.2.l, v173.2.at_, (w165.set w162.toNat (v174.set w125.toNat v175)), v177 ++ v178)
  else
    z0k <|
    z0y (IntKind.i64.wrap (w125 + 1), w163, w164, w165)
def z0D (a1 : Int) (v90 : Int × Tape) (v91 : Int × Tape) (w96 : List Bool) (w125 : Int) : Int × List Int × Int × List (List Int) × List Int -> Fr
  | (w162, w163, w164, w165, w166) => ⟨90, [(0, .one (.a 0 [] (0))), (1, .one (.t none (.sc (.int .i64 a1)))), (6, .one (.a 6 [] (0))), (7, .one (.a 7 [] (0))), (8, .one (.t none (.sc (.int .i64 (IntKind.i64.wrap (1 + v90.1)))))), (10, .one (.t none (.sc (.int .i64 w125)))), (11, .one (.h 11 [])), (13, .one (.t none (.sc (.int .i64 w162)))), (1090, .one (.a 0 [] (0)))], [(0, .vr [.sl w163.length (w163.map fun x0 => .sc (.int .i64 x0)), .sc (.int .i64 w164)]), (6, .vr [.sc (.int .i64 0), .sc (.int .i64 0), .os 1 0 [], .os 1 0 []]), (7, .vr [.sc (.int .i64 a1), .sc (.int .i64 v91.1), .os 1 w96.length (w96.map fun x0 => .sc (.bool x0)), .os 1 w165.length (w165.map fun x0 => .os 1 x0.length (x0.map fun x1 => .sc (.int .i64 x1)))]), (11, .os 1 w166.length (w166.map fun x0 => .sc (.int .i64 x0)))]⟩
def z0G (v90 : Int × Tape) (w125 : Int) (w126 : List Int) (w127 : Int) (w128 : List (List Int)) : Int × List Int -> Option ((Int × List Int) ⊕ ((Int × List Int × Int × List (List Int)) ⊕ (DFA × Tape)))
  | (w154, w155) =>
  if w154 < (IntKind.i64.wrap (1 + v90.1)) then
    chk (z1c 8 (w155.length + 1)) <|
    z0y (IntKind.i64.wrap (w154 + 1), w155 ++ [w154])
  else
    z0k <|
    z0z (z0F v90 w125) LFm (0, w126, w127, w128, w155)
def z0E (a1 : Int) (v90 : Int × Tape) (v91 : Int × Tape) (w96 : List Bool) (w125 : Int) (w126 : List Int) (w127 : Int) (w128 : List (List Int)) : Int × List Int -> Fr
  | (w154, w155) => ⟨90, [(0, .one (.a 0 [] (0))), (1, .one (.t none (.sc (.int .i64 a1)))), (6, .one (.a 6 [] (0))), (7, .one (.a 7 [] (0))), (8, .one (.t none (.sc (.int .i64 (IntKind.i64.wrap (1 + v90.1)))))), (10, .one (.t none (.sc (.int .i64 w125)))), (11, .one (.h 11 [])), (12, .one (.t none (.sc (.int .i64 w154)))), (1090, .one (.a 0 [] (0)))], [(0, .vr [.sl w126.length (w126.map fun x0 => .sc (.int .i64 x0)), .sc (.int .i64 w127)]), (6, .vr [.sc (.int .i64 0), .sc (.int .i64 0), .os 1 0 [], .os 1 0 []]), (7, .vr [.sc (.int .i64 a1), .sc (.int .i64 v91.1), .os 1 w96.length (w96.map fun x0 => .sc (.bool x0)), .os 1 w128.length (w128.map fun x0 => .os 1 x0.length (x0.map fun x1 => .sc (.int .i64 x1)))]), (11, .os 1 w155.length (w155.map fun x0 => .sc (.int .i64 x0)))]⟩
def z0M (a1 : Int) (v90 : Int × Tape) (v91 : Int × Tape) (w96 : List Bool) : Int × List Int × Int × List (List Int) -> Option ((Int × List Int × Int × List (List Int)) ⊕ (DFA × Tape))
  | (w125, w126, w127, w128) =>
  if w125 < a1 then
    z0z (z0G v90 w125 w126 w127 w128) LFm (0, [])
  else
    z0k <|
    some ((⟨a1, v91.1, w96, w128⟩ : DFA), (⟨w126, w127⟩ : Tape))
def z0K (a1 : Int) (v90 : Int × Tape) (v91 : Int × Tape) (w96 : List Bool) : Int × List Int × Int × List (List Int) -> Fr
  | (w125, w126, w127, w128) => ⟨90, [(0, .one (.a 0 [] (0))), (1, .one (.t none (.sc (.int .i64 a1)))), (6, .one (.a 6 [] (0))), (7, .one (.a 7 [] (0))), (8, .one (.t none (.sc (.int .i64 (IntKind.i64.wrap (1 + v90.1)))))), (10, .one (.t none (.sc (.int .i64 w125)))), (1090, .one (.a 0 [] (0)))], [(0, .vr [.sl w126.length (w126.map fun x0 => .sc (.int .i64 x0)), .sc (.int .i64 w127)]), (6, .vr [.sc (.int .i64 0), .sc (.int .i64 0), .os 1 0 [], .os 1 0 []]), (7, .vr [.sc (.int .i64 a1), .sc (.int .i64 v91.1), .os 1 w96.length (w96.map fun x0 => .sc (.bool x0)), .os 1 w128.length (w128.map fun x0 => .os 1 x0.length (x0.map fun x1 => .sc (.int .i64 x1)))])]⟩
def z0N (a1 : Int) (v90 : Int × Tape) (v91 : Int × Tape) : Int × List Int × Int × List Bool × List (List Int) -> Option ((Int × List Int × Int × List Bool × List (List Int)) ⊕ (DFA × Tape))
  | (w93, w94, w95, w96, w97) =>
  if w93 < (IntKind.i64.wrap (1 + v90.1)) then
    (z0O (⟨w94, w95⟩ : Tape) 2).bind fun v99 =>
    chk (z1c 1 (w96.length + 1)) <|
    chk (z1v 8 a1) <|
    chk (z1c 24 (w97.length + 1)) <|
    z0y (IntKind.i64.wrap (w93 + 1), v99.2.l, v99.2.at_, w96 ++ [decide (v99.1 = 1)], w97 ++ [List.replicate a1.toNat (0 : Int)])
  else
    z0k <|
    z0z (z0M a1 v90 v91 w96) LFm (0, w94, w95, w97)
def z0L (a1 : Int) (v90 : Int × Tape) (v91 : Int × Tape) : Int × List Int × Int × List Bool × List (List Int) -> Fr
  | (w93, w94, w95, w96, w97) => ⟨90, [(0, .one (.a 0 [] (0))), (1, .one (.t none (.sc (.int .i64 a1)))), (6, .one (.a 6 [] (0))), (7, .one (.a 7 [] (0))), (8, .one (.t none (.sc (.int .i64 (IntKind.i64.wrap (1 + v90.1)))))), (9, .one (.t none (.sc (.int .i64 w93)))), (1090, .one (.a 0 [] (0)))], [(0, .vr [.sl w94.length (w94.map fun x0 => .sc (.int .i64 x0)), .sc (.int .i64 w95)]), (6, .vr [.sc (.int .i64 0), .sc (.int .i64 0), .os 1 0 [], .os 1 0 []]), (7, .vr [.sc (.int .i64 a1), .sc (.int .i64 v91.1), .os 1 w96.length (w96.map fun x0 => .sc (.bool x0)), .os 1 w97.length (w97.map fun x0 => .os 1 x0.length (x0.map fun x1 => .sc (.int .i64 x1)))])]⟩
def z0t (a0 : Tape) (a1 : Int) (a2 : Int) : Option (DFA × Tape) :=
  (z0O a0 a2).bind fun v90 =>
  (z0O v90.2 (IntKind.i64.wrap (1 + v90.1))).bind fun v91 =>
  z0z (z0N a1 v90 v91) LFm (0, v91.2.l, v91.2.at_, [], [])
instance made_Tape_Permutations_ok {a0 : Tape} {a1 : Int} {a2 : Int} : Ok (z0t a0 a1 a2) (fun r => L 7 [.vr [.sl a0.l.length (a0.l.map fun x0 => .sc (.int .i64 x0)), .sc (.int .i64 a0.at_)], .sc (.int .i64 a1), .sc (.int .i64 a2)] = some (.agg [.sc (.int .i64 r.1.letters), .sc (.int .i64 r.1.start), .sl r.1.final.length (r.1.final.map fun x0 => .sc (.bool x0)), .sl r.1.next.length (r.1.next.map fun x0 => .sl x0.length (x0.map fun x1 => .sc (.int .i64 x1)))], [.vr [.sl r.2.l.length (r.2.l.map fun x0 => .sc (.int .i64 x0)), .sc (.int .i64 r.2.at_)], .dead, .dead])) := ⟨fun r h0 => by
  simp only [z0t] at h0
  refine ziN zoI fn7 (zap bd7 ⟨of_decide_eq_true rfl, of_decide_eq_true rfl⟩ rfl ?_)
  simp only [z3S, z3y, z3o, z5z, z3a]
  refine zq rfl (zr rfl rfl rfl (by simp; rfl) ?_)
  refine z0o (zq rfl (zr rfl rfl rfl (by simp; rfl) ?_))
  refine z0o (zq rfl ?_)
  obtain ⟨v90, f115, h1⟩ := z1B h0
  have f115k := Ok.ok _ f115
  try simp at f115k
  refine zr rfl rfl rfl (by simp [f115k]; rfl) ?_
  refine z0o (zq rfl ?_)
  obtain ⟨v91, f116, h2⟩ := z1B h1
  have f116k := Ok.ok _ f116
  try simp at f116k
  refine zr rfl rfl rfl (by simp [f116k]; rfl) ?_
  refine z0o (zq rfl (zq rfl (zr rfl rfl rfl (by simp; rfl) ?_)))
  refine z0o (zb rfl (z6X h2 (z0L a1 v90 v91) rfl rfl (by simp [z0L]) fun s o1 h3 hr1 => ?_))
  obtain ⟨w93, w94, w95, w96, w97⟩ := s
  simp only [z0N] at h3
  simp only [z0L]
  refine zq rfl (zq rfl (zr rfl rfl rfl (by simp; rfl) ?_))
  refine z0o ?_
  by_cases c125 : w93 < (IntKind.i64.wrap (1 + v90.1))
  ·rw [if_pos c125] at h3
   refine z7F rfl (by simp [c125]) (z4m rfl (z0o (zq rfl (zb rfl ?_))))
   obtain ⟨v99, f126, h4⟩ := z1B h3
   have f126k := Ok.ok _ f126
   try simp at f126k
   obtain ⟨f127, h5⟩ := zni h4
   obtain ⟨f128, h6⟩ := znU h5
   obtain ⟨f129, h7⟩ := ziH h6
   refine z6n rfl rfl rfl rfl ?_
   refine zkf [(0, 0, 3, 1), (1, 2, 3, 2), (2, 7, 3, 3), (3, 9, 3, 4), (4, 1, 2, 5), (4, 3, 1, 6), (4, 8, 2, 7), (4, 10, 1, 8), (5, 3, 1, 9), (5, 8, 2, 10), (5, 10, 1, 11), (6, 4, 3, 12), (7, 1, 2, 10), (7, 3, 1, 13), (7, 10, 1, 15), (8, 1, 2, 11), (8, 3, 1, 14), (8, 8, 2, 15), (8, 11, 1, 16), (9, 4, 3, 17), (10, 3, 1, 18), (10, 10, 1, 20), (11, 3, 1, 19), (11, 8, 2, 20), (11, 11, 1, 21), (12, 1, 2, 17), (12, 5, 1, 22), (12, 8, 2, 23), (12, 10, 1, 24), (13, 4, 3, 23), (14, 4, 3, 24), (15, 1, 2, 20), (15, 3, 1, 25), (15, 11, 1, 27), (16, 1, 2, 21), (16, 3, 1, 26), (16, 8, 2, 27), (17, 5, 1, 28), (17, 8, 2, 29), (17, 10, 1, 30), (18, 4, 0, 29), (19, 4, 3, 30), (20, 3, 1, 31), (20, 11, 1, 33), (21, 3, 1, 32), (21, 8, 2, 33), (22, 1, 2, 28), (22, 8, 2, 34), (22, 10, 1, 35), (23, 1, 2, 29), (23, 5, 1, 34), (23, 10, 1, 36), (24, 1, 2, 30), (24, 5, 1, 35), (24, 8, 2, 36), (24, 11, 1, 37), (25, 4, 3, 36), (26, 4, 3, 37), (27, 1, 2, 33), (27, 3, 1, 38), (28, 6, 2, 39), (28, 8, 2, 40), (28, 10, 1, 41), (29, 5, 1, 40), (29, 10, 1, 42), (30, 5, 1, 41), (30, 8, 2, 42), (30, 11, 1, 43), (31, 4, 0, 42), (32, 4, 3, 43), (33, 3, 1, 44), (34, 1, 2, 40), (34, 10, 1, 45), (35, 1, 2, 41), (35, 8, 2, 45), (35, 11, 1, 46), (36, 1, 2, 42), (36, 5, 1, 45), (36, 11, 1, 47), (37, 1, 2, 43), (37, 5, 1, 46), (37, 8, 2, 47), (38, 4, 3, 47), (39, 8, 2, 48), (39, 10, 1, 49), (40, 6, 2, 48), (40, 10, 1, 50), (41, 6, 2, 49), (41, 8, 2, 50), (41, 11, 1, 51), (42, 5, 1, 50), (42, 11, 1, 52), (43, 5, 1, 51), (43, 8, 2, 52), (44, 4, 0, 52), (45, 1, 2, 50), (45, 11, 1, 53), (46, 1, 2, 51), (46, 8, 2, 53), (47, 1, 2, 52), (47, 5, 1, 53), (48, 13, 3, 55), (49, 8, 2, 54), (49, 11, 1, 56), (50, 6, 2, 54), (50, 11, 1, 57), (51, 6, 2, 56), (51, 8, 2, 57), (52, 5, 1, 57), (53, 1, 2, 57), (54, 13, 3, 59), (55, 10, 1, 59), (56, 8, 2, 58), (57, 6, 2, 58), (58, 13, 3, 60), (59, 11, 1, 60), (60, 12, 2, 61), (61, 14, 2, 62), (62, 15, 0, 63), (63, 16, 2, 64)] 64 (by kernel_rfl) ?_
   refine z0i rfl rfl rfl rfl (by simp [z0d, z0e, f126k, f127, f128, f129]; rfl) ?_
   refine z0i rfl rfl rfl rfl (by simp [z0d, z0e, f126k, f127, f128, f129]; rfl) ?_
   refine z0i rfl rfl rfl rfl (by simp [z0d, z0e, f126k, f127, f128, f129]; rfl) ?_
   refine z0i rfl rfl rfl rfl (by simp [z0d, z0e, f126k, f127, f128, f129]; rfl) ?_
   refine z0i rfl rfl rfl rfl (by simp [z0d, z0e, f126k, f127, f128, f129]; rfl) ?_
   refine z0i rfl rfl rfl rfl (by simp [z0d, z0e, f126k, f127, f128, f129]; rfl) ?_
   refine z0i rfl rfl rfl rfl (by simp [z0d, z0e, f126k, f127, f128, f129]; rfl) ?_
   refine z0i rfl rfl rfl rfl (by simp [z0d, z0e, f126k, f127, f128, f129]; rfl) ?_
   refine z0i rfl rfl rfl rfl (by simp [z0d, z0e, f126k, f127, f128, f129]; rfl) ?_
   refine z0i rfl rfl rfl rfl (by simp [z0d, z0e, f126k, f127, f128, f129]; rfl) ?_
   refine z0i rfl rfl rfl rfl (by simp [z0d, z0e, f126k, f127, f128, f129]; rfl) ?_
   refine z0i rfl rfl rfl rfl (by simp [z0d, z0e, f126k, f127, f128, f129]; rfl) ?_
   refine z0j rfl rfl rfl rfl (by simp [z0d, z0e, f126k, f127, f128, f129]) ?_
   refine z0i rfl rfl rfl rfl (by simp [z0d, z0e, f126k, f127, f128, f129]; rfl) ?_
   refine z0i rfl rfl rfl rfl (by simp [z0d, z0e, f126k, f127, f128, f129]; rfl) ?_
   refine z0j rfl rfl rfl rfl (by simp [z0d, z0e, f126k, f127, f128, f129]) ?_
   refine z0i rfl rfl rfl rfl (by simp [z0d, z0e, f126k, f127, f128, f129]; rfl) ?_
   refine z0j rfl rfl rfl rfl (by simp [z0d, z0e, f126k, f127, f128, f129]) ?_
   refine z0i rfl rfl rfl rfl (by simp [z0d, z0e, f126k, f127, f128, f129]; rfl) ?_
   refine z0i rfl rfl rfl rfl (by simp [z0d, z0e, f126k, f127, f128, f129]; rfl) ?_
   refine z0i rfl rfl rfl rfl (by simp [z0d, z0e, f126k, f127, f128, f129]; rfl) ?_
   refine z0i rfl rfl rfl rfl (by simp [z0d, z0e, f126k, f127, f128, f129]; rfl) ?_
   refine z0i rfl rfl rfl rfl (by simp [z0d, z0e, f126k, f127, f128, f129]; rfl) ?_
   refine z0j rfl rfl rfl rfl (by simp [z0d, z0e, f126k, f127, f128, f129]) ?_
   refine z0i rfl rfl rfl rfl (by simp [z0d, z0e, f126k, f127, f128, f129]; rfl) ?_
   refine z0j rfl rfl rfl rfl (by simp [z0d, z0e, f126k, f127, f128, f129]) ?_
   refine z0i rfl rfl rfl rfl (by simp [z0d, z0e, f126k, f127, f128, f129]; rfl) ?_
   refine z0i rfl rfl rfl rfl (by simp [z0d, z0e, f126k, f127, f128, f129]; rfl) ?_
   refine z0i rfl rfl rfl rfl (by simp [z0d, z0e, f126k, f127, f128, f129]; rfl) ?_
   refine z0j rfl rfl rfl rfl (by simp [z0d, z0e, f126k, f127, f128, f129]) ?_
   refine z0j rfl rfl rfl rfl (by simp [z0d, z0e, f126k, f127, f128, f129]) ?_
   refine z0j rfl rfl rfl rfl (by simp [z0d, z0e, f126k, f127, f128, f129]) ?_
   refine z0i rfl rfl rfl rfl (by simp [z0d, z0e, f126k, f127, f128, f129]; rfl) ?_
   refine z0i rfl rfl rfl rfl (by simp [z0d, z0e, f126k, f127, f128, f129]; rfl) ?_
   refine z0j rfl rfl rfl rfl (by simp [z0d, z0e, f126k, f127, f128, f129]) ?_
   refine z0i rfl rfl rfl rfl (by simp [z0d, z0e, f126k, f127, f128, f129]; rfl) ?_
   refine z0j rfl rfl rfl rfl (by simp [z0d, z0e, f126k, f127, f128, f129]) ?_
   refine z0i rfl rfl rfl rfl (by simp [z0d, z0e, f126k, f127, f128, f129]; rfl) ?_
   refine z0i rfl rfl rfl rfl (by simp [z0d, z0e, f126k, f127, f128, f129]; rfl) ?_
   refine z0i rfl rfl rfl rfl (by simp [z0d, z0e, f126k, f127, f128, f129]; rfl) ?_
   refine z0j rfl rfl rfl rfl (by simp [z0d, z0e, f126k, f127, f128, f129]) ?_
   refine z0j rfl rfl rfl rfl (by simp [z0d, z0e, f126k, f127, f128, f129]) ?_
   refine z0i rfl rfl rfl rfl (by simp [z0d, z0e, f126k, f127, f128, f129]; rfl) ?_
   refine z0i rfl rfl rfl rfl (by simp [z0d, z0e, f126k, f127, f128, f129]; rfl) ?_
   refine z0i rfl rfl rfl rfl (by simp [z0d, z0e, f126k, f127, f128, f129]; rfl) ?_
   refine z0j rfl rfl rfl rfl (by simp [z0d, z0e, f126k, f127, f128, f129]) ?_
   refine z0j rfl rfl rfl rfl (by simp [z0d, z0e, f126k, f127, f128, f129]) ?_
   refine z0i rfl rfl rfl rfl (by simp [z0d, z0e, f126k, f127, f128, f129]; rfl) ?_
   refine z0i rfl rfl rfl rfl (by simp [z0d, z0e, f126k, f127, f128, f129]; rfl) ?_
   refine z0j rfl rfl rfl rfl (by simp [z0d, z0e, f126k, f127, f128, f129]) ?_
   refine z0j rfl rfl rfl rfl (by simp [z0d, z0e, f126k, f127, f128, f129]) ?_
   refine z0i rfl rfl rfl rfl (by simp [z0d, z0e, f126k, f127, f128, f129]; rfl) ?_
   refine z0j rfl rfl rfl rfl (by simp [z0d, z0e, f126k, f127, f128, f129]) ?_
   refine z0j rfl rfl rfl rfl (by simp [z0d, z0e, f126k, f127, f128, f129]) ?_
   refine z0j rfl rfl rfl rfl (by simp [z0d, z0e, f126k, f127, f128, f129]) ?_
   refine z0i rfl rfl rfl rfl (by simp [z0d, z0e, f126k, f127, f128, f129]; rfl) ?_
   refine z0j rfl rfl rfl rfl (by simp [z0d, z0e, f126k, f127, f128, f129]) ?_
   refine z0j rfl rfl rfl rfl (by simp [z0d, z0e, f126k, f127, f128, f129]) ?_
   refine z0j rfl rfl rfl rfl (by simp [z0d, z0e, f126k, f127, f128, f129]) ?_
   refine z0i rfl rfl rfl rfl (by simp [z0d, z0e, f126k, f127, f128, f129]; rfl) ?_
   refine z0i rfl rfl rfl rfl (by simp [z0d, z0e, f126k, f127, f128, f129]; rfl) ?_
   refine z0i rfl rfl rfl rfl (by simp [z0d, z0e, f126k, f127, f128, f129]; rfl) ?_
   refine z0i rfl rfl rfl rfl (by simp [z0d, z0e, f126k, f127, f128, f129]; rfl) ?_
   refine z0j rfl rfl rfl rfl (by simp [z0d, z0e, f126k, f127, f128, f129]) ?_
   refine z0i rfl rfl rfl rfl (by simp [z0d, z0e, f126k, f127, f128, f129]; rfl) ?_
   refine z0j rfl rfl rfl rfl (by simp [z0d, z0e, f126k, f127, f128, f129]) ?_
   refine z0j rfl rfl rfl rfl (by simp [z0d, z0e, f126k, f127, f128, f129]) ?_
   refine z0i rfl rfl rfl rfl (by simp [z0d, z0e, f126k, f127, f128, f129]; rfl) ?_
   refine z0j rfl rfl rfl rfl (by simp [z0d, z0e, f126k, f127, f128, f129]) ?_
   refine z0j rfl rfl rfl rfl (by simp [z0d, z0e, f126k, f127, f128, f129]) ?_
   refine z0i rfl rfl rfl rfl (by simp [z0d, z0e, f126k, f127, f128, f129]; rfl) ?_
   refine z0j rfl rfl rfl rfl (by simp [z0d, z0e, f126k, f127, f128, f129]) ?_
   refine z0i rfl rfl rfl rfl (by simp [z0d, z0e, f126k, f127, f128, f129]; rfl) ?_
   refine z0j rfl rfl rfl rfl (by simp [z0d, z0e, f126k, f127, f128, f129]) ?_
   refine z0j rfl rfl rfl rfl (by simp [z0d, z0e, f126k, f127, f128, f129]) ?_
   refine z0i rfl rfl rfl rfl (by simp [z0d, z0e, f126k, f127, f128, f129]; rfl) ?_
   refine z0j rfl rfl rfl rfl (by simp [z0d, z0e, f126k, f127, f128, f129]) ?_
   refine z0j rfl rfl rfl rfl (by simp [z0d, z0e, f126k, f127, f128, f129]) ?_
   refine z0i rfl rfl rfl rfl (by simp [z0d, z0e, f126k, f127, f128, f129]; rfl) ?_
   refine z0j rfl rfl rfl rfl (by simp [z0d, z0e, f126k, f127, f128, f129]) ?_
   refine z0j rfl rfl rfl rfl (by simp [z0d, z0e, f126k, f127, f128, f129]) ?_
   refine z0j rfl rfl rfl rfl (by simp [z0d, z0e, f126k, f127, f128, f129]) ?_
   refine z0j rfl rfl rfl rfl (by simp [z0d, z0e, f126k, f127, f128, f129]) ?_
   refine z0i rfl rfl rfl rfl (by simp [z0d, z0e, f126k, f127, f128, f129]; rfl) ?_
   refine z0i rfl rfl rfl rfl (by simp [z0d, z0e, f126k, f127, f128, f129]; rfl) ?_
   refine z0j rfl rfl rfl rfl (by simp [z0d, z0e, f126k, f127, f128, f129]) ?_
   refine z0i rfl rfl rfl rfl (by simp [z0d, z0e, f126k, f127, f128, f129]; rfl) ?_
   refine z0j rfl rfl rfl rfl (by simp [z0d, z0e, f126k, f127, f128, f129]) ?_
   refine z0j rfl rfl rfl rfl (by simp [z0d, z0e, f126k, f127, f128, f129]) ?_
   refine z0i rfl rfl rfl rfl (by simp [z0d, z0e, f126k, f127, f128, f129]; rfl) ?_
   refine z0j rfl rfl rfl rfl (by simp [z0d, z0e, f126k, f127, f128, f129]) ?_
   refine z0i rfl rfl rfl rfl (by simp [z0d, z0e, f126k, f127, f128, f129]; rfl) ?_
   refine z0j rfl rfl rfl rfl (by simp [z0d, z0e, f126k, f127, f128, f129]) ?_
   refine z0j rfl rfl rfl rfl (by simp [z0d, z0e, f126k, f127, f128, f129]) ?_
   refine z0j rfl rfl rfl rfl (by simp [z0d, z0e, f126k, f127, f128, f129]) ?_
   refine z0j rfl rfl rfl rfl (by simp [z0d, z0e, f126k, f127, f128, f129]) ?_
   refine z0i rfl rfl rfl rfl (by simp [z0d, z0e, f126k, f127, f128, f129]; rfl) ?_
   refine z0j rfl rfl rfl rfl (by simp [z0d, z0e, f126k, f127, f128, f129]) ?_
   refine z0j rfl rfl rfl rfl (by simp [z0d, z0e, f126k, f127, f128, f129]) ?_
   refine z0j rfl rfl rfl rfl (by simp [z0d, z0e, f126k, f127, f128, f129]) ?_
   refine z0j rfl rfl rfl rfl (by simp [z0d, z0e, f126k, f127, f128, f129]) ?_
   refine z0i rfl rfl rfl rfl (by simp [z0d, z0e, f126k, f127, f128, f129]; rfl) ?_
   refine z0i rfl rfl rfl rfl (by simp [z0d, z0e, f126k, f127, f128, f129]; rfl) ?_
   refine z0i rfl rfl rfl rfl (by simp [z0d, z0e, f126k, f127, f128, f129]; rfl) ?_
   refine z0j rfl rfl rfl rfl (by simp [z0d, z0e, f126k, f127, f128, f129]) ?_
   refine z0i rfl rfl rfl rfl (by simp [z0d, z0e, f126k, f127, f128, f129]; rfl) ?_
   refine z0j rfl rfl rfl rfl (by simp [z0d, z0e, f126k, f127, f128, f129]) ?_
   refine z0j rfl rfl rfl rfl (by simp [z0d, z0e, f126k, f127, f128, f129]) ?_
   refine z0j rfl rfl rfl rfl (by simp [z0d, z0e, f126k, f127, f128, f129]) ?_
   refine z0j rfl rfl rfl rfl (by simp [z0d, z0e, f126k, f127, f128, f129]) ?_
   refine z0i rfl rfl rfl rfl (by simp [z0d, z0e, f126k, f127, f128, f129]; rfl) ?_
   refine z0j rfl rfl rfl rfl (by simp [z0d, z0e, f126k, f127, f128, f129]) ?_
   refine z0i rfl rfl rfl rfl (by simp [z0d, z0e, f126k, f127, f128, f129]; rfl) ?_
   refine z0j rfl rfl rfl rfl (by simp [z0d, z0e, f126k, f127, f128, f129]) ?_
   refine z0i rfl rfl rfl rfl (by simp [z0d, z0e, f126k, f127, f128, f129]; rfl) ?_
   refine z0j rfl rfl rfl rfl (by simp [z0d, z0e, f126k, f127, f128, f129]) ?_
   refine z0i rfl rfl rfl rfl (by simp [z0d, z0e, f126k, f127, f128, f129]; rfl) ?_
   refine z0i rfl rfl rfl rfl (by simp [z0d, z0e, f126k, f127, f128, f129]; rfl) ?_
   refine z0i rfl rfl rfl rfl (by simp [z0d, z0e, f126k, f127, f128, f129]; rfl) ?_
   refine z0i rfl rfl rfl rfl (by simp [z0d, z0e, f126k, f127, f128, f129]; rfl) ?_
   refine zkN rfl ?_
   refine z6i rfl (by simp [f126k, f127, f128, f129]; rfl) ?_
   refine z2i (z0o (zr rfl rfl rfl (by simp; rfl) ?_))
   have ho := z4G h7
   refine z6l ho ?_
   simp [z0L]
  ·rw [if_neg c125] at h3
   refine z7G rfl (by simp [c125]) (z4n rfl (z2O ?_))
   obtain ⟨rr1, h4, ho1⟩ := z3R h3
   have hs1 := hr1 _ ho1
   subst hs1
   refine z6k ho1 (z0V rfl (z0o (zq rfl (zq rfl (zr rfl rfl rfl (by simp; rfl) ?_)))))
   refine z0o (zb rfl (z6X h4 (z0K a1 v90 v91 w96) rfl rfl (by simp [z0K]) fun s o2 h5 hr2 => ?_))
   obtain ⟨w125, w126, w127, w128⟩ := s
   simp only [z0M] at h5
   simp only [z0K]
   refine zq rfl (zq rfl (zr rfl rfl rfl (by simp; rfl) ?_))
   refine z0o ?_
   by_cases c196 : w125 < a1
   ·rw [if_pos c196] at h5
    refine z7F rfl (by simp [c196]) (z4m rfl (z0o (zq rfl (zb rfl (zq rfl (zr rfl rfl rfl (by simp; rfl) ?_))))))
    refine z0o (zq rfl (zq rfl (zr rfl rfl rfl (by simp; rfl) ?_)))
    refine z0o (zb rfl (z6X h5 (z0E a1 v90 v91 w96 w125 w126 w127 w128) rfl rfl (by simp [z0E]) fun s o3 h6 hr3 => ?_))
    obtain ⟨w154, w155⟩ := s
    simp only [z0G] at h6
    simp only [z0E]
    refine zq rfl (zq rfl (zr rfl rfl rfl (by simp; rfl) ?_))
    refine z0o ?_
    by_cases c200 : w154 < (IntKind.i64.wrap (1 + v90.1))
    ·rw [if_pos c200] at h6
     refine z7F rfl (by simp [c200]) (z4m rfl (z0o (zq rfl (zb rfl ?_))))
     obtain ⟨f201, h7⟩ := ziH h6
     refine zr rfl rfl rfl (by simp [f201]; rfl) ?_
     refine z2i (z0o (zr rfl rfl rfl (by simp; rfl) ?_))
     have ho := z4G h7
     refine z6l ho ?_
     simp [z0E]
    ·rw [if_neg c200] at h6
     refine z7G rfl (by simp [c200]) (z4n rfl (z2O ?_))
     obtain ⟨rr3, h7, ho3⟩ := z3R h6
     have hs3 := hr3 _ ho3
     subst hs3
     refine z6k ho3 (z0V rfl (z0o (zq rfl (zr rfl rfl rfl (by simp; rfl) ?_))))
     refine z0o (zb rfl (z6X h7 (z0D a1 v90 v91 w96 w125) rfl rfl (by simp [z0D]) fun s o4 h8 hr4 => ?_))
     obtain ⟨w162, w163, w164, w165, w166⟩ := s
     simp only [z0F] at h8
     simp only [z0D]
     refine zq rfl (zq rfl (zr rfl rfl rfl (by simp; rfl) ?_))
     refine z0o ?_
     by_cases c220 : w162 < (IntKind.i64.wrap (1 + v90.1))
     ·rw [if_pos c220] at h8
      refine z7F rfl (by simp [c220]) (z4m rfl (z0o (zq rfl (zb rfl (zq rfl ?_)))))
      obtain ⟨v173, f221, h9⟩ := z1B h8
      have f221k := Ok.ok _ f221
      try simp at f221k
      refine zr rfl rfl rfl (by simp [f221k]; rfl) ?_
      refine z0o (zq rfl ?_)
      obtain ⟨v174, f222, h10⟩ := zdl h9
      obtain ⟨v175, f223, h11⟩ := zdl h10
      obtain ⟨v176, f224, h12⟩ := zdl h11
      refine z3C rfl rfl rfl rfl ?_; repeat' ((first | refine z1x rfl rfl fun Q' hQ => ?_ | refine z1n rfl fun Q' hQ => ?_); simp [f222, f223, f224]; refine hQ.out _ ?_; clear hQ; clear Q')
      refine z0o ?_
      obtain ⟨v177, f225, h13⟩ := z1B h12
      obtain ⟨f225a, f225b, f225c, -⟩ := z1E f225
      obtain ⟨f225d, f225g⟩ := z6q f225a f225b
      have f225e := z7a (g := fun x : Int => (.sc (.int .i64 x) : T)) f225
      try simp at f225e
      have f225f := z6Z f225
      try simp only [Int.reduceToNat, Int.toNat_natCast, Nat.sub_zero] at f225f
      obtain ⟨v178, f226, h14⟩ := z1B h13
      obtain ⟨f226a, f226b, f226c, -⟩ := z1E f226
      obtain ⟨f226d, f226g⟩ := z6q f226a f226b
      have f226e := z7a (g := fun x : Int => (.sc (.int .i64 x) : T)) f226
      try simp at f226e
      have f226f := z6Z f226
      try simp only [Int.reduceToNat, Int.toNat_natCast, Nat.sub_zero] at f226f
      obtain ⟨f227, h15⟩ := ziH h14
      obtain ⟨f228, h16⟩ := ziH h15
      refine z3C rfl rfl rfl rfl ?_; repeat' ((first | refine z1x rfl rfl fun Q' hQ => ?_ | refine z1n rfl fun Q' hQ => ?_); simp [f222, f225a, f225b, f225c, f225d, f225g, f225e, f225f, f226a, f226b, f226c, f226d, f226g, f226e, f226f, f227, f228]; refine hQ.out _ ?_; clear hQ; clear Q')
      refine z2i (z0o (zr rfl rfl rfl (by simp [f222]; rfl) ?_))
      have ho := z4G h16
      refine z6l ho ?_
      simp [z0D]
     ·rw [if_neg c220] at h8
      refine z7G rfl (by simp [c220]) (z4n rfl (z2O ?_))
      obtain ⟨rr4, h9, ho4⟩ := z3R h8
      have hs4 := hr4 _ ho4
      subst hs4
      refine z6k ho4 (z0V rfl (z2i (z0o (zr rfl rfl rfl (by simp; rfl) ?_))))
      have ho := z4G h9
      refine z6l ho ?_
      simp [z0K]
   ·rw [if_neg c196] at h5
    refine z7G rfl (by simp [c196]) (z4n rfl (z2O ?_))
    obtain ⟨rr2, h6, ho2⟩ := z3R h5
    have hs2 := hr2 _ ho2
    subst hs2
    refine z6k ho2 (z0V rfl (z0o (zq rfl (zr rfl rfl rfl (by simp; rfl) ?_))))
    refine z0o (zat rfl ?_)
    cases h6
    simp⟩
end
end
section
open Go
structure TapeOk (t : Tape) : Prop where
  a0 : 0 <= t.at_
  a1 : t.at_ <= t.l.length
  a2 : t.l.length <= 80
theorem zd3 (x n : Int) (h1 : 1 <= n) (h2 : n < 4611686018427387904) : ∃ v, z6u x n = some v /\ 0 <= v /\ v < n := by
  have hx : x.tmod n < n := Int.tmod_lt_of_pos _ (by omega)
  have hy : -n < x.tmod n := Int.lt_tmod_of_pos x (by omega)
  unfold z6u
  rw [if_neg (by omega), z0B _ (by omega)]
  split
  · rw [z7B (by omega) (by omega)]; exact ⟨_, rfl, by omega, by omega⟩
  · exact ⟨_, rfl, by omega, by omega⟩
theorem z8M {t : Tape} (ht : TapeOk t) (n : Int) (h1 : 1 <= n) (h2 : n < 4611686018427387904) : ∃ v t', z0O t n = some (v, t') /\ 0 <= v /\ v < n /\ TapeOk t' := by
  obtain ⟨a0, a1, a2⟩ := ht
  unfold z0O
  split
  · exact ⟨_, _, rfl, by omega, by omega, a0, a1, a2⟩
  · rename_i hlt
    rw [z7B (x := t.at_ + 1) (by omega) (by omega), z7B (by omega) (by omega)]
    obtain ⟨k, hk⟩ := Int.eq_ofNat_of_zero_le a0
    have e : t.at_ + 1 - 1 = (k : Int) := by omega
    rw [e, z0p (by omega)]
    obtain ⟨v, hv, h3, h4⟩ := zd3 t.l[k] n h1 h2
    simp only [Option.bind_some, hv]
    exact ⟨_, _, rfl, h3, h4, by simp only; omega, by simp only; omega, a2⟩
theorem zky (l : List Int) : ∃ t, z6t l = some t /\ TapeOk t := by
  unfold z6t
  split
  · rename_i h
    have := z8G (xs := l) (k := 80) (by omega)
    simp only [Int.cast_ofNat_Int] at this
    rw [this]
    exact ⟨_, rfl, by simp, by simp, by simp only [List.length_take]; omega⟩
  · exact ⟨_, rfl, by simp, by simp, by simp; omega⟩
end
section
open Go
def z6G (m n : Nat) (r : List Int) : Prop := r.length = m /\ ∀ x ∈ r, 0 <= x /\ x < n
structure DfaOk (d : DFA) (m n : Nat) : Prop where
  lt : d.letters = m
  m1 : 1 <= m
  m6 : m <= 6
  n1 : 1 <= n
  fin : d.final.length = n
  nl : d.next.length = n
  s0 : 0 <= d.start
  s1 : d.start < n
  row : ∀ r ∈ d.next, z6G m n r
theorem zgY {σ τ ρ : Type} {b : σ -> Option (σ ⊕ (τ ⊕ ρ))} (I : σ -> Prop) (m : σ -> Nat) (Post : τ -> Prop) {s : σ} (hI : I s) (hm : m s < LFm)
    (step : ∀ s, I s -> (∃ s', b s = some (.inl s') /\ I s' /\ m s' < m s) ∨ (∃ r, b s = some (.inr (.inl r)) /\ Post r)) : ∃ r, z0z b LFm s = some (.inl r) /\ Post r := by
  obtain ⟨r, h1, r', h2, h3⟩ := z1g I m (fun r => ∃ t, r = .inl t /\ Post t) (fun s hs => (step s hs).imp id fun ⟨r, h, hp⟩ => ⟨_, h, r, rfl, hp⟩) LFm s hI hm
  exact ⟨r', by rw [h1, h2], h3⟩
theorem zdU {α : Type} {l : List α} {x y : α} : y ∈ l ++ [x] ↔ y ∈ l ∨ y = x := by simp
end
section
open Go
set_option maxRecDepth 100000
theorem zig {m n : Nat} {rs : List (List Int)} (h : ∀ r ∈ rs, z6G m n r) {r' : List Int} (hr : z6G m n r') (i : Nat) : ∀ r ∈ rs.set i r', z6G m n r := fun r hm => by
  rcases List.mem_or_eq_of_mem_set hm with h' | rfl
  · exact h r h'
  · exact hr
theorem zjo {m n : Nat} {r : List Int} (h : z6G m n r) {x : Int} (hx : 0 <= x /\ x < n) (j : Nat) : z6G m n (r.set j x) := ⟨by simp [h.1], fun y hy => by
  rcases List.mem_or_eq_of_mem_set hy with h' | rfl
  · exact h.2 y h'
  · exact hx⟩
theorem zkk {m n : Nat} {rs : List (List Int)} (h : ∀ r ∈ rs, z6G m n r) {k : Nat} (hk : k < rs.length) : z6G m n rs[k] := h _ (List.getElem_mem hk)
theorem zih (m n : Nat) (hn : 1 <= n) : z6G m n (List.replicate m 0) := ⟨by simp, fun x hx => by rw [(List.mem_replicate.1 hx).2]; omega⟩
theorem zjs {xs : List Int} {k : Nat} (h : k < xs.length) : z1F xs 0 (k : Int) = some (xs.take k) := z8G (by omega)
theorem zjr {xs : List Int} {k : Nat} (h : k < xs.length) : z1F xs ((k : Int) + 1) (xs.length : Int) = some (xs.drop (k + 1)) := by
  have := z8H (xs := xs) (k := k + 1) (by omega)
  rwa [show ((k + 1 : Nat) : Int) = (k : Int) + 1 by omega] at this
theorem zim {t : Tape} (ht : TapeOk t) (m most : Nat) (hm : 1 <= m /\ m <= 6) (hk : 1 <= most /\ most <= 1000) : ∃ d t' n, z0t t m most = some (d, t') /\ DfaOk d m n /\ n <= most /\ TapeOk t' := by
  unfold z0t
  obtain ⟨v, t1, e1, v0, v1, ht1⟩ := z8M ht (most : Int) (by omega) (by omega)
  simp only [e1, Option.bind_some]
  obtain ⟨k, rfl⟩ := Int.eq_ofNat_of_zero_le v0
  have hw : IntKind.i64.wrap (1 + (k : Int)) = ((k + 1 : Nat) : Int) := by rw [z7B (by omega) (by omega)]; omega
  rw [hw]
  obtain ⟨s, t2, e2, s0, s1, ht2⟩ := z8M ht1 ((k + 1 : Nat) : Int) (by omega) (by omega)
  simp only [e2, Option.bind_some]
  refine Exists.elim (z1g (b := z0N m ((k : Int), t1) (s, t2)) (fun z => 0 <= z.1 /\ z.1 <= (k + 1 : Nat) /\ TapeOk ⟨z.2.1, z.2.2.1⟩ /\ (z.2.2.2.1.length : Int) = z.1 /\ (z.2.2.2.2.length : Int) = z.1 /\ ∀ r ∈ z.2.2.2.2, z6G m (k + 1) r) (fun z => k + 2 - z.1.toNat)
    (fun r => DfaOk r.1 m (k + 1) /\ TapeOk r.2) ?_ LFm (0, t2.l, t2.at_, [], []) ⟨by simp, by simp; omega, ht2, by simp, by simp, by simp⟩ (by simp only [LFm]; omega)) fun r h => ⟨r.1, r.2, k + 1, h.1, h.2.1, by omega, h.2.2⟩
  rintro ⟨i, tl, ta, fs, rs⟩ ⟨i0, i1, i2, i3, i4, i5⟩
  simp only at i0 i1 i2 i3 i4 i5 ⊢
  simp only [z0N, hw]
  by_cases hi : i < ((k + 1 : Nat) : Int)
  · left
    rw [if_pos hi]
    obtain ⟨u, t3, e3, u0, u1, ht3⟩ := z8M i2 2 (by omega) (by omega)
    simp only [e3, Option.bind_some]
    rw [z0B _ (by unfold z1c; omega), z0B _ (by unfold z1v; omega), z0B _ (by unfold z1c; omega), z7B (by omega) (by omega)]
    refine ⟨_, rfl, ⟨by simp only; omega, by simp only; omega, ht3, by simp only [List.length_append, List.length_singleton]; omega, by simp only [List.length_append, List.length_singleton]; omega, fun y hy => ?_⟩, by simp only; omega⟩
    rcases zdU.1 hy with h | rfl
    · exact i5 y h
    · exact zih m (k + 1) (by omega)
  · right
    rw [if_neg hi]
    refine Exists.elim (z1g (b := z0M m ((k : Int), t1) (s, t2) fs) (fun z => 0 <= z.1 /\ z.1 <= m /\ TapeOk ⟨z.2.1, z.2.2.1⟩ /\ z.2.2.2.length = k + 1 /\ ∀ r ∈ z.2.2.2, z6G m (k + 1) r) (fun z => m + 1 - z.1.toNat)
      (fun r => DfaOk r.1 m (k + 1) /\ TapeOk r.2) ?_ LFm (0, tl, ta, rs) ⟨by simp, by simp, i2, by simp only; omega, i5⟩ (by simp only [LFm]; omega)) fun r h => ⟨r, by rw [h.1]; rfl, h.2⟩
    rintro ⟨a, ul, ua, us⟩ ⟨a0, a1, a2, a3, a4⟩
    simp only at a0 a1 a2 a3 a4 ⊢
    obtain ⟨a, rfl⟩ := Int.eq_ofNat_of_zero_le a0
    simp only [z0M]
    by_cases ha : (a : Int) < m
    · left
      rw [if_pos ha]
      refine Exists.elim (zgY (b := z0G ((k : Int), t1) (a : Int) ul ua us) (fun z => 0 <= z.1 /\ z.1 <= (k + 1 : Nat) /\ (z.2.length : Int) = z.1 /\ ∀ x ∈ z.2, 0 <= x /\ x < (k + 1 : Nat)) (fun z => k + 2 - z.1.toNat)
        (fun z => z.1 = (a : Int) + 1 /\ TapeOk ⟨z.2.1, z.2.2.1⟩ /\ z.2.2.2.length = k + 1 /\ ∀ r ∈ z.2.2.2, z6G m (k + 1) r) (s := (0, [])) ⟨by simp, by simp; omega, by simp, by simp⟩ (by simp only [LFm]; omega) ?_) fun r h => ⟨_, h.1, ⟨by have := h.2.1; omega, by have := h.2.1; omega, h.2.2.1, h.2.2.2.1, h.2.2.2.2⟩, by have := h.2.1; omega⟩
      rintro ⟨q, left⟩ ⟨q0, q1, q2, q3⟩
      simp only at q0 q1 q2 q3 ⊢
      simp only [z0G, hw]
      by_cases hq : q < ((k + 1 : Nat) : Int)
      · left
        rw [if_pos hq, z0B _ (by unfold z1c; omega), z7B (by omega) (by omega)]
        refine ⟨_, rfl, ⟨by simp only; omega, by simp only; omega, by simp only [List.length_append, List.length_singleton]; omega, fun y hy => ?_⟩, by simp only; omega⟩
        rcases zdU.1 hy with h | rfl
        · exact q3 y h
        · omega
      · right
        rw [if_neg hq]
        refine Exists.elim (zgY (b := z0F ((k : Int), t1) (a : Int)) (fun z => 0 <= z.1 /\ z.1 <= (k + 1 : Nat) /\ TapeOk ⟨z.2.1, z.2.2.1⟩ /\ z.2.2.2.1.length = k + 1 /\ (∀ r ∈ z.2.2.2.1, z6G m (k + 1) r) /\ (z.2.2.2.2.length : Int) = (k + 1 : Nat) - z.1 /\ ∀ x ∈ z.2.2.2.2, 0 <= x /\ x < (k + 1 : Nat)) (fun z => k + 2 - z.1.toNat)
          (fun z => z.1 = (a : Int) + 1 /\ TapeOk ⟨z.2.1, z.2.2.1⟩ /\ z.2.2.2.length = k + 1 /\ ∀ r ∈ z.2.2.2, z6G m (k + 1) r) (s := (0, ul, ua, us, left)) ⟨by simp, by simp; omega, a2, a3, a4, by simp only; omega, q3⟩ (by simp only [LFm]; omega) ?_) fun r h => ⟨r, by rw [h.1]; rfl, h.2⟩
        rintro ⟨p, xl, xa, xs, lf⟩ ⟨p0, p1, p2, p3, p4, p5, p6⟩
        simp only at p0 p1 p2 p3 p4 p5 p6 ⊢
        obtain ⟨p, rfl⟩ := Int.eq_ofNat_of_zero_le p0
        simp only [z0F, hw]
        by_cases hp : (p : Int) < ((k + 1 : Nat) : Int)
        · left
          rw [if_pos hp]
          obtain ⟨x, t4, e4, x0, x1, ht4⟩ := z8M p2 (lf.length : Int) (by omega) (by omega)
          obtain ⟨x, rfl⟩ := Int.eq_ofNat_of_zero_le x0
          have hrp := zkk p4 (show p < xs.length by omega)
          have hlx : x < lf.length := by omega
          simp only [e4, Option.bind_some]
          rw [z0p (show p < xs.length by omega)]
          simp only [Option.bind_some]
          rw [z0p hlx]
          simp only [Option.bind_some]
          rw [z0p (show a < xs[p].length by rw [hrp.1]; omega), z7B (x := (x : Int) + 1) (by omega) (by omega), zjs hlx]
          simp only [Option.bind_some]
          rw [zjr hlx]
          simp only [Option.bind_some]
          rw [z0B _ (by unfold z1c; simp only [List.length_take]; omega), z0B _ (by unfold z1c; simp only [List.length_take, List.length_drop]; omega), z7B (by omega) (by omega)]
          refine ⟨_, rfl, ⟨by simp only; omega, by simp only; omega, ht4, by simp only [List.length_set]; exact p3, zig p4 (zjo hrp (p6 _ (List.getElem_mem hlx)) _) _, by simp only [List.length_append, List.length_take, List.length_drop]; omega, fun y hy => ?_⟩, by simp only; omega⟩
          rcases List.mem_append.1 hy with h | h
          · exact p6 y (List.mem_of_mem_take h)
          · exact p6 y (List.mem_of_mem_drop h)
        · right
          rw [if_neg hp, z7B (by omega) (by omega)]
          exact ⟨_, rfl, rfl, p2, p3, p4⟩
    · right
      rw [if_neg ha]
      exact ⟨_, rfl, ⟨rfl, hm.1, hm.2, by omega, by simp only; omega, a3, s0, s1, a4⟩, a2⟩
end
section
open Go
noncomputable section
set_option maxRecDepth 100000
set_option maxHeartbeats 6000000
end
end
section
open Go
set_option maxRecDepth 100000
def zlu (rows : List (List Int)) (s a : Nat) : Nat -> Nat
  | 0 => 0
  | q + 1 => if s.testBit q = true then zlu rows s a q ||| 2 ^ ((rows.getD q []).getD a 0).toNat else zlu rows s a q
def mvN (d : DFA) (s a : Nat) : Nat := zlu d.next s a d.next.length
end
section
open Go
set_option maxRecDepth 100000
def zkc (m : Nat) (w : ByteArray) : Prop := w.size <= 2048 /\ ∀ c ∈ w.data.toList, 97 <= c.toNat /\ c.toNat < 97 + m
instance (m : Nat) (w : ByteArray) : Decidable (zkc m w) := by unfold zkc; exact inferInstance
def zl1 (d : DFA) : Nat -> List UInt8 -> Nat
  | s, [] => s
  | s, c :: w => zl1 d (mvN d s (c.toNat - 97)) w
end
section
open Go
set_option maxRecDepth 100000
def znY (a : Nat) : ByteArray := ⟨#[UInt8.ofNat (97 + a)]⟩
abbrev RS := List Nat × List ByteArray
def zln (d : DFA) (i a : Nat) (st : RS) : RS := if mvN d (st.1.getD i 0) a ∈ st.1 then st else (st.1 ++ [mvN d (st.1.getD i 0) a], st.2 ++ [st.2.getD i ByteArray.empty ++ znY a])
def znv (d : DFA) (i : Nat) (st : RS) : Nat -> RS
  | 0 => st
  | a + 1 => zln d i a (znv d i st a)
def zl4 (d : DFA) (m s : Nat) : Nat -> RS
  | 0 => ([s], [ByteArray.empty])
  | k + 1 => if k < (zl4 d m s k).1.length then znv d k (zl4 d m s k) m else zl4 d m s k
structure RInv (d : DFA) (m n s : Nat) (st : RS) : Prop where
  nd : st.1.Nodup
  lt : ∀ x ∈ st.1, x < 2 ^ n
  len : st.2.length = st.1.length
  f0 : st.1[0]? = some s
  w0 : st.2[0]? = some ByteArray.empty
  ok : ∀ i, i < st.1.length -> (st.2.getD i ByteArray.empty).size <= i /\ (∀ c ∈ (st.2.getD i ByteArray.empty).data.toList, 97 <= c.toNat /\ c.toNat < 97 + m) /\ zl1 d s (st.2.getD i ByteArray.empty).data.toList = st.1.getD i 0
theorem z5k {l : List Nat} {i : Nat} (h : i < l.length) : l.getD i 0 ∈ l := by
  rw [List.getD, List.getElem?_eq_getElem h]; exact List.getElem_mem h
theorem z8T {α : Type} : ∀ {l r : List α}, l.Nodup -> (∀ x ∈ l, x ∈ r) -> l.length <= r.length
  | [], r, _, _ => by simp
  | x :: l, r, hn, hs => by
    obtain ⟨a, b, rfl⟩ := List.append_of_mem (hs x (List.mem_cons_self ..))
    have hn' := List.nodup_cons.1 hn
    have := z8T (r := a ++ b) hn'.2 fun y hy => by
      have h1 := hs y (List.mem_cons_of_mem _ hy)
      have hne : y ≠ x := fun e => hn'.1 (e ▸ hy)
      rcases List.mem_append.1 h1 with h | h
      · exact List.mem_append.2 (.inl h)
      · rcases List.mem_cons.1 h with h | h
        · exact absurd h hne
        · exact List.mem_append.2 (.inr h)
    simp only [List.length_cons, List.length_append] at *
    omega
theorem zc8 {l : List Nat} {N : Nat} (hn : l.Nodup) (hl : ∀ x ∈ l, x < N) : l.length <= N := by
  have := z8T hn (r := List.range N) fun x hx => List.mem_range.2 (hl x hx)
  simpa using this
def zkm (d : DFA) (m n s : Nat) : RS := zl4 d m s (2 ^ n)
def toI (l : List Nat) : List Int := l.map fun x => ((x : Nat) : Int)
theorem z0r (l : List Nat) : (toI l).length = l.length := by simp [toI]
theorem zi8 (l : List Nat) (x : Nat) : toI (l ++ [x]) = toI l ++ [((x : Nat) : Int)] := by simp [toI]
theorem z9K {l : List Nat} {i : Nat} (h : i < l.length) : atI (toI l) (i : Int) = some ((l.getD i 0 : Nat) : Int) := by
  rw [z0p (by rw [z0r]; exact h)]
  simp [toI, List.getD, h]
def zlx (S : List Nat) : List (Int × Bool) := S.map fun x => (((x : Nat) : Int), true)
theorem map_set {x : Nat} : ∀ {S : List Nat}, x ∉ S -> z9s ((x : Nat) : Int) true (zlx S) = zlx (S ++ [x])
  | [], _ => rfl
  | y :: S, h => by
    have ih := map_set (x := x) (S := S) (fun hh => h (List.mem_cons_of_mem _ hh))
    have hne : y ≠ x := fun e => h (by simp [e])
    simp only [zlx, List.map_cons, z9s, List.cons_append]
    rw [if_neg (by omega)]
    congr 1
end
section
open Go
set_option maxRecDepth 100000
end
section
open Go
noncomputable section
set_option maxRecDepth 100000
set_option maxHeartbeats 6000000
def cmp_isNaN_int (a0 : Int) : Option (Bool) :=
  some (!decide (a0 = a0))
instance cmp_isNaN_int_ok {a0 : Int} : Ok (cmp_isNaN_int a0) (fun r => L 82 [.sc (.int .i64 a0)] = some (.sc (.bool r), [.dead])) := ⟨fun r h => by have h := z5x h; unfold cmp_isNaN_int at h; exact z7A zmS zoa zpg⟩
def cmp_Compare_int (a0 : Int) (a1 : Int) : Option (Int) :=
  (cmp_isNaN_int a0).bind fun v3 =>
  (cmp_isNaN_int a1).bind fun v4 =>
  if v3 = true then
    if v4 = true then
      some 0
    else
      some (-1)
  else
    if v4 = true then
      some 1
    else
      if a0 < a1 then
        some (-1)
      else
        if a1 < a0 then
          some 1
        else
          some 0
instance cmp_Compare_int_ok {a0 : Int} {a1 : Int} : Ok (cmp_Compare_int a0 a1) (fun r => L 59 [.sc (.int .i64 a0), .sc (.int .i64 a1)] = some (.sc (.int .i64 r), [.dead, .dead])) := ⟨fun r h => by have h := z5x h; unfold cmp_Compare_int at h; exact z7A zmX zof zpl⟩
end
end
section
open Go
theorem zhV {a0 : List Int} {r : List Int} (h : zhW a0 = some r) : L 75 [.os 1 a0.length (a0.map fun x0 => .sc (.int .i64 x0)), .sc (.func (.func 76) #[] #[])] = some (.tup [], [.os 1 r.length (r.map fun x0 => .sc (.int .i64 x0)), .dead]) := by
  refine z8R rfl ?_
  have e : (List.map (fun x0 => T.sc (Value.int IntKind.i64 x0)) a0) = a0.map fun x => .sc (.int .i64 x) := rfl
  simp only [xt, xtC, if_true, zhR, Array.isEmpty_empty, and_self, z4J, h, Option.map_some]
instance {a0 : List Int} : Ok (zhW a0) (fun r => L 75 [.os 1 a0.length (a0.map fun x0 => .sc (.int .i64 x0)), .sc (.func (.func 76) #[] #[])] = some (.tup [], [.os 1 r.length (r.map fun x0 => .sc (.int .i64 x0)), .dead])) := ⟨fun _ h => zhV h⟩
theorem zhX {a0 : List (List Int)} {r : List (List Int)} (h : zeD a0 = some r) : L 41 [.os 1 a0.length (a0.map fun x0 => .sl x0.length (x0.map fun x1 => .sc (.int .i64 x1))), .sc (.func (.func 42) #[] #[])] = some (.tup [], [.os 1 r.length (r.map fun x0 => .sl x0.length (x0.map fun x1 => .sc (.int .i64 x1))), .dead]) := by
  refine z8R rfl ?_
  have e : ∀ l : List (List Int), (l.map fun x0 => T.sl x0.length (x0.map fun x1 => T.sc (Value.int IntKind.i64 x1))) = l.map zcD := fun _ => rfl
  simp only [xt, xtC, if_true, zhS, Array.isEmpty_empty, and_self, e, zbI, h, Option.map_some]
  rw [if_neg (by decide)]
instance {a0 : List (List Int)} : Ok (zeD a0) (fun r => L 41 [.os 1 a0.length (a0.map fun x0 => .sl x0.length (x0.map fun x1 => .sc (.int .i64 x1))), .sc (.func (.func 42) #[] #[])] = some (.tup [], [.os 1 r.length (r.map fun x0 => .sl x0.length (x0.map fun x1 => .sc (.int .i64 x1))), .dead])) := ⟨fun _ h => zhX h⟩
theorem zfU {a0 : List Int} {r : List Int} (h : z9C a0 = some r) : L 117 [.os 1 a0.length (a0.map fun x0 => .sc (.int .i64 x0))] = some (.tup [], [.os 1 r.length (r.map fun x0 => .sc (.int .i64 x0))]) := by
  refine z8R rfl ?_
  simp only [xt, xtC, if_true, zdo, z4J, h, Option.map_some]
  rw [if_neg (by decide), if_neg (by decide)]
instance {a0 : List Int} : Ok (z9C a0) (fun r => L 117 [.os 1 a0.length (a0.map fun x0 => .sc (.int .i64 x0))] = some (.tup [], [.os 1 r.length (r.map fun x0 => .sc (.int .i64 x0))])) := ⟨fun _ h => zfU h⟩
theorem zfV {a0 : List Int} {r : List Int} (h : z9D a0 = some r) : L 116 [.sl a0.length (a0.map fun x0 => .sc (.int .i64 x0))] = some (.os 1 r.length (r.map fun x0 => .sc (.int .i64 x0)), [.dead]) := by
  refine z8R rfl ?_
  simp only [xt, xtC, if_true, zdp, z4J, h, Option.map_some]
  rw [if_neg (by decide), if_neg (by decide), if_neg (by decide)]
instance {a0 : List Int} : Ok (z9D a0) (fun r => L 116 [.sl a0.length (a0.map fun x0 => .sc (.int .i64 x0))] = some (.os 1 r.length (r.map fun x0 => .sc (.int .i64 x0)), [.dead])) := ⟨fun _ h => zfV h⟩
end
section
open Go
noncomputable section
set_option maxRecDepth 100000
set_option maxHeartbeats 6000000
end
end
section
open Go
set_option maxRecDepth 100000
abbrev zpG (l : List Nat) : Prop := l.Pairwise fun a b => znk a b = true
structure SetsP (d : DFA) (m n : Nat) (S : List Nat) : Prop where
  nd : S.Nodup
  lt : ∀ x ∈ S, x < 2 ^ n
  cl : ∀ x ∈ S, ∀ a, a < m -> mvN d x a ∈ S
  one : ∀ q, q < n -> 2 ^ q ∈ S
  srt : zpG S
end
section
open Go
set_option maxRecDepth 100000
theorem zh9 {S : List Nat} (hS : S.Nodup) {i : Nat} (h : i < S.length) : S.idxOf (S.getD i 0) = i := by
  rw [List.getD, List.getElem?_eq_getElem h, Option.getD_some]
  have hm : S[i] ∈ S := List.getElem_mem h
  have h1 := List.idxOf_lt_length_of_mem hm
  have h2 : S[S.idxOf S[i]] = S[i] := List.getElem_idxOf h1
  exact (List.getElem_inj hS).1 h2
theorem zjG {S : List Nat} (hS : S.Nodup) {i j : Nat} (hi : i < S.length) (hj : j < S.length) (h : S.getD i 0 = S.getD j 0) : i = j := by
  rw [← zh9 hS hi, h, zh9 hS hj]
end
section
open Go
set_option maxRecDepth 100000
def znj (d : DFA) (m n : Nat) (S : List Nat) (i j : Nat) : Bool := (zkm d m n (S.getD j 0)).1.any fun x => decide (S.getD i 0 &&& x = S.getD i 0)
end
section
open Go
set_option maxRecDepth 100000
structure SrtC where
  cmp : Int -> Int -> Option Int
  key : Int -> Int
  ok : Int -> Prop
  law : ∀ x y, ok x -> ok y -> y < x -> ∃ c, cmp x y = some c /\ (c < 0 ↔ key x < key y)
noncomputable section
end
end
section
open Go
set_option maxRecDepth 100000
end
section
open Go
set_option maxRecDepth 100000
end
section
open Go
set_option maxRecDepth 100000
end
section
open Go
set_option maxRecDepth 100000
end
section
open Go
set_option maxRecDepth 100000
end
section
open Go
set_option maxRecDepth 100000
structure EqvN (N : Nat) (e : Nat -> Nat -> Bool) : Prop where
  refl : ∀ i, i < N -> e i i = true
  symm : ∀ i j, i < N -> j < N -> e i j = true -> e j i = true
  trans : ∀ i j k, i < N -> j < N -> k < N -> e i j = true -> e j k = true -> e i k = true
def zhh (e : Nat -> Nat -> Bool) : Nat -> List Nat
  | 0 => []
  | i + 1 => if (zhh e i).any (e i) = true then zhh e i else zhh e i ++ [i]
def zoF (e : Nat -> Nat -> Bool) (N i : Nat) : Nat := (zhh e N).findIdx (e i)
def znA (d : DFA) (m n : Nat) (S : List Nat) (i j : Nat) : Bool := znj d m n S i j && znj d m n S j i
def zny (d : DFA) (m n : Nat) (S : List Nat) : List Nat := zhh (znA d m n S) S.length
end
section
open Go
set_option maxRecDepth 100000
def zkA (g : Nat -> Nat) : Nat -> Nat
  | 0 => 0
  | k + 1 => max (zkA g k) (g k)
structure BelN (N : Nat) (b : Nat -> Nat -> Bool) : Prop where
  refl : ∀ i, i < N -> b i i = true
  trans : ∀ i j k, i < N -> j < N -> k < N -> b i j = true -> b j k = true -> b i k = true
def sbN (b : Nat -> Nat -> Bool) (j i : Nat) : Bool := b j i && !b i j
def znx (N : Nat) (b : Nat -> Nat -> Bool) (z : Nat -> Bool) : Nat -> Nat -> Nat
  | 0, _ => 0
  | f + 1, i => if z i = true then 0 else zkA (fun j => if sbN b j i = true then znx N b z f j + 1 else 0) N
def znw (N : Nat) (b : Nat -> Nat -> Bool) (z : Nat -> Bool) (i : Nat) : Nat := znx N b z N i
def zpd (S : List Nat) (i : Nat) : Bool := decide (szN (S.getD i 0) = 1)
def zlC (d : DFA) (m n : Nat) (S : List Nat) (i : Nat) : Nat := znw S.length (znj d m n S) (zpd S) i
end
section
open Go
set_option maxRecDepth 100000
def zo2 (S : List Nat) (i j : Nat) : Bool := !decide (j = i) && decide (S.getD j 0 &&& S.getD i 0 = S.getD j 0)
def znu (S : List Nat) (i : Nat) : List Nat := (List.range S.length).filter (zo2 S i)
def znF (S : List Nat) (i j : Nat) : Bool := (znu S i).all fun k => decide (k = j) || !decide (S.getD j 0 &&& S.getD k 0 = S.getD j 0)
def znG (S : List Nat) (i : Nat) : List Nat := if szN (S.getD i 0) = 1 then [] else (znu S i).filter (znF S i)
def zlD (d : DFA) (m n : Nat) (S : List Nat) (i : Nat) : Nat := (zny d m n S).getD (zoF (znA d m n S) S.length i) 0
end
section
open Go
set_option maxRecDepth 100000
abbrev znV (m : Nat) (w : List UInt8) : Prop := ∀ c ∈ w, 97 <= c.toNat /\ c.toNat < 97 + m
end
section
open Go
set_option maxRecDepth 100000
structure Lead (d : DFA) (m n K I : Nat) (w : List UInt8) : Prop where
  hw : znV m w
  hK : K < 2 ^ n
  hI : I < 2 ^ n
  run : zl1 d K w = I
  sz : szN I = szN K
theorem z8L {α β : Type} {l : List α} {f : α -> β} (hl : l.Nodup) (hf : ∀ x ∈ l, ∀ y ∈ l, f x = f y -> x = y) : (l.map f).Nodup := by
  induction l with
  | nil => simp
  | cons a l ih =>
    rw [List.nodup_cons] at hl
    rw [List.map_cons, List.nodup_cons]
    refine ⟨fun h => ?_, ih hl.2 fun x hx y hy => hf x (List.mem_cons_of_mem _ hx) y (List.mem_cons_of_mem _ hy)⟩
    obtain ⟨x, hx, he⟩ := List.mem_map.1 h
    have := hf x (List.mem_cons_of_mem _ hx) a (List.mem_cons_self ..) he
    exact hl.1 (this ▸ hx)
section
variable {d : DFA} {m n : Nat} {S : List Nat} (hd : DfaOk d m n) (hn : n <= 7) (hS : SetsP d m n S)
include hd hn hS
end
end
section
open Go
set_option maxRecDepth 100000
end
section
open Go
set_option maxRecDepth 100000
section
variable {d : DFA} {m n : Nat} {S : List Nat} (hd : DfaOk d m n) (hn : n <= 7) (hS : SetsP d m n S)
include hd hn hS
end
end
section
open Go
set_option maxRecDepth 100000
def znE (S : List Nat) (k : Nat) : List Nat := (znG S k).map fun t => S.getD t 0
def zlr (d : DFA) (w : List UInt8) (T : List Nat) : List Nat := T.map fun t => T.idxOf (zl1 d t w)
section
variable {d : DFA} {m n : Nat} {S : List Nat} (hd : DfaOk d m n) (hn : n <= 7) (hS : SetsP d m n S)
include hd hn hS
end
abbrev HS := List ByteArray × List (List Nat)
def zl9 (d : DFA) (m n : Nat) (S : List Nat) (c : Nat) : Nat := (zny d m n S).getD c 0
structure HInv (d : DFA) (m n : Nat) (S : List Nat) (c : Nat) (B : Nat) (st : HS) : Prop where
  len : st.1.length = st.2.length
  bd : st.1.length <= B
  ok : ∀ j, j < st.1.length -> ∃ w : ByteArray, st.1.getD j ByteArray.empty = w /\ Lead d m n (S.getD (zl9 d m n S c) 0) (S.getD (zl9 d m n S c) 0) w.data.toList /\ w.size <= 2 * 2 ^ n + 1 /\ st.2.getD j [] = zlr d w.data.toList (znE S (zl9 d m n S c))
section
variable {d : DFA} {m n : Nat} {S : List Nat} (hd : DfaOk d m n) (hn : n <= 7) (hS : SetsP d m n S)
include hd hn hS
end
end
section
open Go
noncomputable section
set_option maxRecDepth 100000
set_option maxHeartbeats 6000000
abbrev z1Z (a0 : List Int) : Int -> Option (Int ⊕ Bool)
  | w6 =>
  if w6 < (a0.length : Int) then
    (atI a0 w6).bind fun v8 =>
    if v8 < 0 then
      z0k <|
      some false
    else
      if (a0.length : Int) <= v8 then
        z0k <|
        some false
      else
        z0y (IntKind.i64.wrap (w6 + 1))
  else
    z0k <|
    some true
instance {a0 : List Int} : Hd (z1Z a0) := ⟨fun w6 => ([(15, xI w6)], [])⟩
def z3i (a0 : List Int) : Option (Bool) :=
  if (a0.length : Int) < 1 then
    some false
  else
    if 32 < (a0.length : Int) then
      some false
    else
      z0z (z1Z a0) LFm 0
instance ref11_Valid_ok {a0 : List Int} : Ok (z3i a0) (fun r => L 43 [.sl a0.length (a0.map fun x0 => .sc (.int .i64 x0))] = some (.sc (.bool r), [.dead])) := ⟨fun r h => by have h := z5x h; unfold z3i at h; exact z7A zn3 zol zpr⟩
abbrev z2g (a0 : List Bool) : Int × List Int -> Option ((Int × List Int) ⊕ List Int)
  | (w7, w8) =>
  if w7 < (a0.length : Int) then
    (atI a0 w7).bind fun v10 =>
    if v10 = true then
      chk (z1c 8 (w8.length + 1)) <|
      z0y (IntKind.i64.wrap (w7 + 1), w8 ++ [w7])
    else
      z0y (IntKind.i64.wrap (w7 + 1), w8)
  else
    z0k <|
    some w8
instance {a0 : List Bool} : Hd (z2g a0) := ⟨fun (w7, w8) => ([(8, xI w7)], [(3, .os 1 w8.length (w8.map fun x0 => .sc (.int .i64 x0)))])⟩
def z2r (a0 : List Bool) : Option (List Int) :=
  z0z (z2g a0) LFm (0, [])
instance ref03_Members_ok {a0 : List Bool} : Ok (z2r a0) (fun r => L 70 [.sl a0.length (a0.map fun x0 => .sc (.bool x0))] = some (.os 1 r.length (r.map fun x0 => .sc (.int .i64 x0)), [.dead])) := ⟨fun r h => by have h := z5x h; unfold z2r at h; exact z7A zmV zod zpj⟩
abbrev z3t (a0 : List Int) (a1 : Int) : Int × List Bool -> Option ((Int × List Bool) ⊕ List Bool)
  | (w9, w10) =>
  if w9 < (a0.length : Int) then
    (atI a0 w9).bind fun v13 =>
    if 0 <= v13 then
      if v13 < a1 then
        (atI w10 v13).bind fun v14 =>
        z0y (IntKind.i64.wrap (w9 + 1), (w10.set v13.toNat true))
      else
        z0y (IntKind.i64.wrap (w9 + 1), w10)
    else
      z0y (IntKind.i64.wrap (w9 + 1), w10)
  else
    z0k <|
    some w10
instance {a0 : List Int} {a1 : Int} : Hd (z3t a0 a1) := ⟨fun (w9, w10) => ([(12, xI w9)], [(5, .os 1 w10.length (w10.map fun x0 => .sc (.bool x0)))])⟩
def z4y (a0 : List Int) (a1 : Int) : Option (List Bool) :=
  chk (z1v 1 a1) <|
  z0z (z3t a0 a1) LFm (0, List.replicate a1.toNat (false : Bool))
instance ref03_Set_ok {a0 : List Int} {a1 : Int} : Ok (z4y a0 a1) (fun r => L 71 [.sl a0.length (a0.map fun x0 => .sc (.int .i64 x0)), .sc (.int .i64 a1)] = some (.os 1 r.length (r.map fun x0 => .sc (.bool x0)), [.dead, .dead])) := ⟨fun r h => by have h := z5x h; unfold z4y at h; exact z7A zmU zoc zpi⟩
def z4h (a0 : List Int) : Option (List Int) :=
  (z4y a0 (a0.length : Int)).bind fun v3 =>
  (z2r v3).bind fun v4 =>
  some v4
instance ref11_Image_ok {a0 : List Int} : Ok (z4h a0) (fun r => L 44 [.sl a0.length (a0.map fun x0 => .sc (.int .i64 x0))] = some (.os 1 r.length (r.map fun x0 => .sc (.int .i64 x0)), [.dead])) := ⟨fun r h => by have h := z5x h; unfold z4h at h; exact z7A zn2 zok zpq⟩
def z0I (a0 : List Int) : Option (Bool) :=
  (z3i a0).bind fun v3 =>
  if v3 = true then
    (z4h a0).bind fun v4 =>
    some (decide ((v4.length : Int) = (a0.length : Int)))
  else
    some false
instance ref11_IsPermutation_ok {a0 : List Int} : Ok (z0I a0) (fun r => L 23 [.sl a0.length (a0.map fun x0 => .sc (.int .i64 x0))] = some (.sc (.bool r), [.dead])) := ⟨fun r h => by have h := z5x h; unfold z0I at h; exact z7A zn9 zos zpy⟩
end
end
section
open Go
set_option maxRecDepth 100000
theorem zck {κ ν : Type} [DecidableEq κ] (k q : κ) (v : ν) : ∀ m : List (κ × ν), zaH q (z9s k v m) = if k = q then some v else zaH q m
  | [] => rfl
  | (a, u) :: r => by
    simp only [z9s]
    by_cases h : a = k
    · subst h
      rw [if_pos rfl]
      simp only [zaH]
      by_cases h2 : a = q
      · rw [if_pos h2, if_pos h2]
      · rw [if_neg h2, if_neg h2, if_neg h2]
    · rw [if_neg h]
      simp only [zaH, zck k q v r]
      by_cases h2 : a = q
      · rw [if_pos h2, if_pos h2, if_neg (fun e => h (h2.trans e.symm))]
      · rw [if_neg h2, if_neg h2]
section
variable {d : DFA} {m n : Nat} {S : List Nat} (hd : DfaOk d m n) (hn : n <= 7) (hS : SetsP d m n S)
include hd hn hS
end
end
section
open Go
noncomputable section
set_option maxRecDepth 100000
set_option maxHeartbeats 6000000
end
end
section
open Go
set_option maxRecDepth 100000
def zax {α : Type} (N : Nat) (f g : Nat -> α) (k : Nat) : List α := (List.range N).map fun i => if i < k then f i else g i
theorem zjx {α : Type} {N : Nat} {f g : Nat -> α} {k : Nat} : (zax N f g k).length = N := by simp [zax]
theorem zcY {α : Type} {N : Nat} {f g : Nat -> α} : zax N f g 0 = (List.range N).map g := by simp [zax]
theorem zf2 {α : Type} {N : Nat} {f g : Nat -> α} : zax N f g N = (List.range N).map f := List.map_congr_left fun i hi => by rw [if_pos (List.mem_range.1 hi)]
theorem z8N {α : Type} {N : Nat} {f g : Nat -> α} {k : Nat} (h : k < N) : atI (zax N f g k) (k : Int) = some (g k) := by
  rw [z0p (by rw [zjx]; exact h)]; simp [zax]
theorem z5R {α : Type} {N : Nat} {f g : Nat -> α} {k : Nat} (h : k < N) : (zax N f g k).set k (f k) = zax N f g (k + 1) := by
  refine List.ext_getElem (by simp [zax]) fun i h1 h2 => ?_
  have hi : i < N := by simpa [zax] using h2
  rw [List.getElem_set]
  simp only [zax, List.getElem_map, List.getElem_range]
  by_cases e : k = i
  · subst e; rw [if_pos rfl, if_pos (Nat.lt_succ_self k)]
  · rw [if_neg e]
    by_cases h3 : i < k
    · rw [if_pos h3, if_pos (by omega)]
    · rw [if_neg h3, if_neg (by omega)]
end
section
open Go
noncomputable section
set_option maxRecDepth 100000
set_option maxHeartbeats 6000000
abbrev z0U (a1 : Int) (w42 : Int) (v53 : List Int) : Int × List Bool -> Option ((Int × List Bool) ⊕ (Int ⊕ Bool))
  | (w55, w56) =>
  if w55 < (v53.length : Int) then
    (atI v53 w55).bind fun v60 =>
    if v60 < 0 then
      z0k <|
      z0k <|
      some false
    else
      if a1 <= v60 then
        z0k <|
        z0k <|
        some false
      else
        (atI w56 v60).bind fun v61 =>
        if v61 = true then
          z0k <|
          z0k <|
          some false
        else
          z0y (IntKind.i64.wrap (w55 + 1), (w56.set v60.toNat true))
  else
    z0k <|
    z0y (IntKind.i64.wrap (w42 + 1))
instance {a1 : Int} {w42 : Int} {v53 : List Int} : Hd (z0U a1 w42 v53) := ⟨fun (w55, w56) => ([(24, xI w55)], [(7, .os 1 w56.length (w56.map fun x0 => .sc (.bool x0)))])⟩
abbrev z0x (a0 : List (List Int)) (a1 : Int) : Int -> Option (Int ⊕ Bool)
  | w42 =>
  if w42 < (a0.length : Int) then
    (atI a0 w42).bind fun v53 =>
    if (v53.length : Int) = a1 then
      chk (z1v 1 a1) <|
      z0z (z0U a1 w42 v53) LFm (0, List.replicate a1.toNat (false : Bool))
    else
      z0k <|
      some false
  else
    z0k <|
    some true
instance {a0 : List (List Int)} {a1 : Int} : Hd (z0x a0 a1) := ⟨fun w42 => ([(12, xI w42)], [])⟩
def z0R (a0 : List (List Int)) (a1 : Int) : Option (Bool) :=
  z0z (z0x a0 a1) LFm 0
instance holonomy_permutations_ok {a0 : List (List Int)} {a1 : Int} : Ok (z0R a0 a1) (fun r => L 21 [.sl a0.length (a0.map fun x0 => .sl x0.length (x0.map fun x1 => .sc (.int .i64 x1))), .sc (.int .i64 a1)] = some (.sc (.bool r), [.dead, .dead])) := ⟨fun r h => by have h := z5x h; unfold z0R at h; exact z7A znb zou zpA⟩
abbrev z2F (a0 : List Int) : Int -> Option (Int ⊕ Bool)
  | w6 =>
  if w6 < (a0.length : Int) then
    (atI a0 w6).bind fun v8 =>
    if v8 < 0 then
      z0k <|
      some false
    else
      if (a0.length : Int) <= v8 then
        z0k <|
        some false
      else
        z0y (IntKind.i64.wrap (w6 + 1))
  else
    z0k <|
    some true
instance {a0 : List Int} : Hd (z2F a0) := ⟨fun w6 => ([(15, xI w6)], [])⟩
def z2x (a0 : List Int) : Option (Bool) :=
  if (a0.length : Int) < 1 then
    some false
  else
    if 32 < (a0.length : Int) then
      some false
    else
      z0z (z2F a0) LFm 0
instance trans_Valid_ok {a0 : List Int} : Ok (z2x a0) (fun r => L 83 [.sl a0.length (a0.map fun x0 => .sc (.int .i64 x0))] = some (.sc (.bool r), [.dead])) := ⟨fun r h => by have h := z5x h; unfold z2x at h; exact z7A zmR zo9 zpf⟩
abbrev z0C (a0 : List Int) : Int -> Option (Int ⊕ List Int)
  | w10 =>
  if w10 < (a0.length : Int) then
    (atI a0 w10).bind fun v13 =>
    (atI a0 (IntKind.i64.wrap (w10 - 1))).bind fun v14 =>
    if v13 = v14 then
      none
    else
      z0y (IntKind.i64.wrap (w10 + 1))
  else
    z0k <|
    some a0
instance {a0 : List Int} : Hd (z0C a0) := ⟨fun w10 => ([(3, xI w10)], [])⟩
def z0A (a0 : List Int) : Option (List Int) :=
  if (a0.length : Int) < 2 then
    some a0
  else
    z0z (z0C a0) LFm 1
instance slices_Compact_Lint_int_ok {a0 : List Int} : Ok (z0A a0) (fun r => L 118 [.sl a0.length (a0.map fun x0 => .sc (.int .i64 x0))] = some (.sl r.length (r.map fun x0 => .sc (.int .i64 x0)), [.dead])) := ⟨fun r h => by have h := z5x h; unfold z0A at h; exact z7A zkV zlE znl⟩
def z3Y (a0 : List Int) : Option (List Int) :=
  (z2x a0).bind fun v5 =>
  if v5 = true then
    (z9D a0).bind fun v6 =>
    (z9C v6).bind fun v7 =>
    (z0A v7).bind fun v8 =>
    some v8
  else
    some []
instance trans_Image_ok {a0 : List Int} : Ok (z3Y a0) (fun r => L 100 [.sl a0.length (a0.map fun x0 => .sc (.int .i64 x0))] = some (.sl r.length (r.map fun x0 => .sc (.int .i64 x0)), [.dead])) := ⟨fun r h => by have h := z5x h; unfold z3Y at h; exact zhL zkW zlF znm⟩
def z4T (a0 : List Int) : Option (Int) :=
  (z3Y a0).bind fun v2 =>
  some (v2.length : Int)
instance trans_Rank_ok {a0 : List Int} : Ok (z4T a0) (fun r => L 84 [.sl a0.length (a0.map fun x0 => .sc (.int .i64 x0))] = some (.sc (.int .i64 r), [.dead])) := ⟨fun r h => by have h := z5x h; unfold z4T at h; exact z7A zmQ zo8 zpe⟩
def z0Z (a0 : List Int) : Option (Bool) :=
  (z2x a0).bind fun v3 =>
  if v3 = true then
    (z4T a0).bind fun v4 =>
    some (decide (v4 = (a0.length : Int)))
  else
    some false
instance trans_IsPermutation_ok {a0 : List Int} : Ok (z0Z a0) (fun r => L 67 [.sl a0.length (a0.map fun x0 => .sc (.int .i64 x0))] = some (.sc (.bool r), [.dead])) := ⟨fun r h => by have h := z5x h; unfold z0Z at h; exact z7A zmW zoe zpk⟩
abbrev z1j (a0 : List (List Int)) (a1 : Int) : Int -> Option (Int ⊕ Bool)
  | w10 =>
  if w10 < (a0.length : Int) then
    (atI a0 w10).bind fun v13 =>
    if (v13.length : Int) = a1 then
      (z0Z v13).bind fun v14 =>
      if v14 = true then
        z0y (IntKind.i64.wrap (w10 + 1))
      else
        z0k <|
        some false
    else
      z0k <|
      some false
  else
    z0k <|
    some true
instance {a0 : List (List Int)} {a1 : Int} : Hd (z1j a0 a1) := ⟨fun w10 => ([(9, xI w10)], [])⟩
def z1k (a0 : List (List Int)) (a1 : Int) : Option (Bool) :=
  z0z (z1j a0 a1) LFm 0
instance group_permutations_ok {a0 : List (List Int)} {a1 : Int} : Ok (z1k a0 a1) (fun r => L 37 [.sl a0.length (a0.map fun x0 => .sl x0.length (x0.map fun x1 => .sc (.int .i64 x1))), .sc (.int .i64 a1)] = some (.sc (.bool r), [.dead, .dead])) := ⟨fun r h => by have h := z5x h; unfold z1k at h; exact z7A zn7 zop zpv⟩
abbrev z1K (a0 : Int) : Int × List Int -> Option ((Int × List Int) ⊕ List Int)
  | (w5, w6) =>
  if w5 < a0 then
    (atI w6 w5).bind fun v8 =>
    z0y (IntKind.i64.wrap (w5 + 1), (w6.set w5.toNat w5))
  else
    z0k <|
    some w6
instance {a0 : Int} : Hd (z1K a0) := ⟨fun (w5, w6) => ([(15, xI w5)], [(3, .os 1 w6.length (w6.map fun x0 => .sc (.int .i64 x0)))])⟩
def z1W (a0 : Int) : Option (List Int) :=
  if a0 < 1 then
    some []
  else
    if 32 < a0 then
      some []
    else
      chk (z1v 8 a0) <|
      z0z (z1K a0) LFm (0, List.replicate a0.toNat (0 : Int))
instance trans_Identity_ok {a0 : Int} : Ok (z1W a0) (fun r => L 38 [.sc (.int .i64 a0)] = some (.os 1 r.length (r.map fun x0 => .sc (.int .i64 x0)), [.dead])) := ⟨fun r h => by have h := z5x h; unfold z1W at h; exact z7A zn6 zoo zpu⟩
abbrev z2V (a0 : List Int) : Int × List Int -> Option ((Int × List Int) ⊕ ByteArray)
  | (w9, w10) =>
  if w9 < (a0.length : Int) then
    (atI a0 w9).bind fun v13 =>
    (atI w10 w9).bind fun v14 =>
    z0y (IntKind.i64.wrap (w9 + 1), (w10.set w9.toNat (IntKind.u8.wrap v13)))
  else
    z0k <|
    some (z1U w10)
instance {a0 : List Int} : Hd (z2V a0) := ⟨fun (w9, w10) => ([(11, xI w9)], [(3, .os 1 w10.length (w10.map fun x0 => .sc (.int .u8 x0)))])⟩
def z2B (a0 : List Int) : Option (ByteArray) :=
  chk (z1v 1 (a0.length : Int)) <|
  z0z (z2V a0) LFm (0, List.replicate (a0.length : Int).toNat (0 : Int))
instance group_text_ok {a0 : List Int} : Ok (z2B a0) (fun r => L 39 [.sl a0.length (a0.map fun x0 => .sc (.int .i64 x0))] = some (.sc (.string r), [.dead])) := ⟨fun r h => by have h := z5x h; unfold z2B at h; exact z7A zn5 zon zpt⟩
abbrev z2h (a0 : List Int) (a1 : List Int) : Int × List Int -> Option ((Int × List Int) ⊕ List Int)
  | (w13, w14) =>
  if w13 < (a0.length : Int) then
    (atI a0 w13).bind fun v18 =>
    (atI a1 v18).bind fun v19 =>
    (atI w14 w13).bind fun v20 =>
    z0y (IntKind.i64.wrap (w13 + 1), (w14.set w13.toNat v19))
  else
    z0k <|
    some w14
instance {a0 : List Int} {a1 : List Int} : Hd (z2h a0 a1) := ⟨fun (w13, w14) => ([(13, xI w13)], [(5, .os 1 w14.length (w14.map fun x0 => .sc (.int .i64 x0)))])⟩
def z1S (a0 : List Int) (a1 : List Int) : Option (List Int) :=
  chk (z1v 8 (a0.length : Int)) <|
  z0z (z2h a0 a1) LFm (0, List.replicate (a0.length : Int).toNat (0 : Int))
instance group_compose_ok {a0 : List Int} {a1 : List Int} : Ok (z1S a0 a1) (fun r => L 40 [.sl a0.length (a0.map fun x0 => .sc (.int .i64 x0)), .sl a1.length (a1.map fun x0 => .sc (.int .i64 x0))] = some (.os 1 r.length (r.map fun x0 => .sc (.int .i64 x0)), [.dead, .dead])) := ⟨fun r h => by have h := z5x h; unfold z1S at h; exact z7A zn4 zom zps⟩
end
end
end Go.Proofs.YtodliknibbafeaaGreat
