/- Proved here: a part of the proof of the law at hand, in one text: no condition. -/
import Derived.Test.YtodliknibbafeaaGreatMWD2
import Derived.Shelf.Small.Bits
import Derived.Shelf.Small.Wraps
import Derived.Shelf.Strconv.Itoa0
import Derived.Shelf.Sort.Plain
import Derived.Shelf.Slices.Turned
import Derived.Ground.Names2Prog
import Derived.Shelf.Slices.Clone
import Derived.Shelf.Slices.CompactI
import Derived.Shelf.Slices.SearchI
import Derived.Shelf.Slices.Cells
import Derived.Shelf.Slices.In.SortNone
import Derived.Ground.SlgnProg
import Derived.Shelf.SlicesE.Clone
import Derived.Ground.SlsfProg
import Derived.Shelf.SlSortCmp.Insertion
import Derived.Shelf.SlSortCmp.SiftDown1
import Derived.Shelf.SlSortCmp.HeapSort1
import Derived.Shelf.SlSortCmp.Insertion1
import Derived.Shelf.SlSortCmp.Median1
import Derived.Shelf.SlSortCmp.Pivot1
import Derived.Shelf.SlSortCmp.ReverseRange1
import Derived.Shelf.SlSortCmp.PartialInsertion1
import Derived.Shelf.SlSortCmp.PartitionEqual1
import Derived.Shelf.SlSortCmp.Partition1
import Derived.Shelf.SlSortCmp.Pdq1
import Derived.Shelf.SlSortCmp.Whole1
import Derived.Test.YtodliknibbafeaaGreatProg
set_option linter.unusedVariables false
set_option linter.unusedSimpArgs false
section
namespace Go.Proofs
open Go.Shelf
def Tryz.lays128_ren : Go.Shelf.Ren := ⟨fun | 128 => 93 | n => n, fun | 51 => 117 | 3 => 3 | 4 => 4 | 46 => 98 | 5 => 5 | 9 => 9 | n => n, fun | n => n⟩
theorem Tryz.lays128 : Go.Proofs.Lays.n128 Tryz.prog Tryz.lays128_ren := {
  mixed := by kernel_rfl
  f128 := Tryz.func93.trans (congrArg some (by kernel_rfl))
  t3 := Tryz.underlying3
  a3 := Tryz.isAgg3
  z3 := Tryz.sizeOf3
  v3 := Tryz.zeroValue3
  t4 := Tryz.underlying4
  a4 := Tryz.isAgg4
  z4 := Tryz.sizeOf4
  v4 := Tryz.zeroValue4
  t5 := Tryz.underlying5
  a5 := Tryz.isAgg5
  z5 := Tryz.sizeOf5
  v5 := Tryz.zeroValue5
  t9 := Tryz.underlying9
  a9 := Tryz.isAgg9
  z9 := Tryz.sizeOf9
  v9 := Tryz.zeroValue9
  t46 := Tryz.underlying98
  a46 := Tryz.isAgg98
  z46 := Tryz.sizeOf98
  v46 := Tryz.zeroValue98
  t51 := Tryz.underlying117
  a51 := Tryz.isAgg117
  z51 := Tryz.sizeOf117
  v51 := Tryz.zeroValue117 }
theorem Tryz.bits_Len32 (x : Int) (w : World) (h0 : 0 <= x) (h1 : x <= 4294967295) :
    Calls Tryz.prog 93 #[.int .u32 x] w fun e w' => e = .returned (.int .i64 (Lib.bitLen x.toNat)) /\ w' = w := Any.bits_Len32 Tryz.lays128 x w h0 h1
def Tryz.lays125_ren : Go.Shelf.Ren := ⟨fun | 125 => 69 | 128 => 93 | 129 => 94 | n => n, fun | 46 => 98 | 3 => 3 | 51 => 117 | 53 => 119 | 4 => 4 | 5 => 5 | 9 => 9 | n => n, fun | n => n⟩
theorem Tryz.lays125 : Go.Proofs.Lays.n125 Tryz.prog Tryz.lays125_ren := {
  mixed := by kernel_rfl
  f125 := Tryz.func69.trans (congrArg some (by kernel_rfl))
  f128 := Tryz.func93.trans (congrArg some (by kernel_rfl))
  f129 := Tryz.func94.trans (congrArg some (by kernel_rfl))
  t3 := Tryz.underlying3
  a3 := Tryz.isAgg3
  z3 := Tryz.sizeOf3
  v3 := Tryz.zeroValue3
  t4 := Tryz.underlying4
  a4 := Tryz.isAgg4
  z4 := Tryz.sizeOf4
  v4 := Tryz.zeroValue4
  t5 := Tryz.underlying5
  a5 := Tryz.isAgg5
  z5 := Tryz.sizeOf5
  v5 := Tryz.zeroValue5
  t9 := Tryz.underlying9
  a9 := Tryz.isAgg9
  z9 := Tryz.sizeOf9
  v9 := Tryz.zeroValue9
  t46 := Tryz.underlying98
  a46 := Tryz.isAgg98
  z46 := Tryz.sizeOf98
  v46 := Tryz.zeroValue98
  t51 := Tryz.underlying117
  a51 := Tryz.isAgg117
  z51 := Tryz.sizeOf117
  v51 := Tryz.zeroValue117
  t53 := Tryz.underlying119
  a53 := Tryz.isAgg119
  z53 := Tryz.sizeOf119
  v53 := Tryz.zeroValue119 }
theorem Tryz.bits_Len (x : Int) (w : World) (h0 : 0 <= x) (h1 : x <= 18446744073709551615) :
    Calls Tryz.prog 69 #[.int .u64 x] w fun e w' => e = .returned (.int .i64 (Lib.bitLen x.toNat)) /\ w' = w := Any.bits_Len Tryz.lays125 x w h0 h1
def Tryz.lays215_ren : Go.Shelf.Ren := ⟨fun | 215 => 82 | n => n, fun | 3 => 3 | 4 => 4 | n => n, fun | n => n⟩
theorem Tryz.lays215 : Go.Proofs.Lays.n215 Tryz.prog Tryz.lays215_ren := {
  mixed := by kernel_rfl
  f215 := Tryz.func82.trans (congrArg some (by kernel_rfl))
  t3 := Tryz.underlying3
  a3 := Tryz.isAgg3
  z3 := Tryz.sizeOf3
  v3 := Tryz.zeroValue3
  t4 := Tryz.underlying4
  a4 := Tryz.isAgg4
  z4 := Tryz.sizeOf4
  v4 := Tryz.zeroValue4 }
open Go.RowKit in
theorem Tryz.cmp_isNaN_int (x : Int) (w : World) :
    Calls Tryz.prog 82 #[.int .i64 x] w fun e w' => e = .returned (.bool false) /\ w' = w := Any.cmp_isNaN_int Tryz.lays215 x w
def Tryz.lays122_ren : Go.Shelf.Ren := ⟨fun | 122 => 59 | 215 => 82 | n => n, fun | 3 => 3 | 4 => 4 | n => n, fun | n => n⟩
theorem Tryz.lays122 : Go.Proofs.Lays.n122 Tryz.prog Tryz.lays122_ren := {
  mixed := by kernel_rfl
  f122 := Tryz.func59.trans (congrArg some (by kernel_rfl))
  f215 := Tryz.func82.trans (congrArg some (by kernel_rfl))
  t3 := Tryz.underlying3
  a3 := Tryz.isAgg3
  z3 := Tryz.sizeOf3
  v3 := Tryz.zeroValue3
  t4 := Tryz.underlying4
  a4 := Tryz.isAgg4
  z4 := Tryz.sizeOf4
  v4 := Tryz.zeroValue4 }
open Go.RowKit in
theorem Tryz.cmp_Compare_int (x y : Int) (w : World) :
    Calls Tryz.prog 59 #[.int .i64 x, .int .i64 y] w fun e w' => e = .returned (.int .i64 (Lib.compareInt x y)) /\ w' = w := Any.cmp_Compare_int Tryz.lays122 x y w
def Tryz.lays129_ren : Go.Shelf.Ren := ⟨fun | 129 => 94 | n => n, fun | 53 => 119 | 3 => 3 | 4 => 4 | 46 => 98 | 5 => 5 | 9 => 9 | n => n, fun | n => n⟩
theorem Tryz.lays129 : Go.Proofs.Lays.n129 Tryz.prog Tryz.lays129_ren := {
  mixed := by kernel_rfl
  f129 := Tryz.func94.trans (congrArg some (by kernel_rfl))
  t3 := Tryz.underlying3
  a3 := Tryz.isAgg3
  z3 := Tryz.sizeOf3
  v3 := Tryz.zeroValue3
  t4 := Tryz.underlying4
  a4 := Tryz.isAgg4
  z4 := Tryz.sizeOf4
  v4 := Tryz.zeroValue4
  t5 := Tryz.underlying5
  a5 := Tryz.isAgg5
  z5 := Tryz.sizeOf5
  v5 := Tryz.zeroValue5
  t9 := Tryz.underlying9
  a9 := Tryz.isAgg9
  z9 := Tryz.sizeOf9
  v9 := Tryz.zeroValue9
  t46 := Tryz.underlying98
  a46 := Tryz.isAgg98
  z46 := Tryz.sizeOf98
  v46 := Tryz.zeroValue98
  t53 := Tryz.underlying119
  a53 := Tryz.isAgg119
  z53 := Tryz.sizeOf119
  v53 := Tryz.zeroValue119 }
theorem Tryz.bits_Len64 (x : Int) (w : World) (h0 : 0 <= x) (h1 : x <= 18446744073709551615) :
    Calls Tryz.prog 94 #[.int .u64 x] w fun e w' => e = .returned (.int .i64 (Lib.bitLen x.toNat)) /\ w' = w := Any.bits_Len64 Tryz.lays129 x w h0 h1
def Tryz.lays189_ren : Go.Shelf.Ren := ⟨fun | 189 => 117 | 125 => 69 | 257 => 124 | 128 => 93 | 129 => 94 | 294 => 126 | 295 => 127 | 296 => 128 | 297 => 129 | 298 => 130 | 299 => 131 | 216 => 132 | 300 => 133 | 301 => 134 | 328 => 135 | 329 => 102 | 330 => 103 | 331 => 136 | 332 => 137 | 215 => 82 | 343 => 138 | n => n, fun | 28 => 22 | 3 => 3 | 46 => 98 | 0 => 0 | 51 => 117 | 53 => 119 | 4 => 4 | 183 => 110 | 182 => 109 | 131 => 114 | 5 => 5 | 9 => 9 | 218 => 122 | 222 => 126 | 228 => 133 | 229 => 134 | n => n, fun | n => n⟩
theorem Tryz.lays189 : Go.Proofs.Lays.n189 Tryz.prog Tryz.lays189_ren := {
  mixed := by kernel_rfl
  f125 := Tryz.func69.trans (congrArg some (by kernel_rfl))
  f128 := Tryz.func93.trans (congrArg some (by kernel_rfl))
  f129 := Tryz.func94.trans (congrArg some (by kernel_rfl))
  f189 := Tryz.func117.trans (congrArg some (by kernel_rfl))
  f215 := Tryz.func82.trans (congrArg some (by kernel_rfl))
  f216 := Tryz.func132.trans (congrArg some (by kernel_rfl))
  f257 := Tryz.func124.trans (congrArg some (by kernel_rfl))
  f294 := Tryz.func126.trans (congrArg some (by kernel_rfl))
  f295 := Tryz.func127.trans (congrArg some (by kernel_rfl))
  f296 := Tryz.func128.trans (congrArg some (by kernel_rfl))
  f297 := Tryz.func129.trans (congrArg some (by kernel_rfl))
  f298 := Tryz.func130.trans (congrArg some (by kernel_rfl))
  f299 := Tryz.func131.trans (congrArg some (by kernel_rfl))
  f300 := Tryz.func133.trans (congrArg some (by kernel_rfl))
  f301 := Tryz.func134.trans (congrArg some (by kernel_rfl))
  f328 := Tryz.func135.trans (congrArg some (by kernel_rfl))
  f329 := Tryz.func102.trans (congrArg some (by kernel_rfl))
  f330 := Tryz.func103.trans (congrArg some (by kernel_rfl))
  f331 := Tryz.func136.trans (congrArg some (by kernel_rfl))
  f332 := Tryz.func137.trans (congrArg some (by kernel_rfl))
  f343 := Tryz.func138.trans (congrArg some (by kernel_rfl))
  t0 := Tryz.underlying0
  a0 := Tryz.isAgg0
  z0 := Tryz.sizeOf0
  v0 := Tryz.zeroValue0
  t3 := Tryz.underlying3
  a3 := Tryz.isAgg3
  z3 := Tryz.sizeOf3
  v3 := Tryz.zeroValue3
  t4 := Tryz.underlying4
  a4 := Tryz.isAgg4
  z4 := Tryz.sizeOf4
  v4 := Tryz.zeroValue4
  t5 := Tryz.underlying5
  a5 := Tryz.isAgg5
  z5 := Tryz.sizeOf5
  v5 := Tryz.zeroValue5
  t9 := Tryz.underlying9
  a9 := Tryz.isAgg9
  z9 := Tryz.sizeOf9
  v9 := Tryz.zeroValue9
  t28 := Tryz.underlying22
  a28 := Tryz.isAgg22
  z28 := Tryz.sizeOf22
  v28 := Tryz.zeroValue22
  t46 := Tryz.underlying98
  a46 := Tryz.isAgg98
  z46 := Tryz.sizeOf98
  v46 := Tryz.zeroValue98
  t51 := Tryz.underlying117
  a51 := Tryz.isAgg117
  z51 := Tryz.sizeOf117
  v51 := Tryz.zeroValue117
  t53 := Tryz.underlying119
  a53 := Tryz.isAgg119
  z53 := Tryz.sizeOf119
  v53 := Tryz.zeroValue119
  t131 := Tryz.underlying114
  a131 := Tryz.isAgg114
  z131 := Tryz.sizeOf114
  v131 := Tryz.zeroValue114
  t182 := Tryz.underlying109
  a182 := Tryz.isAgg109
  z182 := Tryz.sizeOf109
  v182 := Tryz.zeroValue109
  t183 := Tryz.underlying110
  a183 := Tryz.isAgg110
  z183 := Tryz.sizeOf110
  v183 := Tryz.zeroValue110
  t218 := Tryz.underlying122
  a218 := Tryz.isAgg122
  z218 := Tryz.sizeOf122
  v218 := Tryz.zeroValue122
  t222 := Tryz.underlying126
  a222 := Tryz.isAgg126
  z222 := Tryz.sizeOf126
  v222 := Tryz.zeroValue126
  t228 := Tryz.underlying133
  a228 := Tryz.isAgg133
  z228 := Tryz.sizeOf133
  v228 := Tryz.zeroValue133
  t229 := Tryz.underlying134
  a229 := Tryz.isAgg134
  z229 := Tryz.sizeOf134
  v229 := Tryz.zeroValue134 }
open Go.Sort Go.RowKit in
theorem Tryz.slices_Sort_int (blk off cap : Nat) (zs : List Int) (w : World) (hH : Holds (Value.int .i64) w blk off zs.toArray) (hblk : blk < w.heap.size) (hsz : zs.length < 4611686018427387904) :
    Calls Tryz.prog 117 #[.slice (some ⟨blk, off, none⟩) zs.length cap] w fun e w' =>
      e = .returned (.tuple #[]) /\ ∃ n os, w' = grow (putRow (Value.int .i64) (Sort.ahead w n) blk off (zs.mergeSort fun x y => decide (x <= y)).toArray) os := Any.slices_Sort_int Tryz.lays189 blk off cap zs w hH hblk hsz
def Tryz.lays108_ren : Go.Shelf.Ren := ⟨fun | 108 => 95 | n => n, fun | 28 => 22 | 3 => 3 | 0 => 0 | 4 => 4 | n => n, fun | n => n⟩
theorem Tryz.lays108 : Go.Proofs.Lays.n108 Tryz.prog Tryz.lays108_ren := {
  mixed := by kernel_rfl
  f108 := Tryz.func95.trans (congrArg some (by kernel_rfl))
  t0 := Tryz.underlying0
  a0 := Tryz.isAgg0
  z0 := Tryz.sizeOf0
  v0 := Tryz.zeroValue0
  t3 := Tryz.underlying3
  a3 := Tryz.isAgg3
  z3 := Tryz.sizeOf3
  v3 := Tryz.zeroValue3
  t4 := Tryz.underlying4
  a4 := Tryz.isAgg4
  z4 := Tryz.sizeOf4
  v4 := Tryz.zeroValue4
  t28 := Tryz.underlying22
  a28 := Tryz.isAgg22
  z28 := Tryz.sizeOf22
  v28 := Tryz.zeroValue22 }
open Go.Lib in
theorem Tryz.slices_Index_int (b off n c : Nat) (zs : List Int) (x : Int) (w : World) (hz : n <= zs.length) (hbig : n <= 9223372036854775807) (hc : ∀ j, j < zs.length -> w.cell? ⟨b, off + j, none⟩ = some (.int .i64 (zs.getD j 0))) :
    Calls Tryz.prog 95 #[.slice (some ⟨b, off, none⟩) n c, .int .i64 x] w fun e w' => e = .returned (.int .i64 (Lib.idxOf (zs.take n) x)) /\ w' = w := Any.slices_Index_int Tryz.lays108 b off n c zs x w hz hbig hc
open Go.Lib in
theorem Tryz.slices_Index_int_empty (a : Option Addr) (c : Nat) (x : Int) (w : World) :
    Calls Tryz.prog 95 #[.slice a 0 c, .int .i64 x] w fun e w' => e = .returned (.int .i64 (Lib.idxOf [] x)) /\ w' = w := Any.slices_Index_int_empty Tryz.lays108 a c x w
def Tryz.lays107_ren : Go.Shelf.Ren := ⟨fun | 107 => 74 | 108 => 95 | n => n, fun | 28 => 22 | 3 => 3 | 4 => 4 | 0 => 0 | n => n, fun | n => n⟩
theorem Tryz.lays107 : Go.Proofs.Lays.n107 Tryz.prog Tryz.lays107_ren := {
  mixed := by kernel_rfl
  f107 := Tryz.func74.trans (congrArg some (by kernel_rfl))
  f108 := Tryz.func95.trans (congrArg some (by kernel_rfl))
  t0 := Tryz.underlying0
  a0 := Tryz.isAgg0
  z0 := Tryz.sizeOf0
  v0 := Tryz.zeroValue0
  t3 := Tryz.underlying3
  a3 := Tryz.isAgg3
  z3 := Tryz.sizeOf3
  v3 := Tryz.zeroValue3
  t4 := Tryz.underlying4
  a4 := Tryz.isAgg4
  z4 := Tryz.sizeOf4
  v4 := Tryz.zeroValue4
  t28 := Tryz.underlying22
  a28 := Tryz.isAgg22
  z28 := Tryz.sizeOf22
  v28 := Tryz.zeroValue22 }
open Go.Lib in
theorem Tryz.slices_Contains_int (b off n c : Nat) (zs : List Int) (x : Int) (w : World) (hz : n <= zs.length) (hbig : n <= 9223372036854775807) (hc : ∀ j, j < zs.length -> w.cell? ⟨b, off + j, none⟩ = some (.int .i64 (zs.getD j 0))) :
    Calls Tryz.prog 74 #[.slice (some ⟨b, off, none⟩) n c, .int .i64 x] w fun e w' => e = .returned (.bool ((zs.take n).contains x)) /\ w' = w := Any.slices_Contains_int Tryz.lays107 b off n c zs x w hz hbig hc
open Go.Lib in
theorem Tryz.slices_Contains_int_empty (a : Option Addr) (c : Nat) (x : Int) (w : World) :
    Calls Tryz.prog 74 #[.slice a 0 c, .int .i64 x] w fun e w' => e = .returned (.bool false) /\ w' = w := Any.slices_Contains_int_empty Tryz.lays107 a c x w
def Tryz.laysNm215_ren : Go.Shelf.Ren := ⟨fun | 15 => 116 | n => n, fun | 22 => 22 | 3 => 3 | 4 => 4 | n => n, fun | n => n⟩
theorem Tryz.laysNm215 : Go.Proofs.Lays2.n15 Tryz.prog Tryz.laysNm215_ren := {
  mixed := by kernel_rfl
  f15 := Tryz.func116.trans (congrArg some (by kernel_rfl))
  t3 := Tryz.underlying3
  a3 := Tryz.isAgg3
  z3 := Tryz.sizeOf3
  v3 := Tryz.zeroValue3
  t4 := Tryz.underlying4
  a4 := Tryz.isAgg4
  z4 := Tryz.sizeOf4
  v4 := Tryz.zeroValue4
  t22 := Tryz.underlying22
  a22 := Tryz.isAgg22
  z22 := Tryz.sizeOf22
  v22 := Tryz.zeroValue22
  i3 := by kernel_rfl }
open Go.RowKit Go.Lib in
theorem Tryz.slices_Clone_int (b off n c : Nat) (zs : List Int) (w : World) (hz : n <= zs.length) (hbig : n * 8 <= 140737488355328) (hc : ∀ j, j < zs.length -> w.cell? ⟨b, off + j, none⟩ = some (.int .i64 (zs.getD j 0))) :
    Calls Tryz.prog 116 #[.slice (some ⟨b, off, none⟩) n c] w fun e w' => ∃ v', e = .returned v' /\ w'.ownsRow w.heap.size 3 1 v' n ((zs.take n).map (Value.int .i64)) /\ v' ≠ .slice none 0 0 /\ Below w.heap.size w w' := Any.slices_Clone_int Tryz.laysNm215 b off n c zs w hz hbig hc
open Go.RowKit Go.Lib in
theorem Tryz.slices_Clone_int_nil (n c : Nat) (w : World) :
    Calls Tryz.prog 116 #[.slice none n c] w fun e w' => e = .returned (.slice none 0 0) /\ w' = w := Any.slices_Clone_int_nil Tryz.laysNm215 n c w
open Go.RowKit Go.Lib in
theorem Tryz.slices_Clone_int_zero (a : Addr) (c : Nat) (w : World) :
    Calls Tryz.prog 116 #[.slice (some a) 0 c] w fun e w' => ∃ v', e = .returned v' /\ w'.ownsRow w.heap.size 3 1 v' 0 [] /\ v' ≠ .slice none 0 0 /\ Below w.heap.size w w' := Any.slices_Clone_int_zero Tryz.laysNm215 a c w
def Tryz.laysNm220_ren : Go.Shelf.Ren := ⟨fun | 20 => 118 | n => n, fun | 22 => 22 | 3 => 3 | 4 => 4 | 0 => 0 | n => n, fun | n => n⟩
theorem Tryz.laysNm220 : Go.Proofs.Lays2.n20 Tryz.prog Tryz.laysNm220_ren := {
  mixed := by kernel_rfl
  f20 := Tryz.func118.trans (congrArg some (by kernel_rfl))
  t0 := Tryz.underlying0
  a0 := Tryz.isAgg0
  z0 := Tryz.sizeOf0
  v0 := Tryz.zeroValue0
  t3 := Tryz.underlying3
  a3 := Tryz.isAgg3
  z3 := Tryz.sizeOf3
  v3 := Tryz.zeroValue3
  t4 := Tryz.underlying4
  a4 := Tryz.isAgg4
  z4 := Tryz.sizeOf4
  v4 := Tryz.zeroValue4
  t22 := Tryz.underlying22
  a22 := Tryz.isAgg22
  z22 := Tryz.sizeOf22
  v22 := Tryz.zeroValue22
  i3 := by kernel_rfl }
open Go.RowKit Go.Lib Go.Sort in
theorem Tryz.slices_Compact_int_arr (blk off cap : Nat) (d : Array Int) (w : World) (hH : Holds encI w blk off d) (hsz : d.size <= 9223372036854775807) (hcap : d.size <= cap) :
    Calls Tryz.prog 118 #[.slice (some ⟨blk, off, none⟩) d.size cap] w fun e w' => e = .returned (.slice (some ⟨blk, off, none⟩) (compactUpTo d d.size).length cap) /\ ∃ q, w' = putRow encI (Sort.ahead w q) blk off (compactUpTo d d.size ++ List.replicate (d.size - (compactUpTo d d.size).length) 0).toArray := Any.slices_Compact_int_arr Tryz.laysNm220 blk off cap d w hH hsz hcap
open Go.RowKit Go.Lib Go.Sort in
theorem Tryz.slices_Compact_int (blk off cap : Nat) (zs : List Int) (w : World) (hH : Holds (Value.int .i64) w blk off zs.toArray) (hsz : zs.length <= 9223372036854775807) (hcap : zs.length <= cap) :
    Calls Tryz.prog 118 #[.slice (some ⟨blk, off, none⟩) zs.length cap] w fun e w' => e = .returned (.slice (some ⟨blk, off, none⟩) (Lib.compact zs).length cap) /\ ∃ q, w' = putRow (Value.int .i64) (Sort.ahead w q) blk off (Lib.compact zs ++ List.replicate (zs.length - (Lib.compact zs).length) 0).toArray := Any.slices_Compact_int Tryz.laysNm220 blk off cap zs w hH hsz hcap
open Go.RowKit Go.Lib Go.Sort in
theorem Tryz.slices_Compact_int_empty (a : Option Addr) (cap : Nat) (w : World) :
    Calls Tryz.prog 118 #[.slice a 0 cap] w fun e w' => e = .returned (.slice a 0 cap) /\ w' = w := Any.slices_Compact_int_empty Tryz.laysNm220 a cap w
def Tryz.laysNm237_ren : Go.Shelf.Ren := ⟨fun | 37 => 82 | n => n, fun | 3 => 3 | 4 => 4 | n => n, fun | n => n⟩
theorem Tryz.laysNm237 : Go.Proofs.Lays2.n37 Tryz.prog Tryz.laysNm237_ren := {
  mixed := by kernel_rfl
  f37 := Tryz.func82.trans (congrArg some (by kernel_rfl))
  t3 := Tryz.underlying3
  a3 := Tryz.isAgg3
  z3 := Tryz.sizeOf3
  v3 := Tryz.zeroValue3
  t4 := Tryz.underlying4
  a4 := Tryz.isAgg4
  z4 := Tryz.sizeOf4
  v4 := Tryz.zeroValue4 }
open Go.RowKit Go.Lib in
theorem Tryz.cmp_isNaN_int2 (x : Int) (w : World) :
    Calls Tryz.prog 82 #[.int .i64 x] w fun e w' => e = .returned (.bool false) /\ w' = w := Any.cmp_isNaN_int2 Tryz.laysNm237 x w
def Tryz.laysNm231_ren : Go.Shelf.Ren := ⟨fun | 31 => 132 | 37 => 82 | n => n, fun | 3 => 3 | 4 => 4 | n => n, fun | n => n⟩
theorem Tryz.laysNm231 : Go.Proofs.Lays2.n31 Tryz.prog Tryz.laysNm231_ren := {
  mixed := by kernel_rfl
  f31 := Tryz.func132.trans (congrArg some (by kernel_rfl))
  f37 := Tryz.func82.trans (congrArg some (by kernel_rfl))
  t3 := Tryz.underlying3
  a3 := Tryz.isAgg3
  z3 := Tryz.sizeOf3
  v3 := Tryz.zeroValue3
  t4 := Tryz.underlying4
  a4 := Tryz.isAgg4
  z4 := Tryz.sizeOf4
  v4 := Tryz.zeroValue4 }
open Go.RowKit Go.Lib in
theorem Tryz.cmp_Less_int2 (x y : Int) (w : World) :
    Calls Tryz.prog 132 #[.int .i64 x, .int .i64 y] w fun e w' => e = .returned (.bool (decide (x < y))) /\ w' = w := Any.cmp_Less_int2 Tryz.laysNm231 x y w
open Go.RowKit Go.Lib Go.Sort in
theorem Tryz.slices_Compact_int_cells (b off n c : Nat) (zs : List Int) (w : World) (hz : n <= zs.length) (hbig : n <= 9223372036854775807) (hcap : n <= c) (hc : ∀ j, j < zs.length -> w.cell? ⟨b, off + j, none⟩ = some (.int .i64 (zs.getD j 0))) (hf : ∀ j, j < n -> w.frozen? ⟨b, off + j, none⟩ = false) :
    Calls Tryz.prog 118 #[.slice (some ⟨b, off, none⟩) n c] w fun e w' => e = .returned (.slice (some ⟨b, off, none⟩) (Lib.compact (zs.take n)).length c) /\ ∃ q, w' = (w.drewN q).setCells b off ((Lib.compact (zs.take n) ++ List.replicate (n - (Lib.compact (zs.take n)).length) 0).map (Value.int .i64)) := Any.slices_Compact_int_cells Tryz.laysNm220 b off n c zs w hz hbig hcap hc hf
open Go.RowKit Go.Sort in
theorem Tryz.slices_Sort_int_none (p : Option Addr) (cap : Nat) (w : World) :
    Calls Tryz.prog 117 #[.slice p 0 cap] w fun e w' => e = .returned (.tuple #[]) /\ w' = w := Any.slices_Sort_int_none Tryz.lays189 p cap w
def Tryz.laysSlE041_f116_ren : Go.Shelf.Ren := ⟨fun | 41 => 116 | n => n, fun | 22 => 22 | 23 => 3 | 4 => 4 | n => n, fun | n => n⟩
theorem Tryz.laysSlE041_f116 : Go.Proofs.SlLaysE0.n41 Tryz.prog Tryz.laysSlE041_f116_ren := {
  mixed := by kernel_rfl
  f41 := ⟨Tryz.f116.name, by decide, Tryz.func116.trans (congrArg some (by kernel_rfl))⟩
  t4 := Tryz.underlying4
  a4 := Tryz.isAgg4
  z4 := Tryz.sizeOf4
  v4 := Tryz.zeroValue4
  t22 := Tryz.underlying22
  a22 := Tryz.isAgg22
  z22 := Tryz.sizeOf22
  v22 := Tryz.zeroValue22 }
open Go.RowKit Go.Lib in
theorem Tryz.slices_Clone (i0 : TypeInfo) (z : Value) (size bytes : Nat) (hi : Tryz.prog.info? 3 = some i0) (hz0 : i0.zero = some z) (hz1 : i0.size = size) (hz2 : i0.bytes = bytes) (hzs : z.cells.size = size) (hsz : 0 < size) (z23 : ∀ w, (Go.sizeOf 3).run Tryz.prog w = .ok size w) (b off n c : Nat) (news : List Value) (w : World) (hl : news.length = n * size) (hn : n <= maxLen) (hbig : n * bytes <= 140737488355328) (hc : ∀ j u, news[j]? = some u -> w.cell? ⟨b, off + j, none⟩ = some u) (h1 : ∀ u ∈ news, u.oneCell' = true) :
    Calls Tryz.prog 116 #[.slice (some ⟨b, off, none⟩) n c] w fun e w' => ∃ v', e = .returned v' /\ w'.ownsRow w.heap.size 3 size v' n news /\ v' ≠ .slice none 0 0 /\ Below w.heap.size w w' := AnyE.slices_Clone Tryz.laysSlE041_f116 i0 z size bytes hi hz0 hz1 hz2 hzs hsz z23 b off n c news w hl hn hbig hc h1
open Go.RowKit Go.Lib in
theorem Tryz.slices_Clone_nil (n c : Nat) (w : World) :
    Calls Tryz.prog 116 #[.slice none n c] w fun e w' => e = .returned (.slice none 0 0) /\ w' = w := AnyE.slices_Clone_nil Tryz.laysSlE041_f116 n c w
def Tryz.laysSlF20_f85_ren : Go.Shelf.Ren := ⟨fun | 20 => 85 | n => n, fun | 24 => 22 | 22 => 26 | 3 => 3 | 25 => 78 | 4 => 4 | 0 => 0 | n => n, fun | n => n⟩
theorem Tryz.laysSlF20_f85 : Go.Proofs.SlLaysF.n20 Tryz.prog Tryz.laysSlF20_f85_ren := {
  mixed := by kernel_rfl
  f20 := ⟨Tryz.f85.name, by decide, Tryz.func85.trans (congrArg some (by kernel_rfl))⟩
  t0 := Tryz.underlying0
  a0 := Tryz.isAgg0
  z0 := Tryz.sizeOf0
  v0 := Tryz.zeroValue0
  t3 := Tryz.underlying3
  a3 := Tryz.isAgg3
  z3 := Tryz.sizeOf3
  v3 := Tryz.zeroValue3
  t4 := Tryz.underlying4
  a4 := Tryz.isAgg4
  z4 := Tryz.sizeOf4
  v4 := Tryz.zeroValue4
  t22 := Tryz.underlying26
  a22 := Tryz.isAgg26
  z22 := Tryz.sizeOf26
  v22 := Tryz.zeroValue26
  a24 := Tryz.isAgg22
  z24 := Tryz.sizeOf22
  t25 := Tryz.underlying78
  a25 := Tryz.isAgg78
  z25 := Tryz.sizeOf78
  v25 := Tryz.zeroValue78 }
open Go.RowKit Go.Lib Go.Sort in
theorem Tryz.insertionSortCmpFunc_one_f85 {α : Type} [Inhabited α] (enc : α -> Value) (hO : OneCell enc) (cf : α -> α -> Int) (g : Nat) (cb : Array Value) (blk off cap a b : Nat) (d : Array α) (w : World) (eg : ∀ args w, (callFunc g args).run Tryz.prog w = .ok (.enter g args) w) (hcmp : CmpReads Tryz.prog g cb enc cf blk off d.size w) (hH : Holds enc w blk off d) (hab : a <= b) (hb : b <= d.size) (hsz : d.size < 4611686018427387904) :
    Calls Tryz.prog 85 #[.slice (some ⟨blk, off, none⟩) d.size cap, .int .i64 a, .int .i64 b, .func (.func g) #[] cb] w fun e w' =>
      e = .returned (.tuple #[]) /\ ∃ n, w' = (putRow enc w blk off (Sort.insertionSort (ltOf cf) d a b)).drewN n := Any.insertionSortCmpFunc_one Tryz.laysSlF20_f85 enc hO cf g cb blk off cap a b d w eg hcmp hH hab hb hsz
def Tryz.laysSlF20_f98_ren : Go.Shelf.Ren := ⟨fun | 20 => 98 | n => n, fun | 24 => 3 | 22 => 22 | 3 => 3 | 25 => 44 | 4 => 4 | 0 => 0 | n => n, fun | n => n⟩
theorem Tryz.laysSlF20_f98 : Go.Proofs.SlLaysF.n20 Tryz.prog Tryz.laysSlF20_f98_ren := {
  mixed := by kernel_rfl
  f20 := ⟨Tryz.f98.name, by decide, Tryz.func98.trans (congrArg some (by kernel_rfl))⟩
  t0 := Tryz.underlying0
  a0 := Tryz.isAgg0
  z0 := Tryz.sizeOf0
  v0 := Tryz.zeroValue0
  t3 := Tryz.underlying3
  a3 := Tryz.isAgg3
  z3 := Tryz.sizeOf3
  v3 := Tryz.zeroValue3
  t4 := Tryz.underlying4
  a4 := Tryz.isAgg4
  z4 := Tryz.sizeOf4
  v4 := Tryz.zeroValue4
  t22 := Tryz.underlying22
  a22 := Tryz.isAgg22
  z22 := Tryz.sizeOf22
  v22 := Tryz.zeroValue22
  a24 := Tryz.isAgg3
  z24 := Tryz.sizeOf3
  t25 := Tryz.underlying44
  a25 := Tryz.isAgg44
  z25 := Tryz.sizeOf44
  v25 := Tryz.zeroValue44 }
open Go.RowKit Go.Lib Go.Sort in
theorem Tryz.insertionSortCmpFunc_one_f98 {α : Type} [Inhabited α] (enc : α -> Value) (hO : OneCell enc) (cf : α -> α -> Int) (g : Nat) (cb : Array Value) (blk off cap a b : Nat) (d : Array α) (w : World) (eg : ∀ args w, (callFunc g args).run Tryz.prog w = .ok (.enter g args) w) (hcmp : CmpReads Tryz.prog g cb enc cf blk off d.size w) (hH : Holds enc w blk off d) (hab : a <= b) (hb : b <= d.size) (hsz : d.size < 4611686018427387904) :
    Calls Tryz.prog 98 #[.slice (some ⟨blk, off, none⟩) d.size cap, .int .i64 a, .int .i64 b, .func (.func g) #[] cb] w fun e w' =>
      e = .returned (.tuple #[]) /\ ∃ n, w' = (putRow enc w blk off (Sort.insertionSort (ltOf cf) d a b)).drewN n := Any.insertionSortCmpFunc_one Tryz.laysSlF20_f98 enc hO cf g cb blk off cap a b d w eg hcmp hH hab hb hsz
def Tryz.laysSlF46_f101_ren : Go.Shelf.Ren := ⟨fun | 46 => 101 | n => n, fun | 24 => 22 | 22 => 26 | 3 => 3 | 25 => 78 | 4 => 4 | 0 => 0 | n => n, fun | n => n⟩
theorem Tryz.laysSlF46_f101 : Go.Proofs.SlLaysF.n46 Tryz.prog Tryz.laysSlF46_f101_ren := {
  mixed := by kernel_rfl
  f46 := ⟨Tryz.f101.name, by decide, Tryz.func101.trans (congrArg some (by kernel_rfl))⟩
  t0 := Tryz.underlying0
  a0 := Tryz.isAgg0
  z0 := Tryz.sizeOf0
  v0 := Tryz.zeroValue0
  t3 := Tryz.underlying3
  a3 := Tryz.isAgg3
  z3 := Tryz.sizeOf3
  v3 := Tryz.zeroValue3
  t4 := Tryz.underlying4
  a4 := Tryz.isAgg4
  z4 := Tryz.sizeOf4
  v4 := Tryz.zeroValue4
  t22 := Tryz.underlying26
  a22 := Tryz.isAgg26
  z22 := Tryz.sizeOf26
  v22 := Tryz.zeroValue26
  a24 := Tryz.isAgg22
  z24 := Tryz.sizeOf22
  t25 := Tryz.underlying78
  a25 := Tryz.isAgg78
  z25 := Tryz.sizeOf78
  v25 := Tryz.zeroValue78 }
open Go.RowKit Go.Lib Go.Sort in
theorem Tryz.siftDownCmpFunc_f101 {α : Type} [Inhabited α] (enc : α -> Value) (cf : α -> α -> Int) (g : Nat) (cb : Array Value) (blk off cap lo hi first : Nat) (d0 d : Array α) (w0 w : World) (eg : ∀ args w, (callFunc g args).run Tryz.prog w = .ok (.enter g args) w) (hcmp : CmpLays1 Tryz.prog g cb enc cf blk off d0.size w0) (R : Row1 enc w0 blk off d0) (hs : d0.size = d.size) (S : SW enc w0 blk off d w) (hlo : lo <= hi) (hb : first + hi <= d.size) (hsz : d.size < 4611686018427387904) :
    Calls Tryz.prog 101 #[.slice (some ⟨blk, off, none⟩) d.size cap, .int .i64 lo, .int .i64 hi, .int .i64 first, .func (.func g) #[] cb] w fun e w' =>
      e = .returned (.tuple #[]) /\ SW enc w0 blk off (siftDown (ltOf cf) hi first lo d) w' := Any.siftDownCmpFunc Tryz.laysSlF46_f101 enc cf g cb blk off cap lo hi first d0 d w0 w eg hcmp R hs S hlo hb hsz
def Tryz.laysSlF46_f120_ren : Go.Shelf.Ren := ⟨fun | 46 => 120 | n => n, fun | 24 => 3 | 22 => 22 | 3 => 3 | 25 => 44 | 4 => 4 | 0 => 0 | n => n, fun | n => n⟩
theorem Tryz.laysSlF46_f120 : Go.Proofs.SlLaysF.n46 Tryz.prog Tryz.laysSlF46_f120_ren := {
  mixed := by kernel_rfl
  f46 := ⟨Tryz.f120.name, by decide, Tryz.func120.trans (congrArg some (by kernel_rfl))⟩
  t0 := Tryz.underlying0
  a0 := Tryz.isAgg0
  z0 := Tryz.sizeOf0
  v0 := Tryz.zeroValue0
  t3 := Tryz.underlying3
  a3 := Tryz.isAgg3
  z3 := Tryz.sizeOf3
  v3 := Tryz.zeroValue3
  t4 := Tryz.underlying4
  a4 := Tryz.isAgg4
  z4 := Tryz.sizeOf4
  v4 := Tryz.zeroValue4
  t22 := Tryz.underlying22
  a22 := Tryz.isAgg22
  z22 := Tryz.sizeOf22
  v22 := Tryz.zeroValue22
  a24 := Tryz.isAgg3
  z24 := Tryz.sizeOf3
  t25 := Tryz.underlying44
  a25 := Tryz.isAgg44
  z25 := Tryz.sizeOf44
  v25 := Tryz.zeroValue44 }
open Go.RowKit Go.Lib Go.Sort in
theorem Tryz.siftDownCmpFunc_f120 {α : Type} [Inhabited α] (enc : α -> Value) (cf : α -> α -> Int) (g : Nat) (cb : Array Value) (blk off cap lo hi first : Nat) (d0 d : Array α) (w0 w : World) (eg : ∀ args w, (callFunc g args).run Tryz.prog w = .ok (.enter g args) w) (hcmp : CmpLays1 Tryz.prog g cb enc cf blk off d0.size w0) (R : Row1 enc w0 blk off d0) (hs : d0.size = d.size) (S : SW enc w0 blk off d w) (hlo : lo <= hi) (hb : first + hi <= d.size) (hsz : d.size < 4611686018427387904) :
    Calls Tryz.prog 120 #[.slice (some ⟨blk, off, none⟩) d.size cap, .int .i64 lo, .int .i64 hi, .int .i64 first, .func (.func g) #[] cb] w fun e w' =>
      e = .returned (.tuple #[]) /\ SW enc w0 blk off (siftDown (ltOf cf) hi first lo d) w' := Any.siftDownCmpFunc Tryz.laysSlF46_f120 enc cf g cb blk off cap lo hi first d0 d w0 w eg hcmp R hs S hlo hb hsz
def Tryz.laysSlF21_f86_ren : Go.Shelf.Ren := ⟨fun | 21 => 86 | 46 => 101 | n => n, fun | 24 => 22 | 22 => 26 | 3 => 3 | 25 => 78 | 4 => 4 | 0 => 0 | n => n, fun | n => n⟩
theorem Tryz.laysSlF21_f86 : Go.Proofs.SlLaysF.n21 Tryz.prog Tryz.laysSlF21_f86_ren := {
  mixed := by kernel_rfl
  f21 := ⟨Tryz.f86.name, by decide, Tryz.func86.trans (congrArg some (by kernel_rfl))⟩
  f46 := ⟨Tryz.f101.name, by decide, Tryz.func101.trans (congrArg some (by kernel_rfl))⟩
  t0 := Tryz.underlying0
  a0 := Tryz.isAgg0
  z0 := Tryz.sizeOf0
  v0 := Tryz.zeroValue0
  t3 := Tryz.underlying3
  a3 := Tryz.isAgg3
  z3 := Tryz.sizeOf3
  v3 := Tryz.zeroValue3
  t4 := Tryz.underlying4
  a4 := Tryz.isAgg4
  z4 := Tryz.sizeOf4
  v4 := Tryz.zeroValue4
  t22 := Tryz.underlying26
  a22 := Tryz.isAgg26
  z22 := Tryz.sizeOf26
  v22 := Tryz.zeroValue26
  a24 := Tryz.isAgg22
  z24 := Tryz.sizeOf22
  t25 := Tryz.underlying78
  a25 := Tryz.isAgg78
  z25 := Tryz.sizeOf78
  v25 := Tryz.zeroValue78 }
open Go.RowKit Go.Lib Go.Sort in
theorem Tryz.heapSortCmpFunc_f86 {α : Type} [Inhabited α] (enc : α -> Value) (cf : α -> α -> Int) (g : Nat) (cb : Array Value) (blk off cap a b : Nat) (d0 d : Array α) (w0 w : World) (eg : ∀ args w, (callFunc g args).run Tryz.prog w = .ok (.enter g args) w) (hcmp : CmpLays1 Tryz.prog g cb enc cf blk off d0.size w0) (R : Row1 enc w0 blk off d0) (hs : d0.size = d.size) (S : SW enc w0 blk off d w) (hab : a <= b) (hb : b <= d.size) (hsz : d.size < 4611686018427387904) :
    Calls Tryz.prog 86 #[.slice (some ⟨blk, off, none⟩) d.size cap, .int .i64 a, .int .i64 b, .func (.func g) #[] cb] w fun e w' =>
      e = .returned (.tuple #[]) /\ SW enc w0 blk off (heapSort (ltOf cf) d a b) w' := Any.heapSortCmpFunc Tryz.laysSlF21_f86 enc cf g cb blk off cap a b d0 d w0 w eg hcmp R hs S hab hb hsz
def Tryz.laysSlF21_f106_ren : Go.Shelf.Ren := ⟨fun | 21 => 106 | 46 => 120 | n => n, fun | 24 => 3 | 22 => 22 | 3 => 3 | 25 => 44 | 4 => 4 | 0 => 0 | n => n, fun | n => n⟩
theorem Tryz.laysSlF21_f106 : Go.Proofs.SlLaysF.n21 Tryz.prog Tryz.laysSlF21_f106_ren := {
  mixed := by kernel_rfl
  f21 := ⟨Tryz.f106.name, by decide, Tryz.func106.trans (congrArg some (by kernel_rfl))⟩
  f46 := ⟨Tryz.f120.name, by decide, Tryz.func120.trans (congrArg some (by kernel_rfl))⟩
  t0 := Tryz.underlying0
  a0 := Tryz.isAgg0
  z0 := Tryz.sizeOf0
  v0 := Tryz.zeroValue0
  t3 := Tryz.underlying3
  a3 := Tryz.isAgg3
  z3 := Tryz.sizeOf3
  v3 := Tryz.zeroValue3
  t4 := Tryz.underlying4
  a4 := Tryz.isAgg4
  z4 := Tryz.sizeOf4
  v4 := Tryz.zeroValue4
  t22 := Tryz.underlying22
  a22 := Tryz.isAgg22
  z22 := Tryz.sizeOf22
  v22 := Tryz.zeroValue22
  a24 := Tryz.isAgg3
  z24 := Tryz.sizeOf3
  t25 := Tryz.underlying44
  a25 := Tryz.isAgg44
  z25 := Tryz.sizeOf44
  v25 := Tryz.zeroValue44 }
open Go.RowKit Go.Lib Go.Sort in
theorem Tryz.heapSortCmpFunc_f106 {α : Type} [Inhabited α] (enc : α -> Value) (cf : α -> α -> Int) (g : Nat) (cb : Array Value) (blk off cap a b : Nat) (d0 d : Array α) (w0 w : World) (eg : ∀ args w, (callFunc g args).run Tryz.prog w = .ok (.enter g args) w) (hcmp : CmpLays1 Tryz.prog g cb enc cf blk off d0.size w0) (R : Row1 enc w0 blk off d0) (hs : d0.size = d.size) (S : SW enc w0 blk off d w) (hab : a <= b) (hb : b <= d.size) (hsz : d.size < 4611686018427387904) :
    Calls Tryz.prog 106 #[.slice (some ⟨blk, off, none⟩) d.size cap, .int .i64 a, .int .i64 b, .func (.func g) #[] cb] w fun e w' =>
      e = .returned (.tuple #[]) /\ SW enc w0 blk off (heapSort (ltOf cf) d a b) w' := Any.heapSortCmpFunc Tryz.laysSlF21_f106 enc cf g cb blk off cap a b d0 d w0 w eg hcmp R hs S hab hb hsz
open Go.RowKit Go.Lib Go.Sort in
theorem Tryz.insertionSortCmpFunc_s_f85 {α : Type} [Inhabited α] (enc : α -> Value) (cf : α -> α -> Int) (g : Nat) (cb : Array Value) (blk off cap a b : Nat) (d0 d : Array α) (w0 w : World) (eg : ∀ args w, (callFunc g args).run Tryz.prog w = .ok (.enter g args) w) (hcmp : CmpLays1 Tryz.prog g cb enc cf blk off d0.size w0) (R : Row1 enc w0 blk off d0) (hs : d0.size = d.size) (S : SW enc w0 blk off d w) (hab : a <= b) (hb : b <= d.size) (hsz : d.size < 4611686018427387904) :
    Calls Tryz.prog 85 #[.slice (some ⟨blk, off, none⟩) d.size cap, .int .i64 a, .int .i64 b, .func (.func g) #[] cb] w fun e w' => e = .returned (.tuple #[]) /\ SW enc w0 blk off (Sort.insertionSort (ltOf cf) d a b) w' := Any.insertionSortCmpFunc_s Tryz.laysSlF20_f85 enc cf g cb blk off cap a b d0 d w0 w eg hcmp R hs S hab hb hsz
open Go.RowKit Go.Lib Go.Sort in
theorem Tryz.insertionSortCmpFunc_s_f98 {α : Type} [Inhabited α] (enc : α -> Value) (cf : α -> α -> Int) (g : Nat) (cb : Array Value) (blk off cap a b : Nat) (d0 d : Array α) (w0 w : World) (eg : ∀ args w, (callFunc g args).run Tryz.prog w = .ok (.enter g args) w) (hcmp : CmpLays1 Tryz.prog g cb enc cf blk off d0.size w0) (R : Row1 enc w0 blk off d0) (hs : d0.size = d.size) (S : SW enc w0 blk off d w) (hab : a <= b) (hb : b <= d.size) (hsz : d.size < 4611686018427387904) :
    Calls Tryz.prog 98 #[.slice (some ⟨blk, off, none⟩) d.size cap, .int .i64 a, .int .i64 b, .func (.func g) #[] cb] w fun e w' => e = .returned (.tuple #[]) /\ SW enc w0 blk off (Sort.insertionSort (ltOf cf) d a b) w' := Any.insertionSortCmpFunc_s Tryz.laysSlF20_f98 enc cf g cb blk off cap a b d0 d w0 w eg hcmp R hs S hab hb hsz
def Tryz.laysSlF57_f119_ren : Go.Shelf.Ren := ⟨fun | 57 => 119 | n => n, fun | 24 => 22 | 22 => 26 | 3 => 3 | 70 => 126 | 25 => 78 | 0 => 0 | 4 => 4 | n => n, fun | n => n⟩
theorem Tryz.laysSlF57_f119 : Go.Proofs.SlLaysF.n57 Tryz.prog Tryz.laysSlF57_f119_ren := {
  mixed := by kernel_rfl
  f57 := ⟨Tryz.f119.name, by decide, Tryz.func119.trans (congrArg some (by kernel_rfl))⟩
  t0 := Tryz.underlying0
  a0 := Tryz.isAgg0
  z0 := Tryz.sizeOf0
  v0 := Tryz.zeroValue0
  t3 := Tryz.underlying3
  a3 := Tryz.isAgg3
  z3 := Tryz.sizeOf3
  v3 := Tryz.zeroValue3
  t4 := Tryz.underlying4
  a4 := Tryz.isAgg4
  z4 := Tryz.sizeOf4
  v4 := Tryz.zeroValue4
  t22 := Tryz.underlying26
  a22 := Tryz.isAgg26
  z22 := Tryz.sizeOf26
  v22 := Tryz.zeroValue26
  a24 := Tryz.isAgg22
  z24 := Tryz.sizeOf22
  t25 := Tryz.underlying78
  a25 := Tryz.isAgg78
  z25 := Tryz.sizeOf78
  v25 := Tryz.zeroValue78
  t70 := Tryz.underlying126
  a70 := Tryz.isAgg126
  z70 := Tryz.sizeOf126
  v70 := Tryz.zeroValue126 }
open Go.RowKit Go.Lib Go.Sort in
theorem Tryz.order2CmpFunc_f119 {α : Type} [Inhabited α] (enc : α -> Value) (cf : α -> α -> Int) (g : Nat) (cb : Array Value) (blk off cap a b c s : Nat) (d0 d : Array α) (w0 W : World) (eg : ∀ args w, (callFunc g args).run Tryz.prog w = .ok (.enter g args) w) (hcmp : CmpLays1 Tryz.prog g cb enc cf blk off d0.size w0) (R : Row1 enc w0 blk off d0) (hs : d0.size = d.size) (C : Cnt1 enc w0 blk off d c s W) (ha : a < d.size) (hb : b < d.size) (hsz : d.size < 4611686018427387904) (hss : s < 4611686018427387904) :
    Calls Tryz.prog 119 #[.slice (some ⟨blk, off, none⟩) d.size cap, .int .i64 a, .int .i64 b, .pointer (some ⟨c, 0, none⟩), .func (.func g) #[] cb] W fun e w' =>
      e = .returned (.tuple #[.int .i64 (order2 (ltOf cf) d a b s).1, .int .i64 (order2 (ltOf cf) d a b s).2.1]) /\ Cnt1 enc w0 blk off d c (order2 (ltOf cf) d a b s).2.2 w' := Any.order2CmpFunc Tryz.laysSlF57_f119 enc cf g cb blk off cap a b c s d0 d w0 W eg hcmp R hs C ha hb hsz hss
def Tryz.laysSlF57_f125_ren : Go.Shelf.Ren := ⟨fun | 57 => 125 | n => n, fun | 24 => 3 | 22 => 22 | 3 => 3 | 70 => 126 | 25 => 44 | 0 => 0 | 4 => 4 | n => n, fun | n => n⟩
theorem Tryz.laysSlF57_f125 : Go.Proofs.SlLaysF.n57 Tryz.prog Tryz.laysSlF57_f125_ren := {
  mixed := by kernel_rfl
  f57 := ⟨Tryz.f125.name, by decide, Tryz.func125.trans (congrArg some (by kernel_rfl))⟩
  t0 := Tryz.underlying0
  a0 := Tryz.isAgg0
  z0 := Tryz.sizeOf0
  v0 := Tryz.zeroValue0
  t3 := Tryz.underlying3
  a3 := Tryz.isAgg3
  z3 := Tryz.sizeOf3
  v3 := Tryz.zeroValue3
  t4 := Tryz.underlying4
  a4 := Tryz.isAgg4
  z4 := Tryz.sizeOf4
  v4 := Tryz.zeroValue4
  t22 := Tryz.underlying22
  a22 := Tryz.isAgg22
  z22 := Tryz.sizeOf22
  v22 := Tryz.zeroValue22
  a24 := Tryz.isAgg3
  z24 := Tryz.sizeOf3
  t25 := Tryz.underlying44
  a25 := Tryz.isAgg44
  z25 := Tryz.sizeOf44
  v25 := Tryz.zeroValue44
  t70 := Tryz.underlying126
  a70 := Tryz.isAgg126
  z70 := Tryz.sizeOf126
  v70 := Tryz.zeroValue126 }
open Go.RowKit Go.Lib Go.Sort in
theorem Tryz.order2CmpFunc_f125 {α : Type} [Inhabited α] (enc : α -> Value) (cf : α -> α -> Int) (g : Nat) (cb : Array Value) (blk off cap a b c s : Nat) (d0 d : Array α) (w0 W : World) (eg : ∀ args w, (callFunc g args).run Tryz.prog w = .ok (.enter g args) w) (hcmp : CmpLays1 Tryz.prog g cb enc cf blk off d0.size w0) (R : Row1 enc w0 blk off d0) (hs : d0.size = d.size) (C : Cnt1 enc w0 blk off d c s W) (ha : a < d.size) (hb : b < d.size) (hsz : d.size < 4611686018427387904) (hss : s < 4611686018427387904) :
    Calls Tryz.prog 125 #[.slice (some ⟨blk, off, none⟩) d.size cap, .int .i64 a, .int .i64 b, .pointer (some ⟨c, 0, none⟩), .func (.func g) #[] cb] W fun e w' =>
      e = .returned (.tuple #[.int .i64 (order2 (ltOf cf) d a b s).1, .int .i64 (order2 (ltOf cf) d a b s).2.1]) /\ Cnt1 enc w0 blk off d c (order2 (ltOf cf) d a b s).2.2 w' := Any.order2CmpFunc Tryz.laysSlF57_f125 enc cf g cb blk off cap a b c s d0 d w0 W eg hcmp R hs C ha hb hsz hss
def Tryz.laysSlF50_f105_ren : Go.Shelf.Ren := ⟨fun | 50 => 105 | 57 => 119 | n => n, fun | 24 => 22 | 22 => 26 | 3 => 3 | 70 => 126 | 25 => 78 | 77 => 134 | 0 => 0 | 4 => 4 | n => n, fun | n => n⟩
theorem Tryz.laysSlF50_f105 : Go.Proofs.SlLaysF.n50 Tryz.prog Tryz.laysSlF50_f105_ren := {
  mixed := by kernel_rfl
  f50 := ⟨Tryz.f105.name, by decide, Tryz.func105.trans (congrArg some (by kernel_rfl))⟩
  f57 := ⟨Tryz.f119.name, by decide, Tryz.func119.trans (congrArg some (by kernel_rfl))⟩
  t0 := Tryz.underlying0
  a0 := Tryz.isAgg0
  z0 := Tryz.sizeOf0
  v0 := Tryz.zeroValue0
  t3 := Tryz.underlying3
  a3 := Tryz.isAgg3
  z3 := Tryz.sizeOf3
  v3 := Tryz.zeroValue3
  t4 := Tryz.underlying4
  a4 := Tryz.isAgg4
  z4 := Tryz.sizeOf4
  v4 := Tryz.zeroValue4
  t22 := Tryz.underlying26
  a22 := Tryz.isAgg26
  z22 := Tryz.sizeOf26
  v22 := Tryz.zeroValue26
  a24 := Tryz.isAgg22
  z24 := Tryz.sizeOf22
  t25 := Tryz.underlying78
  a25 := Tryz.isAgg78
  z25 := Tryz.sizeOf78
  v25 := Tryz.zeroValue78
  t70 := Tryz.underlying126
  a70 := Tryz.isAgg126
  z70 := Tryz.sizeOf126
  v70 := Tryz.zeroValue126
  t77 := Tryz.underlying134
  a77 := Tryz.isAgg134
  z77 := Tryz.sizeOf134
  v77 := Tryz.zeroValue134 }
open Go.RowKit Go.Lib Go.Sort in
theorem Tryz.medianCmpFunc_f105 {α : Type} [Inhabited α] (enc : α -> Value) (cf : α -> α -> Int) (g : Nat) (cb : Array Value) (blk off cap a b c' c s : Nat) (d0 d : Array α) (w0 W : World) (eg : ∀ args w, (callFunc g args).run Tryz.prog w = .ok (.enter g args) w) (hcmp : CmpLays1 Tryz.prog g cb enc cf blk off d0.size w0) (R : Row1 enc w0 blk off d0) (hs : d0.size = d.size) (C : Cnt1 enc w0 blk off d c s W) (ha : a < d.size) (hb : b < d.size) (hc : c' < d.size) (hsz : d.size < 4611686018427387904) (hss : s + 3 < 4611686018427387904) :
    Calls Tryz.prog 105 #[.slice (some ⟨blk, off, none⟩) d.size cap, .int .i64 a, .int .i64 b, .int .i64 c', .pointer (some ⟨c, 0, none⟩), .func (.func g) #[] cb] W fun e w' =>
      e = .returned (.int .i64 (median (ltOf cf) d a b c' s).1) /\ Cnt1 enc w0 blk off d c (median (ltOf cf) d a b c' s).2 w' := Any.medianCmpFunc Tryz.laysSlF50_f105 enc cf g cb blk off cap a b c' c s d0 d w0 W eg hcmp R hs C ha hb hc hsz hss
def Tryz.laysSlF50_f122_ren : Go.Shelf.Ren := ⟨fun | 50 => 122 | 57 => 125 | n => n, fun | 24 => 3 | 22 => 22 | 3 => 3 | 70 => 126 | 25 => 44 | 77 => 134 | 0 => 0 | 4 => 4 | n => n, fun | n => n⟩
theorem Tryz.laysSlF50_f122 : Go.Proofs.SlLaysF.n50 Tryz.prog Tryz.laysSlF50_f122_ren := {
  mixed := by kernel_rfl
  f50 := ⟨Tryz.f122.name, by decide, Tryz.func122.trans (congrArg some (by kernel_rfl))⟩
  f57 := ⟨Tryz.f125.name, by decide, Tryz.func125.trans (congrArg some (by kernel_rfl))⟩
  t0 := Tryz.underlying0
  a0 := Tryz.isAgg0
  z0 := Tryz.sizeOf0
  v0 := Tryz.zeroValue0
  t3 := Tryz.underlying3
  a3 := Tryz.isAgg3
  z3 := Tryz.sizeOf3
  v3 := Tryz.zeroValue3
  t4 := Tryz.underlying4
  a4 := Tryz.isAgg4
  z4 := Tryz.sizeOf4
  v4 := Tryz.zeroValue4
  t22 := Tryz.underlying22
  a22 := Tryz.isAgg22
  z22 := Tryz.sizeOf22
  v22 := Tryz.zeroValue22
  a24 := Tryz.isAgg3
  z24 := Tryz.sizeOf3
  t25 := Tryz.underlying44
  a25 := Tryz.isAgg44
  z25 := Tryz.sizeOf44
  v25 := Tryz.zeroValue44
  t70 := Tryz.underlying126
  a70 := Tryz.isAgg126
  z70 := Tryz.sizeOf126
  v70 := Tryz.zeroValue126
  t77 := Tryz.underlying134
  a77 := Tryz.isAgg134
  z77 := Tryz.sizeOf134
  v77 := Tryz.zeroValue134 }
open Go.RowKit Go.Lib Go.Sort in
theorem Tryz.medianCmpFunc_f122 {α : Type} [Inhabited α] (enc : α -> Value) (cf : α -> α -> Int) (g : Nat) (cb : Array Value) (blk off cap a b c' c s : Nat) (d0 d : Array α) (w0 W : World) (eg : ∀ args w, (callFunc g args).run Tryz.prog w = .ok (.enter g args) w) (hcmp : CmpLays1 Tryz.prog g cb enc cf blk off d0.size w0) (R : Row1 enc w0 blk off d0) (hs : d0.size = d.size) (C : Cnt1 enc w0 blk off d c s W) (ha : a < d.size) (hb : b < d.size) (hc : c' < d.size) (hsz : d.size < 4611686018427387904) (hss : s + 3 < 4611686018427387904) :
    Calls Tryz.prog 122 #[.slice (some ⟨blk, off, none⟩) d.size cap, .int .i64 a, .int .i64 b, .int .i64 c', .pointer (some ⟨c, 0, none⟩), .func (.func g) #[] cb] W fun e w' =>
      e = .returned (.int .i64 (median (ltOf cf) d a b c' s).1) /\ Cnt1 enc w0 blk off d c (median (ltOf cf) d a b c' s).2 w' := Any.medianCmpFunc Tryz.laysSlF50_f122 enc cf g cb blk off cap a b c' c s d0 d w0 W eg hcmp R hs C ha hb hc hsz hss
def Tryz.laysSlF49_f104_ren : Go.Shelf.Ren := ⟨fun | 49 => 104 | 50 => 105 | 57 => 119 | n => n, fun | 24 => 22 | 22 => 26 | 3 => 3 | 70 => 126 | 25 => 78 | 77 => 134 | 0 => 0 | 4 => 4 | n => n, fun | n => n⟩
theorem Tryz.laysSlF49_f104 : Go.Proofs.SlLaysF.n49 Tryz.prog Tryz.laysSlF49_f104_ren := {
  mixed := by kernel_rfl
  f49 := ⟨Tryz.f104.name, by decide, Tryz.func104.trans (congrArg some (by kernel_rfl))⟩
  f50 := ⟨Tryz.f105.name, by decide, Tryz.func105.trans (congrArg some (by kernel_rfl))⟩
  f57 := ⟨Tryz.f119.name, by decide, Tryz.func119.trans (congrArg some (by kernel_rfl))⟩
  t0 := Tryz.underlying0
  a0 := Tryz.isAgg0
  z0 := Tryz.sizeOf0
  v0 := Tryz.zeroValue0
  t3 := Tryz.underlying3
  a3 := Tryz.isAgg3
  z3 := Tryz.sizeOf3
  v3 := Tryz.zeroValue3
  t4 := Tryz.underlying4
  a4 := Tryz.isAgg4
  z4 := Tryz.sizeOf4
  v4 := Tryz.zeroValue4
  t22 := Tryz.underlying26
  a22 := Tryz.isAgg26
  z22 := Tryz.sizeOf26
  v22 := Tryz.zeroValue26
  a24 := Tryz.isAgg22
  z24 := Tryz.sizeOf22
  t25 := Tryz.underlying78
  a25 := Tryz.isAgg78
  z25 := Tryz.sizeOf78
  v25 := Tryz.zeroValue78
  t70 := Tryz.underlying126
  a70 := Tryz.isAgg126
  z70 := Tryz.sizeOf126
  v70 := Tryz.zeroValue126
  t77 := Tryz.underlying134
  a77 := Tryz.isAgg134
  z77 := Tryz.sizeOf134
  v77 := Tryz.zeroValue134 }
open Go.RowKit Go.Lib Go.Sort in
theorem Tryz.medianAdjacentCmpFunc_f104 {α : Type} [Inhabited α] (enc : α -> Value) (cf : α -> α -> Int) (g : Nat) (cb : Array Value) (blk off cap a c s : Nat) (d0 d : Array α) (w0 W : World) (eg : ∀ args w, (callFunc g args).run Tryz.prog w = .ok (.enter g args) w) (hcmp : CmpLays1 Tryz.prog g cb enc cf blk off d0.size w0) (R : Row1 enc w0 blk off d0) (hs : d0.size = d.size) (C : Cnt1 enc w0 blk off d c s W) (ha1 : 1 <= a) (ha2 : a + 1 < d.size) (hsz : d.size < 4611686018427387904) (hss : s + 3 < 4611686018427387904) :
    Calls Tryz.prog 104 #[.slice (some ⟨blk, off, none⟩) d.size cap, .int .i64 a, .pointer (some ⟨c, 0, none⟩), .func (.func g) #[] cb] W fun e w' =>
      e = .returned (.int .i64 (medianAdjacent (ltOf cf) d a s).1) /\ Cnt1 enc w0 blk off d c (medianAdjacent (ltOf cf) d a s).2 w' := Any.medianAdjacentCmpFunc Tryz.laysSlF49_f104 enc cf g cb blk off cap a c s d0 d w0 W eg hcmp R hs C ha1 ha2 hsz hss
def Tryz.laysSlF49_f121_ren : Go.Shelf.Ren := ⟨fun | 49 => 121 | 50 => 122 | 57 => 125 | n => n, fun | 24 => 3 | 22 => 22 | 3 => 3 | 70 => 126 | 25 => 44 | 77 => 134 | 0 => 0 | 4 => 4 | n => n, fun | n => n⟩
theorem Tryz.laysSlF49_f121 : Go.Proofs.SlLaysF.n49 Tryz.prog Tryz.laysSlF49_f121_ren := {
  mixed := by kernel_rfl
  f49 := ⟨Tryz.f121.name, by decide, Tryz.func121.trans (congrArg some (by kernel_rfl))⟩
  f50 := ⟨Tryz.f122.name, by decide, Tryz.func122.trans (congrArg some (by kernel_rfl))⟩
  f57 := ⟨Tryz.f125.name, by decide, Tryz.func125.trans (congrArg some (by kernel_rfl))⟩
  t0 := Tryz.underlying0
  a0 := Tryz.isAgg0
  z0 := Tryz.sizeOf0
  v0 := Tryz.zeroValue0
  t3 := Tryz.underlying3
  a3 := Tryz.isAgg3
  z3 := Tryz.sizeOf3
  v3 := Tryz.zeroValue3
  t4 := Tryz.underlying4
  a4 := Tryz.isAgg4
  z4 := Tryz.sizeOf4
  v4 := Tryz.zeroValue4
  t22 := Tryz.underlying22
  a22 := Tryz.isAgg22
  z22 := Tryz.sizeOf22
  v22 := Tryz.zeroValue22
  a24 := Tryz.isAgg3
  z24 := Tryz.sizeOf3
  t25 := Tryz.underlying44
  a25 := Tryz.isAgg44
  z25 := Tryz.sizeOf44
  v25 := Tryz.zeroValue44
  t70 := Tryz.underlying126
  a70 := Tryz.isAgg126
  z70 := Tryz.sizeOf126
  v70 := Tryz.zeroValue126
  t77 := Tryz.underlying134
  a77 := Tryz.isAgg134
  z77 := Tryz.sizeOf134
  v77 := Tryz.zeroValue134 }
open Go.RowKit Go.Lib Go.Sort in
theorem Tryz.medianAdjacentCmpFunc_f121 {α : Type} [Inhabited α] (enc : α -> Value) (cf : α -> α -> Int) (g : Nat) (cb : Array Value) (blk off cap a c s : Nat) (d0 d : Array α) (w0 W : World) (eg : ∀ args w, (callFunc g args).run Tryz.prog w = .ok (.enter g args) w) (hcmp : CmpLays1 Tryz.prog g cb enc cf blk off d0.size w0) (R : Row1 enc w0 blk off d0) (hs : d0.size = d.size) (C : Cnt1 enc w0 blk off d c s W) (ha1 : 1 <= a) (ha2 : a + 1 < d.size) (hsz : d.size < 4611686018427387904) (hss : s + 3 < 4611686018427387904) :
    Calls Tryz.prog 121 #[.slice (some ⟨blk, off, none⟩) d.size cap, .int .i64 a, .pointer (some ⟨c, 0, none⟩), .func (.func g) #[] cb] W fun e w' =>
      e = .returned (.int .i64 (medianAdjacent (ltOf cf) d a s).1) /\ Cnt1 enc w0 blk off d c (medianAdjacent (ltOf cf) d a s).2 w' := Any.medianAdjacentCmpFunc Tryz.laysSlF49_f121 enc cf g cb blk off cap a c s d0 d w0 W eg hcmp R hs C ha1 ha2 hsz hss
def Tryz.laysSlF23_f88_ren : Go.Shelf.Ren := ⟨fun | 23 => 88 | 49 => 104 | 50 => 105 | 57 => 119 | n => n, fun | 24 => 22 | 22 => 26 | 3 => 3 | 25 => 78 | 45 => 109 | 0 => 0 | 4 => 4 | 70 => 126 | 77 => 134 | n => n, fun | n => n⟩
theorem Tryz.laysSlF23_f88 : Go.Proofs.SlLaysF.n23 Tryz.prog Tryz.laysSlF23_f88_ren := {
  mixed := by kernel_rfl
  f23 := ⟨Tryz.f88.name, by decide, Tryz.func88.trans (congrArg some (by kernel_rfl))⟩
  f49 := ⟨Tryz.f104.name, by decide, Tryz.func104.trans (congrArg some (by kernel_rfl))⟩
  f50 := ⟨Tryz.f105.name, by decide, Tryz.func105.trans (congrArg some (by kernel_rfl))⟩
  f57 := ⟨Tryz.f119.name, by decide, Tryz.func119.trans (congrArg some (by kernel_rfl))⟩
  t0 := Tryz.underlying0
  a0 := Tryz.isAgg0
  z0 := Tryz.sizeOf0
  v0 := Tryz.zeroValue0
  t3 := Tryz.underlying3
  a3 := Tryz.isAgg3
  z3 := Tryz.sizeOf3
  v3 := Tryz.zeroValue3
  t4 := Tryz.underlying4
  a4 := Tryz.isAgg4
  z4 := Tryz.sizeOf4
  v4 := Tryz.zeroValue4
  t22 := Tryz.underlying26
  a22 := Tryz.isAgg26
  z22 := Tryz.sizeOf26
  v22 := Tryz.zeroValue26
  a24 := Tryz.isAgg22
  z24 := Tryz.sizeOf22
  t25 := Tryz.underlying78
  a25 := Tryz.isAgg78
  z25 := Tryz.sizeOf78
  v25 := Tryz.zeroValue78
  t45 := Tryz.underlying109
  a45 := Tryz.isAgg109
  z45 := Tryz.sizeOf109
  v45 := Tryz.zeroValue109
  t70 := Tryz.underlying126
  a70 := Tryz.isAgg126
  z70 := Tryz.sizeOf126
  v70 := Tryz.zeroValue126
  t77 := Tryz.underlying134
  a77 := Tryz.isAgg134
  z77 := Tryz.sizeOf134
  v77 := Tryz.zeroValue134 }
open Go.RowKit Go.Lib Go.Sort in
theorem Tryz.choosePivotCmpFunc_f88 {α : Type} [Inhabited α] (enc : α -> Value) (cf : α -> α -> Int) (g : Nat) (cb : Array Value) (blk off cap a b : Nat) (d0 d : Array α) (w0 W : World) (eg : ∀ args w, (callFunc g args).run Tryz.prog w = .ok (.enter g args) w) (hcmp : CmpLays1 Tryz.prog g cb enc cf blk off d0.size w0) (R : Row1 enc w0 blk off d0) (hs : d0.size = d.size) (S : SW enc w0 blk off d W) (hab : a < b) (hb : b <= d.size) (hsz : d.size < 4611686018427387904) :
    Calls Tryz.prog 88 #[.slice (some ⟨blk, off, none⟩) d.size cap, .int .i64 a, .int .i64 b, .func (.func g) #[] cb] W fun e w' =>
      e = .returned (.tuple #[.int .i64 (choosePivot (ltOf cf) d a b).1, .int .i64 (hintCode (choosePivot (ltOf cf) d a b).2)]) /\ SW enc w0 blk off d w' := Any.choosePivotCmpFunc Tryz.laysSlF23_f88 enc cf g cb blk off cap a b d0 d w0 W eg hcmp R hs S hab hb hsz
def Tryz.laysSlF23_f108_ren : Go.Shelf.Ren := ⟨fun | 23 => 108 | 49 => 121 | 50 => 122 | 57 => 125 | n => n, fun | 24 => 3 | 22 => 22 | 3 => 3 | 25 => 44 | 45 => 109 | 0 => 0 | 4 => 4 | 70 => 126 | 77 => 134 | n => n, fun | n => n⟩
theorem Tryz.laysSlF23_f108 : Go.Proofs.SlLaysF.n23 Tryz.prog Tryz.laysSlF23_f108_ren := {
  mixed := by kernel_rfl
  f23 := ⟨Tryz.f108.name, by decide, Tryz.func108.trans (congrArg some (by kernel_rfl))⟩
  f49 := ⟨Tryz.f121.name, by decide, Tryz.func121.trans (congrArg some (by kernel_rfl))⟩
  f50 := ⟨Tryz.f122.name, by decide, Tryz.func122.trans (congrArg some (by kernel_rfl))⟩
  f57 := ⟨Tryz.f125.name, by decide, Tryz.func125.trans (congrArg some (by kernel_rfl))⟩
  t0 := Tryz.underlying0
  a0 := Tryz.isAgg0
  z0 := Tryz.sizeOf0
  v0 := Tryz.zeroValue0
  t3 := Tryz.underlying3
  a3 := Tryz.isAgg3
  z3 := Tryz.sizeOf3
  v3 := Tryz.zeroValue3
  t4 := Tryz.underlying4
  a4 := Tryz.isAgg4
  z4 := Tryz.sizeOf4
  v4 := Tryz.zeroValue4
  t22 := Tryz.underlying22
  a22 := Tryz.isAgg22
  z22 := Tryz.sizeOf22
  v22 := Tryz.zeroValue22
  a24 := Tryz.isAgg3
  z24 := Tryz.sizeOf3
  t25 := Tryz.underlying44
  a25 := Tryz.isAgg44
  z25 := Tryz.sizeOf44
  v25 := Tryz.zeroValue44
  t45 := Tryz.underlying109
  a45 := Tryz.isAgg109
  z45 := Tryz.sizeOf109
  v45 := Tryz.zeroValue109
  t70 := Tryz.underlying126
  a70 := Tryz.isAgg126
  z70 := Tryz.sizeOf126
  v70 := Tryz.zeroValue126
  t77 := Tryz.underlying134
  a77 := Tryz.isAgg134
  z77 := Tryz.sizeOf134
  v77 := Tryz.zeroValue134 }
open Go.RowKit Go.Lib Go.Sort in
theorem Tryz.choosePivotCmpFunc_f108 {α : Type} [Inhabited α] (enc : α -> Value) (cf : α -> α -> Int) (g : Nat) (cb : Array Value) (blk off cap a b : Nat) (d0 d : Array α) (w0 W : World) (eg : ∀ args w, (callFunc g args).run Tryz.prog w = .ok (.enter g args) w) (hcmp : CmpLays1 Tryz.prog g cb enc cf blk off d0.size w0) (R : Row1 enc w0 blk off d0) (hs : d0.size = d.size) (S : SW enc w0 blk off d W) (hab : a < b) (hb : b <= d.size) (hsz : d.size < 4611686018427387904) :
    Calls Tryz.prog 108 #[.slice (some ⟨blk, off, none⟩) d.size cap, .int .i64 a, .int .i64 b, .func (.func g) #[] cb] W fun e w' =>
      e = .returned (.tuple #[.int .i64 (choosePivot (ltOf cf) d a b).1, .int .i64 (hintCode (choosePivot (ltOf cf) d a b).2)]) /\ SW enc w0 blk off d w' := Any.choosePivotCmpFunc Tryz.laysSlF23_f108 enc cf g cb blk off cap a b d0 d w0 W eg hcmp R hs S hab hb hsz
def Tryz.laysSlF24_f89_ren : Go.Shelf.Ren := ⟨fun | 24 => 89 | n => n, fun | 24 => 22 | 22 => 26 | 3 => 3 | 25 => 78 | 4 => 4 | 0 => 0 | n => n, fun | n => n⟩
theorem Tryz.laysSlF24_f89 : Go.Proofs.SlLaysF.n24 Tryz.prog Tryz.laysSlF24_f89_ren := {
  mixed := by kernel_rfl
  f24 := ⟨Tryz.f89.name, by decide, Tryz.func89.trans (congrArg some (by kernel_rfl))⟩
  t0 := Tryz.underlying0
  a0 := Tryz.isAgg0
  z0 := Tryz.sizeOf0
  v0 := Tryz.zeroValue0
  t3 := Tryz.underlying3
  a3 := Tryz.isAgg3
  z3 := Tryz.sizeOf3
  v3 := Tryz.zeroValue3
  t4 := Tryz.underlying4
  a4 := Tryz.isAgg4
  z4 := Tryz.sizeOf4
  v4 := Tryz.zeroValue4
  t22 := Tryz.underlying26
  a22 := Tryz.isAgg26
  z22 := Tryz.sizeOf26
  v22 := Tryz.zeroValue26
  a24 := Tryz.isAgg22
  z24 := Tryz.sizeOf22
  t25 := Tryz.underlying78
  a25 := Tryz.isAgg78
  z25 := Tryz.sizeOf78
  v25 := Tryz.zeroValue78 }
open Go.RowKit Go.Lib Go.Sort in
theorem Tryz.reverseRangeCmpFunc_f89 {α : Type} [Inhabited α] (enc : α -> Value) (g : Nat) (cb : Array Value) (blk off cap a b : Nat) (d0 d : Array α) (w0 w : World) (R : Row1 enc w0 blk off d0) (hs : d0.size = d.size) (S : SW enc w0 blk off d w) (hab : a <= b) (hb : b <= d.size) (hsz : d.size < 4611686018427387904) :
    Calls Tryz.prog 89 #[.slice (some ⟨blk, off, none⟩) d.size cap, .int .i64 a, .int .i64 b, .func (.func g) #[] cb] w fun e w' => e = .returned (.tuple #[]) /\ SW enc w0 blk off (reverseRange d a b) w' := Any.reverseRangeCmpFunc Tryz.laysSlF24_f89 enc g cb blk off cap a b d0 d w0 w R hs S hab hb hsz
def Tryz.laysSlF24_f109_ren : Go.Shelf.Ren := ⟨fun | 24 => 109 | n => n, fun | 24 => 3 | 22 => 22 | 3 => 3 | 25 => 44 | 4 => 4 | 0 => 0 | n => n, fun | n => n⟩
theorem Tryz.laysSlF24_f109 : Go.Proofs.SlLaysF.n24 Tryz.prog Tryz.laysSlF24_f109_ren := {
  mixed := by kernel_rfl
  f24 := ⟨Tryz.f109.name, by decide, Tryz.func109.trans (congrArg some (by kernel_rfl))⟩
  t0 := Tryz.underlying0
  a0 := Tryz.isAgg0
  z0 := Tryz.sizeOf0
  v0 := Tryz.zeroValue0
  t3 := Tryz.underlying3
  a3 := Tryz.isAgg3
  z3 := Tryz.sizeOf3
  v3 := Tryz.zeroValue3
  t4 := Tryz.underlying4
  a4 := Tryz.isAgg4
  z4 := Tryz.sizeOf4
  v4 := Tryz.zeroValue4
  t22 := Tryz.underlying22
  a22 := Tryz.isAgg22
  z22 := Tryz.sizeOf22
  v22 := Tryz.zeroValue22
  a24 := Tryz.isAgg3
  z24 := Tryz.sizeOf3
  t25 := Tryz.underlying44
  a25 := Tryz.isAgg44
  z25 := Tryz.sizeOf44
  v25 := Tryz.zeroValue44 }
open Go.RowKit Go.Lib Go.Sort in
theorem Tryz.reverseRangeCmpFunc_f109 {α : Type} [Inhabited α] (enc : α -> Value) (g : Nat) (cb : Array Value) (blk off cap a b : Nat) (d0 d : Array α) (w0 w : World) (R : Row1 enc w0 blk off d0) (hs : d0.size = d.size) (S : SW enc w0 blk off d w) (hab : a <= b) (hb : b <= d.size) (hsz : d.size < 4611686018427387904) :
    Calls Tryz.prog 109 #[.slice (some ⟨blk, off, none⟩) d.size cap, .int .i64 a, .int .i64 b, .func (.func g) #[] cb] w fun e w' => e = .returned (.tuple #[]) /\ SW enc w0 blk off (reverseRange d a b) w' := Any.reverseRangeCmpFunc Tryz.laysSlF24_f109 enc g cb blk off cap a b d0 d w0 w R hs S hab hb hsz
def Tryz.laysSlF25_f90_ren : Go.Shelf.Ren := ⟨fun | 25 => 90 | n => n, fun | 24 => 22 | 22 => 26 | 3 => 3 | 25 => 78 | 4 => 4 | 0 => 0 | n => n, fun | n => n⟩
theorem Tryz.laysSlF25_f90 : Go.Proofs.SlLaysF.n25 Tryz.prog Tryz.laysSlF25_f90_ren := {
  mixed := by kernel_rfl
  f25 := ⟨Tryz.f90.name, by decide, Tryz.func90.trans (congrArg some (by kernel_rfl))⟩
  t0 := Tryz.underlying0
  a0 := Tryz.isAgg0
  z0 := Tryz.sizeOf0
  v0 := Tryz.zeroValue0
  t3 := Tryz.underlying3
  a3 := Tryz.isAgg3
  z3 := Tryz.sizeOf3
  v3 := Tryz.zeroValue3
  t4 := Tryz.underlying4
  a4 := Tryz.isAgg4
  z4 := Tryz.sizeOf4
  v4 := Tryz.zeroValue4
  t22 := Tryz.underlying26
  a22 := Tryz.isAgg26
  z22 := Tryz.sizeOf26
  v22 := Tryz.zeroValue26
  a24 := Tryz.isAgg22
  z24 := Tryz.sizeOf22
  t25 := Tryz.underlying78
  a25 := Tryz.isAgg78
  z25 := Tryz.sizeOf78
  v25 := Tryz.zeroValue78 }
open Go.RowKit Go.Lib Go.Sort in
theorem Tryz.partialInsertionSortCmpFunc_f90 {α : Type} [Inhabited α] (enc : α -> Value) (cf : α -> α -> Int) (g : Nat) (cb : Array Value) (blk off cap a b : Nat) (d0 d : Array α) (w0 w : World) (eg : ∀ args w, (callFunc g args).run Tryz.prog w = .ok (.enter g args) w) (hcmp : CmpLays1 Tryz.prog g cb enc cf blk off d0.size w0) (R : Row1 enc w0 blk off d0) (hs : d0.size = d.size) (S : SW enc w0 blk off d w) (hab : a < b) (hb : b <= d.size) (hsz : d.size < 4611686018427387904) :
    Calls Tryz.prog 90 #[.slice (some ⟨blk, off, none⟩) d.size cap, .int .i64 a, .int .i64 b, .func (.func g) #[] cb] w fun e w' =>
      e = .returned (.bool (Sort.partialInsertionSort (ltOf cf) d a b).2) /\ SW enc w0 blk off (Sort.partialInsertionSort (ltOf cf) d a b).1 w' := Any.partialInsertionSortCmpFunc Tryz.laysSlF25_f90 enc cf g cb blk off cap a b d0 d w0 w eg hcmp R hs S hab hb hsz
def Tryz.laysSlF25_f110_ren : Go.Shelf.Ren := ⟨fun | 25 => 110 | n => n, fun | 24 => 3 | 22 => 22 | 3 => 3 | 25 => 44 | 4 => 4 | 0 => 0 | n => n, fun | n => n⟩
theorem Tryz.laysSlF25_f110 : Go.Proofs.SlLaysF.n25 Tryz.prog Tryz.laysSlF25_f110_ren := {
  mixed := by kernel_rfl
  f25 := ⟨Tryz.f110.name, by decide, Tryz.func110.trans (congrArg some (by kernel_rfl))⟩
  t0 := Tryz.underlying0
  a0 := Tryz.isAgg0
  z0 := Tryz.sizeOf0
  v0 := Tryz.zeroValue0
  t3 := Tryz.underlying3
  a3 := Tryz.isAgg3
  z3 := Tryz.sizeOf3
  v3 := Tryz.zeroValue3
  t4 := Tryz.underlying4
  a4 := Tryz.isAgg4
  z4 := Tryz.sizeOf4
  v4 := Tryz.zeroValue4
  t22 := Tryz.underlying22
  a22 := Tryz.isAgg22
  z22 := Tryz.sizeOf22
  v22 := Tryz.zeroValue22
  a24 := Tryz.isAgg3
  z24 := Tryz.sizeOf3
  t25 := Tryz.underlying44
  a25 := Tryz.isAgg44
  z25 := Tryz.sizeOf44
  v25 := Tryz.zeroValue44 }
open Go.RowKit Go.Lib Go.Sort in
theorem Tryz.partialInsertionSortCmpFunc_f110 {α : Type} [Inhabited α] (enc : α -> Value) (cf : α -> α -> Int) (g : Nat) (cb : Array Value) (blk off cap a b : Nat) (d0 d : Array α) (w0 w : World) (eg : ∀ args w, (callFunc g args).run Tryz.prog w = .ok (.enter g args) w) (hcmp : CmpLays1 Tryz.prog g cb enc cf blk off d0.size w0) (R : Row1 enc w0 blk off d0) (hs : d0.size = d.size) (S : SW enc w0 blk off d w) (hab : a < b) (hb : b <= d.size) (hsz : d.size < 4611686018427387904) :
    Calls Tryz.prog 110 #[.slice (some ⟨blk, off, none⟩) d.size cap, .int .i64 a, .int .i64 b, .func (.func g) #[] cb] w fun e w' =>
      e = .returned (.bool (Sort.partialInsertionSort (ltOf cf) d a b).2) /\ SW enc w0 blk off (Sort.partialInsertionSort (ltOf cf) d a b).1 w' := Any.partialInsertionSortCmpFunc Tryz.laysSlF25_f110 enc cf g cb blk off cap a b d0 d w0 w eg hcmp R hs S hab hb hsz
def Tryz.laysSlF26_f91_ren : Go.Shelf.Ren := ⟨fun | 26 => 91 | n => n, fun | 24 => 22 | 22 => 26 | 3 => 3 | 25 => 78 | 0 => 0 | 4 => 4 | n => n, fun | n => n⟩
theorem Tryz.laysSlF26_f91 : Go.Proofs.SlLaysF.n26 Tryz.prog Tryz.laysSlF26_f91_ren := {
  mixed := by kernel_rfl
  f26 := ⟨Tryz.f91.name, by decide, Tryz.func91.trans (congrArg some (by kernel_rfl))⟩
  t0 := Tryz.underlying0
  a0 := Tryz.isAgg0
  z0 := Tryz.sizeOf0
  v0 := Tryz.zeroValue0
  t3 := Tryz.underlying3
  a3 := Tryz.isAgg3
  z3 := Tryz.sizeOf3
  v3 := Tryz.zeroValue3
  t4 := Tryz.underlying4
  a4 := Tryz.isAgg4
  z4 := Tryz.sizeOf4
  v4 := Tryz.zeroValue4
  t22 := Tryz.underlying26
  a22 := Tryz.isAgg26
  z22 := Tryz.sizeOf26
  v22 := Tryz.zeroValue26
  a24 := Tryz.isAgg22
  z24 := Tryz.sizeOf22
  t25 := Tryz.underlying78
  a25 := Tryz.isAgg78
  z25 := Tryz.sizeOf78
  v25 := Tryz.zeroValue78 }
open Go.RowKit Go.Lib Go.Sort in
theorem Tryz.partitionEqualCmpFunc_f91 {α : Type} [Inhabited α] (enc : α -> Value) (cf : α -> α -> Int) (g : Nat) (cb : Array Value) (blk off cap a b pivot : Nat) (d0 d : Array α) (w0 w : World) (eg : ∀ args w, (callFunc g args).run Tryz.prog w = .ok (.enter g args) w) (hcmp : CmpLays1 Tryz.prog g cb enc cf blk off d0.size w0) (R : Row1 enc w0 blk off d0) (hs : d0.size = d.size) (S : SW enc w0 blk off d w) (hap : a <= pivot) (hpb : pivot < b) (hb : b <= d.size) (hsz : d.size < 4611686018427387904) :
    Calls Tryz.prog 91 #[.slice (some ⟨blk, off, none⟩) d.size cap, .int .i64 a, .int .i64 b, .int .i64 pivot, .func (.func g) #[] cb] w fun e w' =>
      e = .returned (.int .i64 (Sort.partitionEqual (ltOf cf) d a b pivot).1) /\ SW enc w0 blk off (Sort.partitionEqual (ltOf cf) d a b pivot).2 w' := Any.partitionEqualCmpFunc Tryz.laysSlF26_f91 enc cf g cb blk off cap a b pivot d0 d w0 w eg hcmp R hs S hap hpb hb hsz
def Tryz.laysSlF26_f111_ren : Go.Shelf.Ren := ⟨fun | 26 => 111 | n => n, fun | 24 => 3 | 22 => 22 | 3 => 3 | 25 => 44 | 0 => 0 | 4 => 4 | n => n, fun | n => n⟩
theorem Tryz.laysSlF26_f111 : Go.Proofs.SlLaysF.n26 Tryz.prog Tryz.laysSlF26_f111_ren := {
  mixed := by kernel_rfl
  f26 := ⟨Tryz.f111.name, by decide, Tryz.func111.trans (congrArg some (by kernel_rfl))⟩
  t0 := Tryz.underlying0
  a0 := Tryz.isAgg0
  z0 := Tryz.sizeOf0
  v0 := Tryz.zeroValue0
  t3 := Tryz.underlying3
  a3 := Tryz.isAgg3
  z3 := Tryz.sizeOf3
  v3 := Tryz.zeroValue3
  t4 := Tryz.underlying4
  a4 := Tryz.isAgg4
  z4 := Tryz.sizeOf4
  v4 := Tryz.zeroValue4
  t22 := Tryz.underlying22
  a22 := Tryz.isAgg22
  z22 := Tryz.sizeOf22
  v22 := Tryz.zeroValue22
  a24 := Tryz.isAgg3
  z24 := Tryz.sizeOf3
  t25 := Tryz.underlying44
  a25 := Tryz.isAgg44
  z25 := Tryz.sizeOf44
  v25 := Tryz.zeroValue44 }
open Go.RowKit Go.Lib Go.Sort in
theorem Tryz.partitionEqualCmpFunc_f111 {α : Type} [Inhabited α] (enc : α -> Value) (cf : α -> α -> Int) (g : Nat) (cb : Array Value) (blk off cap a b pivot : Nat) (d0 d : Array α) (w0 w : World) (eg : ∀ args w, (callFunc g args).run Tryz.prog w = .ok (.enter g args) w) (hcmp : CmpLays1 Tryz.prog g cb enc cf blk off d0.size w0) (R : Row1 enc w0 blk off d0) (hs : d0.size = d.size) (S : SW enc w0 blk off d w) (hap : a <= pivot) (hpb : pivot < b) (hb : b <= d.size) (hsz : d.size < 4611686018427387904) :
    Calls Tryz.prog 111 #[.slice (some ⟨blk, off, none⟩) d.size cap, .int .i64 a, .int .i64 b, .int .i64 pivot, .func (.func g) #[] cb] w fun e w' =>
      e = .returned (.int .i64 (Sort.partitionEqual (ltOf cf) d a b pivot).1) /\ SW enc w0 blk off (Sort.partitionEqual (ltOf cf) d a b pivot).2 w' := Any.partitionEqualCmpFunc Tryz.laysSlF26_f111 enc cf g cb blk off cap a b pivot d0 d w0 w eg hcmp R hs S hap hpb hb hsz
def Tryz.laysSlF27_f92_ren : Go.Shelf.Ren := ⟨fun | 27 => 92 | n => n, fun | 24 => 22 | 22 => 26 | 3 => 3 | 25 => 78 | 4 => 4 | 0 => 0 | n => n, fun | n => n⟩
theorem Tryz.laysSlF27_f92 : Go.Proofs.SlLaysF.n27 Tryz.prog Tryz.laysSlF27_f92_ren := {
  mixed := by kernel_rfl
  f27 := ⟨Tryz.f92.name, by decide, Tryz.func92.trans (congrArg some (by kernel_rfl))⟩
  t0 := Tryz.underlying0
  a0 := Tryz.isAgg0
  z0 := Tryz.sizeOf0
  v0 := Tryz.zeroValue0
  t3 := Tryz.underlying3
  a3 := Tryz.isAgg3
  z3 := Tryz.sizeOf3
  v3 := Tryz.zeroValue3
  t4 := Tryz.underlying4
  a4 := Tryz.isAgg4
  z4 := Tryz.sizeOf4
  v4 := Tryz.zeroValue4
  t22 := Tryz.underlying26
  a22 := Tryz.isAgg26
  z22 := Tryz.sizeOf26
  v22 := Tryz.zeroValue26
  a24 := Tryz.isAgg22
  z24 := Tryz.sizeOf22
  t25 := Tryz.underlying78
  a25 := Tryz.isAgg78
  z25 := Tryz.sizeOf78
  v25 := Tryz.zeroValue78 }
open Go.RowKit Go.Lib Go.Sort in
theorem Tryz.partitionCmpFunc_f92 {α : Type} [Inhabited α] (enc : α -> Value) (cf : α -> α -> Int) (g : Nat) (cb : Array Value) (blk off cap a b pivot : Nat) (d0 d : Array α) (w0 w : World) (eg : ∀ args w, (callFunc g args).run Tryz.prog w = .ok (.enter g args) w) (hcmp : CmpLays1 Tryz.prog g cb enc cf blk off d0.size w0) (R : Row1 enc w0 blk off d0) (hs : d0.size = d.size) (S : SW enc w0 blk off d w) (hap : a <= pivot) (hpb : pivot < b) (hb : b <= d.size) (hsz : d.size < 4611686018427387904) :
    Calls Tryz.prog 92 #[.slice (some ⟨blk, off, none⟩) d.size cap, .int .i64 a, .int .i64 b, .int .i64 pivot, .func (.func g) #[] cb] w fun e w' =>
      e = .returned (.tuple #[.int .i64 (Sort.partition (ltOf cf) d a b pivot).1, .bool (Sort.partition (ltOf cf) d a b pivot).2.1]) /\ SW enc w0 blk off (Sort.partition (ltOf cf) d a b pivot).2.2 w' := Any.partitionCmpFunc Tryz.laysSlF27_f92 enc cf g cb blk off cap a b pivot d0 d w0 w eg hcmp R hs S hap hpb hb hsz
def Tryz.laysSlF27_f112_ren : Go.Shelf.Ren := ⟨fun | 27 => 112 | n => n, fun | 24 => 3 | 22 => 22 | 3 => 3 | 25 => 44 | 4 => 4 | 0 => 0 | n => n, fun | n => n⟩
theorem Tryz.laysSlF27_f112 : Go.Proofs.SlLaysF.n27 Tryz.prog Tryz.laysSlF27_f112_ren := {
  mixed := by kernel_rfl
  f27 := ⟨Tryz.f112.name, by decide, Tryz.func112.trans (congrArg some (by kernel_rfl))⟩
  t0 := Tryz.underlying0
  a0 := Tryz.isAgg0
  z0 := Tryz.sizeOf0
  v0 := Tryz.zeroValue0
  t3 := Tryz.underlying3
  a3 := Tryz.isAgg3
  z3 := Tryz.sizeOf3
  v3 := Tryz.zeroValue3
  t4 := Tryz.underlying4
  a4 := Tryz.isAgg4
  z4 := Tryz.sizeOf4
  v4 := Tryz.zeroValue4
  t22 := Tryz.underlying22
  a22 := Tryz.isAgg22
  z22 := Tryz.sizeOf22
  v22 := Tryz.zeroValue22
  a24 := Tryz.isAgg3
  z24 := Tryz.sizeOf3
  t25 := Tryz.underlying44
  a25 := Tryz.isAgg44
  z25 := Tryz.sizeOf44
  v25 := Tryz.zeroValue44 }
open Go.RowKit Go.Lib Go.Sort in
theorem Tryz.partitionCmpFunc_f112 {α : Type} [Inhabited α] (enc : α -> Value) (cf : α -> α -> Int) (g : Nat) (cb : Array Value) (blk off cap a b pivot : Nat) (d0 d : Array α) (w0 w : World) (eg : ∀ args w, (callFunc g args).run Tryz.prog w = .ok (.enter g args) w) (hcmp : CmpLays1 Tryz.prog g cb enc cf blk off d0.size w0) (R : Row1 enc w0 blk off d0) (hs : d0.size = d.size) (S : SW enc w0 blk off d w) (hap : a <= pivot) (hpb : pivot < b) (hb : b <= d.size) (hsz : d.size < 4611686018427387904) :
    Calls Tryz.prog 112 #[.slice (some ⟨blk, off, none⟩) d.size cap, .int .i64 a, .int .i64 b, .int .i64 pivot, .func (.func g) #[] cb] w fun e w' =>
      e = .returned (.tuple #[.int .i64 (Sort.partition (ltOf cf) d a b pivot).1, .bool (Sort.partition (ltOf cf) d a b pivot).2.1]) /\ SW enc w0 blk off (Sort.partition (ltOf cf) d a b pivot).2.2 w' := Any.partitionCmpFunc Tryz.laysSlF27_f112 enc cf g cb blk off cap a b pivot d0 d w0 w eg hcmp R hs S hap hpb hb hsz
def Tryz.laysSlF14_f68_ren : Go.Shelf.Ren := ⟨fun | 14 => 68 | 20 => 85 | 21 => 86 | 22 => 87 | 23 => 88 | 24 => 89 | 25 => 90 | 26 => 91 | 27 => 92 | 46 => 101 | 47 => 102 | 48 => 103 | 49 => 104 | 50 => 105 | 15 => 69 | 57 => 119 | 28 => 93 | 29 => 94 | n => n, fun | 24 => 22 | 22 => 26 | 3 => 3 | 25 => 78 | 4 => 4 | 0 => 0 | 46 => 110 | 45 => 109 | 50 => 114 | 66 => 122 | 39 => 98 | 55 => 119 | 70 => 126 | 76 => 133 | 77 => 134 | 53 => 117 | 5 => 5 | 9 => 9 | n => n, fun | n => n⟩
theorem Tryz.laysSlF14_f68 : Go.Proofs.SlLaysF.n14 Tryz.prog Tryz.laysSlF14_f68_ren := {
  mixed := by kernel_rfl
  f14 := ⟨Tryz.f68.name, by decide, Tryz.func68.trans (congrArg some (by kernel_rfl))⟩
  f15 := Tryz.func69.trans (congrArg some (by kernel_rfl))
  f20 := ⟨Tryz.f85.name, by decide, Tryz.func85.trans (congrArg some (by kernel_rfl))⟩
  f21 := ⟨Tryz.f86.name, by decide, Tryz.func86.trans (congrArg some (by kernel_rfl))⟩
  f22 := ⟨Tryz.f87.name, by decide, Tryz.func87.trans (congrArg some (by kernel_rfl))⟩
  f23 := ⟨Tryz.f88.name, by decide, Tryz.func88.trans (congrArg some (by kernel_rfl))⟩
  f24 := ⟨Tryz.f89.name, by decide, Tryz.func89.trans (congrArg some (by kernel_rfl))⟩
  f25 := ⟨Tryz.f90.name, by decide, Tryz.func90.trans (congrArg some (by kernel_rfl))⟩
  f26 := ⟨Tryz.f91.name, by decide, Tryz.func91.trans (congrArg some (by kernel_rfl))⟩
  f27 := ⟨Tryz.f92.name, by decide, Tryz.func92.trans (congrArg some (by kernel_rfl))⟩
  f28 := Tryz.func93.trans (congrArg some (by kernel_rfl))
  f29 := Tryz.func94.trans (congrArg some (by kernel_rfl))
  f46 := ⟨Tryz.f101.name, by decide, Tryz.func101.trans (congrArg some (by kernel_rfl))⟩
  f47 := Tryz.func102.trans (congrArg some (by kernel_rfl))
  f48 := Tryz.func103.trans (congrArg some (by kernel_rfl))
  f49 := ⟨Tryz.f104.name, by decide, Tryz.func104.trans (congrArg some (by kernel_rfl))⟩
  f50 := ⟨Tryz.f105.name, by decide, Tryz.func105.trans (congrArg some (by kernel_rfl))⟩
  f57 := ⟨Tryz.f119.name, by decide, Tryz.func119.trans (congrArg some (by kernel_rfl))⟩
  t0 := Tryz.underlying0
  a0 := Tryz.isAgg0
  z0 := Tryz.sizeOf0
  v0 := Tryz.zeroValue0
  t3 := Tryz.underlying3
  a3 := Tryz.isAgg3
  z3 := Tryz.sizeOf3
  v3 := Tryz.zeroValue3
  t4 := Tryz.underlying4
  a4 := Tryz.isAgg4
  z4 := Tryz.sizeOf4
  v4 := Tryz.zeroValue4
  t5 := Tryz.underlying5
  a5 := Tryz.isAgg5
  z5 := Tryz.sizeOf5
  v5 := Tryz.zeroValue5
  t9 := Tryz.underlying9
  a9 := Tryz.isAgg9
  z9 := Tryz.sizeOf9
  v9 := Tryz.zeroValue9
  t22 := Tryz.underlying26
  a22 := Tryz.isAgg26
  z22 := Tryz.sizeOf26
  v22 := Tryz.zeroValue26
  a24 := Tryz.isAgg22
  z24 := Tryz.sizeOf22
  t25 := Tryz.underlying78
  a25 := Tryz.isAgg78
  z25 := Tryz.sizeOf78
  v25 := Tryz.zeroValue78
  t39 := Tryz.underlying98
  a39 := Tryz.isAgg98
  z39 := Tryz.sizeOf98
  v39 := Tryz.zeroValue98
  t45 := Tryz.underlying109
  a45 := Tryz.isAgg109
  z45 := Tryz.sizeOf109
  v45 := Tryz.zeroValue109
  t46 := Tryz.underlying110
  a46 := Tryz.isAgg110
  z46 := Tryz.sizeOf110
  v46 := Tryz.zeroValue110
  t50 := Tryz.underlying114
  a50 := Tryz.isAgg114
  z50 := Tryz.sizeOf114
  v50 := Tryz.zeroValue114
  t53 := Tryz.underlying117
  a53 := Tryz.isAgg117
  z53 := Tryz.sizeOf117
  v53 := Tryz.zeroValue117
  t55 := Tryz.underlying119
  a55 := Tryz.isAgg119
  z55 := Tryz.sizeOf119
  v55 := Tryz.zeroValue119
  t66 := Tryz.underlying122
  a66 := Tryz.isAgg122
  z66 := Tryz.sizeOf122
  v66 := Tryz.zeroValue122
  t70 := Tryz.underlying126
  a70 := Tryz.isAgg126
  z70 := Tryz.sizeOf126
  v70 := Tryz.zeroValue126
  t76 := Tryz.underlying133
  a76 := Tryz.isAgg133
  z76 := Tryz.sizeOf133
  v76 := Tryz.zeroValue133
  t77 := Tryz.underlying134
  a77 := Tryz.isAgg134
  z77 := Tryz.sizeOf134
  v77 := Tryz.zeroValue134 }
open Go.RowKit Go.Lib Go.Sort in
theorem Tryz.pdqsortCmpFunc_all_f68 {α : Type} [Inhabited α] (enc : α -> Value) (cf : α -> α -> Int) (g : Nat) (cb : Array Value) (hO : SWO (ltOf cf)) (blk off cap : Nat) (d0 : Array α) (w0 : World) (eg : ∀ args w, (callFunc g args).run Tryz.prog w = .ok (.enter g args) w) (hcmp : CmpLays1 Tryz.prog g cb enc cf blk off d0.size w0) (R : Row1 enc w0 blk off d0) :
    ∀ (N a b limit : Nat) (d : Array α) (w : World), b - a < N -> d0.size = d.size -> SW enc w0 blk off d w -> a <= b -> b <= d.size -> d.size < 4611686018427387904 -> limit < 4611686018427387904 -> Below (ltOf cf) a b d ->
    Calls Tryz.prog 68 #[.slice (some ⟨blk, off, none⟩) d.size cap, .int .i64 a, .int .i64 b, .int .i64 limit, .func (.func g) #[] cb] w fun e w' => e = .returned (.tuple #[]) /\ SW enc w0 blk off (pdq (ltOf cf) d a b limit true true) w' := Any.pdqsortCmpFunc_all Tryz.laysSlF14_f68 enc cf g cb hO blk off cap d0 w0 eg hcmp R
def Tryz.laysSlF14_f96_ren : Go.Shelf.Ren := ⟨fun | 14 => 96 | 20 => 98 | 21 => 106 | 22 => 107 | 23 => 108 | 24 => 109 | 25 => 110 | 26 => 111 | 27 => 112 | 46 => 120 | 47 => 102 | 48 => 103 | 49 => 121 | 50 => 122 | 15 => 69 | 57 => 125 | 28 => 93 | 29 => 94 | n => n, fun | 24 => 3 | 22 => 22 | 3 => 3 | 25 => 44 | 4 => 4 | 0 => 0 | 46 => 110 | 45 => 109 | 50 => 114 | 66 => 122 | 39 => 98 | 55 => 119 | 70 => 126 | 76 => 133 | 77 => 134 | 53 => 117 | 5 => 5 | 9 => 9 | n => n, fun | n => n⟩
theorem Tryz.laysSlF14_f96 : Go.Proofs.SlLaysF.n14 Tryz.prog Tryz.laysSlF14_f96_ren := {
  mixed := by kernel_rfl
  f14 := ⟨Tryz.f96.name, by decide, Tryz.func96.trans (congrArg some (by kernel_rfl))⟩
  f15 := Tryz.func69.trans (congrArg some (by kernel_rfl))
  f20 := ⟨Tryz.f98.name, by decide, Tryz.func98.trans (congrArg some (by kernel_rfl))⟩
  f21 := ⟨Tryz.f106.name, by decide, Tryz.func106.trans (congrArg some (by kernel_rfl))⟩
  f22 := ⟨Tryz.f107.name, by decide, Tryz.func107.trans (congrArg some (by kernel_rfl))⟩
  f23 := ⟨Tryz.f108.name, by decide, Tryz.func108.trans (congrArg some (by kernel_rfl))⟩
  f24 := ⟨Tryz.f109.name, by decide, Tryz.func109.trans (congrArg some (by kernel_rfl))⟩
  f25 := ⟨Tryz.f110.name, by decide, Tryz.func110.trans (congrArg some (by kernel_rfl))⟩
  f26 := ⟨Tryz.f111.name, by decide, Tryz.func111.trans (congrArg some (by kernel_rfl))⟩
  f27 := ⟨Tryz.f112.name, by decide, Tryz.func112.trans (congrArg some (by kernel_rfl))⟩
  f28 := Tryz.func93.trans (congrArg some (by kernel_rfl))
  f29 := Tryz.func94.trans (congrArg some (by kernel_rfl))
  f46 := ⟨Tryz.f120.name, by decide, Tryz.func120.trans (congrArg some (by kernel_rfl))⟩
  f47 := Tryz.func102.trans (congrArg some (by kernel_rfl))
  f48 := Tryz.func103.trans (congrArg some (by kernel_rfl))
  f49 := ⟨Tryz.f121.name, by decide, Tryz.func121.trans (congrArg some (by kernel_rfl))⟩
  f50 := ⟨Tryz.f122.name, by decide, Tryz.func122.trans (congrArg some (by kernel_rfl))⟩
  f57 := ⟨Tryz.f125.name, by decide, Tryz.func125.trans (congrArg some (by kernel_rfl))⟩
  t0 := Tryz.underlying0
  a0 := Tryz.isAgg0
  z0 := Tryz.sizeOf0
  v0 := Tryz.zeroValue0
  t3 := Tryz.underlying3
  a3 := Tryz.isAgg3
  z3 := Tryz.sizeOf3
  v3 := Tryz.zeroValue3
  t4 := Tryz.underlying4
  a4 := Tryz.isAgg4
  z4 := Tryz.sizeOf4
  v4 := Tryz.zeroValue4
  t5 := Tryz.underlying5
  a5 := Tryz.isAgg5
  z5 := Tryz.sizeOf5
  v5 := Tryz.zeroValue5
  t9 := Tryz.underlying9
  a9 := Tryz.isAgg9
  z9 := Tryz.sizeOf9
  v9 := Tryz.zeroValue9
  t22 := Tryz.underlying22
  a22 := Tryz.isAgg22
  z22 := Tryz.sizeOf22
  v22 := Tryz.zeroValue22
  a24 := Tryz.isAgg3
  z24 := Tryz.sizeOf3
  t25 := Tryz.underlying44
  a25 := Tryz.isAgg44
  z25 := Tryz.sizeOf44
  v25 := Tryz.zeroValue44
  t39 := Tryz.underlying98
  a39 := Tryz.isAgg98
  z39 := Tryz.sizeOf98
  v39 := Tryz.zeroValue98
  t45 := Tryz.underlying109
  a45 := Tryz.isAgg109
  z45 := Tryz.sizeOf109
  v45 := Tryz.zeroValue109
  t46 := Tryz.underlying110
  a46 := Tryz.isAgg110
  z46 := Tryz.sizeOf110
  v46 := Tryz.zeroValue110
  t50 := Tryz.underlying114
  a50 := Tryz.isAgg114
  z50 := Tryz.sizeOf114
  v50 := Tryz.zeroValue114
  t53 := Tryz.underlying117
  a53 := Tryz.isAgg117
  z53 := Tryz.sizeOf117
  v53 := Tryz.zeroValue117
  t55 := Tryz.underlying119
  a55 := Tryz.isAgg119
  z55 := Tryz.sizeOf119
  v55 := Tryz.zeroValue119
  t66 := Tryz.underlying122
  a66 := Tryz.isAgg122
  z66 := Tryz.sizeOf122
  v66 := Tryz.zeroValue122
  t70 := Tryz.underlying126
  a70 := Tryz.isAgg126
  z70 := Tryz.sizeOf126
  v70 := Tryz.zeroValue126
  t76 := Tryz.underlying133
  a76 := Tryz.isAgg133
  z76 := Tryz.sizeOf133
  v76 := Tryz.zeroValue133
  t77 := Tryz.underlying134
  a77 := Tryz.isAgg134
  z77 := Tryz.sizeOf134
  v77 := Tryz.zeroValue134 }
open Go.RowKit Go.Lib Go.Sort in
theorem Tryz.pdqsortCmpFunc_all_f96 {α : Type} [Inhabited α] (enc : α -> Value) (cf : α -> α -> Int) (g : Nat) (cb : Array Value) (hO : SWO (ltOf cf)) (blk off cap : Nat) (d0 : Array α) (w0 : World) (eg : ∀ args w, (callFunc g args).run Tryz.prog w = .ok (.enter g args) w) (hcmp : CmpLays1 Tryz.prog g cb enc cf blk off d0.size w0) (R : Row1 enc w0 blk off d0) :
    ∀ (N a b limit : Nat) (d : Array α) (w : World), b - a < N -> d0.size = d.size -> SW enc w0 blk off d w -> a <= b -> b <= d.size -> d.size < 4611686018427387904 -> limit < 4611686018427387904 -> Below (ltOf cf) a b d ->
    Calls Tryz.prog 96 #[.slice (some ⟨blk, off, none⟩) d.size cap, .int .i64 a, .int .i64 b, .int .i64 limit, .func (.func g) #[] cb] w fun e w' => e = .returned (.tuple #[]) /\ SW enc w0 blk off (pdq (ltOf cf) d a b limit true true) w' := Any.pdqsortCmpFunc_all Tryz.laysSlF14_f96 enc cf g cb hO blk off cap d0 w0 eg hcmp R
def Tryz.laysSlF6_f41_ren : Go.Shelf.Ren := ⟨fun | 6 => 41 | 15 => 69 | 14 => 68 | 28 => 93 | 29 => 94 | 20 => 85 | 21 => 86 | 22 => 87 | 23 => 88 | 24 => 89 | 25 => 90 | 26 => 91 | 27 => 92 | 46 => 101 | 47 => 102 | 48 => 103 | 49 => 104 | 50 => 105 | 57 => 119 | n => n, fun | 22 => 26 | 24 => 22 | 25 => 78 | 3 => 3 | 39 => 98 | 0 => 0 | 53 => 117 | 55 => 119 | 4 => 4 | 46 => 110 | 45 => 109 | 50 => 114 | 5 => 5 | 9 => 9 | 66 => 122 | 70 => 126 | 76 => 133 | 77 => 134 | n => n, fun | n => n⟩
theorem Tryz.laysSlF6_f41 : Go.Proofs.SlLaysF.n6 Tryz.prog Tryz.laysSlF6_f41_ren := {
  mixed := by kernel_rfl
  f6 := ⟨Tryz.f41.name, by decide, Tryz.func41.trans (congrArg some (by kernel_rfl))⟩
  f14 := ⟨Tryz.f68.name, by decide, Tryz.func68.trans (congrArg some (by kernel_rfl))⟩
  f15 := Tryz.func69.trans (congrArg some (by kernel_rfl))
  f20 := ⟨Tryz.f85.name, by decide, Tryz.func85.trans (congrArg some (by kernel_rfl))⟩
  f21 := ⟨Tryz.f86.name, by decide, Tryz.func86.trans (congrArg some (by kernel_rfl))⟩
  f22 := ⟨Tryz.f87.name, by decide, Tryz.func87.trans (congrArg some (by kernel_rfl))⟩
  f23 := ⟨Tryz.f88.name, by decide, Tryz.func88.trans (congrArg some (by kernel_rfl))⟩
  f24 := ⟨Tryz.f89.name, by decide, Tryz.func89.trans (congrArg some (by kernel_rfl))⟩
  f25 := ⟨Tryz.f90.name, by decide, Tryz.func90.trans (congrArg some (by kernel_rfl))⟩
  f26 := ⟨Tryz.f91.name, by decide, Tryz.func91.trans (congrArg some (by kernel_rfl))⟩
  f27 := ⟨Tryz.f92.name, by decide, Tryz.func92.trans (congrArg some (by kernel_rfl))⟩
  f28 := Tryz.func93.trans (congrArg some (by kernel_rfl))
  f29 := Tryz.func94.trans (congrArg some (by kernel_rfl))
  f46 := ⟨Tryz.f101.name, by decide, Tryz.func101.trans (congrArg some (by kernel_rfl))⟩
  f47 := Tryz.func102.trans (congrArg some (by kernel_rfl))
  f48 := Tryz.func103.trans (congrArg some (by kernel_rfl))
  f49 := ⟨Tryz.f104.name, by decide, Tryz.func104.trans (congrArg some (by kernel_rfl))⟩
  f50 := ⟨Tryz.f105.name, by decide, Tryz.func105.trans (congrArg some (by kernel_rfl))⟩
  f57 := ⟨Tryz.f119.name, by decide, Tryz.func119.trans (congrArg some (by kernel_rfl))⟩
  t0 := Tryz.underlying0
  a0 := Tryz.isAgg0
  z0 := Tryz.sizeOf0
  v0 := Tryz.zeroValue0
  t3 := Tryz.underlying3
  a3 := Tryz.isAgg3
  z3 := Tryz.sizeOf3
  v3 := Tryz.zeroValue3
  t4 := Tryz.underlying4
  a4 := Tryz.isAgg4
  z4 := Tryz.sizeOf4
  v4 := Tryz.zeroValue4
  t5 := Tryz.underlying5
  a5 := Tryz.isAgg5
  z5 := Tryz.sizeOf5
  v5 := Tryz.zeroValue5
  t9 := Tryz.underlying9
  a9 := Tryz.isAgg9
  z9 := Tryz.sizeOf9
  v9 := Tryz.zeroValue9
  t22 := Tryz.underlying26
  a22 := Tryz.isAgg26
  z22 := Tryz.sizeOf26
  v22 := Tryz.zeroValue26
  a24 := Tryz.isAgg22
  z24 := Tryz.sizeOf22
  t25 := Tryz.underlying78
  a25 := Tryz.isAgg78
  z25 := Tryz.sizeOf78
  v25 := Tryz.zeroValue78
  t39 := Tryz.underlying98
  a39 := Tryz.isAgg98
  z39 := Tryz.sizeOf98
  v39 := Tryz.zeroValue98
  t45 := Tryz.underlying109
  a45 := Tryz.isAgg109
  z45 := Tryz.sizeOf109
  v45 := Tryz.zeroValue109
  t46 := Tryz.underlying110
  a46 := Tryz.isAgg110
  z46 := Tryz.sizeOf110
  v46 := Tryz.zeroValue110
  t50 := Tryz.underlying114
  a50 := Tryz.isAgg114
  z50 := Tryz.sizeOf114
  v50 := Tryz.zeroValue114
  t53 := Tryz.underlying117
  a53 := Tryz.isAgg117
  z53 := Tryz.sizeOf117
  v53 := Tryz.zeroValue117
  t55 := Tryz.underlying119
  a55 := Tryz.isAgg119
  z55 := Tryz.sizeOf119
  v55 := Tryz.zeroValue119
  t66 := Tryz.underlying122
  a66 := Tryz.isAgg122
  z66 := Tryz.sizeOf122
  v66 := Tryz.zeroValue122
  t70 := Tryz.underlying126
  a70 := Tryz.isAgg126
  z70 := Tryz.sizeOf126
  v70 := Tryz.zeroValue126
  t76 := Tryz.underlying133
  a76 := Tryz.isAgg133
  z76 := Tryz.sizeOf133
  v76 := Tryz.zeroValue133
  t77 := Tryz.underlying134
  a77 := Tryz.isAgg134
  z77 := Tryz.sizeOf134
  v77 := Tryz.zeroValue134 }
open Go.RowKit Go.Lib Go.Sort in
theorem Tryz.slices_SortFunc_eq_f41 {α : Type} [Inhabited α] (enc : α -> Value) (h1 : OneCell enc) (cf : α -> α -> Int) (hO : SWO (ltOf cf)) (g : Nat) (cb : Array Value) (blk off cap : Nat) (d : Array α) (w : World) (eg : ∀ args w, (callFunc g args).run Tryz.prog w = .ok (.enter g args) w) (hcmp : CmpLays1 Tryz.prog g cb enc cf blk off d.size w) (hH : Holds enc w blk off d) (hblk : blk < w.heap.size) (hsz : d.size < 4611686018427387904) :
    Calls Tryz.prog 41 #[.slice (some ⟨blk, off, none⟩) d.size cap, .func (.func g) #[] cb] w fun e w' =>
      e = .returned (.tuple #[]) /\ ∃ n os, w' = sortWorld enc w blk off n (pdq (ltOf cf) d 0 d.size (Lib.bitLen d.size) true true) os := Any.slices_SortFunc_eq Tryz.laysSlF6_f41 enc h1 cf hO g cb blk off cap d w eg hcmp hH hblk hsz
def Tryz.laysSlF6_f75_ren : Go.Shelf.Ren := ⟨fun | 6 => 75 | 15 => 69 | 14 => 96 | 28 => 93 | 29 => 94 | 20 => 98 | 21 => 106 | 22 => 107 | 23 => 108 | 24 => 109 | 25 => 110 | 26 => 111 | 27 => 112 | 46 => 120 | 47 => 102 | 48 => 103 | 49 => 121 | 50 => 122 | 57 => 125 | n => n, fun | 22 => 22 | 24 => 3 | 25 => 44 | 3 => 3 | 39 => 98 | 0 => 0 | 53 => 117 | 55 => 119 | 4 => 4 | 46 => 110 | 45 => 109 | 50 => 114 | 5 => 5 | 9 => 9 | 66 => 122 | 70 => 126 | 76 => 133 | 77 => 134 | n => n, fun | n => n⟩
theorem Tryz.laysSlF6_f75 : Go.Proofs.SlLaysF.n6 Tryz.prog Tryz.laysSlF6_f75_ren := {
  mixed := by kernel_rfl
  f6 := ⟨Tryz.f75.name, by decide, Tryz.func75.trans (congrArg some (by kernel_rfl))⟩
  f14 := ⟨Tryz.f96.name, by decide, Tryz.func96.trans (congrArg some (by kernel_rfl))⟩
  f15 := Tryz.func69.trans (congrArg some (by kernel_rfl))
  f20 := ⟨Tryz.f98.name, by decide, Tryz.func98.trans (congrArg some (by kernel_rfl))⟩
  f21 := ⟨Tryz.f106.name, by decide, Tryz.func106.trans (congrArg some (by kernel_rfl))⟩
  f22 := ⟨Tryz.f107.name, by decide, Tryz.func107.trans (congrArg some (by kernel_rfl))⟩
  f23 := ⟨Tryz.f108.name, by decide, Tryz.func108.trans (congrArg some (by kernel_rfl))⟩
  f24 := ⟨Tryz.f109.name, by decide, Tryz.func109.trans (congrArg some (by kernel_rfl))⟩
  f25 := ⟨Tryz.f110.name, by decide, Tryz.func110.trans (congrArg some (by kernel_rfl))⟩
  f26 := ⟨Tryz.f111.name, by decide, Tryz.func111.trans (congrArg some (by kernel_rfl))⟩
  f27 := ⟨Tryz.f112.name, by decide, Tryz.func112.trans (congrArg some (by kernel_rfl))⟩
  f28 := Tryz.func93.trans (congrArg some (by kernel_rfl))
  f29 := Tryz.func94.trans (congrArg some (by kernel_rfl))
  f46 := ⟨Tryz.f120.name, by decide, Tryz.func120.trans (congrArg some (by kernel_rfl))⟩
  f47 := Tryz.func102.trans (congrArg some (by kernel_rfl))
  f48 := Tryz.func103.trans (congrArg some (by kernel_rfl))
  f49 := ⟨Tryz.f121.name, by decide, Tryz.func121.trans (congrArg some (by kernel_rfl))⟩
  f50 := ⟨Tryz.f122.name, by decide, Tryz.func122.trans (congrArg some (by kernel_rfl))⟩
  f57 := ⟨Tryz.f125.name, by decide, Tryz.func125.trans (congrArg some (by kernel_rfl))⟩
  t0 := Tryz.underlying0
  a0 := Tryz.isAgg0
  z0 := Tryz.sizeOf0
  v0 := Tryz.zeroValue0
  t3 := Tryz.underlying3
  a3 := Tryz.isAgg3
  z3 := Tryz.sizeOf3
  v3 := Tryz.zeroValue3
  t4 := Tryz.underlying4
  a4 := Tryz.isAgg4
  z4 := Tryz.sizeOf4
  v4 := Tryz.zeroValue4
  t5 := Tryz.underlying5
  a5 := Tryz.isAgg5
  z5 := Tryz.sizeOf5
  v5 := Tryz.zeroValue5
  t9 := Tryz.underlying9
  a9 := Tryz.isAgg9
  z9 := Tryz.sizeOf9
  v9 := Tryz.zeroValue9
  t22 := Tryz.underlying22
  a22 := Tryz.isAgg22
  z22 := Tryz.sizeOf22
  v22 := Tryz.zeroValue22
  a24 := Tryz.isAgg3
  z24 := Tryz.sizeOf3
  t25 := Tryz.underlying44
  a25 := Tryz.isAgg44
  z25 := Tryz.sizeOf44
  v25 := Tryz.zeroValue44
  t39 := Tryz.underlying98
  a39 := Tryz.isAgg98
  z39 := Tryz.sizeOf98
  v39 := Tryz.zeroValue98
  t45 := Tryz.underlying109
  a45 := Tryz.isAgg109
  z45 := Tryz.sizeOf109
  v45 := Tryz.zeroValue109
  t46 := Tryz.underlying110
  a46 := Tryz.isAgg110
  z46 := Tryz.sizeOf110
  v46 := Tryz.zeroValue110
  t50 := Tryz.underlying114
  a50 := Tryz.isAgg114
  z50 := Tryz.sizeOf114
  v50 := Tryz.zeroValue114
  t53 := Tryz.underlying117
  a53 := Tryz.isAgg117
  z53 := Tryz.sizeOf117
  v53 := Tryz.zeroValue117
  t55 := Tryz.underlying119
  a55 := Tryz.isAgg119
  z55 := Tryz.sizeOf119
  v55 := Tryz.zeroValue119
  t66 := Tryz.underlying122
  a66 := Tryz.isAgg122
  z66 := Tryz.sizeOf122
  v66 := Tryz.zeroValue122
  t70 := Tryz.underlying126
  a70 := Tryz.isAgg126
  z70 := Tryz.sizeOf126
  v70 := Tryz.zeroValue126
  t76 := Tryz.underlying133
  a76 := Tryz.isAgg133
  z76 := Tryz.sizeOf133
  v76 := Tryz.zeroValue133
  t77 := Tryz.underlying134
  a77 := Tryz.isAgg134
  z77 := Tryz.sizeOf134
  v77 := Tryz.zeroValue134 }
open Go.RowKit Go.Lib Go.Sort in
theorem Tryz.slices_SortFunc_eq_f75 {α : Type} [Inhabited α] (enc : α -> Value) (h1 : OneCell enc) (cf : α -> α -> Int) (hO : SWO (ltOf cf)) (g : Nat) (cb : Array Value) (blk off cap : Nat) (d : Array α) (w : World) (eg : ∀ args w, (callFunc g args).run Tryz.prog w = .ok (.enter g args) w) (hcmp : CmpLays1 Tryz.prog g cb enc cf blk off d.size w) (hH : Holds enc w blk off d) (hblk : blk < w.heap.size) (hsz : d.size < 4611686018427387904) :
    Calls Tryz.prog 75 #[.slice (some ⟨blk, off, none⟩) d.size cap, .func (.func g) #[] cb] w fun e w' =>
      e = .returned (.tuple #[]) /\ ∃ n os, w' = sortWorld enc w blk off n (pdq (ltOf cf) d 0 d.size (Lib.bitLen d.size) true true) os := Any.slices_SortFunc_eq Tryz.laysSlF6_f75 enc h1 cf hO g cb blk off cap d w eg hcmp hH hblk hsz
open Go.RowKit Go.Lib Go.Sort in
theorem Tryz.slices_SortFunc_f41 {α : Type} [Inhabited α] (enc : α -> Value) (h1 : OneCell enc) (cf : α -> α -> Int) (hO : SWO (ltOf cf)) (g : Nat) (cb : Array Value) (blk off cap : Nat) (d : Array α) (w : World) (eg : ∀ args w, (callFunc g args).run Tryz.prog w = .ok (.enter g args) w) (hcmp : CmpLays1 Tryz.prog g cb enc cf blk off d.size w) (hH : Holds enc w blk off d) (hblk : blk < w.heap.size) (hsz : d.size < 4611686018427387904) :
    Calls Tryz.prog 41 #[.slice (some ⟨blk, off, none⟩) d.size cap, .func (.func g) #[] cb] w fun e w' =>
      e = .returned (.tuple #[]) /\ ∃ d' n os, PermIn 0 d.size d d' /\ SortedIn (ltOf cf) 0 d.size d' /\ w' = sortWorld enc w blk off n d' os := Any.slices_SortFunc Tryz.laysSlF6_f41 enc h1 cf hO g cb blk off cap d w eg hcmp hH hblk hsz
open Go.RowKit Go.Lib Go.Sort in
theorem Tryz.slices_SortFunc_f75 {α : Type} [Inhabited α] (enc : α -> Value) (h1 : OneCell enc) (cf : α -> α -> Int) (hO : SWO (ltOf cf)) (g : Nat) (cb : Array Value) (blk off cap : Nat) (d : Array α) (w : World) (eg : ∀ args w, (callFunc g args).run Tryz.prog w = .ok (.enter g args) w) (hcmp : CmpLays1 Tryz.prog g cb enc cf blk off d.size w) (hH : Holds enc w blk off d) (hblk : blk < w.heap.size) (hsz : d.size < 4611686018427387904) :
    Calls Tryz.prog 75 #[.slice (some ⟨blk, off, none⟩) d.size cap, .func (.func g) #[] cb] w fun e w' =>
      e = .returned (.tuple #[]) /\ ∃ d' n os, PermIn 0 d.size d d' /\ SortedIn (ltOf cf) 0 d.size d' /\ w' = sortWorld enc w blk off n d' os := Any.slices_SortFunc Tryz.laysSlF6_f75 enc h1 cf hO g cb blk off cap d w eg hcmp hH hblk hsz
end Go.Proofs
end
namespace Go.Proofs.YtodliknibbafeaaGreat
section
set_option maxHeartbeats 400000
open Go.RowKit
theorem zcj {a b : Int} (h : a = b) : Ending.returned (.int .i64 a) = .returned (.int .i64 b) := by rw [h]
theorem IntsAt.get {w : World} {v : Value} {xs : List Int} (h : IntsAt w v xs) : ∃ ga cap, v = .slice ga xs.length cap /\ xs.length <= 9223372036854775807 /\ Cells w ga xs.length (fun j => .int .i64 (xs.getD j 0)) := by
  obtain ⟨ga, cap, e, h1, h2, h3⟩ := h
  exact ⟨ga, cap, e, by unfold maxLen at h2; omega, h3⟩
theorem zel (v u : Value) (xs ys : List Int) (w : World) (h1 : IntsAt w v xs) (h2 : IntsAt w u ys) :
    Calls Tryz.prog 42 #[v, u] w fun e w' => e = .returned (.int .i64 (z7B xs ys)) /\ w = w' := by
  obtain ⟨ga, ca, rfl, n1, c1⟩ := h1.get
  obtain ⟨gb, cb, rfl, n2, c2⟩ := h2.get
  have C1 := Lib.hid c1
  have C2 := Lib.hid c2
  clear c1 c2 h1 h2
  go_enter Tryz.func42, Tryz.ntmps42
  go_wp2
  go_loop [11] (fun vi => ∃ k : Nat, k <= xs.length /\ k <= ys.length /\ vi = .int .i64 k /\ (∀ i, i < k -> xs.getD i 0 = ys.getD i 0)) (fun vi => xs.length - (intOf vi).toNat)
  case atStart => exact ⟨0, Nat.zero_le _, Nat.zero_le _, rfl, fun i hi => by omega⟩
  case round =>
    obtain ⟨k, hk, hk2, rfl, hall⟩ := hrel
    have HA := Lib.hid hall
    clear hall
    by_cases hl1 : k < xs.length
    · obtain ⟨a, oa, rfl, d1⟩ := C1.out k hl1
      simp only [] at d1
      have z1 : (0 : Int) <= (k : Int) := by omega
      have z2 : (k : Int) < (xs.length : Int) := by omega
      by_cases hl2 : k < ys.length
      · obtain ⟨b, ob, rfl, d2⟩ := C2.out k hl2
        simp only [] at d2
        have z3 : (k : Int) < (ys.length : Int) := by omega
        have HT := Lib.hid (zgS xs ys k hl1 hl2 HA.out)
        generalize hx : xs.getD k 0 = x at *
        generalize hy : ys.getD k 0 = y at *
        have HX := Lib.hid hx
        have HY := Lib.hid hy
        clear hx hy
        by_cases he : x = y
        · subst he
          have hc : Lib.compareInt x x = 0 := by unfold Lib.compareInt; simp
          go_wp2_with (go_at_call 59; refine (Tryz.cmp_Compare_int _ _ _).mono ?_; rintro e w' ⟨rfl, rfl⟩; rw [hc])
          go_round
          case rel => exact ⟨k + 1, by omega, by omega, by go_num, fun i hi => by
            by_cases e : i = k
            · subst e; rw [HX.out, HY.out]
            · exact HA.out i (by omega)⟩
          case measure => simp [intOf]; omega
        · have HE := Lib.hid (HT.out he)
          by_cases hxy : x < y
          · have hc : Lib.compareInt x y = -1 := by unfold Lib.compareInt; simp [hxy]
            have HC := Lib.hid hc
            clear he hc
            go_wp2_with (go_at_call 59; refine (Tryz.cmp_Compare_int _ _ _).mono ?_; rintro e w' ⟨rfl, rfl⟩; rw [HC.out])
            go_ret
            exact ⟨zcj (by rw [HE.out, if_pos hxy]), rfl⟩
          · have hyx : y < x := by omega
            have hc : Lib.compareInt x y = 1 := by unfold Lib.compareInt; simp [hxy, hyx]
            have HC := Lib.hid hc
            clear he hc
            go_wp2_with (go_at_call 59; refine (Tryz.cmp_Compare_int _ _ _).mono ?_; rintro e w' ⟨rfl, rfl⟩; rw [HC.out])
            go_ret
            exact ⟨zcj (by rw [HE.out, if_neg (by omega)]), rfl⟩
      · have HE := Lib.hid (zf1 xs ys (fun i h1 h2 => HA.out i (by omega)))
        have q1 : ¬ xs.length < ys.length := by omega
        have q2 : ys.length < xs.length := by omega
        go_wp2
        go_ret
        exact ⟨zcj (by rw [HE.out, if_neg q1, if_pos q2]), rfl⟩
    · have HE := Lib.hid (zf1 xs ys (fun i h1 h2 => HA.out i (by omega)))
      have q0 : ¬ ys.length < xs.length := by omega
      by_cases q1 : xs.length < ys.length
      · go_wp2
        go_ret
        exact ⟨zcj (by rw [HE.out, if_pos q1]), rfl⟩
      · go_wp2
        go_ret
        exact ⟨zcj (by rw [HE.out, if_neg q1, if_neg q0]), rfl⟩
end
section
def z0o {σ ρ : Type} (b : σ -> Option (σ ⊕ ρ)) : Nat -> σ -> Option ρ
  | 0, _ => none
  | n + 1, s => match b s with
    | none => none
    | some (.inl s') => z0o b n s'
    | some (.inr r) => some r
def z0e {σ ρ : Type} (s : σ) : Option (σ ⊕ ρ) := some (.inl s)
def z0k {σ ρ : Type} (x : Option ρ) : Option (σ ⊕ ρ) := x.map .inr
def chk {α : Type} (p : Prop) [Decidable p] (x : Option α) : Option α := if p then x else none
def atI {α : Type} (xs : List α) (i : Int) : Option α := if 0 <= i then xs[i.toNat]? else none
def zf3 (s : ByteArray) (i : Int) : Option Int := if 0 <= i then (s[i.toNat]?).map fun b => (b.toNat : Int) else none
def z5v {α : Type} (xs : List α) (l h : Int) : Option (List α) := if 0 <= l /\ l <= h /\ h <= xs.length then some ((xs.drop l.toNat).take (h.toNat - l.toNat)) else none
def ziK (s : ByteArray) (l h : Int) : Option ByteArray := if 0 <= l /\ l <= h /\ h <= s.size then some (s.extract l.toNat h.toNat) else none
def z1q (bytes n : Nat) : Prop := n * bytes <= 140737488355328 /\ n <= 4611686018427387904
instance (b n : Nat) : Decidable (z1q b n) := by unfold z1q; exact inferInstance
def z1i (bytes l : Int) : Prop := 0 <= l /\ l <= 140737488355328 /\ bytes * l <= 140737488355328
instance (b n : Int) : Decidable (z1i b n) := by unfold z1i; exact inferInstance
def z7G (a b : ByteArray) : Prop := ((a.size : Int) + b.size) <= 9223372036854775807
instance (a b : ByteArray) : Decidable (z7G a b) := by unfold z7G; exact inferInstance
def z1l (l : List Int) : ByteArray := ⟨(l.map fun z => UInt8.ofNat z.toNat).toArray⟩
def zso (s : ByteArray) : List Int := s.data.toList.map fun b => (b.toNat : Int)
def zad {κ ν : Type} [DecidableEq κ] (k : κ) : List (κ × ν) -> Option ν
  | [] => none
  | (a, v) :: r => if a = k then some v else zad k r
def z9R {κ ν : Type} [DecidableEq κ] (k : κ) (v : ν) : List (κ × ν) -> List (κ × ν)
  | [] => [(k, v)]
  | (a, u) :: r => if a = k then (k, v) :: r else (a, u) :: z9R k v r
def z2b (k : IntKind) (a b : Int) : Int := k.wrap (BitVec.ofInt k.bits a &&& BitVec.ofInt k.bits b).toNat
def orI (k : IntKind) (a b : Int) : Int := k.wrap (BitVec.ofInt k.bits a ||| BitVec.ofInt k.bits b).toNat
def zwu (k : IntKind) (a b : Int) : Int := k.wrap (BitVec.ofInt k.bits a ^^^ BitVec.ofInt k.bits b).toNat
def zfa (k : IntKind) (a b : Int) : Int := k.wrap (BitVec.ofInt k.bits a &&& ~~~ BitVec.ofInt k.bits b).toNat
theorem zm9 : ∃ f : IntKind -> Int -> Int -> Int, ∀ k a b, f k a b = k.wrap (a * 2 ^ (min b.toNat k.bits)) := ⟨_, fun _ _ _ => rfl⟩
noncomputable def zhl : IntKind -> Int -> Int -> Int := Classical.choose zm9
theorem zma (k : IntKind) (a b : Int) : zhl k a b = k.wrap (a * 2 ^ (min b.toNat k.bits)) := Classical.choose_spec zm9 k a b
def z0f (k : IntKind) (a b : Int) : Int := a.fdiv (2 ^ (min b.toNat k.bits))
def zsX (k : IntKind) (a b : Int) : Int := k.wrap (a.tdiv b)
def zrL (a b : ByteArray) : Bool := Go.Op.bytesLess a.toList b.toList
theorem z6E {α : Type} {p : Prop} [Decidable p] {x : Option α} {r : α} (h : chk p x = some r) : p /\ x = some r := by
  unfold chk at h; split at h
  · exact ⟨by assumption, h⟩
  · cases h
theorem z1E {α β : Type} {x : Option α} {f : α -> Option β} {r : β} (h : x.bind f = some r) : ∃ v, x = some v /\ f v = some r := by
  cases x with
  | none => cases h
  | some v => exact ⟨v, rfl, h⟩
theorem z3W {σ ρ : Type} {x : Option ρ} {o : σ ⊕ ρ} (h : z0k x = some o) : ∃ r, x = some r /\ o = .inr r := by
  unfold z0k at h
  cases x with
  | none => cases h
  | some v => cases h; exact ⟨v, rfl, rfl⟩
theorem z3t {σ ρ : Type} {s : σ} {o : σ ⊕ ρ} (h : z0e s = some o) : o = .inl s := by cases h; rfl
theorem zbJ {α : Type} {xs : List α} {i : Int} {v : α} (h : atI xs i = some v) : 0 <= i /\ i < xs.length /\ i.toNat + 1 <= xs.length /\ xs[i.toNat]? = some v /\ ∀ hh : i.toNat < xs.length, xs[i.toNat]'hh = v := by
  unfold atI at h
  split at h
  · have := (List.getElem?_eq_some_iff.1 h).1
    exact ⟨by assumption, by omega, this, h, fun _ => (List.getElem?_eq_some_iff.1 h).2⟩
  · cases h
theorem zkW {s : ByteArray} {i v : Int} (h : zf3 s i = some v) : 0 <= i /\ i < s.size /\ ∃ b, s[i.toNat]? = some b /\ v = (b.toNat : Int) /\ ∀ hh : i.toNat < s.size, ((s[i.toNat]'hh).toNat : Int) = v := by
  unfold zf3 at h
  split at h
  · simp only [Option.map_eq_some_iff] at h
    obtain ⟨b, hb, rfl⟩ := h
    have : i.toNat < s.size := by
      rcases Nat.lt_or_ge i.toNat s.size with h' | h'
      · exact h'
      · rw [getElem?_neg s i.toNat (by omega)] at hb; cases hb
    exact ⟨by assumption, by omega, b, hb, rfl, fun hh => by rw [getElem?_pos s i.toNat hh] at hb; cases hb; rfl⟩
  · cases h
theorem z7i {α β : Type} {xs : List α} {i : Int} {f : α -> Option β} {r : β} (h : (atI xs i).bind f = some r) : ∃ v, (0 <= i /\ i < xs.length /\ i.toNat + 1 <= xs.length /\ xs[i.toNat]? = some v /\ ∀ hh : i.toNat < xs.length, xs[i.toNat]'hh = v) /\ f v = some r := by
  obtain ⟨v, h1, h2⟩ := z1E h
  exact ⟨v, zbJ h1, h2⟩
theorem zrh {α β : Type} {xs : List α} {i : Nat} {f : α -> Option β} {r : β} (h : (atI xs (i : Int)).bind f = some r) : ∃ v, (i < xs.length /\ i + 1 <= xs.length /\ xs[i]? = some v /\ ∀ hh : i < xs.length, xs[i]'hh = v) /\ f v = some r := by
  obtain ⟨v, h1, h2⟩ := z1E h
  obtain ⟨a, b, c, d, e⟩ := zbJ h1
  simp only [Int.toNat_natCast] at c d e
  exact ⟨v, ⟨by omega, c, d, e⟩, h2⟩
theorem zgU {α : Type} {b n : Nat} {x : Option α} {r : α} (h : chk (z1q b n) x = some r) : (n * b <= 140737488355328 /\ n <= 4611686018427387904) /\ x = some r := z6E h
theorem zw1 {α : Type} {n : Nat} {x : Option α} {r : α} (h : chk (z1q 1 n) x = some r) : (n <= 140737488355328 /\ n <= 4611686018427387904) /\ x = some r := by
  obtain ⟨⟨a, b⟩, h⟩ := z6E h
  exact ⟨⟨by omega, b⟩, h⟩
theorem ztH {α : Type} {b l : Int} {x : Option α} {r : α} (h : chk (z1i b l) x = some r) : (0 <= l /\ l <= 140737488355328 /\ b * l <= 140737488355328 /\ max l 0 = l) /\ x = some r := by
  obtain ⟨⟨a, b, c⟩, h⟩ := z6E h
  exact ⟨⟨a, b, c, by omega⟩, h⟩
theorem z3T {α : Type} {xs ys : List α} {l h : Int} (e : z5v xs l h = some ys) : 0 <= l /\ l <= h /\ h <= xs.length /\ ys = (xs.drop l.toNat).take (h.toNat - l.toNat) /\ ys.length = h.toNat - l.toNat := by
  unfold z5v at e
  split at e
  · cases e
    refine ⟨by omega, by omega, by omega, rfl, ?_⟩
    simp; omega
  · cases e
theorem zhs {s t : ByteArray} {l h : Int} (e : ziK s l h = some t) : 0 <= l /\ l <= h /\ h <= s.size /\ t = s.extract l.toNat h.toNat := by
  unfold ziK at e
  split at e
  · cases e; exact ⟨by omega, by omega, by omega, rfl⟩
  · cases e
theorem z1z {σ ρ : Type} {b : σ -> Option (σ ⊕ ρ)} (I : σ -> Prop) (m : σ -> Nat) (Post : ρ -> Prop) (step : ∀ s, I s -> (∃ s', b s = some (.inl s') /\ I s' /\ m s' < m s) ∨ (∃ r, b s = some (.inr r) /\ Post r)) :
    ∀ (n : Nat) (s : σ), I s -> m s < n -> ∃ r, z0o b n s = some r /\ Post r
  | 0, s, _, h => by omega
  | n + 1, s, hI, hm => by
    rcases step s hI with ⟨s', e, hI', hm'⟩ | ⟨r, e, hr⟩
    · obtain ⟨r, h1, h2⟩ := z1z I m Post step n s' hI' (by omega)
      exact ⟨r, by simp only [z0o, e]; exact h1, h2⟩
    · exact ⟨r, by simp only [z0o, e], hr⟩
theorem zez {σ ρ : Type} {b : σ -> Option (σ ⊕ ρ)} {r : ρ} (I : σ -> Prop) (m : σ -> Nat) {n : Nat} {s : σ} (hI : I s) (hm : m s < n) (step : ∀ s, I s -> (∃ s', b s = z0e s' /\ I s' /\ m s' < m s) ∨ b s = z0k (some r)) : z0o b n s = some r := by
  obtain ⟨r', h1, h2⟩ := z1z I m (· = r) (fun s hs => (step s hs).imp id fun h => ⟨r, h, rfl⟩) n s hI hm
  rw [h1, h2]
theorem z9n {P : Program} {C : z0l} {cf : Cfg} {LF : Nat} {c : Code} {fr : Fr} {Q : X -> Fr -> Prop} {o : Operand} (ho : cdO c = some o) (hv : rdV (opE fr o) = some (.bool true)) (h : wpC P C cf LF (cdA c) fr Q) : wpC P C cf LF c fr Q :=
  zwc ho fun Q1 Q2 h1 h2 => by rw [hv, zfq]; exact ⟨fun _ => h1.out h, fun e => by cases e⟩
theorem z9o {P : Program} {C : z0l} {cf : Cfg} {LF : Nat} {c : Code} {fr : Fr} {Q : X -> Fr -> Prop} {o : Operand} (ho : cdO c = some o) (hv : rdV (opE fr o) = some (.bool false)) (h : wpC P C cf LF (cdB c) fr Q) : wpC P C cf LF c fr Q :=
  zwc ho fun Q1 Q2 h1 h2 => by rw [hv, zfq]; exact ⟨(fun e => by cases e), fun _ => h2.out h⟩
def z9T {σ ρ : Type} (H : σ -> Fr) (cn : Fr -> Fr) (o : σ ⊕ ρ) (Q : X -> Fr -> Prop) : X -> Fr -> Prop
  | .n, fr => ∃ s', o = .inl s' /\ cn fr = H s'
  | .x i, fr => (∃ r, o = .inr r) /\ Q (.x i) fr
  | .r, fr => (∃ r, o = .inr r) /\ Q .r fr
theorem z4b {σ ρ : Type} {H : σ -> Fr} {cn : Fr -> Fr} {o : σ ⊕ ρ} {Q : X -> Fr -> Prop} {fr : Fr} {s : σ} (ho : o = .inl s) (h : cn fr = H s) : z9T H cn o Q .n fr := ⟨s, ho, h⟩
theorem z5m {σ ρ : Type} {H : σ -> Fr} {cn : Fr -> Fr} {o : σ ⊕ ρ} {Q : X -> Fr -> Prop} {fr : Fr} {i : Nat} {r : ρ} (ho : o = .inr r) (h : Q (.x i) fr) : z9T H cn o Q (.x i) fr := ⟨⟨r, ho⟩, h⟩
theorem zot {σ ρ : Type} {H : σ -> Fr} {cn : Fr -> Fr} {o : σ ⊕ ρ} {Q : X -> Fr -> Prop} {fr : Fr} {r : ρ} (ho : o = .inr r) (h : Q .r fr) : z9T H cn o Q .r fr := ⟨⟨r, ho⟩, h⟩
theorem zdK {σ ρ : Type} {B : Fr -> Option (X × Fr)} {cn : Fr -> Fr} {body : σ -> Option (σ ⊕ ρ)} {H : σ -> Fr} {r : ρ} {Q : X -> Fr -> Prop}
    (round : ∀ s o, body s = some o -> (∀ r', o = .inr r' -> r' = r) -> ∃ x fr', B (H s) = some (x, fr') /\ z9T H cn o Q x fr') :
    ∀ (n : Nat) (s : σ) (fr : Fr), z0o body n s = some r -> cn fr = H s -> ∃ x fr', za9 B cn n fr = some (x, fr') /\ Q x fr'
  | 0, s, fr, h, _ => by cases h
  | n + 1, s, fr, h, h0 => by
    simp only [z0o] at h
    split at h
    · cases h
    · rename_i s' e
      obtain ⟨x, fr', e1, e2⟩ := round s _ e (fun r' h' => by cases h')
      cases x with
      | n =>
        obtain ⟨s2, e3, e4⟩ := e2
        cases e3
        obtain ⟨x2, fr2, e5, e6⟩ := zdK round n s' fr' h e4
        exact ⟨x2, fr2, by simp only [za9, h0, e1]; exact e5, e6⟩
      | x i => obtain ⟨⟨r', e3⟩, _⟩ := e2; cases e3
      | r => obtain ⟨⟨r', e3⟩, _⟩ := e2; cases e3
    · rename_i r0 e
      cases h
      obtain ⟨x, fr', e1, e2⟩ := round s _ e (fun r' h' => by cases h'; rfl)
      cases x with
      | n => obtain ⟨s2, e3, _⟩ := e2; cases e3
      | x i => exact ⟨_, _, by simp only [za9, h0, e1], e2.2⟩
      | r => exact ⟨_, _, by simp only [za9, h0, e1], e2.2⟩
theorem z6J {P : Program} {C : z0l} {cf : Cfg} {LF : Nat} {c : Code} {fr : Fr} {Q : X -> Fr -> Prop} {σ ρ : Type} {lv : List Nat} {body : σ -> Option (σ ⊕ ρ)} {s0 : σ} {r : ρ} (h : z0o body LF s0 = some r) (H : σ -> Fr) (hk : zbd c = 5) (hv : cf.live (z8X (lpC c)) = some lv)
    (h0 : z8Z (some lv) fr = H s0) (round : ∀ s o, body s = some o -> (∀ r', o = .inr r' -> r' = r) -> wpC P C cf LF (lpC c) (H s) (z9T H (z8Z (some lv)) o Q)) : wpC P C cf LF c fr Q := by
  cases c with
  | loop b =>
    obtain ⟨x, fr', e1, e2⟩ := zdK (B := fun fr => z2s P C cf LF b fr) (cn := z8Z (some lv)) (H := H) (body := body) (r := r) (Q := Q) (fun s o h1 h2 => by have := round s o h1 h2; unfold wpC at this; exact this) LF s0 fr h h0
    unfold wpC
    refine ⟨x, fr', ?_, e2⟩
    simp only [z2s]
    simp only [lpC] at hv
    rw [hv]
    exact e1
  | _ => cases hk
theorem zkA (k : IntKind) (a b : Int) : z4U .add k a b = some (.int k (k.wrap (a + b))) := rfl
theorem zkp (k : IntKind) (a b : Int) : z4U .sub k a b = some (.int k (k.wrap (a - b))) := rfl
theorem zkt (k : IntKind) (a b : Int) : z4U .mul k a b = some (.int k (k.wrap (a * b))) := rfl
theorem zkr (k : IntKind) (a b : Int) : z4U .quo k a b = if b = 0 then none else some (.int k (zsX k a b)) := rfl
theorem zkq (k : IntKind) (a b : Int) : z4U .rem k a b = if b = 0 then none else some (.int k (a.tmod b)) := rfl
theorem zkz (k : IntKind) (a b : Int) : z4U .and k a b = some (.int k (z2b k a b)) := Eq.trans rfl rfl
theorem zmN (k : IntKind) (a b : Int) : z4U .or k a b = some (.int k (orI k a b)) := Eq.trans rfl rfl
theorem zko (k : IntKind) (a b : Int) : z4U .xor k a b = some (.int k (zwu k a b)) := Eq.trans rfl rfl
theorem zeG (k : IntKind) (a b : Int) : z4U .andNot k a b = some (.int k (zfa k a b)) := Eq.trans rfl rfl
theorem zky (k : IntKind) (a b : Int) : z4U .eql k a b = some (.bool (decide (a = b))) := rfl
theorem zks (k : IntKind) (a b : Int) : z4U .neq k a b = some (.bool (!decide (a = b))) := rfl
theorem zku (k : IntKind) (a b : Int) : z4U .lss k a b = some (.bool (decide (a < b))) := rfl
theorem zkv (k : IntKind) (a b : Int) : z4U .leq k a b = some (.bool (decide (a <= b))) := rfl
theorem zkw (k : IntKind) (a b : Int) : z4U .gtr k a b = some (.bool (decide (b < a))) := rfl
theorem zkx (k : IntKind) (a b : Int) : z4U .geq k a b = some (.bool (decide (b <= a))) := rfl
theorem zdy {a b : ByteArray} : a.toList = b.toList ↔ a = b := by
  constructor
  · intro h
    have h1 : a.data.toList = b.data.toList := by simpa [ByteArray.toList_eq] using h
    obtain ⟨⟨x⟩⟩ := a
    obtain ⟨⟨y⟩⟩ := b
    simp at h1
    rw [h1]
  · intro h; rw [h]
theorem zk0 (a b : ByteArray) : z8T .eql a b = some (.bool (decide (a = b))) := by
  simp only [z8T]
  congr 2
  rw [Bool.eq_iff_iff]; simp [zdy]
theorem zjX (a b : ByteArray) : z8T .neq a b = some (.bool (!decide (a = b))) := by
  simp only [z8T]
  congr 3
  rw [Bool.eq_iff_iff]; simp [zdy]
theorem zjY (a b : ByteArray) : z8T .lss a b = some (.bool (zrL a b)) := rfl
theorem zjZ (a b : ByteArray) : z8T .geq a b = some (.bool (!zrL a b)) := rfl
theorem zk1 (a b : ByteArray) : z8T .add a b = if z7G a b then some (.string (a ++ b)) else none := by
  have hm : IntKind.i64.max = 9223372036854775807 := by decide
  show (if ((a.size + b.size : Nat) : Int) > IntKind.i64.max then none else some (Value.string (a ++ b))) = _
  rw [hm]
  by_cases h : z7G a b
  · rw [if_pos h]
    unfold z7G at h
    rw [if_neg (by omega)]
  · rw [if_neg h]
    unfold z7G at h
    rw [if_pos (by omega)]
theorem zpf (op : BinOp) (u : Option TyI) (k k' : IntKind) (a b : Int) : zrA op u (.int k a) (.int k' b) = match op with
    | .shl => if b < 0 then none else some (.int k (zhl k a b))
    | .shr => if b < 0 then none else some (.int k (z0f k a b))
    | _ => if k = k' then z4U op k a b else none := by
  cases op
  case shl => simp only [zma]; rfl
  all_goals rfl
theorem zpe (op : BinOp) (u : Option TyI) (a b : ByteArray) : zrA op u (.string a) (.string b) = z8T op a b := rfl
theorem znu (op : BinOp) (u : Option TyI) (a b : Bool) : zrA op u (.bool a) (.bool b) = match u with
    | some ⟨.bool, _, _, _⟩ => (match op with | .eql => some (.bool (a == b)) | .neq => some (.bool (!(a == b))) | _ => none)
    | _ => none := rfl
theorem zjw : ∀ l : List Int, z9a (l.map fun z => .sc (.int .u8 z)) = some (l.map fun z => UInt8.ofNat z.toNat)
  | [] => rfl
  | z :: l => by simp [z9a, zjw l]
theorem zjg {α β : Type} {g : α -> List β} {m : Nat} (hg : ∀ x, (g x).length = m) : ∀ xs : List α, (xs.flatMap g).length = xs.length * m
  | [] => by simp
  | x :: xs => by
    have := zjg hg xs
    simp only [List.flatMap_cons, List.length_append, hg, this, List.length_cons, Nat.add_mul, Nat.one_mul]
    omega
theorem zcV {α β : Type} {g : α -> List β} {m : Nat} (hg : ∀ x, (g x).length = m) : ∀ (xs : List α) (i : Nat), (xs.flatMap g).drop (i * m) = (xs.drop i).flatMap g
  | xs, 0 => by simp
  | [], i + 1 => by simp
  | x :: xs, i + 1 => by
    have := zcV hg xs i
    rw [List.flatMap_cons, List.drop_succ_cons, ← this, List.drop_append, List.drop_eq_nil_of_le (by rw [hg, Nat.add_mul]; omega), List.nil_append, hg]
    congr 1
    rw [Nat.add_mul]; omega
theorem zgJ {α β : Type} {g : α -> List β} {m : Nat} (hg : ∀ x, (g x).length = m) : ∀ (xs : List α) (i : Nat), (xs.flatMap g).take (i * m) = (xs.take i).flatMap g
  | xs, 0 => by simp
  | [], i + 1 => by simp
  | x :: xs, i + 1 => by
    have := zgJ hg xs i
    rw [List.flatMap_cons, List.take_succ_cons, List.flatMap_cons, ← this, List.take_append, List.take_of_length_le (by rw [hg, Nat.add_mul]; omega), hg]
    congr 2
    rw [Nat.add_mul]; omega
theorem zcU {α β : Type} {g : α -> List β} {m : Nat} (hg : ∀ x, (g x).length = m) {xs : List α} {i : Nat} {v : α} (h : xs[i]? = some v) :
    i * m + m <= xs.length * m /\ ((xs.flatMap g).drop (i * m)).take m = g v /\ (∀ j, j < m -> (xs.flatMap g)[i * m + j]? = (g v)[j]?) /\ ∀ j c, (g v)[j]? = some c -> ∀ hh : i * m + j < (xs.flatMap g).length, (xs.flatMap g)[i * m + j]'hh = c := by
  obtain ⟨hi, hv⟩ := List.getElem?_eq_some_iff.1 h
  have hd : xs.drop i = v :: xs.drop (i + 1) := by rw [← hv]; exact List.drop_eq_getElem_cons hi
  have h2 : ((xs.flatMap g).drop (i * m)) = g v ++ (xs.drop (i + 1)).flatMap g := by rw [zcV hg, hd, List.flatMap_cons]
  have key : ∀ j, j < m -> (xs.flatMap g)[i * m + j]? = (g v)[j]? := fun j hj => by
    rw [← List.getElem?_drop, h2, List.getElem?_append_left (by rw [hg]; exact hj)]
  refine ⟨?_, ?_, key, fun j c hc hh => ?_⟩
  · calc i * m + m = (i + 1) * m := by rw [Nat.add_mul, Nat.one_mul]
      _ <= _ := Nat.mul_le_mul_right _ hi
  · rw [h2, List.take_append_of_le_length (by rw [hg]; exact Nat.le_refl _), List.take_of_length_le (by rw [hg]; exact Nat.le_refl _)]
  · have hj : j < m := by rw [← hg v]; exact (List.getElem?_eq_some_iff.1 hc).1
    have := key j hj
    rw [hc, List.getElem?_eq_getElem hh] at this
    exact Option.some.inj this
theorem zaN {α β : Type} {g : α -> β} {xs ys : List α} {l h : Int} (e : z5v xs l h = some ys) : ((xs.map g).drop l.toNat).take (h.toNat - l.toNat) = ys.map g := by
  obtain ⟨_, _, _, e2, _⟩ := z3T e
  rw [e2, List.map_take, List.map_drop]
theorem zhu {α β : Type} {g : α -> List β} {m : Nat} (hg : ∀ x, (g x).length = m) {xs ys : List α} {l h : Int} (e : z5v xs l h = some ys) : ((xs.flatMap g).drop (l.toNat * m)).take ((h.toNat - l.toNat) * m) = ys.flatMap g := by
  obtain ⟨_, _, _, e2, _⟩ := z3T e
  rw [e2, zcV hg, zgJ hg]
theorem zaM {α : Type} {xs ys : List α} {l h : Int} (e : z5v xs l h = some ys) (f : α -> T) : T.sl (h.toNat - l.toNat) (ys.map f) = T.sl ys.length (ys.map f) := by
  obtain ⟨_, _, _, _, e2⟩ := z3T e
  rw [e2]
theorem zkb {α : Type} {xs ys : List α} {l h : Int} (e : z5v xs l h = some ys) (f : α -> List T) : T.sl (h.toNat - l.toNat) (ys.flatMap f) = T.sl ys.length (ys.flatMap f) := by
  obtain ⟨_, _, _, _, e2⟩ := z3T e
  rw [e2]
theorem z9Y {l h : Int} (a : 0 <= l) (b : l <= h) : 0 <= h /\ l <= (h.toNat : Int) := by omega
theorem zcr : ∀ a b : List T, zdb (a ++ b) = (zdb a || zdb b)
  | [], b => by simp [zdb]
  | t :: a, b => by simp [zdb, zcr a b, Bool.or_assoc]
theorem ziO {α : Type} (g : α -> T) : ∀ l : List α, zdb (l.map g) = l.any fun x => opn (g x)
  | [] => rfl
  | x :: l => by simp [zdb, ziO g l]
theorem zgm {α : Type} (g : α -> List T) : ∀ l : List α, zdb (l.flatMap g) = l.any fun x => zdb (g x)
  | [] => rfl
  | x :: l => by simp [zcr, zgm g l]
theorem zjh (k : ByteArray) (kd : IntKind) : ∀ m : List (ByteArray × Int), z5f (.string k) (m.map fun p => (Value.string p.1, Value.int kd p.2)) = (zad k m).map (Value.int kd)
  | [] => rfl
  | (a, v) :: m => by
    simp only [List.map_cons, z5f, zad, za7, zjh k kd m]
    by_cases h : a = k <;> simp [h]
theorem zji (k : ByteArray) : ∀ m : List (ByteArray × Bool), z5f (.string k) (m.map fun p => (Value.string p.1, Value.bool p.2)) = (zad k m).map Value.bool
  | [] => rfl
  | (a, v) :: m => by
    simp only [List.map_cons, z5f, zad, za7, zji k m]
    by_cases h : a = k <;> simp [h]
theorem zjj (k : Int) (kk kd : IntKind) : ∀ m : List (Int × Int), z5f (.int kk k) (m.map fun p => (Value.int kk p.1, Value.int kd p.2)) = (zad k m).map (Value.int kd)
  | [] => rfl
  | (a, v) :: m => by
    simp only [List.map_cons, z5f, zad, za7, zjj k kk kd m]
    by_cases h : a = k <;> simp [h]
theorem zjk (k : Int) (kk : IntKind) : ∀ m : List (Int × Bool), z5f (.int kk k) (m.map fun p => (Value.int kk p.1, Value.bool p.2)) = (zad k m).map Value.bool
  | [] => rfl
  | (a, v) :: m => by
    simp only [List.map_cons, z5f, zad, za7, zjk k kk m]
    by_cases h : a = k <;> simp [h]
theorem zmd (k : ByteArray) (kd : IntKind) (v : Int) : ∀ m : List (ByteArray × Int), zg1 (.string k) (.int kd v) (m.map fun p => (Value.string p.1, Value.int kd p.2)) = (z9R k v m).map fun p => (Value.string p.1, Value.int kd p.2)
  | [] => rfl
  | (a, u) :: m => by
    simp only [List.map_cons, zg1, z9R, za7, zmd k kd v m]
    by_cases h : a = k <;> simp [h]
theorem zme (k : ByteArray) (v : Bool) : ∀ m : List (ByteArray × Bool), zg1 (.string k) (.bool v) (m.map fun p => (Value.string p.1, Value.bool p.2)) = (z9R k v m).map fun p => (Value.string p.1, Value.bool p.2)
  | [] => rfl
  | (a, u) :: m => by
    simp only [List.map_cons, zg1, z9R, za7, zme k v m]
    by_cases h : a = k <;> simp [h]
theorem zmf (k : Int) (kk kd : IntKind) (v : Int) : ∀ m : List (Int × Int), zg1 (.int kk k) (.int kd v) (m.map fun p => (Value.int kk p.1, Value.int kd p.2)) = (z9R k v m).map fun p => (Value.int kk p.1, Value.int kd p.2)
  | [] => rfl
  | (a, u) :: m => by
    simp only [List.map_cons, zg1, z9R, za7, zmf k kk kd v m]
    by_cases h : a = k <;> simp [h]
theorem zmg (k : Int) (kk : IntKind) (v : Bool) : ∀ m : List (Int × Bool), zg1 (.int kk k) (.bool v) (m.map fun p => (Value.int kk p.1, Value.bool p.2)) = (z9R k v m).map fun p => (Value.int kk p.1, Value.bool p.2)
  | [] => rfl
  | (a, u) :: m => by
    simp only [List.map_cons, zg1, z9R, za7, zmg k kk v m]
    by_cases h : a = k <;> simp [h]
theorem zok (k v : Value) : zg1 k v [] = [(k, v)] := rfl
theorem zol {κ ν : Type} [DecidableEq κ] (k : κ) (v : ν) : z9R k v [] = [(k, v)] := rfl
theorem zoZ (kd : IntKind) (z : Int) (o : Option Int) : (o.map (Value.int kd)).getD (.int kd z) = .int kd (o.getD z) := by cases o <;> rfl
theorem zmW (z : Bool) (o : Option Bool) : (o.map Value.bool).getD (.bool z) = .bool (o.getD z) := by cases o <;> rfl
@[simp] theorem oneNil : (Value.slice none 0 0).oneCell' = true := rfl
@[simp] theorem bszL (a : Array UInt8) : ByteArray.size ⟨a⟩ = a.size := rfl
@[simp] theorem bempty : (⟨#[]⟩ : ByteArray) = ByteArray.empty := rfl
@[simp] theorem voG0 (p l : List T) : (p ++ l)[p.length]? = l[0]? := by rw [List.getElem?_append_right (Nat.le_refl _), Nat.sub_self]
@[simp] theorem voG (p l : List T) (j : Nat) : (p ++ l)[p.length + j]? = l[j]? := by rw [List.getElem?_append_right (by omega), Nat.add_sub_cancel_left]
@[simp] theorem voSet0 (p l : List T) (x : T) : (p ++ l).set p.length x = p ++ l.set 0 x := by rw [List.set_append_right _ _ (Nat.le_refl _), Nat.sub_self]
@[simp] theorem voSet (p l : List T) (j : Nat) (x : T) : (p ++ l).set (p.length + j) x = p ++ l.set j x := by rw [List.set_append_right _ _ (by omega), Nat.add_sub_cancel_left]
section
variable {P : Program} {C : z0l} {cf : Cfg} {LF : Nat} {c : Code} {fr fr1 : Fr} {Q : X -> Fr -> Prop}
theorem zr {l : List Oper} (hl : rgL c = some l) (hd : rgD c = false) (hz : cf.fz (rgI c) = none) (hf : zhq P C cf.wio l.toArray l fr = some fr1) (h : Q .n fr1) : wpC P C cf LF c fr Q :=
  zow hl hd hz fun Q' hQ => by rw [hf, zh1]; exact hQ.out _ h
theorem zq (hk : zbd c = 2) (h : wpC P C cf LF (zwb c) fr (zhi (fun fr' => wpC P C cf LF (zwa c) fr' Q) Q)) : wpC P C cf LF c fr Q := ztp hk h
theorem zb (hk : zbd c = 4) (h : wpC P C cf LF (blC c) fr (z6H (blI c) Q)) : wpC P C cf LF c fr Q := zqo hk h
end
@[simp] theorem voLe (a j k n : Nat) : (a + j + k <= a + n) = (j + k <= n) := by simp only [eq_iff_iff]; omega
end
section
open Go
theorem ziU {σ ρ : Type} {b : σ -> Option (σ ⊕ ρ)} {x : Option ρ} : ∀ (n : Nat) (f : Nat -> σ) (m : Nat), n < m -> (∀ k, k < n -> b (f k) = z0e (f (k + 1))) -> b (f n) = z0k x -> z0o b m (f 0) = x
  | 0, f, m + 1, _, _, hl => by
    simp only [z0o, hl]
    cases x <;> rfl
  | n + 1, f, m + 1, hm, hs, hl => by
    simp only [z0o, hs 0 (by omega), z0e]
    exact ziU n (fun k => f (k + 1)) m (by omega) (fun k hk => hs (k + 1) (by omega)) hl
theorem z0K {σ ρ : Type} {b : σ -> Option (σ ⊕ ρ)} {x : Option ρ} (n : Nat) (f : Nat -> σ) {s : σ} (h0 : s = f 0) (hn : n < LFm) (step : ∀ k, k < n -> b (f k) = z0e (f (k + 1))) (last : b (f n) = z0k x) : z0o b LFm s = x := by
  subst h0; exact ziU n f LFm hn step last
theorem zdI {σ ρ : Type} {b : σ -> Option (σ ⊕ ρ)} {x : Option ρ} {p : Nat -> Bool} {A : Nat -> Option ρ} : ∀ (n : Nat) (f : Nat -> σ) (m i : Nat), n < m -> (∀ k, k < n -> b (f k) = if p (i + k) = true then z0k (A (i + k)) else z0e (f (k + 1))) -> b (f n) = z0k x ->
    z0o b m (f 0) = match ((List.range n).map (i + ·)).find? p with | some k => A k | none => x
  | 0, f, m + 1, i, _, _, hl => by
    simp only [z0o, hl]
    cases x <;> rfl
  | n + 1, f, m + 1, i, hm, hs, hl => by
    have h0 := hs 0 (by omega)
    have hmap : (List.range (n + 1)).map (i + ·) = i :: (List.range n).map (i + 1 + ·) := by
      rw [List.range_succ_eq_map, List.map_cons, List.map_map]
      congr 1
      apply List.map_congr_left
      intro k _
      simp only [Function.comp]
      omega
    rw [hmap, List.find?_cons]
    simp only [Nat.add_zero] at h0
    by_cases hp : p i = true
    · rw [if_pos hp] at h0
      rw [hp]
      simp only [z0o, h0]
      generalize A i = y
      cases y <;> rfl
    · rw [if_neg hp] at h0
      have hp' : p i = false := by simpa using hp
      rw [hp']
      simp only [z0o, h0, z0e]
      exact zdI n (fun k => f (k + 1)) m (i + 1) (by omega) (fun k hk => by rw [hs (k + 1) (by omega), show i + (k + 1) = i + 1 + k by omega]) hl
theorem z5w {σ ρ : Type} {b : σ -> Option (σ ⊕ ρ)} {x : Option ρ} (n : Nat) (f : Nat -> σ) (p : Nat -> Bool) (A : Nat -> Option ρ) {s : σ} (h0 : s = f 0) (hn : n < LFm) (step : ∀ k, k < n -> b (f k) = if p k = true then z0k (A k) else z0e (f (k + 1))) (last : b (f n) = z0k x) :
    z0o b LFm s = match (List.range n).find? p with | some k => A k | none => x := by
  subst h0
  have := zdI n f LFm 0 hn (p := p) (A := A) (fun k hk => by rw [step k hk]; simp) last
  simpa using this
theorem z0W {k : Nat} (h : k < 4611686018427387904) : IntKind.i64.wrap ((k : Int) + 1) = ((k + 1 : Nat) : Int) := by
  rw [IntWalk.i64_in _ (by omega)]; omega
theorem z1N {x : Int} (h : -9223372036854775808 <= x) (h2 : x < 9223372036854775808) : IntKind.i64.wrap x = x := IntWalk.i64_in _ (by omega)
theorem zpZ {x : Int} (h : 0 <= x) (h2 : x < 256) : IntKind.u8.wrap x = x := by rw [IntKind.wrap_u8]; omega
theorem z0S {α : Type} {xs : List α} {k : Nat} (h : k < xs.length) : atI xs (k : Int) = some xs[k] := by
  unfold atI; rw [if_pos (by omega), Int.toNat_natCast, List.getElem?_eq_getElem h]
theorem zam {s : ByteArray} {k : Nat} (h : k < s.size) : zf3 s (k : Int) = some (s[k].toNat : Int) := by
  unfold zf3; rw [if_pos (by omega), Int.toNat_natCast, getElem?_pos s k h]; rfl
theorem zgi {α : Type} {xs : List α} {k : Nat} (h : k <= xs.length) : z5v xs 0 (k : Int) = some (xs.take k) := by
  unfold z5v; rw [if_pos (by omega)]; simp
theorem zht {α : Type} {xs : List α} {k : Nat} (h : k <= xs.length) : z5v xs (k : Int) (xs.length : Int) = some (xs.drop k) := by
  unfold z5v; rw [if_pos (by omega)]; simp [List.take_of_length_le]
theorem z0n {α : Type} {p : Prop} [Decidable p] (x : Option α) (h : p) : chk p x = x := by unfold chk; rw [if_pos h]
theorem zgL {p : Nat -> Bool} {n : Nat} : (List.range n).find? p = none ↔ ∀ k, k < n -> p k = false := by simp
theorem zgK {p : Nat -> Bool} {n k : Nat} : (List.range n).find? p = some k ↔ k < n /\ p k = true /\ ∀ j, j < k -> p j = false := by
  rw [List.find?_range_eq_some]; simp; constructor
  · rintro ⟨a, b, c⟩; exact ⟨b, a, c⟩
  · rintro ⟨a, b, c⟩; exact ⟨b, a, c⟩
theorem z8J {ρ : Type} {p : Nat -> Bool} {n : Nat} (a b : ρ) : (match (List.range n).find? p with | some _ => a | none => b) = if (List.range n).all (fun k => !p k) then b else a := by
  cases h : (List.range n).find? p with
  | none => rw [zgL] at h; rw [if_pos (by simpa using h)]
  | some k =>
    rw [zgK] at h
    rw [if_neg]
    simp only [List.all_eq_true, List.mem_range, Bool.not_eq_true']
    intro hh
    have := hh k h.1
    rw [h.2.1] at this
    cases this
theorem zcn {α : Type} (p : α -> Bool) (l : List α) (d : α) : (List.range l.length).all (fun k => p (l.getD k d)) = l.all p := by
  rw [Bool.eq_iff_iff, List.all_eq_true, List.all_eq_true]
  constructor
  · intro h x hx
    obtain ⟨i, hi, rfl⟩ := List.getElem_of_mem hx
    have := h i (List.mem_range.2 hi)
    simpa only [List.getD, List.getElem?_eq_getElem hi, Option.getD_some] using this
  · intro h i hi
    have hi := List.mem_range.1 hi
    have := h _ (List.getElem_mem hi)
    simpa only [List.getD, List.getElem?_eq_getElem hi, Option.getD_some] using this
theorem zcB {α ρ : Type} {b : Int -> Option (Int ⊕ ρ)} {l : List α} (d : α) (p : α -> Bool) {A B : Option ρ} (h : l.length < 4611686018427387904) (step : ∀ k, k < l.length -> b (k : Int) = if p (l.getD k d) = true then z0e ((k + 1 : Nat) : Int) else z0k A) (last : b (l.length : Int) = z0k B) :
    z0o b LFm 0 = if l.all p = true then B else A := by
  rw [z5w (s := (0 : Int)) l.length (fun k => (k : Int)) (fun k => !p (l.getD k d)) (fun _ => A) (x := B) rfl (by simp only [LFm]; omega) (fun k hk => ?_) last]
  · rw [z8J]
    simp only [Bool.not_not]
    rw [zcn]
  · rw [step k hk]
    cases p (l.getD k d) <;> simp
end
section
open Go
set_option maxRecDepth 100000
structure SrtC where
  cmp : Int -> Int -> Option Int
  key : Int -> Int
  ok : Int -> Prop
  law : ∀ x y, ok x -> ok y -> y < x -> ∃ c, cmp x y = some c /\ (c < 0 ↔ key x < key y)
noncomputable section
abbrev zeR (a1 : Int) (a3_0_0 : SrtC) (w95 : Int) : Int × List Int -> Option ((Int × List Int) ⊕ ((Int × List Int) ⊕ List Int))
  | (w127, w128) =>
  if a1 < w127 then
    (atI w128 w127).bind fun v136 =>
    (atI w128 (IntKind.i64.wrap (w127 - 1))).bind fun v137 =>
    (a3_0_0.cmp v136 v137).bind fun v138 =>
    if v138 < 0 then
      (atI (w128.set w127.toNat v137) (IntKind.i64.wrap (w127 - 1))).bind fun v142 =>
      z0e (IntKind.i64.wrap (w127 - 1), ((w128.set w127.toNat v137).set (IntKind.i64.wrap (w127 - 1)).toNat v136))
    else
      z0k <|
      z0e (IntKind.i64.wrap (w95 + 1), w128)
  else
    z0k <|
    z0e (IntKind.i64.wrap (w95 + 1), w128)
abbrev zeS (a1 : Int) (a2 : Int) (a3_0_0 : SrtC) : Int × List Int -> Option ((Int × List Int) ⊕ List Int)
  | (w95, w96) =>
  if w95 < a2 then
    z0o (zeR a1 a3_0_0 w95) LFm (w95, w96)
  else
    z0k <|
    some w96
def zt6 (a0 : List Int) (a1 : Int) (a2 : Int) (a3_0_0 : SrtC) : Option (List Int) :=
  z0o (zeS a1 a2 a3_0_0) LFm (IntKind.i64.wrap (a1 + 1), a0)
abbrev zhO (a1 : Int) (a2 : Int) (a3 : Int) : Int × List Int -> Option ((Int × List Int) ⊕ List Int)
  | (w19, w20) =>
  if w19 < a3 then
    (atI w20 (IntKind.i64.wrap (a2 + w19))).bind fun v25 =>
    (atI w20 (IntKind.i64.wrap (a1 + w19))).bind fun v26 =>
    (atI (w20.set (IntKind.i64.wrap (a1 + w19)).toNat v25) (IntKind.i64.wrap (a2 + w19))).bind fun v28 =>
    z0e (IntKind.i64.wrap (w19 + 1), ((w20.set (IntKind.i64.wrap (a1 + w19)).toNat v25).set (IntKind.i64.wrap (a2 + w19)).toNat v26))
  else
    z0k <|
    some w20
def zst (a0 : List Int) (a1 : Int) (a2 : Int) (a3 : Int) (a4_0_0 : SrtC) : Option (List Int) :=
  z0o (zhO a1 a2 a3) LFm (0, a0)
abbrev zmY (a2 : Int) (a4_0_0 : SrtC) : Int × Int × List Int -> Option ((Int × Int × List Int) ⊕ List Int)
  | (w13, w15, w14) =>
  if w13 = w15 then
    z0k <|
    (zst w14 (IntKind.i64.wrap (a2 - w13)) a2 w13 a4_0_0).bind fun v18 =>
    some v18
  else
    if w15 < w13 then
      (zst w14 (IntKind.i64.wrap (a2 - w13)) a2 w15 a4_0_0).bind fun v19 =>
      z0e (IntKind.i64.wrap (w13 - w15), w15, v19)
    else
      (zst w14 (IntKind.i64.wrap (a2 - w13)) (IntKind.i64.wrap ((IntKind.i64.wrap (a2 + w15)) - w13)) w13 a4_0_0).bind fun v20 =>
      z0e (w13, IntKind.i64.wrap (w15 - w13), v20)
def zt5 (a0 : List Int) (a1 : Int) (a2 : Int) (a3 : Int) (a4_0_0 : SrtC) : Option (List Int) :=
  z0o (zmY a2 a4_0_0) LFm (IntKind.i64.wrap (a2 - a1), IntKind.i64.wrap (a3 - a2), a0)
abbrev zeP (w102 : Int) : Int × List Int -> Option ((Int × List Int) ⊕ List Int)
  | (w114, w115) =>
  if w114 < (IntKind.i64.wrap (w102 - 1)) then
    (atI w115 (IntKind.i64.wrap (w114 + 1))).bind fun v120 =>
    (atI w115 w114).bind fun v121 =>
    (atI (w115.set w114.toNat v120) (IntKind.i64.wrap (w114 + 1))).bind fun v123 =>
    z0e (IntKind.i64.wrap (w114 + 1), ((w115.set w114.toNat v120).set (IntKind.i64.wrap (w114 + 1)).toNat v121))
  else
    z0k <|
    some w115
abbrev zeQ (a0 : List Int) (a1 : Int) (a4_0_0 : SrtC) : Int × Int -> Option ((Int × Int) ⊕ List Int)
  | (w102, w103) =>
  if w102 < w103 then
    chk (¬ 1 < 0) <|
    (atI a0 (IntKind.i64.wrap (z0f .u64 (IntKind.u64.wrap (IntKind.i64.wrap (w102 + w103))) 1))).bind fun v107 =>
    (atI a0 a1).bind fun v108 =>
    (a4_0_0.cmp v107 v108).bind fun v109 =>
    if v109 < 0 then
      z0e (IntKind.i64.wrap ((IntKind.i64.wrap (z0f .u64 (IntKind.u64.wrap (IntKind.i64.wrap (w102 + w103))) 1)) + 1), w103)
    else
      z0e (w102, IntKind.i64.wrap (z0f .u64 (IntKind.u64.wrap (IntKind.i64.wrap (w102 + w103))) 1))
  else
    z0k <|
    z0o (zeP w102) LFm (a1, a0)
abbrev zbz (w128 : Int) : Int × List Int -> Option ((Int × List Int) ⊕ List Int)
  | (w139, w140) =>
  if w128 < w139 then
    (atI w140 (IntKind.i64.wrap (w139 - 1))).bind fun v145 =>
    (atI w140 w139).bind fun v146 =>
    (atI (w140.set w139.toNat v145) (IntKind.i64.wrap (w139 - 1))).bind fun v148 =>
    z0e (IntKind.i64.wrap (w139 - 1), ((w140.set w139.toNat v145).set (IntKind.i64.wrap (w139 - 1)).toNat v146))
  else
    z0k <|
    some w140
abbrev zbA (a0 : List Int) (a2 : Int) (a4_0_0 : SrtC) : Int × Int -> Option ((Int × Int) ⊕ List Int)
  | (w128, w127) =>
  if w128 < w127 then
    chk (¬ 1 < 0) <|
    (atI a0 a2).bind fun v132 =>
    (atI a0 (IntKind.i64.wrap (z0f .u64 (IntKind.u64.wrap (IntKind.i64.wrap (w128 + w127))) 1))).bind fun v133 =>
    (a4_0_0.cmp v132 v133).bind fun v134 =>
    if v134 < 0 then
      z0e (w128, IntKind.i64.wrap (z0f .u64 (IntKind.u64.wrap (IntKind.i64.wrap (w128 + w127))) 1))
    else
      z0e (IntKind.i64.wrap ((IntKind.i64.wrap (z0f .u64 (IntKind.u64.wrap (IntKind.i64.wrap (w128 + w127))) 1)) + 1), w127)
  else
    z0k <|
    z0o (zbz w128) LFm (a2, a0)
abbrev z8I (a0 : List Int) (a1 : Int) (a2 : Int) (a3 : Int) (a4_0_0 : SrtC) (rf : List Int -> Int -> Int -> Int -> SrtC -> Option (List Int)) : Int × Int -> Option ((Int × Int) ⊕ List Int)
  | (w153, w152) =>
  if w153 < w152 then
    chk (¬ 1 < 0) <|
    (atI a0 (IntKind.i64.wrap ((IntKind.i64.wrap ((IntKind.i64.wrap ((IntKind.i64.wrap (z0f .u64 (IntKind.u64.wrap (IntKind.i64.wrap (a1 + a3))) 1)) + a2)) - 1)) - (IntKind.i64.wrap (z0f .u64 (IntKind.u64.wrap (IntKind.i64.wrap (w153 + w152))) 1))))).bind fun v157 =>
    (atI a0 (IntKind.i64.wrap (z0f .u64 (IntKind.u64.wrap (IntKind.i64.wrap (w153 + w152))) 1))).bind fun v158 =>
    (a4_0_0.cmp v157 v158).bind fun v159 =>
    if v159 < 0 then
      z0e (w153, IntKind.i64.wrap (z0f .u64 (IntKind.u64.wrap (IntKind.i64.wrap (w153 + w152))) 1))
    else
      z0e (IntKind.i64.wrap ((IntKind.i64.wrap (z0f .u64 (IntKind.u64.wrap (IntKind.i64.wrap (w153 + w152))) 1)) + 1), w152)
  else
    z0k <|
    if w153 < a2 then
      if a2 < (IntKind.i64.wrap ((IntKind.i64.wrap ((IntKind.i64.wrap (z0f .u64 (IntKind.u64.wrap (IntKind.i64.wrap (a1 + a3))) 1)) + a2)) - w153)) then
        (zt5 a0 w153 a2 (IntKind.i64.wrap ((IntKind.i64.wrap ((IntKind.i64.wrap (z0f .u64 (IntKind.u64.wrap (IntKind.i64.wrap (a1 + a3))) 1)) + a2)) - w153)) a4_0_0).bind fun v160 =>
        if a1 < w153 then
          if w153 < (IntKind.i64.wrap (z0f .u64 (IntKind.u64.wrap (IntKind.i64.wrap (a1 + a3))) 1)) then
            (rf v160 a1 w153 (IntKind.i64.wrap (z0f .u64 (IntKind.u64.wrap (IntKind.i64.wrap (a1 + a3))) 1)) a4_0_0).bind fun v161 =>
            if (IntKind.i64.wrap (z0f .u64 (IntKind.u64.wrap (IntKind.i64.wrap (a1 + a3))) 1)) < (IntKind.i64.wrap ((IntKind.i64.wrap ((IntKind.i64.wrap (z0f .u64 (IntKind.u64.wrap (IntKind.i64.wrap (a1 + a3))) 1)) + a2)) - w153)) then
              if (IntKind.i64.wrap ((IntKind.i64.wrap ((IntKind.i64.wrap (z0f .u64 (IntKind.u64.wrap (IntKind.i64.wrap (a1 + a3))) 1)) + a2)) - w153)) < a3 then
                (rf v161 (IntKind.i64.wrap (z0f .u64 (IntKind.u64.wrap (IntKind.i64.wrap (a1 + a3))) 1)) (IntKind.i64.wrap ((IntKind.i64.wrap ((IntKind.i64.wrap (z0f .u64 (IntKind.u64.wrap (IntKind.i64.wrap (a1 + a3))) 1)) + a2)) - w153)) a3 a4_0_0).bind fun v162 =>
                some v162
              else
                some v161
            else
              some v161
          else
            if (IntKind.i64.wrap (z0f .u64 (IntKind.u64.wrap (IntKind.i64.wrap (a1 + a3))) 1)) < (IntKind.i64.wrap ((IntKind.i64.wrap ((IntKind.i64.wrap (z0f .u64 (IntKind.u64.wrap (IntKind.i64.wrap (a1 + a3))) 1)) + a2)) - w153)) then
              if (IntKind.i64.wrap ((IntKind.i64.wrap ((IntKind.i64.wrap (z0f .u64 (IntKind.u64.wrap (IntKind.i64.wrap (a1 + a3))) 1)) + a2)) - w153)) < a3 then
                (rf v160 (IntKind.i64.wrap (z0f .u64 (IntKind.u64.wrap (IntKind.i64.wrap (a1 + a3))) 1)) (IntKind.i64.wrap ((IntKind.i64.wrap ((IntKind.i64.wrap (z0f .u64 (IntKind.u64.wrap (IntKind.i64.wrap (a1 + a3))) 1)) + a2)) - w153)) a3 a4_0_0).bind fun v163 =>
                some v163
              else
                some v160
            else
              some v160
        else
          if (IntKind.i64.wrap (z0f .u64 (IntKind.u64.wrap (IntKind.i64.wrap (a1 + a3))) 1)) < (IntKind.i64.wrap ((IntKind.i64.wrap ((IntKind.i64.wrap (z0f .u64 (IntKind.u64.wrap (IntKind.i64.wrap (a1 + a3))) 1)) + a2)) - w153)) then
            if (IntKind.i64.wrap ((IntKind.i64.wrap ((IntKind.i64.wrap (z0f .u64 (IntKind.u64.wrap (IntKind.i64.wrap (a1 + a3))) 1)) + a2)) - w153)) < a3 then
              (rf v160 (IntKind.i64.wrap (z0f .u64 (IntKind.u64.wrap (IntKind.i64.wrap (a1 + a3))) 1)) (IntKind.i64.wrap ((IntKind.i64.wrap ((IntKind.i64.wrap (z0f .u64 (IntKind.u64.wrap (IntKind.i64.wrap (a1 + a3))) 1)) + a2)) - w153)) a3 a4_0_0).bind fun v164 =>
              some v164
            else
              some v160
          else
            some v160
      else
        if a1 < w153 then
          if w153 < (IntKind.i64.wrap (z0f .u64 (IntKind.u64.wrap (IntKind.i64.wrap (a1 + a3))) 1)) then
            (rf a0 a1 w153 (IntKind.i64.wrap (z0f .u64 (IntKind.u64.wrap (IntKind.i64.wrap (a1 + a3))) 1)) a4_0_0).bind fun v165 =>
            if (IntKind.i64.wrap (z0f .u64 (IntKind.u64.wrap (IntKind.i64.wrap (a1 + a3))) 1)) < (IntKind.i64.wrap ((IntKind.i64.wrap ((IntKind.i64.wrap (z0f .u64 (IntKind.u64.wrap (IntKind.i64.wrap (a1 + a3))) 1)) + a2)) - w153)) then
              if (IntKind.i64.wrap ((IntKind.i64.wrap ((IntKind.i64.wrap (z0f .u64 (IntKind.u64.wrap (IntKind.i64.wrap (a1 + a3))) 1)) + a2)) - w153)) < a3 then
                (rf v165 (IntKind.i64.wrap (z0f .u64 (IntKind.u64.wrap (IntKind.i64.wrap (a1 + a3))) 1)) (IntKind.i64.wrap ((IntKind.i64.wrap ((IntKind.i64.wrap (z0f .u64 (IntKind.u64.wrap (IntKind.i64.wrap (a1 + a3))) 1)) + a2)) - w153)) a3 a4_0_0).bind fun v166 =>
                some v166
              else
                some v165
            else
              some v165
          else
            if (IntKind.i64.wrap (z0f .u64 (IntKind.u64.wrap (IntKind.i64.wrap (a1 + a3))) 1)) < (IntKind.i64.wrap ((IntKind.i64.wrap ((IntKind.i64.wrap (z0f .u64 (IntKind.u64.wrap (IntKind.i64.wrap (a1 + a3))) 1)) + a2)) - w153)) then
              if (IntKind.i64.wrap ((IntKind.i64.wrap ((IntKind.i64.wrap (z0f .u64 (IntKind.u64.wrap (IntKind.i64.wrap (a1 + a3))) 1)) + a2)) - w153)) < a3 then
                (rf a0 (IntKind.i64.wrap (z0f .u64 (IntKind.u64.wrap (IntKind.i64.wrap (a1 + a3))) 1)) (IntKind.i64.wrap ((IntKind.i64.wrap ((IntKind.i64.wrap (z0f .u64 (IntKind.u64.wrap (IntKind.i64.wrap (a1 + a3))) 1)) + a2)) - w153)) a3 a4_0_0).bind fun v167 =>
                some v167
              else
                some a0
            else
              some a0
        else
          if (IntKind.i64.wrap (z0f .u64 (IntKind.u64.wrap (IntKind.i64.wrap (a1 + a3))) 1)) < (IntKind.i64.wrap ((IntKind.i64.wrap ((IntKind.i64.wrap (z0f .u64 (IntKind.u64.wrap (IntKind.i64.wrap (a1 + a3))) 1)) + a2)) - w153)) then
            if (IntKind.i64.wrap ((IntKind.i64.wrap ((IntKind.i64.wrap (z0f .u64 (IntKind.u64.wrap (IntKind.i64.wrap (a1 + a3))) 1)) + a2)) - w153)) < a3 then
              (rf a0 (IntKind.i64.wrap (z0f .u64 (IntKind.u64.wrap (IntKind.i64.wrap (a1 + a3))) 1)) (IntKind.i64.wrap ((IntKind.i64.wrap ((IntKind.i64.wrap (z0f .u64 (IntKind.u64.wrap (IntKind.i64.wrap (a1 + a3))) 1)) + a2)) - w153)) a3 a4_0_0).bind fun v168 =>
              some v168
            else
              some a0
          else
            some a0
    else
      if a1 < w153 then
        if w153 < (IntKind.i64.wrap (z0f .u64 (IntKind.u64.wrap (IntKind.i64.wrap (a1 + a3))) 1)) then
          (rf a0 a1 w153 (IntKind.i64.wrap (z0f .u64 (IntKind.u64.wrap (IntKind.i64.wrap (a1 + a3))) 1)) a4_0_0).bind fun v169 =>
          if (IntKind.i64.wrap (z0f .u64 (IntKind.u64.wrap (IntKind.i64.wrap (a1 + a3))) 1)) < (IntKind.i64.wrap ((IntKind.i64.wrap ((IntKind.i64.wrap (z0f .u64 (IntKind.u64.wrap (IntKind.i64.wrap (a1 + a3))) 1)) + a2)) - w153)) then
            if (IntKind.i64.wrap ((IntKind.i64.wrap ((IntKind.i64.wrap (z0f .u64 (IntKind.u64.wrap (IntKind.i64.wrap (a1 + a3))) 1)) + a2)) - w153)) < a3 then
              (rf v169 (IntKind.i64.wrap (z0f .u64 (IntKind.u64.wrap (IntKind.i64.wrap (a1 + a3))) 1)) (IntKind.i64.wrap ((IntKind.i64.wrap ((IntKind.i64.wrap (z0f .u64 (IntKind.u64.wrap (IntKind.i64.wrap (a1 + a3))) 1)) + a2)) - w153)) a3 a4_0_0).bind fun v170 =>
              some v170
            else
              some v169
          else
            some v169
        else
          if (IntKind.i64.wrap (z0f .u64 (IntKind.u64.wrap (IntKind.i64.wrap (a1 + a3))) 1)) < (IntKind.i64.wrap ((IntKind.i64.wrap ((IntKind.i64.wrap (z0f .u64 (IntKind.u64.wrap (IntKind.i64.wrap (a1 + a3))) 1)) + a2)) - w153)) then
            if (IntKind.i64.wrap ((IntKind.i64.wrap ((IntKind.i64.wrap (z0f .u64 (IntKind.u64.wrap (IntKind.i64.wrap (a1 + a3))) 1)) + a2)) - w153)) < a3 then
              (rf a0 (IntKind.i64.wrap (z0f .u64 (IntKind.u64.wrap (IntKind.i64.wrap (a1 + a3))) 1)) (IntKind.i64.wrap ((IntKind.i64.wrap ((IntKind.i64.wrap (z0f .u64 (IntKind.u64.wrap (IntKind.i64.wrap (a1 + a3))) 1)) + a2)) - w153)) a3 a4_0_0).bind fun v171 =>
              some v171
            else
              some a0
          else
            some a0
      else
        if (IntKind.i64.wrap (z0f .u64 (IntKind.u64.wrap (IntKind.i64.wrap (a1 + a3))) 1)) < (IntKind.i64.wrap ((IntKind.i64.wrap ((IntKind.i64.wrap (z0f .u64 (IntKind.u64.wrap (IntKind.i64.wrap (a1 + a3))) 1)) + a2)) - w153)) then
          if (IntKind.i64.wrap ((IntKind.i64.wrap ((IntKind.i64.wrap (z0f .u64 (IntKind.u64.wrap (IntKind.i64.wrap (a1 + a3))) 1)) + a2)) - w153)) < a3 then
            (rf a0 (IntKind.i64.wrap (z0f .u64 (IntKind.u64.wrap (IntKind.i64.wrap (a1 + a3))) 1)) (IntKind.i64.wrap ((IntKind.i64.wrap ((IntKind.i64.wrap (z0f .u64 (IntKind.u64.wrap (IntKind.i64.wrap (a1 + a3))) 1)) + a2)) - w153)) a3 a4_0_0).bind fun v172 =>
            some v172
          else
            some a0
        else
          some a0
def zmX (rf : List Int -> Int -> Int -> Int -> SrtC -> Option (List Int)) (a0 : List Int) (a1 : Int) (a2 : Int) (a3 : Int) (a4_0_0 : SrtC) : Option (List Int) :=
  if (IntKind.i64.wrap (a2 - a1)) = 1 then
    z0o (zeQ a0 a1 a4_0_0) LFm (a2, a3)
  else
    if (IntKind.i64.wrap (a3 - a2)) = 1 then
      z0o (zbA a0 a2 a4_0_0) LFm (a1, a2)
    else
      chk (¬ 1 < 0) <|
      if (IntKind.i64.wrap (z0f .u64 (IntKind.u64.wrap (IntKind.i64.wrap (a1 + a3))) 1)) < a2 then
        z0o (z8I a0 a1 a2 a3 a4_0_0 rf) LFm (IntKind.i64.wrap ((IntKind.i64.wrap ((IntKind.i64.wrap (z0f .u64 (IntKind.u64.wrap (IntKind.i64.wrap (a1 + a3))) 1)) + a2)) - a3), IntKind.i64.wrap (z0f .u64 (IntKind.u64.wrap (IntKind.i64.wrap (a1 + a3))) 1))
      else
        z0o (z8I a0 a1 a2 a3 a4_0_0 rf) LFm (a1, a2)
def zpJ : Nat -> List Int -> Int -> Int -> Int -> SrtC -> Option (List Int)
  | 0 => fun _ _ _ _ _ => none
  | k + 1 => zmX (zpJ k)
abbrev zaR (a1 : Int) (a2_0_0 : SrtC) (w45 : Int) : Int × Int × List Int -> Option ((Int × Int × List Int) ⊕ ((Int × List Int) ⊕ List Int))
  | (w55, w56, w57) =>
  if w56 <= a1 then
    (zpJ 5000 w57 w55 (IntKind.i64.wrap (w55 + w45)) w56 a2_0_0).bind fun v59 =>
    z0e (w56, IntKind.i64.wrap (w56 + (IntKind.i64.wrap (2 * w45))), v59)
  else
    z0k <|
    if (IntKind.i64.wrap (w55 + w45)) < a1 then
      (zpJ 5000 w57 w55 (IntKind.i64.wrap (w55 + w45)) a1 a2_0_0).bind fun v60 =>
      z0e (IntKind.i64.wrap (w45 * 2), v60)
    else
      z0e (IntKind.i64.wrap (w45 * 2), w57)
abbrev zcP (a1 : Int) (a2_0_0 : SrtC) : Int × List Int -> Option ((Int × List Int) ⊕ List Int)
  | (w45, w46) =>
  if w45 < a1 then
    z0o (zaR a1 a2_0_0 w45) LFm (0, IntKind.i64.wrap (2 * w45), w46)
  else
    z0k <|
    some w46
abbrev zcQ (a1 : Int) (a2_0_0 : SrtC) : Int × Int × List Int -> Option ((Int × Int × List Int) ⊕ List Int)
  | (w32, w33, w34) =>
  if w33 <= a1 then
    (zt6 w34 w32 w33 a2_0_0).bind fun v36 =>
    z0e (w33, IntKind.i64.wrap (w33 + 20), v36)
  else
    z0k <|
    (zt6 w34 w32 a1 a2_0_0).bind fun v37 =>
    z0o (zcP a1 a2_0_0) LFm (20, v37)
def zwf (a0 : List Int) (a1 : Int) (a2_0_0 : SrtC) : Option (List Int) :=
  z0o (zcQ a1 a2_0_0) LFm (0, 20, a0)
def zt4 (a0 : List Int) (a1_0_0 : SrtC) : Option (List Int) :=
  (zwf a0 (a0.length : Int) a1_0_0).bind fun v2 =>
  some v2
end
end
section
open Go
set_option maxRecDepth 100000
theorem zse (i j : Nat) (h : i + j < 4611686018427387904) : IntKind.i64.wrap (z0f .u64 (IntKind.u64.wrap (IntKind.i64.wrap ((i : Int) + j))) 1) = (((i + j) / 2 : Nat) : Int) := by
  have e1 : IntKind.u64.wrap (IntKind.i64.wrap ((i : Int) + j)) = (((i + j : Nat)) : Int) := by
    rw [z1N (by omega) (by omega), IntKind.wrap_u64]; omega
  have e2 : z0f .u64 (((i + j : Nat)) : Int) 1 = (((i + j) / 2 : Nat) : Int) := by
    unfold z0f
    have : min ((1 : Int).toNat) IntKind.u64.bits = 1 := by decide
    rw [this, Int.fdiv_eq_ediv_of_nonneg _ (by decide)]
    omega
  rw [e1, e2, z1N (by omega) (by omega)]
theorem at0 {α : Type} (A : List α) (x : α) (B : List α) {i : Nat} (h : i = A.length) : atI (A ++ x :: B) (i : Int) = some x := by
  subst h
  rw [z0S (by simp)]; simp
theorem at1 {α : Type} (A : List α) (x y : α) (B : List α) {i : Nat} (h : i = A.length + 1) : atI (A ++ x :: y :: B) (i : Int) = some y := by
  have : A ++ x :: y :: B = (A ++ [x]) ++ y :: B := by simp
  rw [this]
  exact at0 _ _ _ (by simpa using h)
theorem zqp {α : Type} (A : List α) (x z : α) (B : List α) {i : Nat} (h : i = A.length) : (A ++ x :: B).set i z = A ++ z :: B := by
  subst h; simp
theorem ztq {α : Type} (A : List α) (x y z : α) (B : List α) {i : Nat} (h : i = A.length + 1) : (A ++ x :: y :: B).set i z = A ++ x :: z :: B := by
  have : A ++ x :: y :: B = (A ++ [x]) ++ y :: B := by simp
  rw [this, zqp _ _ _ _ (by simpa using h)]; simp
abbrev kvC (K : SrtC) (x : Int) : Int := K.key x
abbrev okS (K : SrtC) (x : Int) : Prop := K.ok x
abbrev zfk (K : SrtC) (l : List Int) : Prop := ∀ x ∈ l, okS K x
abbrev z8k (K : SrtC) (l : List Int) : Prop := l.Pairwise fun x y => kvC K x <= kvC K y
abbrev Bef (U V : List Int) : Prop := ∀ x ∈ U, ∀ y ∈ V, x < y
theorem ztd {K : SrtC} {x y : Int} (hx : okS K x) (hy : okS K y) (h : y < x) : ∃ c, K.cmp x y = some c /\ (c < 0 ↔ kvC K x < kvC K y) := K.law x y hx hy h
theorem z8C {V : List Int} {t : Nat} (h : t < V.length) : V.getD t 0 ∈ V := by
  rw [List.getD, List.getElem?_eq_getElem h, Option.getD_some]; exact List.getElem_mem h
theorem zqN {K : SrtC} {P S R : List Int} {x : Int} (hv : zfk K (S ++ [x])) (hs : z8k K S) (hb : ∀ y ∈ S, y < x) (hl : P.length + S.length < 2 ^ 40) {w : Nat} (hw : w = P.length + S.length) :
    ∃ S', z0o (zeR (P.length : Int) K (w : Int)) LFm ((w : Int), P ++ S ++ x :: R) = some (.inl (((w + 1 : Nat) : Int), P ++ S' ++ R)) /\ z8k K S' /\ S'.Perm (S ++ [x]) := by
  refine Exists.elim (z1z (b := zeR (P.length : Int) K (w : Int)) (fun z => ∃ S1 S2, S1 ++ S2 = S /\ z = (((P.length + S1.length : Nat) : Int), P ++ S1 ++ x :: (S2 ++ R)) /\ ∀ y ∈ S2, kvC K x < kvC K y) (fun z => z.1.toNat)
    (fun r => ∃ S', r = .inl (((w + 1 : Nat) : Int), P ++ S' ++ R) /\ z8k K S' /\ S'.Perm (S ++ [x])) ?_ LFm ((w : Int), P ++ S ++ x :: R) ⟨S, [], by simp, by rw [hw]; simp, by simp⟩ (by simp only [LFm]; omega)) fun r h => by
      obtain ⟨h1, S', rfl, h2, h3⟩ := h
      exact ⟨S', h1, h2, h3⟩
  rintro z ⟨S1, S2, rfl, rfl, h2⟩
  have hlen : S1.length + S2.length < 2 ^ 40 := by rw [List.length_append] at hl; omega
  have fin : (∀ y ∈ S1, kvC K y <= kvC K x) -> z8k K (S1 ++ x :: S2) /\ (S1 ++ x :: S2).Perm (S1 ++ S2 ++ [x]) := fun hle => by
    refine ⟨?_, ?_⟩
    · rw [z8k, List.pairwise_append] at hs ⊢
      refine ⟨hs.1, List.pairwise_cons.2 ⟨fun y hy => by have := h2 y hy; omega, hs.2.1⟩, fun a ha b hb => ?_⟩
      rcases List.mem_cons.1 hb with rfl | hb
      · exact hle a ha
      · exact hs.2.2 a ha b hb
    · rw [List.append_assoc]
      exact List.Perm.append_left _ (List.perm_append_singleton x S2).symm
  simp only [zeR]
  rcases List.eq_nil_or_concat S1 with rfl | ⟨S0, y, rfl⟩
  · right
    rw [if_neg (by simp)]
    obtain ⟨f1, f2⟩ := fin (fun y hy => by simp at hy)
    refine ⟨_, rfl, x :: S2, ?_, by simpa using f1, by simpa using f2⟩
    have : IntKind.i64.wrap ((w : Int) + 1) = ((w + 1 : Nat) : Int) := by rw [z1N (by omega) (by omega)]; omega
    rw [this]; simp
  · simp only [List.concat_eq_append] at *
    have hy : okS K y := hv y (by simp)
    have hx : okS K x := hv x (by simp)
    have e1 : P ++ (S0 ++ [y]) ++ x :: (S2 ++ R) = (P ++ S0) ++ y :: x :: (S2 ++ R) := by simp
    have hn : (P.length + (S0 ++ [y]).length : Nat) = (P ++ S0).length + 1 := by simp; omega
    have hj : IntKind.i64.wrap ((((P ++ S0).length + 1 : Nat) : Int) - 1) = (((P ++ S0).length : Nat) : Int) := by
      rw [z1N (by simp at hlen ⊢; omega) (by simp at hlen ⊢; simp at hl; omega)]; omega
    rw [e1, hn, if_pos (by simp; omega), at1 _ _ _ _ rfl, Option.bind_some, hj, at0 _ _ _ rfl, Option.bind_some]
    obtain ⟨c, hc, hc2⟩ := ztd hx hy (hb y (by simp))
    rw [hc, Option.bind_some]
    by_cases hlt : c < 0
    · left
      rw [if_pos hlt, Int.toNat_natCast, ztq _ _ _ _ _ rfl, at0 _ _ _ rfl, Option.bind_some, Int.toNat_natCast, zqp _ _ _ _ rfl]
      refine ⟨_, rfl, ⟨S0, y :: S2, by simp, ?_, fun z hz => ?_⟩, by simp only; omega⟩
      · simp
      · rcases List.mem_cons.1 hz with rfl | hz
        · exact hc2.1 hlt
        · exact h2 z hz
    · right
      rw [if_neg hlt]
      have hyx : kvC K y <= kvC K x := by have := (not_congr hc2).1 hlt; omega
      obtain ⟨f1, f2⟩ := fin (fun z hz => by
        rcases List.mem_append.1 hz with hz | hz
        · rw [z8k, List.pairwise_append, List.pairwise_append] at hs
          have := hs.1.2.2 z hz y (by simp)
          omega
        · obtain rfl := List.mem_singleton.1 hz; exact hyx)
      refine ⟨_, rfl, S0 ++ [y] ++ x :: S2, ?_, f1, f2⟩
      have : IntKind.i64.wrap ((w : Int) + 1) = ((w + 1 : Nat) : Int) := by rw [z1N (by omega) (by omega)]; omega
      rw [this]; simp
theorem zj2 {K : SrtC} {P X R : List Int} (hv : zfk K X) (hX : X.Pairwise (· < ·)) (hl : P.length + X.length < 2 ^ 40) {a b : Nat} (ha : a = P.length) (hb : b = P.length + X.length) :
    ∃ S, zt6 (P ++ X ++ R) (a : Int) (b : Int) K = some (P ++ S ++ R) /\ z8k K S /\ S.Perm X := by
  subst ha hb
  unfold zt6
  rw [z0W (by omega)]
  cases X with
  | nil =>
    refine ⟨[], ?_, by simp, .refl _⟩
    rw [show LFm = (LFm - 1) + 1 from rfl, z0o]
    simp only [zeS]
    rw [if_neg (by simp; omega)]
    rfl
  | cons x X =>
    refine Exists.elim (z1z (b := zeS (P.length : Int) ((P.length + (x :: X).length : Nat) : Int) K) (fun z => ∃ S U T, S ≠ [] /\ z = (((P.length + S.length : Nat) : Int), P ++ S ++ (U ++ R)) /\ z8k K S /\ T ++ U = x :: X /\ S.Perm T) (fun z => P.length + (x :: X).length + 1 - z.1.toNat)
      (fun r => ∃ S, r = P ++ S ++ R /\ z8k K S /\ S.Perm (x :: X)) ?_ LFm ((P.length + 1 : Nat), P ++ x :: X ++ R) ⟨[x], X, [x], by simp, by simp, by simp, rfl, .refl _⟩ (by simp only [LFm]; omega)) fun r h => by
        obtain ⟨h1, S, rfl, h2, h3⟩ := h
        exact ⟨S, h1, h2, h3⟩
    rintro z ⟨S, U, T, h0, rfl, h1, hT, hST⟩
    have h2 : (S ++ U).Perm (x :: X) := by rw [← hT]; exact hST.append_right U
    have hlen := h2.length_eq
    rw [List.length_append] at hlen
    simp only [zeS]
    cases U with
    | nil =>
      right
      rw [if_neg (by simp at hlen ⊢; omega)]
      exact ⟨_, rfl, S, by simp, h1, by simpa using h2⟩
    | cons u U =>
      left
      rw [if_pos (by simp at hlen ⊢; omega)]
      have hvS : zfk K (S ++ [u]) := fun y hy => hv y (h2.mem_iff.1 (by
        rcases List.mem_append.1 hy with hy | hy
        · exact List.mem_append.2 (.inl hy)
        · obtain rfl := List.mem_singleton.1 hy; simp))
      have hbu : ∀ y ∈ S, y < u := fun y hy => by
        have hp : (T ++ u :: U).Pairwise (· < ·) := by rw [hT]; exact hX
        exact (List.pairwise_append.1 hp).2.2 y (hST.mem_iff.1 hy) u (List.mem_cons_self ..)
      obtain ⟨S', e, s1, s2⟩ := zqN (P := P) (S := S) (R := U ++ R) (x := u) hvS h1 hbu (by simp at hlen hl ⊢; omega) rfl
      have e' : P ++ S ++ (u :: U ++ R) = P ++ S ++ u :: (U ++ R) := rfl
      rw [e', e]
      have hS' := s2.length_eq
      simp at hS'
      refine ⟨_, rfl, ⟨S', U, T ++ [u], fun h => by rw [h] at hS'; simp at hS', ?_, s1, by rw [List.append_assoc]; exact hT, s2.trans (hST.append_right [u])⟩, ?_⟩
      · simp only [hS']
        congr 1
      · have := congrArg List.length hT
        simp at this hlen ⊢; omega
theorem znW {P V R : List Int} {x : Int} (hl : P.length + V.length < 2 ^ 40) {w : Nat} (hw : w = P.length + V.length + 1) :
    z0o (zeP (w : Int)) LFm ((P.length : Int), P ++ x :: (V ++ R)) = some (P ++ V ++ x :: R) := by
  refine z0K (s := ((P.length : Int), P ++ x :: (V ++ R))) V.length (fun k => (((P.length + k : Nat) : Int), (P ++ V.take k) ++ x :: (V.drop k ++ R))) (by simp) (by simp only [LFm]; omega) (fun k hk => ?_) ?_
  · have hlk : P.length + k = (P ++ V.take k).length := by rw [List.length_append, List.length_take]; omega
    simp only [zeP]
    rw [z1N (x := (w : Int) - 1) (by omega) (by omega), if_pos (by omega)]
    have hj : IntKind.i64.wrap (((P.length + k : Nat) : Int) + 1) = ((P.length + k + 1 : Nat) : Int) := by rw [z1N (by omega) (by omega)]; omega
    rw [hj, List.drop_eq_getElem_cons hk, List.cons_append, hlk, at1 _ _ _ _ rfl, Option.bind_some, at0 _ _ _ rfl, Option.bind_some, Int.toNat_natCast, zqp _ _ _ _ rfl, at1 _ _ _ _ rfl, Option.bind_some, Int.toNat_natCast, ztq _ _ _ _ _ rfl]
    rw [List.take_succ_eq_append_getElem hk]
    have e2 : P.length + (k + 1) = (P ++ V.take k).length + 1 := by omega
    rw [e2]
    simp only [List.append_assoc, List.cons_append, List.nil_append]
  · simp only [zeP]
    rw [z1N (x := (w : Int) - 1) (by omega) (by omega), if_neg (by omega)]
    simp
theorem zkL {P V R : List Int} {x : Int} (hl : P.length + V.length < 2 ^ 40) :
    z0o (zbz (P.length : Int)) LFm (((P.length + V.length : Nat) : Int), P ++ V ++ x :: R) = some (P ++ x :: (V ++ R)) := by
  refine z0K (s := (((P.length + V.length : Nat) : Int), P ++ V ++ x :: R)) V.length (fun k => (((P.length + (V.length - k) : Nat) : Int), (P ++ V.take (V.length - k)) ++ x :: (V.drop (V.length - k) ++ R))) (by simp) (by simp only [LFm]; omega) (fun k hk => ?_) ?_
  · obtain ⟨j, hj⟩ : ∃ j, V.length - k = j + 1 := ⟨V.length - k - 1, by omega⟩
    have hjl : j < V.length := by omega
    have e3 : V.length - (k + 1) = j := by omega
    have hlk : P.length + j = (P ++ V.take j).length := by rw [List.length_append, List.length_take]; omega
    rw [hj, e3]
    simp only [zbz]
    rw [if_pos (by omega)]
    have hw : IntKind.i64.wrap (((P.length + (j + 1) : Nat) : Int) - 1) = ((P.length + j : Nat) : Int) := by rw [z1N (by omega) (by omega)]; omega
    have e1 : (P ++ V.take (j + 1)) ++ x :: (V.drop (j + 1) ++ R) = (P ++ V.take j) ++ V[j] :: x :: (V.drop (j + 1) ++ R) := by
      rw [List.take_succ_eq_append_getElem hjl]; simp only [List.append_assoc, List.cons_append, List.nil_append]
    have e2 : P.length + (j + 1) = (P ++ V.take j).length + 1 := by omega
    rw [hw, e1, hlk, e2, at0 _ _ _ rfl, Option.bind_some, at1 _ _ _ _ rfl, Option.bind_some, Int.toNat_natCast, ztq _ _ _ _ _ rfl, at0 _ _ _ rfl, Option.bind_some, Int.toNat_natCast, zqp _ _ _ _ rfl, List.drop_eq_getElem_cons hjl]
    rfl
  · simp only [zbz]
    rw [if_neg (by omega)]
    simp
end
section
open Go
set_option maxRecDepth 100000
theorem zaC {P X M Y R : List Int} (K : SrtC) (hxy : X.length = Y.length) (hl : P.length + X.length + M.length + Y.length < 2 ^ 40) {a b n : Nat} (ha : a = P.length) (hb : b = P.length + X.length + M.length) (hn : n = X.length) :
    zst (P ++ (X ++ (M ++ (Y ++ R)))) (a : Int) (b : Int) (n : Int) K = some (P ++ (Y ++ (M ++ (X ++ R)))) := by
  subst ha hb hn
  unfold zst
  refine z0K (s := ((0 : Int), P ++ (X ++ (M ++ (Y ++ R))))) X.length (fun k => ((k : Int), P ++ (Y.take k ++ (X.drop k ++ (M ++ (X.take k ++ (Y.drop k ++ R))))))) (by simp) (by simp only [LFm]; omega) (fun k hk => ?_) ?_
  · have hk' : k < Y.length := by omega
    simp only [zhO]
    have e1 : IntKind.i64.wrap ((((P.length + X.length + M.length : Nat)) : Int) + (k : Int)) = ((P.length + X.length + M.length + k : Nat) : Int) := by rw [z1N (by omega) (by omega)]; omega
    have e2 : IntKind.i64.wrap ((P.length : Int) + (k : Int)) = ((P.length + k : Nat) : Int) := by rw [z1N (by omega) (by omega)]; omega
    rw [if_pos (by omega), e1, e2, z0W (by omega), List.drop_eq_getElem_cons hk, List.drop_eq_getElem_cons hk']
    have f1 : P ++ (Y.take k ++ (X[k] :: X.drop (k + 1) ++ (M ++ (X.take k ++ (Y[k] :: Y.drop (k + 1) ++ R))))) = (P ++ Y.take k) ++ X[k] :: (X.drop (k + 1) ++ (M ++ (X.take k ++ Y[k] :: (Y.drop (k + 1) ++ R)))) := by simp only [List.append_assoc, List.cons_append]
    have l1 : P.length + k = (P ++ Y.take k).length := by rw [List.length_append, List.length_take]; omega
    have g : ∀ z : Int, (P ++ Y.take k) ++ z :: (X.drop (k + 1) ++ (M ++ (X.take k ++ Y[k] :: (Y.drop (k + 1) ++ R)))) = ((P ++ Y.take k) ++ z :: (X.drop (k + 1) ++ (M ++ X.take k))) ++ Y[k] :: (Y.drop (k + 1) ++ R) := fun z => by simp only [List.append_assoc, List.cons_append]
    have l2 : ∀ z : Int, P.length + X.length + M.length + k = ((P ++ Y.take k) ++ z :: (X.drop (k + 1) ++ (M ++ X.take k))).length := fun z => by
      simp only [List.length_append, List.length_cons, List.length_take, List.length_drop]; omega
    rw [f1, l1]
    conv => lhs; rw [show (P ++ List.take k Y ++ X[k] :: (List.drop (k + 1) X ++ (M ++ (List.take k X ++ Y[k] :: (List.drop (k + 1) Y ++ R))))) = _ from g X[k]]
    rw [at0 _ _ _ (l2 X[k]), Option.bind_some, ← g, at0 _ _ _ rfl, Option.bind_some, Int.toNat_natCast, zqp _ _ _ _ rfl, g, at0 _ _ _ (l2 Y[k]), Option.bind_some, Int.toNat_natCast, zqp _ _ _ _ (l2 Y[k])]
    rw [List.take_succ_eq_append_getElem hk, List.take_succ_eq_append_getElem hk']
    simp only [List.append_assoc, List.cons_append, List.nil_append]
  · simp only [zhO]
    rw [if_neg (by omega)]
    have e3 : Y.take X.length = Y := List.take_of_length_le (by omega)
    have e4 : Y.drop X.length = [] := List.drop_of_length_le (by omega)
    simp [e3, e4]
theorem rotate {P U V R : List Int} (K : SrtC) (hU : U ≠ []) (hV : V ≠ []) (hl : P.length + U.length + V.length < 2 ^ 40) {a m b : Nat} (ha : a = P.length) (hm : m = P.length + U.length) (hb : b = P.length + U.length + V.length) :
    zt5 (P ++ (U ++ (V ++ R))) (a : Int) (m : Int) (b : Int) K = some (P ++ (V ++ (U ++ R))) := by
  subst ha hm hb
  unfold zt5
  have e1 : IntKind.i64.wrap (((P.length + U.length : Nat) : Int) - (P.length : Int)) = (U.length : Int) := by rw [z1N (by omega) (by omega)]; omega
  have e2 : IntKind.i64.wrap (((P.length + U.length + V.length : Nat) : Int) - ((P.length + U.length : Nat) : Int)) = (V.length : Int) := by rw [z1N (by omega) (by omega)]; omega
  rw [e1, e2]
  refine zez (s := ((U.length : Int), (V.length : Int), P ++ (U ++ (V ++ R)))) (fun z => ∃ (A X Y B : List Int), X ≠ [] /\ Y ≠ [] /\ A.length + X.length = P.length + U.length /\ A.length + X.length + Y.length <= P.length + U.length + V.length /\ z = ((X.length : Int), (Y.length : Int), A ++ (X ++ (Y ++ B))) /\ A ++ (Y ++ (X ++ B)) = P ++ (V ++ (U ++ R))) (fun z => z.1.toNat + z.2.1.toNat) ⟨P, U, V, R, hU, hV, rfl, by omega, rfl, rfl⟩ (by simp only [LFm]; omega) ?_
  rintro z ⟨A, X, Y, B, hX, hY, hm, hb, rfl, hfin⟩
  have x0 := List.length_pos_iff.2 hX
  have y0 := List.length_pos_iff.2 hY
  have hmi : IntKind.i64.wrap (((P.length + U.length : Nat) : Int) - (X.length : Int)) = (A.length : Int) := by rw [z1N (by omega) (by omega)]; omega
  simp only [zmY]
  by_cases h1 : (X.length : Int) = (Y.length : Int)
  · right
    rw [if_pos h1, hmi]
    have := zaC (P := A) (X := X) (M := []) (Y := Y) (R := B) K (by omega) (by simp; omega) rfl (b := P.length + U.length) (by simp; omega) rfl
    rw [List.nil_append, List.nil_append] at this
    rw [this, Option.bind_some, hfin]
  · left
    rw [if_neg h1]
    by_cases h2 : (Y.length : Int) < (X.length : Int)
    · rw [if_pos h2, hmi]
      have hx1 : (X.take Y.length).length = Y.length := by rw [List.length_take]; omega
      have := zaC (P := A) (X := X.take Y.length) (M := X.drop Y.length) (Y := Y) (R := B) K hx1 (by simp only [List.length_take, List.length_drop]; omega) rfl (b := P.length + U.length) (by simp only [List.length_take, List.length_drop]; omega) (n := Y.length) hx1.symm
      have e : A ++ (X.take Y.length ++ (X.drop Y.length ++ (Y ++ B))) = A ++ (X ++ (Y ++ B)) := by
        rw [← List.append_assoc (X.take Y.length), List.take_append_drop]
      rw [e] at this
      rw [this, Option.bind_some]
      have hw : IntKind.i64.wrap ((X.length : Int) - (Y.length : Int)) = ((X.drop Y.length).length : Int) := by rw [z1N (by omega) (by omega), List.length_drop]; omega
      refine ⟨_, rfl, ⟨A ++ Y, X.drop Y.length, X.take Y.length, B, ?_, ?_, ?_, ?_, ?_, ?_⟩, ?_⟩
      · intro h; have := congrArg List.length h; simp at this; omega
      · intro h; rw [h] at hx1; simp at hx1; omega
      · rw [List.length_append, List.length_drop]; omega
      · rw [List.length_append, List.length_drop, hx1]; omega
      · rw [hw, hx1]; simp only [List.append_assoc]
      · rw [← hfin, List.append_assoc, ← List.append_assoc (X.take Y.length), List.take_append_drop]
      · simp only [hw, List.length_drop, Int.toNat_natCast]; omega
    · rw [if_neg h2, hmi]
      have hlt : X.length < Y.length := by omega
      have hb1 : IntKind.i64.wrap (IntKind.i64.wrap (((P.length + U.length : Nat) : Int) + (Y.length : Int)) - (X.length : Int)) = ((P.length + U.length + Y.length - X.length : Nat) : Int) := by
        rw [z1N (x := ((P.length + U.length : Nat) : Int) + (Y.length : Int)) (by omega) (by omega), z1N (by omega) (by omega)]; omega
      have hy1 : (Y.drop (Y.length - X.length)).length = X.length := by rw [List.length_drop]; omega
      have := zaC (P := A) (X := X) (M := Y.take (Y.length - X.length)) (Y := Y.drop (Y.length - X.length)) (R := B) K hy1.symm (by simp only [List.length_take, List.length_drop]; omega) rfl (b := P.length + U.length + Y.length - X.length) (by simp only [List.length_take]; omega) rfl
      have e : A ++ (X ++ (Y.take (Y.length - X.length) ++ (Y.drop (Y.length - X.length) ++ B))) = A ++ (X ++ (Y ++ B)) := by
        rw [← List.append_assoc (Y.take (Y.length - X.length)), List.take_append_drop]
      rw [e] at this
      rw [hb1, this, Option.bind_some]
      have hw : IntKind.i64.wrap ((Y.length : Int) - (X.length : Int)) = ((Y.take (Y.length - X.length)).length : Int) := by rw [z1N (by omega) (by omega), List.length_take]; omega
      refine ⟨_, rfl, ⟨A, Y.drop (Y.length - X.length), Y.take (Y.length - X.length), X ++ B, ?_, ?_, ?_, ?_, ?_, ?_⟩, ?_⟩
      · intro h; rw [h] at hy1; simp at hy1; omega
      · intro h; have := congrArg List.length h; simp at this; omega
      · rw [hy1]; exact hm
      · rw [hy1, List.length_take]; omega
      · rw [hw, hy1]
      · rw [← hfin, ← List.append_assoc (Y.take (Y.length - X.length)), List.take_append_drop]
      · simp only [hw, List.length_take, Int.toNat_natCast]; omega
theorem zmS {ρ : Type} {b : Int × Int -> Option ((Int × Int) ⊕ ρ)} {p : Nat -> Bool} {lo hi : Nat} {Post : ρ -> Prop} (hlh : lo <= hi) (h40 : hi < 2 ^ 40) (hmono : ∀ i j, lo <= i -> i < j -> j < hi -> p j = true -> p i = true)
    (step : ∀ i j : Nat, lo <= i -> i < j -> j <= hi -> b ((i : Int), (j : Int)) = if p ((i + j) / 2) = true then z0e ((((i + j) / 2 + 1 : Nat) : Int), (j : Int)) else z0e ((i : Int), (((i + j) / 2 : Nat) : Int)))
    (last : ∀ s, lo <= s -> s <= hi -> (∀ k, lo <= k -> k < s -> p k = true) -> (∀ k, s <= k -> k < hi -> p k = false) -> ∃ r, b ((s : Int), (s : Int)) = some (.inr r) /\ Post r) :
    ∃ r, z0o b LFm ((lo : Int), (hi : Int)) = some r /\ Post r := by
  refine z1z (fun z => ∃ i j : Nat, lo <= i /\ i <= j /\ j <= hi /\ z = ((i : Int), (j : Int)) /\ (∀ k, lo <= k -> k < i -> p k = true) /\ (∀ k, j <= k -> k < hi -> p k = false)) (fun z => (z.2 - z.1).toNat) Post ?_ LFm _ ⟨lo, hi, by omega, hlh, by omega, rfl, fun k h1 h2 => by omega, fun k h1 h2 => by omega⟩ (by simp only [LFm]; omega)
  rintro z ⟨i, j, h1, h2, h3, rfl, h4, h5⟩
  by_cases hij : i < j
  · left
    rw [step i j h1 hij h3]
    by_cases hp : p ((i + j) / 2) = true
    · rw [if_pos hp]
      refine ⟨_, rfl, ⟨(i + j) / 2 + 1, j, by omega, by omega, h3, rfl, fun k k1 k2 => ?_, h5⟩, by simp only; omega⟩
      by_cases e : k = (i + j) / 2
      · rw [e]; exact hp
      · exact hmono k ((i + j) / 2) k1 (by omega) (by omega) hp
    · rw [if_neg hp]
      refine ⟨_, rfl, ⟨i, (i + j) / 2, h1, by omega, by omega, rfl, h4, fun k k1 k2 => ?_⟩, by simp only; omega⟩
      by_cases e : k = (i + j) / 2
      · rw [e]; simpa using hp
      · cases hk : p k with
        | false => rfl
        | true => exact absurd (hmono ((i + j) / 2) k (by omega) (by omega) k2 hk) hp
  · right
    obtain rfl : i = j := by omega
    exact last i h1 h3 h4 h5
end
section
open Go
set_option maxRecDepth 100000
theorem atM {A V B : List Int} {t i : Nat} (h : t < V.length) (hi : i = A.length + t) : atI (A ++ (V ++ B)) (i : Int) = some (V.getD t 0) := by
  subst hi
  rw [z0S (by simp; omega)]
  congr 1
  rw [List.getElem_append_right (by omega)]
  have : A.length + t - A.length = t := by omega
  simp only [this]
  rw [List.getElem_append_left h, List.getD, List.getElem?_eq_getElem h, Option.getD_some]
theorem zt3 {K : SrtC} {V : List Int} (hv : zfk K V) {t : Nat} (h : t < V.length) : okS K (V.getD t 0) := by
  rw [List.getD, List.getElem?_eq_getElem h, Option.getD_some]; exact hv _ (List.getElem_mem h)
theorem z5K {K : SrtC} {V : List Int} (hs : z8k K V) {i j : Nat} (hij : i <= j) (hj : j < V.length) : kvC K (V.getD i 0) <= kvC K (V.getD j 0) := by
  rw [List.getD, List.getD, List.getElem?_eq_getElem hj, List.getElem?_eq_getElem (show i < V.length by omega), Option.getD_some, Option.getD_some]
  by_cases e : i = j
  · subst e; omega
  · exact List.pairwise_iff_getElem.1 hs i j (by omega) hj (by omega)
theorem z4K {V : List Int} {k : Nat} {x : Int} (h : x ∈ V.take k) : ∃ i, i < k /\ i < V.length /\ x = V.getD i 0 := by
  obtain ⟨i, hi, rfl⟩ := List.getElem_of_mem h
  have hi' : i < k /\ i < V.length := by rw [List.length_take] at hi; omega
  refine ⟨i, hi'.1, hi'.2, ?_⟩
  rw [List.getElem_take, List.getD, List.getElem?_eq_getElem hi'.2, Option.getD_some]
theorem z4L {V : List Int} {k : Nat} {x : Int} (h : x ∈ V.drop k) : ∃ i, k <= i /\ i < V.length /\ x = V.getD i 0 := by
  obtain ⟨i, hi, rfl⟩ := List.getElem_of_mem h
  have hi' : k + i < V.length := by rw [List.length_drop] at hi; omega
  refine ⟨k + i, by omega, hi', ?_⟩
  rw [List.getElem_drop, List.getD, List.getElem?_eq_getElem hi', Option.getD_some]
theorem zm6 {K : SrtC} {V1 V2 : List Int} {x : Int} (hs : z8k K (V1 ++ V2)) (h1 : ∀ y ∈ V1, kvC K y <= kvC K x) (h2 : ∀ y ∈ V2, kvC K x <= kvC K y) : z8k K (V1 ++ x :: V2) := by
  rw [z8k, List.pairwise_append] at hs ⊢
  refine ⟨hs.1, List.pairwise_cons.2 ⟨h2, hs.2.1⟩, fun a ha b hb => ?_⟩
  rcases List.mem_cons.1 hb with rfl | hb
  · exact h1 a ha
  · exact hs.2.2 a ha b hb
def tl3 (rf : List Int -> Int -> Int -> Int -> SrtC -> Option (List Int)) (K : SrtC) (M E b : Int) (v : List Int) : Option (List Int) :=
  if M < E then (if E < b then (rf v M E b K).bind fun r => some r else some v) else some v
def tl2 (rf : List Int -> Int -> Int -> Int -> SrtC -> Option (List Int)) (K : SrtC) (a s M E b : Int) (v : List Int) : Option (List Int) :=
  if a < s then (if s < M then (rf v a s M K).bind fun r => tl3 rf K M E b r else tl3 rf K M E b v) else tl3 rf K M E b v
def tl1 (rf : List Int -> Int -> Int -> Int -> SrtC -> Option (List Int)) (K : SrtC) (a m s M E b : Int) (v : List Int) : Option (List Int) :=
  if s < m then (if m < E then (zt5 v s m E K).bind fun r => tl2 rf K a s M E b r else tl2 rf K a s M E b v) else tl2 rf K a s M E b v
def zfe (rf : List Int -> Int -> Int -> Int -> SrtC -> Option (List Int)) (K : SrtC) (N : Nat) : Prop :=
  ∀ {P U V R : List Int} {a m b : Nat}, U ≠ [] -> V ≠ [] -> zfk K (U ++ V) -> z8k K U -> z8k K V -> Bef U V -> P.length + U.length + V.length < 2 ^ 40 -> U.length + V.length <= N -> a = P.length -> m = P.length + U.length -> b = P.length + U.length + V.length ->
    ∃ W, rf (P ++ (U ++ (V ++ R))) (a : Int) (m : Int) (b : Int) K = some (P ++ (W ++ R)) /\ z8k K W /\ W.Perm (U ++ V)
theorem zgr {rf : List Int -> Int -> Int -> Int -> SrtC -> Option (List Int)} {K : SrtC} {N : Nat} (hrf : zfe rf K N) {P U V R : List Int} {a m b : Nat} (hv : zfk K (U ++ V)) (hsU : z8k K U) (hsV : z8k K V) (hBf : Bef U V) (hl : P.length + U.length + V.length < 2 ^ 40) (hN : U.length + V.length <= N) (ha : a = P.length) (hm : m = P.length + U.length) (hb : b = P.length + U.length + V.length)
    (f : List Int -> Option (List Int)) :
    ∃ W, (if (a : Int) < (m : Int) then (if (m : Int) < (b : Int) then (rf (P ++ (U ++ (V ++ R))) (a : Int) (m : Int) (b : Int) K).bind f else f (P ++ (U ++ (V ++ R)))) else f (P ++ (U ++ (V ++ R)))) = f (P ++ (W ++ R)) /\ z8k K W /\ W.Perm (U ++ V) := by
  by_cases h1 : U = []
  · subst h1
    rw [if_neg (by simp at hm; omega)]
    exact ⟨V, by simp, hsV, .refl _⟩
  · have h1' := List.length_pos_iff.2 h1
    rw [if_pos (by omega)]
    by_cases h2 : V = []
    · subst h2
      rw [if_neg (by simp at hb; omega)]
      exact ⟨U, by simp, hsU, by simp⟩
    · have h2' := List.length_pos_iff.2 h2
      rw [if_pos (by omega)]
      obtain ⟨W, e, w1, w2⟩ := hrf h1 h2 hv hsU hsV hBf hl hN ha hm hb (R := R)
      exact ⟨W, by rw [e, Option.bind_some], w1, w2⟩
theorem zrH {rf : List Int -> Int -> Int -> Int -> SrtC -> Option (List Int)} {K : SrtC} {N : Nat} (hrf : zfe rf K N) {P U1 U2 V1 V2 R : List Int} {a m b s M E : Nat} (hv : zfk K (U1 ++ U2 ++ (V1 ++ V2))) (hsU : z8k K (U1 ++ U2)) (hsV : z8k K (V1 ++ V2)) (hBf : Bef (U1 ++ U2) (V1 ++ V2)) (hl : P.length + U1.length + U2.length + V1.length + V2.length < 2 ^ 40)
    (h1 : U1.length + V1.length <= N) (h2 : U2.length + V2.length <= N) (ha : a = P.length) (hs : s = a + U1.length) (hm : m = s + U2.length) (hE : E = m + V1.length) (hb : b = E + V2.length) (hM : M = s + V1.length)
    (c1 : ∀ x ∈ U1, ∀ y ∈ V2, kvC K x <= kvC K y) (c2 : ∀ x ∈ V1, ∀ y ∈ U2, kvC K x <= kvC K y) :
    ∃ W, tl1 rf K (a : Int) (m : Int) (s : Int) (M : Int) (E : Int) (b : Int) (P ++ (U1 ++ U2 ++ (V1 ++ V2 ++ R))) = some (P ++ (W ++ R)) /\ z8k K W /\ W.Perm (U1 ++ U2 ++ (V1 ++ V2)) := by
  have e0 : tl1 rf K (a : Int) (m : Int) (s : Int) (M : Int) (E : Int) (b : Int) (P ++ (U1 ++ U2 ++ (V1 ++ V2 ++ R))) = tl2 rf K (a : Int) (s : Int) (M : Int) (E : Int) (b : Int) (P ++ (U1 ++ (V1 ++ (U2 ++ (V2 ++ R))))) := by
    unfold tl1
    by_cases hu : U2 = []
    · subst hu
      rw [if_neg (by simp at hm; omega)]; simp
    · have hu' := List.length_pos_iff.2 hu
      rw [if_pos (by omega)]
      by_cases hw : V1 = []
      · subst hw
        rw [if_neg (by simp at hE; omega)]; simp
      · have hw' := List.length_pos_iff.2 hw
        rw [if_pos (by omega)]
        have := rotate (P := P ++ U1) (U := U2) (V := V1) (R := V2 ++ R) K hu hw (by simp; omega) (a := s) (m := m) (b := E) (by simp; omega) (by simp; omega) (by simp; omega)
        have e : P ++ U1 ++ (U2 ++ (V1 ++ (V2 ++ R))) = P ++ (U1 ++ U2 ++ (V1 ++ V2 ++ R)) := by simp only [List.append_assoc]
        rw [e] at this
        rw [this, Option.bind_some]
        simp only [List.append_assoc]
  rw [e0]
  have q1 := List.pairwise_append.1 hsU
  have q2 := List.pairwise_append.1 hsV
  have m1 : ∀ x ∈ U1 ++ V1, x ∈ U1 ++ U2 ++ (V1 ++ V2) := fun x hx => by
    simp only [List.mem_append] at *
    rcases hx with h | h
    · exact .inl (.inl h)
    · exact .inr (.inl h)
  have m2 : ∀ x ∈ U2 ++ V2, x ∈ U1 ++ U2 ++ (V1 ++ V2) := fun x hx => by
    simp only [List.mem_append] at *
    rcases hx with h | h
    · exact .inl (.inr h)
    · exact .inr (.inr h)
  obtain ⟨L, e1, l1, l2⟩ := zgr (R := U2 ++ (V2 ++ R)) hrf (P := P) (U := U1) (V := V1) (fun x hx => hv x (m1 x hx)) q1.1 q2.1 (fun x hx y hy => hBf x (List.mem_append.2 (.inl hx)) y (List.mem_append.2 (.inl hy))) (by omega) h1 ha (m := s) (by omega) (b := M) (by omega) (tl3 rf K (M : Int) (E : Int) (b : Int))
  have hL := l2.length_eq
  rw [List.length_append] at hL
  unfold tl2
  rw [e1]
  obtain ⟨Rw, e2, r1, r2⟩ := zgr (R := R) hrf (P := P ++ L) (U := U2) (V := V2) (fun x hx => hv x (m2 x hx)) q1.2.1 q2.2.1 (fun x hx y hy => hBf x (List.mem_append.2 (.inr hx)) y (List.mem_append.2 (.inr hy))) (by rw [List.length_append]; omega) h2 (a := M) (by rw [List.length_append]; omega) (m := E) (by rw [List.length_append]; omega) (b := b) (by rw [List.length_append]; omega) (fun r => some r)
  unfold tl3
  have e : P ++ (L ++ (U2 ++ (V2 ++ R))) = P ++ L ++ (U2 ++ (V2 ++ R)) := by simp only [List.append_assoc]
  rw [e, e2]
  refine ⟨L ++ Rw, by simp only [List.append_assoc], ?_, ?_⟩
  · refine List.pairwise_append.2 ⟨l1, r1, fun x hx y hy => ?_⟩
    have hx' := l2.mem_iff.1 hx
    have hy' := r2.mem_iff.1 hy
    rcases List.mem_append.1 hx' with hx' | hx' <;> rcases List.mem_append.1 hy' with hy' | hy'
    · exact q1.2.2 x hx' y hy'
    · exact c1 x hx' y hy'
    · exact c2 x hx' y hy'
    · exact q2.2.2 x hx' y hy'
  · refine (l2.append r2).trans ?_
    have : (U1 ++ V1 ++ (U2 ++ V2)).Perm (U1 ++ U2 ++ (V1 ++ V2)) := by
      simp only [List.append_assoc]
      refine List.Perm.append_left U1 ?_
      rw [← List.append_assoc, ← List.append_assoc]
      exact List.perm_append_comm.append_right V2
    exact this
theorem zg5 {rf : List Int -> Int -> Int -> Int -> SrtC -> Option (List Int)} {K : SrtC} {N : Nat} (hrf : zfe rf K N) {P U V R : List Int} (hv : zfk K (U ++ V)) (hsU : z8k K U) (hsV : z8k K V) (hBf : Bef U V) (hl : P.length + U.length + V.length < 2 ^ 40) {a m b M lo hi : Nat} (ha : a = P.length) (hm : m = P.length + U.length) (hb : b = P.length + U.length + V.length)
    (hU2 : 2 <= U.length) (hV2 : 2 <= V.length) (hN : U.length + V.length <= N + 1) (hM : M = (a + b) / 2) (hlo : (lo = a /\ m <= M) ∨ (lo = M + m - b /\ M < m)) (hhi : (hi = m /\ m <= M) ∨ (hi = M /\ M < m)) :
    ∃ r, z0o (z8I (P ++ (U ++ (V ++ R))) (a : Int) (m : Int) (b : Int) K rf) LFm ((lo : Int), (hi : Int)) = some r /\ ∃ W, r = P ++ (W ++ R) /\ z8k K W /\ W.Perm (U ++ V) := by
  have hvU : zfk K U := fun x hx => hv x (List.mem_append.2 (.inl hx))
  have hvV : zfk K V := fun x hx => hv x (List.mem_append.2 (.inr hx))
  have cM : IntKind.i64.wrap (z0f .u64 (IntKind.u64.wrap (IntKind.i64.wrap ((a : Int) + b))) 1) = (M : Int) := by rw [zse _ _ (by omega), hM]
  have cN : IntKind.i64.wrap ((M : Int) + (m : Int)) = ((M + m : Nat) : Int) := by rw [z1N (by omega) (by omega)]; omega
  have cP : IntKind.i64.wrap (((M + m : Nat) : Int) - 1) = ((M + m - 1 : Nat) : Int) := by rw [z1N (by omega) (by omega)]; omega
  refine zmS (p := fun c => decide (kvC K (U.getD (c - a) 0) <= kvC K (V.getD (M + m - 1 - c - m) 0))) (by omega) (by omega) (fun i j h1 h2 h3 hp => ?_) (fun i j h1 h2 h3 => ?_) (fun s h1 h2 h3 h4 => ?_)
  · simp only [decide_eq_true_eq] at hp ⊢
    have k1 := z5K hsU (i := i - a) (j := j - a) (by omega) (by omega)
    have k2 := z5K hsV (i := M + m - 1 - j - m) (j := M + m - 1 - i - m) (by omega) (by omega)
    omega
  · simp only [z8I]
    rw [if_pos (by omega), z0n _ (by omega), cM, zse i j (by omega), cN, cP]
    have hc : (i + j) / 2 < hi /\ lo <= (i + j) / 2 := by omega
    have w1 : IntKind.i64.wrap (((M + m - 1 : Nat) : Int) - (((i + j) / 2 : Nat) : Int)) = ((M + m - 1 - (i + j) / 2 : Nat) : Int) := by rw [z1N (by omega) (by omega)]; omega
    have e1 : P ++ (U ++ (V ++ R)) = (P ++ U) ++ (V ++ R) := by simp only [List.append_assoc]
    have g1 : atI (P ++ (U ++ (V ++ R))) ((M + m - 1 - (i + j) / 2 : Nat) : Int) = some (V.getD (M + m - 1 - (i + j) / 2 - m) 0) := by
      rw [e1]; exact atM (by omega) (by rw [List.length_append]; omega)
    have g2 : atI (P ++ (U ++ (V ++ R))) (((i + j) / 2 : Nat) : Int) = some (U.getD ((i + j) / 2 - a) 0) := atM (by omega) (by omega)
    rw [w1, g1, Option.bind_some, g2, Option.bind_some]
    obtain ⟨c, hc1, hc2⟩ := ztd (zt3 hvV (t := M + m - 1 - (i + j) / 2 - m) (by omega)) (zt3 hvU (t := (i + j) / 2 - a) (by omega)) (hBf _ (z8C (by omega)) _ (z8C (by omega)))
    rw [hc1, Option.bind_some]
    simp only [decide_eq_true_eq]
    by_cases h : c < 0
    · have := hc2.1 h
      rw [if_pos h, if_neg (by omega)]
    · have := (not_congr hc2).1 h
      rw [if_neg h, if_pos (by omega), z0W (by omega)]
  · have wE : IntKind.i64.wrap (((M + m : Nat) : Int) - (s : Int)) = ((M + m - s : Nat) : Int) := by rw [z1N (by omega) (by omega)]; omega
    have hx : (z8I (P ++ (U ++ (V ++ R))) (a : Int) (m : Int) (b : Int) K rf) ((s : Int), (s : Int)) = z0k (tl1 rf K (a : Int) (m : Int) (s : Int) (M : Int) ((M + m - s : Nat) : Int) (b : Int) (P ++ (U ++ (V ++ R)))) := by
      simp only [z8I]
      rw [if_neg (by omega), cM, cN, wE]
      rfl
    have hsa : a <= s /\ s <= m /\ s <= M := by omega
    have tU : U.take (s - a) ++ U.drop (s - a) = U := List.take_append_drop ..
    have tV : V.take (M - s) ++ V.drop (M - s) = V := List.take_append_drop ..
    have lU1 : (U.take (s - a)).length = s - a := by rw [List.length_take]; omega
    have lU2 : (U.drop (s - a)).length = m - s := by rw [List.length_drop]; omega
    have lV1 : (V.take (M - s)).length = M - s := by rw [List.length_take]; omega
    have lV2 : (V.drop (M - s)).length = b - (M + m - s) := by rw [List.length_drop]; omega
    have c1 : ∀ x ∈ U.take (s - a), ∀ y ∈ V.drop (M - s), kvC K x <= kvC K y := fun x hx y hy => by
      obtain ⟨i, i1, i2, rfl⟩ := z4K hx
      obtain ⟨j, j1, j2, rfl⟩ := z4L hy
      have hs1 : lo <= s - 1 /\ s - 1 < s := by omega
      have := h3 (s - 1) hs1.1 hs1.2
      simp only [decide_eq_true_eq] at this
      have k1 := z5K hsU (i := i) (j := s - 1 - a) (by omega) (by omega)
      have k2 := z5K hsV (i := M + m - 1 - (s - 1) - m) (j := j) (by omega) (by omega)
      omega
    have c2 : ∀ x ∈ V.take (M - s), ∀ y ∈ U.drop (s - a), kvC K x <= kvC K y := fun x hx y hy => by
      obtain ⟨i, i1, i2, rfl⟩ := z4K hx
      obtain ⟨j, j1, j2, rfl⟩ := z4L hy
      have hs1 : s <= s /\ s < hi := by omega
      have := h4 s hs1.1 hs1.2
      simp only [decide_eq_false_iff_not] at this
      have k1 := z5K hsU (i := s - a) (j := j) (by omega) (by omega)
      have k2 := z5K hsV (i := i) (j := M + m - 1 - s - m) (by omega) (by omega)
      omega
    obtain ⟨W, e, w1, w2⟩ := zrH (P := P) (U1 := U.take (s - a)) (U2 := U.drop (s - a)) (V1 := V.take (M - s)) (V2 := V.drop (M - s)) (R := R) hrf (a := a) (m := m) (b := b) (s := s) (M := M) (E := M + m - s) (by rw [tU, tV]; exact hv) (by rw [tU]; exact hsU) (by rw [tV]; exact hsV) (by rw [tU, tV]; exact hBf) (by omega) (by omega) (by omega) ha (by omega) (by omega) (by omega) (by omega) (by omega) c1 c2
    rw [tU, tV] at e w2
    rw [hx, e]
    exact ⟨_, rfl, W, rfl, w1, w2⟩
theorem zcd {K : SrtC} : ∀ (k : Nat) {P U V R : List Int} {a m b : Nat}, U ≠ [] -> V ≠ [] -> zfk K (U ++ V) -> z8k K U -> z8k K V -> Bef U V -> P.length + U.length + V.length < 2 ^ 40 -> U.length + V.length <= k -> a = P.length -> m = P.length + U.length -> b = P.length + U.length + V.length ->
    ∃ W, zpJ k (P ++ (U ++ (V ++ R))) (a : Int) (m : Int) (b : Int) K = some (P ++ (W ++ R)) /\ z8k K W /\ W.Perm (U ++ V)
  | 0, P, U, V, R, a, m, b, hU, _, _, _, _, _, _, hk, _, _, _ => by
    have := List.length_pos_iff.2 hU
    omega
  | k + 1, P, U, V, R, a, m, b, hU, hV, hv, hsU, hsV, hBf, hl, hk, ha, hm, hb => by
    have u0 := List.length_pos_iff.2 hU
    have v0 := List.length_pos_iff.2 hV
    have hvU : zfk K U := fun x hx => hv x (List.mem_append.2 (.inl hx))
    have hvV : zfk K V := fun x hx => hv x (List.mem_append.2 (.inr hx))
    have cU : IntKind.i64.wrap ((m : Int) - (a : Int)) = (U.length : Int) := by rw [z1N (by omega) (by omega)]; omega
    have cV : IntKind.i64.wrap ((b : Int) - (m : Int)) = (V.length : Int) := by rw [z1N (by omega) (by omega)]; omega
    show ∃ W, zmX (zpJ k) (P ++ (U ++ (V ++ R))) (a : Int) (m : Int) (b : Int) K = _ /\ _
    unfold zmX
    rw [cU, cV]
    by_cases h1 : U.length = 1
    · obtain ⟨x, rfl⟩ := List.length_eq_one_iff.1 h1
      rw [if_pos (by simp)]
      have hx : okS K x := hvU x (by simp)
      have := zmS (b := zeQ (P ++ ([x] ++ (V ++ R))) (a : Int) K) (p := fun h => decide (kvC K (V.getD (h - m) 0) < kvC K x)) (lo := m) (hi := b) (Post := fun r => ∃ W, r = P ++ (W ++ R) /\ z8k K W /\ W.Perm ([x] ++ V)) (by omega) (by omega) (fun i j q1 q2 q3 hp => ?_) (fun i j q1 q2 q3 => ?_) (fun s q1 q2 q3 q4 => ?_)
      · obtain ⟨r, e, W, rfl, w1, w2⟩ := this
        exact ⟨W, e, w1, w2⟩
      · simp only [decide_eq_true_eq] at hp ⊢
        have k1 := z5K hsV (i := i - m) (j := j - m) (by omega) (by omega)
        omega
      · simp only [zeQ]
        rw [if_pos (by omega), z0n _ (by omega), zse _ _ (by omega)]
        have e1 : P ++ ([x] ++ (V ++ R)) = (P ++ [x]) ++ (V ++ R) := by simp only [List.append_assoc]
        have g1 : atI (P ++ ([x] ++ (V ++ R))) (((i + j) / 2 : Nat) : Int) = some (V.getD ((i + j) / 2 - m) 0) := by
          rw [e1]; exact atM (by omega) (by rw [List.length_append]; simp at hm ⊢; omega)
        rw [g1, Option.bind_some, show P ++ ([x] ++ (V ++ R)) = P ++ x :: (V ++ R) from rfl, at0 _ _ _ ha, Option.bind_some]
        obtain ⟨c, hc1, hc2⟩ := ztd (zt3 hvV (t := (i + j) / 2 - m) (by omega)) hx (hBf _ (by simp) _ (z8C (by omega)))
        rw [hc1, Option.bind_some]
        simp only [decide_eq_true_eq]
        by_cases h : c < 0
        · rw [if_pos h, if_pos (hc2.1 h), z0W (by omega)]
        · rw [if_neg h, if_neg ((not_congr hc2).1 h)]
      · simp only [zeQ]
        rw [if_neg (by omega)]
        have lV1 : (V.take (s - m)).length = s - m := by rw [List.length_take]; omega
        simp only [List.length_singleton] at *
        have := znW (P := P) (V := V.take (s - m)) (R := V.drop (s - m) ++ R) (x := x) (by omega) (w := s) (by omega)
        rw [← List.append_assoc (V.take (s - m)), List.take_append_drop] at this
        rw [show P ++ ([x] ++ (V ++ R)) = P ++ x :: (V ++ R) from rfl, ha, this]
        refine ⟨_, rfl, V.take (s - m) ++ x :: V.drop (s - m), by simp only [List.append_assoc, List.cons_append], ?_, ?_⟩
        · refine zm6 (by rw [List.take_append_drop]; exact hsV) (fun y hy => ?_) (fun y hy => ?_)
          · obtain ⟨i, i1, i2, rfl⟩ := z4K hy
            have := q3 (m + i) (by omega) (by omega)
            simp only [decide_eq_true_eq, Nat.add_sub_cancel_left] at this
            omega
          · obtain ⟨i, i1, i2, rfl⟩ := z4L hy
            have := q4 (m + i) (by omega) (by omega)
            simp only [decide_eq_false_iff_not, Nat.add_sub_cancel_left] at this
            omega
        · refine List.perm_middle.trans ?_
          rw [List.take_append_drop]
          exact .refl _
    · rw [if_neg (by omega)]
      by_cases h2 : V.length = 1
      · obtain ⟨x, rfl⟩ := List.length_eq_one_iff.1 h2
        rw [if_pos (by simp)]
        have hx : okS K x := hvV x (by simp)
        have := zmS (b := zbA (P ++ (U ++ ([x] ++ R))) (m : Int) K) (p := fun h => decide (kvC K (U.getD (h - a) 0) <= kvC K x)) (lo := a) (hi := m) (Post := fun r => ∃ W, r = P ++ (W ++ R) /\ z8k K W /\ W.Perm (U ++ [x])) (by omega) (by omega) (fun i j q1 q2 q3 hp => ?_) (fun i j q1 q2 q3 => ?_) (fun s q1 q2 q3 q4 => ?_)
        · obtain ⟨r, e, W, rfl, w1, w2⟩ := this
          exact ⟨W, e, w1, w2⟩
        · simp only [decide_eq_true_eq] at hp ⊢
          have k1 := z5K hsU (i := i - a) (j := j - a) (by omega) (by omega)
          omega
        · simp only [zbA]
          have e1 : P ++ (U ++ ([x] ++ R)) = (P ++ U) ++ x :: R := by simp only [List.append_assoc, List.cons_append, List.nil_append]
          have g1 : atI (P ++ (U ++ ([x] ++ R))) (((i + j) / 2 : Nat) : Int) = some (U.getD ((i + j) / 2 - a) 0) := atM (by omega) (by omega)
          have g2 : atI (P ++ (U ++ ([x] ++ R))) (m : Int) = some x := by rw [e1]; exact at0 _ _ _ (by rw [List.length_append]; omega)
          rw [if_pos (by omega), z0n _ (by omega), zse _ _ (by omega), g2, Option.bind_some, g1, Option.bind_some]
          obtain ⟨c, hc1, hc2⟩ := ztd hx (zt3 hvU (t := (i + j) / 2 - a) (by omega)) (hBf _ (z8C (by omega)) _ (by simp))
          rw [hc1, Option.bind_some]
          simp only [decide_eq_true_eq]
          by_cases h : c < 0
          · have := hc2.1 h
            rw [if_pos h, if_neg (by omega)]
          · have := (not_congr hc2).1 h
            rw [if_neg h, if_pos (by omega), z0W (by omega)]
        · simp only [zbA]
          rw [if_neg (by omega)]
          have lU1 : (U.take (s - a)).length = s - a := by rw [List.length_take]; omega
          have lU2 : (U.drop (s - a)).length = m - s := by rw [List.length_drop]; omega
          simp only [List.length_singleton] at *
          have := zkL (P := P ++ U.take (s - a)) (V := U.drop (s - a)) (R := R) (x := x) (by rw [List.length_append]; omega)
          have e2 : (P ++ U.take (s - a)).length = s := by rw [List.length_append]; omega
          have e3 : (P ++ U.take (s - a)).length + (U.drop (s - a)).length = m := by rw [e2, lU2]; omega
          have e4 : P ++ U.take (s - a) ++ U.drop (s - a) ++ x :: R = P ++ (U ++ ([x] ++ R)) := by
            rw [List.append_assoc P, List.take_append_drop]; simp only [List.append_assoc, List.cons_append, List.nil_append]
          rw [e3, e4, e2] at this
          rw [this]
          refine ⟨_, rfl, U.take (s - a) ++ x :: U.drop (s - a), by simp only [List.append_assoc, List.cons_append], ?_, ?_⟩
          · refine zm6 (by rw [List.take_append_drop]; exact hsU) (fun y hy => ?_) (fun y hy => ?_)
            · obtain ⟨i, i1, i2, rfl⟩ := z4K hy
              have := q3 (a + i) (by omega) (by omega)
              simp only [decide_eq_true_eq, Nat.add_sub_cancel_left] at this
              omega
            · obtain ⟨i, i1, i2, rfl⟩ := z4L hy
              have := q4 (a + i) (by omega) (by omega)
              simp only [decide_eq_false_iff_not, Nat.add_sub_cancel_left] at this
              omega
          · refine List.perm_middle.trans ?_
            rw [List.take_append_drop]
            exact (List.perm_append_singleton x U).symm
      · rw [if_neg (by omega)]
        have hrf : zfe (zpJ k) K k := fun {P' U' V' R' a' m' b'} g1 g2 g3 g4 g5 g6 g7 g8 g9 g10 g11 => zcd k g1 g2 g3 g4 g5 g6 g7 g8 g9 g10 g11
        have cM : IntKind.i64.wrap (z0f .u64 (IntKind.u64.wrap (IntKind.i64.wrap ((a : Int) + b))) 1) = (((a + b) / 2 : Nat) : Int) := zse _ _ (by omega)
        have cN : IntKind.i64.wrap ((((a + b) / 2 : Nat) : Int) + (m : Int)) = (((a + b) / 2 + m : Nat) : Int) := by rw [z1N (by omega) (by omega)]; omega
        rw [z0n _ (by omega), cM, cN]
        by_cases hMm : (a + b) / 2 < m
        · have cB : IntKind.i64.wrap ((((a + b) / 2 + m : Nat) : Int) - (b : Int)) = (((a + b) / 2 + m - b : Nat) : Int) := by rw [z1N (by omega) (by omega)]; omega
          rw [if_pos (by omega), cB]
          obtain ⟨r, e, W, rfl, w1, w2⟩ := zg5 (R := R) hrf hv hsU hsV hBf hl (M := (a + b) / 2) (lo := (a + b) / 2 + m - b) (hi := (a + b) / 2) ha hm hb (by omega) (by omega) (by omega) rfl (.inr ⟨rfl, hMm⟩) (.inr ⟨rfl, hMm⟩)
          exact ⟨W, e, w1, w2⟩
        · rw [if_neg (by omega)]
          obtain ⟨r, e, W, rfl, w1, w2⟩ := zg5 (R := R) hrf hv hsU hsV hBf hl (M := (a + b) / 2) (lo := a) (hi := m) ha hm hb (by omega) (by omega) (by omega) rfl (.inl ⟨rfl, by omega⟩) (.inl ⟨rfl, by omega⟩)
          exact ⟨W, e, w1, w2⟩
end
section
open Go
set_option maxRecDepth 100000
def zfj (K : SrtC) (B : Nat) (l : List Int) : Prop := (∀ i j, i < j -> j < l.length -> i / B = j / B -> kvC K (l.getD i 0) <= kvC K (l.getD j 0)) /\ ∀ i j, j < l.length -> i / B < j / B -> l.getD i 0 < l.getD j 0
theorem zrN {K : SrtC} {l : List Int} (h : ∀ i j, i < j -> j < l.length -> kvC K (l.getD i 0) <= kvC K (l.getD j 0)) : z8k K l := by
  refine List.pairwise_iff_getElem.2 fun i j hi hj hij => ?_
  have := h i j hij hj
  rwa [List.getD, List.getD, List.getElem?_eq_getElem hj, List.getElem?_eq_getElem hi, Option.getD_some, Option.getD_some] at this
theorem zcO {A X : List Int} {i : Nat} (h : i < A.length) : (A ++ X).getD i 0 = A.getD i 0 := by
  rw [List.getD, List.getD, List.getElem?_append_left h]
theorem zcM {A X : List Int} {i : Nat} : (A ++ X).getD (A.length + i) 0 = X.getD i 0 := by
  rw [List.getD, List.getD, List.getElem?_append_right (by omega), Nat.add_sub_cancel_left]
theorem zf4 {K : SrtC} {A X : List Int} {B q : Nat} (hB : 0 < B) (hA : A.length = q * B) (h : zfj K B (A ++ X)) : zfj K B X := by
  have e : ∀ i, (A.length + i) / B = i / B + q := fun i => by rw [hA, Nat.add_comm, Nat.add_mul_div_right _ _ hB]
  refine ⟨fun i j hij hj hb => ?_, fun i j hj hb => ?_⟩
  · have := h.1 (A.length + i) (A.length + j) (by omega) (by rw [List.length_append]; omega) (by rw [e, e, hb])
    rwa [zcM, zcM] at this
  · have := h.2 (A.length + i) (A.length + j) (by rw [List.length_append]; omega) (by rw [e, e]; omega)
    rwa [zcM, zcM] at this
theorem zaZ {K : SrtC} {U X : List Int} {B : Nat} (hU : U.length <= B) (h : zfj K B (U ++ X)) : z8k K U := zrN fun i j hij hj => by
  have := h.1 i j hij (by rw [List.length_append]; omega) (by rw [Nat.div_eq_of_lt (by omega), Nat.div_eq_of_lt (by omega)])
  rwa [zcO (by omega), zcO hj] at this
theorem zf5 {K : SrtC} {X : List Int} {B : Nat} (hB : 0 < B) (h : zfj K B X) : Bef (X.take B) (X.drop B) := fun x hx y hy => by
  obtain ⟨i, i1, i2, rfl⟩ := z4K hx
  obtain ⟨j, j1, j2, rfl⟩ := z4L hy
  have := Nat.div_pos j1 hB
  exact h.2 i j j2 (by rw [Nat.div_eq_of_lt i1]; exact this)
theorem zan {K : SrtC} {D W : List Int} {B q : Nat} (hB : 0 < B) (hD : D.length = q * B) (h : zfj K B D) (hW : z8k K W) (hl : W.length <= B) (hBf : Bef D W) : zfj K B (D ++ W) := by
  have e : ∀ i, (D.length + i) / B = i / B + q := fun i => by rw [hD, Nat.add_comm, Nat.add_mul_div_right _ _ hB]
  refine ⟨fun i j hij hj hb => ?_, fun i j hj hb => ?_⟩
  · by_cases h1 : j < D.length
    · rw [zcO (by omega), zcO h1]
      exact h.1 i j hij h1 hb
    · have h2 : D.length <= i := by
        rcases Nat.lt_or_ge i D.length with h2 | h2
        · exfalso
          have a1 : i / B < q := by rw [Nat.div_lt_iff_lt_mul hB, ← hD]; exact h2
          have a2 : q <= j / B := by rw [Nat.le_div_iff_mul_le hB, ← hD]; omega
          omega
        · exact h2
      obtain ⟨i', rfl⟩ := Nat.exists_eq_add_of_le h2
      obtain ⟨j', rfl⟩ := Nat.exists_eq_add_of_le (show D.length <= j by omega)
      rw [zcM, zcM]
      exact z5K hW (by omega) (by rw [List.length_append] at hj; omega)
  · have hij : i < j := Nat.lt_of_not_le fun hji => by have := Nat.div_le_div_right (c := B) hji; omega
    rw [List.length_append] at hj
    by_cases h1 : j < D.length
    · rw [zcO (by omega), zcO h1]
      exact h.2 i j h1 hb
    · obtain ⟨j', rfl⟩ := Nat.exists_eq_add_of_le (show D.length <= j by omega)
      by_cases h2 : i < D.length
      · rw [zcO h2, zcM]
        exact hBf _ (z8C h2) _ (z8C (by omega))
      · obtain ⟨i', rfl⟩ := Nat.exists_eq_add_of_le (show D.length <= i by omega)
        rw [e, e, Nat.div_eq_of_lt (by omega), Nat.div_eq_of_lt (by omega)] at hb
        omega
theorem znt (K : SrtC) (B : Nat) : zfj K B [] := ⟨fun i j _ hj => by simp at hj, fun i j hj => by simp at hj⟩
theorem zpc {K : SrtC} {l0 : List Int} (hv : zfk K l0) (ha : l0.Pairwise (· < ·)) (hn : l0.length < 2 ^ 38) (Post : List Int -> Prop) (k : ∀ D, zfj K 20 D -> D.Perm l0 -> ∃ r, z0o (zcP ((l0.length : Nat) : Int) K) LFm (20, D) = some r /\ Post r) :
    ∃ r, z0o (zcQ ((l0.length : Nat) : Int) K) LFm (0, 20, l0) = some r /\ Post r := by
  refine z1z (fun z => ∃ (D X : List Int) (q : Nat), D.length = q * 20 /\ z = ((D.length : Int), ((D.length + 20 : Nat) : Int), D ++ X) /\ zfj K 20 D /\ Bef D X /\ X.Pairwise (· < ·) /\ (D ++ X).Perm l0) (fun z => l0.length + 1 - z.1.toNat) Post ?_ LFm _ ⟨[], l0, 0, rfl, rfl, znt K 20, (fun x hx => by simp at hx), ha, .refl _⟩ (by simp only [LFm]; omega)
  rintro z ⟨D, X, q, hq, rfl, hD, hBf, hXp, hp⟩
  have hlen := hp.length_eq
  rw [List.length_append] at hlen
  have hvX : zfk K X := fun x hx => hv x (hp.mem_iff.1 (List.mem_append.2 (.inr hx)))
  simp only [zcQ]
  by_cases h : D.length + 20 <= l0.length
  · left
    rw [if_pos (by omega)]
    have t1 : X.take 20 ++ X.drop 20 = X := List.take_append_drop ..
    have t2 : (X.take 20).length = 20 := by rw [List.length_take]; omega
    obtain ⟨S, e, s1, s2⟩ := zj2 (P := D) (X := X.take 20) (R := X.drop 20) (fun x hx => hvX x (List.mem_of_mem_take hx)) (hXp.sublist (List.take_sublist ..)) (by omega) (a := D.length) (b := D.length + 20) rfl (by omega)
    have hS := s2.length_eq
    rw [t2] at hS
    rw [List.append_assoc, t1] at e
    rw [e, Option.bind_some, z1N (by omega) (by omega)]
    refine ⟨_, rfl, ⟨D ++ S, X.drop 20, q + 1, by rw [List.length_append]; omega, ?_, zan (by omega) hq hD s1 (by omega) (fun x hx y hy => hBf x hx y (List.mem_of_mem_take (s2.mem_iff.1 hy))), ?_, hXp.sublist (List.drop_sublist ..), ?_⟩, by simp only; omega⟩
    · rw [List.length_append, hS]
      congr 2
    · intro x hx y hy
      rcases List.mem_append.1 hx with hx | hx
      · exact hBf x hx y (List.mem_of_mem_drop hy)
      · have hp2 : (X.take 20 ++ X.drop 20).Pairwise (· < ·) := by rw [t1]; exact hXp
        exact (List.pairwise_append.1 hp2).2.2 x (s2.mem_iff.1 hx) y hy
    · refine List.Perm.trans ?_ hp
      rw [List.append_assoc]
      refine List.Perm.append_left D ?_
      have := s2.append_right (X.drop 20)
      rwa [t1] at this
  · right
    rw [if_neg (by omega)]
    obtain ⟨S, e, s1, s2⟩ := zj2 (P := D) (X := X) (R := []) hvX hXp (by omega) (a := D.length) (b := l0.length) rfl (by omega)
    rw [List.append_nil, List.append_nil] at e
    rw [e, Option.bind_some]
    have hSl := s2.length_eq
    obtain ⟨r, e2, hr⟩ := k (D ++ S) (zan (by omega) hq hD s1 (by omega) (fun x hx y hy => hBf x hx y (s2.mem_iff.1 hy))) ((s2.append_left D).trans hp)
    exact ⟨r, by rw [e2]; rfl, hr⟩
theorem zsg {K : SrtC} {l0 : List Int} (hv : zfk K l0) (hn : l0.length <= 5000) {B : Nat} (hB0 : 0 < B) (hB : B < 5000) {l : List Int} (hb : zfj K B l) (hp : l.Perm l0) :
    ∃ S, z0o (zaR ((l0.length : Nat) : Int) K (B : Int)) LFm (0, ((2 * B : Nat) : Int), l) = some (.inl (((B * 2 : Nat) : Int), S)) /\ zfj K (B * 2) S /\ S.Perm l0 := by
  refine Exists.elim (z1z (b := zaR ((l0.length : Nat) : Int) K (B : Int)) (fun z => ∃ (D X : List Int) (q : Nat), D.length = q * (B * 2) /\ z = ((D.length : Int), ((D.length + 2 * B : Nat) : Int), D ++ X) /\ zfj K (B * 2) D /\ zfj K B X /\ Bef D X /\ (D ++ X).Perm l0) (fun z => l0.length + 1 - z.1.toNat)
    (fun r => ∃ S, r = .inl (((B * 2 : Nat) : Int), S) /\ zfj K (B * 2) S /\ S.Perm l0) ?_ LFm (0, ((2 * B : Nat) : Int), l) ⟨[], l, 0, by simp, by simp, znt K _, hb, (fun x hx => by simp at hx), hp⟩ (by simp only [LFm]; omega)) fun r h => by
      obtain ⟨h1, S, rfl, h2, h3⟩ := h
      exact ⟨S, h1, h2, h3⟩
  rintro z ⟨D, X, q, hq, rfl, hD, hX, hBf, hp2⟩
  have hlen := hp2.length_eq
  rw [List.length_append] at hlen
  have hvX : zfk K X := fun x hx => hv x (hp2.mem_iff.1 (List.mem_append.2 (.inr hx)))
  have wB : IntKind.i64.wrap (2 * (B : Int)) = ((2 * B : Nat) : Int) := by rw [z1N (by omega) (by omega)]; omega
  have wB2 : IntKind.i64.wrap ((B : Int) * 2) = ((B * 2 : Nat) : Int) := by rw [z1N (by omega) (by omega)]; omega
  have wa : IntKind.i64.wrap ((D.length : Int) + (B : Int)) = ((D.length + B : Nat) : Int) := by rw [z1N (by omega) (by omega)]; omega
  simp only [zaR]
  rw [wa, wB, wB2]
  have t1 : X.take B ++ X.drop B = X := List.take_append_drop ..
  by_cases h : D.length + 2 * B <= l0.length
  · left
    rw [if_pos (by omega)]
    have t2 : (X.take B).length = B := by rw [List.length_take]; omega
    have hX2 : zfj K B (X.drop B) := zf4 (A := X.take B) (q := 1) hB0 (by omega) (by rw [t1]; exact hX)
    have t3 : (X.drop B).take B ++ (X.drop B).drop B = X.drop B := List.take_append_drop ..
    have t4 : ((X.drop B).take B).length = B := by rw [List.length_take, List.length_drop]; omega
    obtain ⟨W, e, w1, w2⟩ := zcd (K := K) 5000 (P := D) (U := X.take B) (V := (X.drop B).take B) (R := (X.drop B).drop B) (a := D.length) (m := D.length + B) (b := D.length + 2 * B) (fun h => by rw [h] at t2; simp at t2; omega) (fun h => by rw [h] at t4; simp at t4; omega)
      (fun x hx => hvX x (by
        rcases List.mem_append.1 hx with hx | hx
        · exact List.mem_of_mem_take hx
        · exact List.mem_of_mem_drop (List.mem_of_mem_take hx)))
      (zaZ (B := B) (X := X.drop B) (by omega) (by rw [t1]; exact hX)) (zaZ (B := B) (X := (X.drop B).drop B) (by omega) (by rw [t3]; exact hX2)) (fun x hx y hy => zf5 hB0 hX x hx y (List.mem_of_mem_take hy)) (by omega) (by omega) rfl (by omega) (by omega)
    have hW := w2.length_eq
    rw [List.length_append, t2, t4] at hW
    rw [t3, t1] at e
    have hX3 : zfj K B ((X.drop B).drop B) := zf4 (A := (X.drop B).take B) (q := 1) hB0 (by omega) (by rw [t3]; exact hX2)
    have hWX : ∀ y ∈ W, y ∈ X := fun y hy => by
      rcases List.mem_append.1 (w2.mem_iff.1 hy) with h | h
      · exact List.mem_of_mem_take h
      · exact List.mem_of_mem_drop (List.mem_of_mem_take h)
    have ws : IntKind.i64.wrap (((D.length + 2 * B : Nat) : Int) + ((2 * B : Nat) : Int)) = ((D.length + 2 * B + 2 * B : Nat) : Int) := by rw [z1N (by omega) (by omega)]; omega
    rw [e, Option.bind_some, ws]
    refine ⟨_, rfl, ⟨D ++ W, (X.drop B).drop B, q + 1, ?_, ?_, zan (by omega) hq hD w1 (by omega) (fun x hx y hy => hBf x hx y (hWX y hy)), hX3, ?_, ?_⟩, by simp only; omega⟩
    · rw [List.length_append, hW, Nat.add_mul, hq]; omega
    · rw [List.length_append, hW]
      refine Prod.ext ?_ (Prod.ext ?_ ?_)
      · simp only; omega
      · simp only; omega
      · simp only [List.append_assoc]
    · intro x hx y hy
      rcases List.mem_append.1 hx with hx | hx
      · exact hBf x hx y (List.mem_of_mem_drop (List.mem_of_mem_drop hy))
      · rcases List.mem_append.1 (w2.mem_iff.1 hx) with h | h
        · exact zf5 hB0 hX x h y (List.mem_of_mem_drop hy)
        · exact zf5 hB0 hX2 x h y hy
    · refine List.Perm.trans ?_ hp2
      rw [List.append_assoc]
      refine List.Perm.append_left D ?_
      have := w2.append_right ((X.drop B).drop B)
      rwa [List.append_assoc, t3, t1] at this
  · right
    rw [if_neg (by omega)]
    by_cases h2 : D.length + B < l0.length
    · have t2 : (X.take B).length = B := by rw [List.length_take]; omega
      have hX2 : zfj K B (X.drop B) := zf4 (A := X.take B) (q := 1) hB0 (by omega) (by rw [t1]; exact hX)
      have t4 : (X.drop B).length = l0.length - D.length - B := by rw [List.length_drop]; omega
      obtain ⟨W, e, w1, w2⟩ := zcd (K := K) 5000 (P := D) (U := X.take B) (V := X.drop B) (R := []) (a := D.length) (m := D.length + B) (b := l0.length) (fun h => by rw [h] at t2; simp at t2; omega) (fun h => by rw [h] at t4; simp at t4; omega)
        (fun x hx => hvX x (by rw [t1] at hx; exact hx))
        (zaZ (B := B) (X := X.drop B) (by omega) (by rw [t1]; exact hX)) (zaZ (B := B) (X := []) (by omega) (by rw [List.append_nil]; exact hX2)) (zf5 hB0 hX) (by omega) (by omega) rfl (by omega) (by omega)
      rw [List.append_nil, List.append_nil, t1] at e
      rw [if_pos (by omega), e, Option.bind_some]
      have hWl := w2.length_eq
      rw [t1] at hWl
      refine ⟨_, rfl, D ++ W, rfl, zan (by omega) hq hD w1 (by omega) (fun x hx y hy => hBf x hx y (by have := w2.mem_iff.1 hy; rwa [t1] at this)), ?_⟩
      have := w2.append_left D
      rw [t1] at this
      exact this.trans hp2
    · rw [if_neg (by omega)]
      refine ⟨_, rfl, D ++ X, rfl, ?_, hp2⟩
      exact zan (by omega) hq hD (zaZ (B := B) (X := []) (by omega) (by rw [List.append_nil]; exact hX)) (by omega) hBf
theorem zm4 {K : SrtC} {l : List Int} (hv : zfk K l) (ha : l.Pairwise (· < ·)) (hn : l.length <= 5000) : ∃ S, zt4 l K = some S /\ z8k K S /\ S.Perm l := by
  unfold zt4 zwf
  obtain ⟨r, e, h⟩ := zpc (Post := fun r => z8k K r /\ r.Perm l) hv ha (by omega) fun D hD hp => by
    refine z1z (fun z => ∃ (B : Nat) (S : List Int), 0 < B /\ B < 10000 /\ z = ((B : Int), S) /\ zfj K B S /\ S.Perm l) (fun z => 10000 - z.1.toNat) _ ?_ LFm _ ⟨20, D, by omega, by omega, rfl, hD, hp⟩ (by simp only [LFm]; omega)
    rintro z ⟨B, S, hB0, hB1, rfl, hS, hp2⟩
    have hlen := hp2.length_eq
    simp only [zcP]
    by_cases h : B < l.length
    · left
      have wB : IntKind.i64.wrap (2 * (B : Int)) = ((2 * B : Nat) : Int) := by rw [z1N (by omega) (by omega)]; omega
      obtain ⟨S', e, s1, s2⟩ := zsg hv hn hB0 (by omega) hS hp2
      rw [if_pos (by omega), wB, e]
      exact ⟨_, rfl, ⟨B * 2, S', by omega, by omega, rfl, s1, s2⟩, by simp only; omega⟩
    · right
      rw [if_neg (by omega)]
      exact ⟨_, rfl, zaZ (B := B) (X := []) (by omega) (by rw [List.append_nil]; exact hS), hp2⟩
  exact ⟨r, by rw [e]; rfl, h⟩
end
section
structure Run {ρ : Type} (x : Option ρ) (K : ρ -> Prop) : Prop where
  out : ∃ v, x = some v /\ K v
structure RK {σ ρ : Type} (o : σ ⊕ ρ) (K : ρ -> Prop) (o' : σ ⊕ ρ) : Prop where
  eq : o' = o
  k : ∀ r, o' = .inr r -> K r
class Head {σ ρ : Type} (b : σ -> Option (σ ⊕ ρ)) where
  H : σ -> Fr
class Ok {ρ : Type} (x : Option ρ) (S : outParam (ρ -> Prop)) : Prop where
  ok : ∀ r, x = some r -> S r
section
variable {G : Prop} {ρ : Type} {K : ρ -> Prop}
theorem zs0 {b n : Nat} {x : Option ρ} (k : n * b <= 140737488355328 -> n <= 4611686018427387904 -> Run x K -> G) (h : Run (chk (z1q b n) x) K) : G := by
  obtain ⟨v, e, hk⟩ := h
  obtain ⟨⟨a, c⟩, e⟩ := z6E e
  exact k a c ⟨v, e, hk⟩
theorem zrZ {n : Nat} {x : Option ρ} (k : n <= 140737488355328 -> n <= 4611686018427387904 -> Run x K -> G) (h : Run (chk (z1q 1 n) x) K) : G := zs0 (fun a b => k (by omega) b) h
theorem zwd {b l : Int} {x : Option ρ} (k : 0 <= l -> l <= 140737488355328 -> b * l <= 140737488355328 -> max l 0 = l -> Run x K -> G) (h : Run (chk (z1i b l) x) K) : G := by
  obtain ⟨v, e, hk⟩ := h
  obtain ⟨⟨a, c, d⟩, e⟩ := z6E e
  exact k a c d (by omega) ⟨v, e, hk⟩
theorem ztt {l : Int} {x : Option ρ} (k : 0 <= l -> l <= 140737488355328 -> max l 0 = l -> Run x K -> G) (h : Run (chk (z1i 1 l) x) K) : G := zwd (fun a b _ d => k a b d) h
theorem ztr {i : Int} {n : Nat} {x : Option ρ} (k : 0 <= i -> i < (n : Int) -> i.toNat < n -> i.toNat + 1 <= n -> Run x K -> G) (h : Run (chk (0 <= i /\ i < (n : Int)) x) K) : G := by
  obtain ⟨v, e, hk⟩ := h
  obtain ⟨⟨a, c⟩, e⟩ := z6E e
  exact k a c (by omega) (by omega) ⟨v, e, hk⟩
theorem zrW {i n : Int} {x : Option ρ} (k : 0 <= i -> i < n -> i.toNat < n.toNat -> i.toNat + 1 <= n.toNat -> Run x K -> G) (h : Run (chk (0 <= i /\ i < n) x) K) : G := by
  obtain ⟨v, e, hk⟩ := h
  obtain ⟨⟨a, c⟩, e⟩ := z6E e
  exact k a c (by omega) (by omega) ⟨v, e, hk⟩
theorem ztz {p : Prop} [Decidable p] {x : Option ρ} (k : p -> Run x K -> G) (h : Run (chk p x) K) : G := by
  obtain ⟨v, e, hk⟩ := h
  obtain ⟨a, e⟩ := z6E e
  exact k a ⟨v, e, hk⟩
theorem zts {α : Type} {xs : List α} {i : Nat} {f : α -> Option ρ} (k : ∀ v, i < xs.length -> i + 1 <= xs.length -> xs[i]? = some v -> (∀ hh : i < xs.length, xs[i]'hh = v) -> Run (f v) K -> G) (h : Run ((atI xs (i : Int)).bind f) K) : G := by
  obtain ⟨r, e, hk⟩ := h
  obtain ⟨v, ⟨a, b, c, d⟩, e⟩ := zrh e
  exact k v a b c d ⟨r, e, hk⟩
theorem zwK {α : Type} {xs : List α} {i : Int} {f : α -> Option ρ} (k : ∀ v, 0 <= i -> i < xs.length -> i.toNat + 1 <= xs.length -> xs[i.toNat]? = some v -> (∀ hh : i.toNat < xs.length, xs[i.toNat]'hh = v) -> Run (f v) K -> G) (h : Run ((atI xs i).bind f) K) : G := by
  obtain ⟨r, e, hk⟩ := h
  obtain ⟨v, ⟨a, b, c, d, d2⟩, e⟩ := z7i e
  exact k v a b c d d2 ⟨r, e, hk⟩
theorem zs2 {s : ByteArray} {i : Int} {f : Int -> Option ρ} (k : ∀ v, 0 <= i -> i < s.size -> (∃ b, s[i.toNat]? = some b /\ v = (b.toNat : Int)) -> (∀ hh : i.toNat < s.size, ((s[i.toNat]'hh).toNat : Int) = v) -> Run (f v) K -> G) (h : Run ((zf3 s i).bind f) K) : G := by
  obtain ⟨r, e, hk⟩ := h
  obtain ⟨v, e1, e2⟩ := z1E e
  obtain ⟨a, b, c, d1, d2, d3⟩ := zkW e1
  exact k v a b ⟨c, d1, d2⟩ d3 ⟨r, e2, hk⟩
theorem zqu {α : Type} {xs : List α} {i : Int} {v : α} {f : α -> Option ρ} (hv : xs[i.toNat]? = some v) (hi : 0 <= i) (k : Run (f v) K -> G) (h : Run ((atI xs i).bind f) K) : G := by
  obtain ⟨r, e, hk⟩ := h
  unfold atI at e
  rw [if_pos hi, hv] at e
  exact k ⟨r, e, hk⟩
theorem zrY {α : Type} {xs : List α} {i : Nat} {v : α} {f : α -> Option ρ} (hv : xs[i]? = some v) (k : Run (f v) K -> G) (h : Run ((atI xs (i : Int)).bind f) K) : G := zqu (i := (i : Int)) hv (Int.natCast_nonneg i) k h
theorem zwL {α : Type} {xs : List α} {v : α} {f : α -> Option ρ} (hv : xs[0]? = some v) (k : Run (f v) K -> G) (h : Run ((atI xs 0).bind f) K) : G := zqu (i := 0) hv (Int.le_refl 0) k h
theorem zqs {α : Type} {e : Option α} {v : α} {f : α -> Option ρ} (hv : e = some v) (k : Run (f v) K -> G) (h : Run (e.bind f) K) : G := by subst hv; exact k h
theorem zs1 {α : Type} {e : Option α} {S : α -> Prop} [Ok e S] {f : α -> Option ρ} (k : ∀ v, e = some v -> S v -> Run (f v) K -> G) (h : Run (e.bind f) K) : G := by
  obtain ⟨r, e1, hk⟩ := h
  obtain ⟨v, e2, e3⟩ := z1E e1
  exact k v e2 (Ok.ok v e2) ⟨r, e3, hk⟩
theorem zwJ {p : Prop} [Decidable p] {x y : Option ρ} (k : (p = True) -> Run x K -> G) (k2 : (p = False) -> Run y K -> G) (h : Run (if p then x else y) K) : G := by
  by_cases c : p
  · rw [if_pos c] at h; exact k (eq_true c) h
  · rw [if_neg c] at h; exact k2 (eq_false c) h
theorem p_0 {α : Type} {xs : List α} {f : α -> Option ρ} (k : ∀ v, 0 < xs.length -> xs ≠ [] -> xs[0]? = some v -> (∀ hh : 0 < xs.length, xs[0]'hh = v) -> Run (f v) K -> G) (h : Run ((atI xs 0).bind f) K) : G := by
  obtain ⟨r, e, hk⟩ := h
  obtain ⟨v, ⟨b, c, d, d2⟩, e⟩ := zrh (i := 0) e
  exact k v b (List.length_pos_iff.1 b) d d2 ⟨r, e, hk⟩
theorem ztu {α : Type} {xs : List α} {i : Nat} {f : α -> Option ρ} (k : ∀ v, (OfNat.ofNat i : Nat) < xs.length -> xs ≠ [] -> xs[(OfNat.ofNat i : Nat)]? = some v -> (∀ hh : (OfNat.ofNat i : Nat) < xs.length, xs[(OfNat.ofNat i : Nat)]'hh = v) -> Run (f v) K -> G) (h : Run ((atI xs (OfNat.ofNat i : Int)).bind f) K) : G := by
  obtain ⟨r, e, hk⟩ := h
  obtain ⟨v, ⟨b, c, d, d2⟩, e⟩ := zrh (i := i) e
  exact k v b (List.length_pos_iff.1 (Nat.lt_of_le_of_lt (Nat.zero_le _) b)) d d2 ⟨r, e, hk⟩
class IsS (α : Type) : Prop
theorem ztB {α : Type} [IsS α] {xs : List α} {i : Int} {f : α -> Option ρ} (k : ∀ v, 0 <= i -> i < xs.length -> i.toNat + 1 <= xs.length -> xs[i.toNat]? = some v -> (∀ m, i.toNat * m + m <= xs.length * m) -> (∀ (g : α -> List T) (m : Nat), (∀ x, (g x).length = m) -> ((xs.flatMap g).drop (i.toNat * m)).take m = g v) ->
    (∀ (g : α -> List T) (m j : Nat), (∀ x, (g x).length = m) -> j < m -> (xs.flatMap g)[i.toNat * m + j]? = (g v)[j]?) -> (∀ (g : α -> List T) (m : Nat), (∀ x, (g x).length = m) -> 0 < m -> (xs.flatMap g)[i.toNat * m]? = (g v)[0]?) -> Run (f v) K -> G) (h : Run ((atI xs i).bind f) K) : G := by
  obtain ⟨r, e, hk⟩ := h
  obtain ⟨v, ⟨a, b, c, d, d2⟩, e⟩ := z7i e
  refine k v a b c d (fun m => ?_) (fun g m hg => (zcU hg d).2.1) (fun g m j hg hj => (zcU hg d).2.2.1 j hj) (fun g m hg hj => (zcU hg d).2.2.1 0 hj) ⟨r, e, hk⟩
  calc i.toNat * m + m = (i.toNat + 1) * m := by rw [Nat.add_mul, Nat.one_mul]
    _ <= _ := Nat.mul_le_mul_right _ c
theorem ztA {α : Type} {l : List α} {j : Nat} {a : α} {i : Int} {f : α -> Option ρ} (k : ∀ v, 0 <= i -> i < l.length -> i.toNat + 1 <= l.length -> (∀ (g : α -> T) hh, ((l.map g).set j (g a))[i.toNat]'hh = g v) -> (∀ (g : α -> T), ((l.map g).set j (g a))[i.toNat]? = some (g v)) -> Run (f v) K -> G) (h : Run ((atI (l.set j a) i).bind f) K) : G := by
  obtain ⟨r, e, hk⟩ := h
  obtain ⟨v, ⟨x, b, c, d, d2⟩, e⟩ := z7i e
  rw [List.length_set] at b c
  have key : ∀ (g : α -> T), ((l.map g).set j (g a))[i.toNat]? = some (g v) := fun g => by rw [← List.map_set, List.getElem?_map, d]; rfl
  exact k v x b c (fun g hh => (List.getElem?_eq_some_iff.1 (key g)).2) key ⟨r, e, hk⟩
theorem ztC {α : Type} {l : List α} {a : α} {i : Int} {f : α -> Option ρ} (k : ∀ v, 0 <= i -> i < (l.length : Int) + 1 -> i.toNat <= l.length -> (∀ (g : α -> T) hh, (l.map g ++ [g a])[i.toNat]'hh = g v) -> (∀ g : α -> T, (l.map g ++ [g a])[i.toNat]? = some (g v)) -> Run (f v) K -> G) (h : Run ((atI (l ++ [a]) i).bind f) K) : G := by
  obtain ⟨r, e, hk⟩ := h
  obtain ⟨v, ⟨x, b, c, d, d2⟩, e⟩ := z7i e
  rw [List.length_append, List.length_singleton] at b c
  have key : ∀ (g : α -> T), (l.map g ++ [g a])[i.toNat]? = some (g v) := fun g => by
    have := congrArg (Option.map g) d
    rwa [← List.getElem?_map, List.map_append] at this
  exact k v x (by omega) (by omega) (fun g hh => (List.getElem?_eq_some_iff.1 (key g)).2) key ⟨r, e, hk⟩
theorem zoC {α : Type} {xs : List α} {l u : Int} {f : List α -> Option ρ} (k : ∀ v : List α, 0 <= l -> l <= u -> u <= xs.length -> 0 <= u -> l <= (u.toNat : Int) -> l <= max u 0 -> (∀ g : α -> T, ((xs.map g).drop l.toNat).take (u.toNat - l.toNat) = v.map g) -> (∀ g : α -> T, T.sl (u.toNat - l.toNat) (v.map g) = T.sl v.length (v.map g)) -> Run (f v) K -> G) (h : Run ((z5v xs l u).bind f) K) : G := by
  obtain ⟨r, e, hk⟩ := h
  obtain ⟨v, e1, e2⟩ := z1E e
  obtain ⟨a, b, c, -⟩ := z3T e1
  obtain ⟨d, g⟩ := z9Y a b
  exact k v a b c d g (by omega) (fun g => zaN e1) (fun g => zaM e1 g) ⟨r, e2, hk⟩
theorem zoD {α : Type} [IsS α] {xs : List α} {l u : Int} {f : List α -> Option ρ} (k : ∀ v : List α, 0 <= l -> l <= u -> u <= xs.length -> 0 <= u -> l <= (u.toNat : Int) -> l <= max u 0 -> (∀ (g : α -> List T) (m : Nat), (∀ x, (g x).length = m) -> ((xs.flatMap g).drop (l.toNat * m)).take ((u.toNat - l.toNat) * m) = v.flatMap g) -> (∀ g : α -> List T, T.sl (u.toNat - l.toNat) (v.flatMap g) = T.sl v.length (v.flatMap g)) -> Run (f v) K -> G) (h : Run ((z5v xs l u).bind f) K) : G := by
  obtain ⟨r, e, hk⟩ := h
  obtain ⟨v, e1, e2⟩ := z1E e
  obtain ⟨a, b, c, -⟩ := z3T e1
  obtain ⟨d, g⟩ := z9Y a b
  exact k v a b c d g (by omega) (fun g m hg => zhu hg e1) (fun g => zkb e1 g) ⟨r, e2, hk⟩
theorem zoB {s : ByteArray} {l u : Int} {f : ByteArray -> Option ρ} (k : ∀ v, 0 <= l -> l <= u -> u <= s.size -> 0 <= u -> l <= (u.toNat : Int) -> l <= max u 0 -> s.extract l.toNat u.toNat = v -> Run (f v) K -> G) (h : Run ((ziK s l u).bind f) K) : G := by
  obtain ⟨r, e, hk⟩ := h
  obtain ⟨v, e1, e2⟩ := z1E e
  obtain ⟨a, b, c, d⟩ := zhs e1
  obtain ⟨d1, g⟩ := z9Y a b
  exact k v a b c d1 g (by omega) d.symm ⟨r, e2, hk⟩
theorem zqt {α β : Type} {e : Option (α ⊕ β)} {S : α ⊕ β -> Prop} [Ok e S] {f : α ⊕ β -> Option ρ} (k : ∀ v, S (.inl v) -> Run (f (.inl v)) K -> G) (k2 : ∀ v, S (.inr v) -> Run (f (.inr v)) K -> G) (h : Run (e.bind f) K) : G := by
  obtain ⟨r, e1, hk⟩ := h
  obtain ⟨v, e2, e3⟩ := z1E e1
  cases v with
  | inl v => exact k v (Ok.ok _ e2) ⟨r, e3, hk⟩
  | inr v => exact k2 v (Ok.ok _ e2) ⟨r, e3, hk⟩
theorem ztw {α : Type} {m : Option α} {x y : Option ρ} (k : m.isSome = true -> Run x K -> G) (k2 : m = none -> Run y K -> G) (h : Run (if m.isSome = true then x else y) K) : G := by
  cases m with
  | some v => exact k rfl (by simpa using h)
  | none => exact k2 rfl (by simpa using h)
theorem ztx {b : Bool} {x y : Option ρ} (k : b = true -> Run x K -> G) (k2 : b = false -> Run y K -> G) (h : Run (if b = true then x else y) K) : G := by
  cases b with
  | true => exact k rfl (by simpa using h)
  | false => exact k2 rfl (by simpa using h)
theorem zty {α : Type} {xs : List α} {x y : Option ρ} (k : ((xs.length : Int) = 0) = True -> xs = [] -> Run x K -> G) (k2 : ((xs.length : Int) = 0) = False -> xs ≠ [] -> Run y K -> G) (h : Run (if (xs.length : Int) = 0 then x else y) K) : G := by
  by_cases c : (xs.length : Int) = 0
  · rw [if_pos c] at h; exact k (eq_true c) (List.eq_nil_of_length_eq_zero (by omega)) h
  · rw [if_neg c] at h; exact k2 (eq_false c) (fun e => c (by rw [e]; rfl)) h
theorem ztv {α : Type} {xs : List α} {x y : Option ρ} (k : ((0 : Int) < (xs.length : Int)) = True -> xs ≠ [] -> 0 < xs.length -> Run x K -> G) (k2 : ((0 : Int) < (xs.length : Int)) = False -> xs = [] -> Run y K -> G) (h : Run (if (0 : Int) < (xs.length : Int) then x else y) K) : G := by
  by_cases c : (0 : Int) < (xs.length : Int)
  · rw [if_pos c] at h; exact k (eq_true c) (fun e => by subst e; simp at c) (by omega) h
  · rw [if_neg c] at h; exact k2 (eq_false c) (List.eq_nil_of_length_eq_zero (by omega)) h
theorem zrV {v : ρ} (k : K v -> G) (h : Run (some v) K) : G := by
  obtain ⟨r, e, hk⟩ := h
  cases e; exact k hk
theorem zrX (h : Run none K) : G := by
  obtain ⟨r, e, hk⟩ := h
  cases e
theorem z4c {x : Option ρ} {r : ρ} (h : x = some r) : Run x (· = r) := ⟨r, h, rfl⟩
theorem zk9 {α β : Type} {P : α × β -> Prop} (h : ∀ a, ∀ b, P (a, b)) : ∀ s : α × β, P s := fun s => h s.1 s.2
end
section
variable {P : Program} {C : z0l} {cf : Cfg} {LF : Nat} {c : Code} {fr : Fr} {Q : X -> Fr -> Prop} {σ ρ : Type} {K : ρ -> Prop} {o : σ ⊕ ρ} {H : σ -> Fr} {cn : Fr -> Fr}
theorem zwI {s : σ} (h : Run (z0e s : Option (σ ⊕ ρ)) (RK o K)) (e : cn fr = H s) : z9T H cn o Q .n fr := by
  obtain ⟨r, e1, e2⟩ := h
  have := z3t e1
  exact z4b (e2.eq.symm.trans this) e
theorem zwG {i : Nat} {x : Option ρ} (k : Run x K -> Q (.x i) fr) (h : Run (z0k x : Option (σ ⊕ ρ)) (RK o K)) : z9T H cn o Q (.x i) fr := by
  obtain ⟨r, e1, e2⟩ := h
  obtain ⟨v, e3, rfl⟩ := z3W e1
  exact z5m (e2.eq.symm) (k ⟨v, e3, e2.k _ rfl⟩)
theorem zwH {x : Option ρ} (k : Run x K -> Q .r fr) (h : Run (z0k x : Option (σ ⊕ ρ)) (RK o K)) : z9T H cn o Q .r fr := by
  obtain ⟨r, e1, e2⟩ := h
  obtain ⟨v, e3, rfl⟩ := z3W e1
  exact zot (e2.eq.symm) (k ⟨v, e3, e2.k _ rfl⟩)
end
def zrP {α : Type} (k : Nat) (v : α) : List (Nat × α) -> List (Nat × α)
  | [] => []
  | (j, u) :: r => if j = k then (j, v) :: r else (j, u) :: zrP k v r
def zrr {α : Type} : List (Nat × α) -> List (Nat × α) -> List (Nat × α)
  | [], l => l
  | (k, v) :: r, l => zrr r (zrP k v l)
def zq5 (x : List (Nat × E) × List (Nat × T)) (fr : Fr) : Fr := { fr with tm := zrr x.1 fr.tm, ob := zrr x.2 fr.ob }
class Hd {σ ρ : Type} (b : σ -> Option (σ ⊕ ρ)) where
  H : σ -> List (Nat × E) × List (Nat × T)
section
variable {P : Program} {C : z0l} {cf : Cfg} {LF : Nat} {c : Code} {fr fr0 : Fr} {Q : X -> Fr -> Prop} {σ ρ : Type} {K : ρ -> Prop}
theorem zqm {lv : List Nat} {body : σ -> Option (σ ⊕ ρ)} [hd : Hd body] {s0 : σ} (hk : zbd c = 5) (hv : cf.live (z8X (lpC c)) = some lv) (h : Run (z0o body LF s0) K)
    (hf : z8Z (some lv) fr = fr0) (h0 : fr0 = zq5 (Hd.H body s0) fr0) (round : ∀ s, ∀ o, Run (body s) (RK o K) -> wpC P C cf LF (lpC c) (zq5 (Hd.H body s) fr0) (z9T (fun s => zq5 (Hd.H body s) fr0) (z8Z (some lv)) o Q)) : wpC P C cf LF c fr Q := by
  obtain ⟨r, e, hk2⟩ := h
  exact z6J e (fun s => zq5 (Hd.H body s) fr0) hk hv (hf.trans h0) fun s o h1 h2 => round s o ⟨o, h1, rfl, fun r' e' => by rw [h2 r' e']; exact hk2⟩
end
@[simp] theorem zod {α : Type} (c : Nat) : ∀ l : List α, (l.map fun _ => c).sum = l.length * c
  | [] => by simp
  | x :: l => by simp only [List.map_cons, List.sum_cons, zod c l, List.length_cons, Nat.add_mul]; omega
abbrev xI (x : Int) : E := .one (.t none (.sc (.int .i64 x)))
abbrev xB (x : Bool) : E := .one (.t none (.sc (.bool x)))
abbrev xS (x : ByteArray) : E := .one (.t none (.sc (.string x)))
theorem zwE {a b : Fr} (h : z8O a b) : z8O a b := h
section
variable {P : Program} {C : z0l} {cf : Cfg} {LF : Nat} {c : Code} {fr : Fr}
theorem zw2 {Q : X -> Fr -> Prop} {id i : Nat} (h : z6H id Q (.x i) fr) : z6H id Q (.x i) fr := h
theorem ztj {Q : X -> Fr -> Prop} (h : wpC P C cf LF c fr Q) : wpC P C cf LF c fr Q := h
theorem ztZ {wio : FuncId -> Nat -> Bool} {M : List Nat} {ops : Array Oper} {l : List (Nat × Nat)} {Q : Fr -> Prop} (h : z7g P C wio M ops l fr Q) : z7g P C wio M ops l fr Q := h
theorem ztm {l : List Oper} {Q : Fr -> Prop} (h : ∃ fr2, z4W P l fr = some fr2 /\ Q fr2) : ∃ fr2, z4W P l fr = some fr2 /\ Q fr2 := h
theorem tpN {i : Nat} {t : SchT} {Q : Fr -> Prop} (e : t = .nil) (h : Q fr) : z5g P C cf c i t fr Q := by subst e; exact zca h
theorem tpA {i : Nat} {t a b : SchT} {Q : Fr -> Prop} (e : t = .alt a b) (h : z5g P C cf c i a fr (fun x => z5g P C cf c i b fr (fun y => z8O x y) /\ Q x)) : z5g P C cf c i t fr Q := by subst e; exact zcb h
theorem tpO {i k m : Nat} {t rest : SchT} {o : Oper} {fr1 : Fr} {Q : Fr -> Prop} (e : t = .op k m rest) (ho : zgo c k = some o) (hg : o.guard = none) (hs : z0b P C cf.wio (cf.wr i).isEmpty (cf.wr i).contains fr o m = some fr1) (h : z5g P C cf c i rest fr1 Q) : z5g P C cf c i t fr Q := by subst e; exact z3r ho hg hs h
theorem tpT {i k m : Nat} {t rest : SchT} {o : Oper} {g : Option (Option Nat × Bool)} {fr1 : Fr} {Q : Fr -> Prop} (e : t = .op k m rest) (ho : zgo c k = some o) (hg : zqW c o = some g) (hv : zpI g fr = some true) (hs : z0b P C cf.wio (cf.wr i).isEmpty (cf.wr i).contains fr o m = some fr1) (h : z5g P C cf c i rest fr1 Q) : z5g P C cf c i t fr Q := by subst e; exact ztk ho hg hv hs h
theorem tpF {i k m : Nat} {t rest : SchT} {o : Oper} {g : Option (Option Nat × Bool)} {fr1 : Fr} {Q : Fr -> Prop} (e : t = .op k m rest) (ho : zgo c k = some o) (hg : zqW c o = some g) (hv : zpI g fr = some false) (hs : nrmO? (putF fr o.dst (.one (.k undef))) = some fr1) (h : z5g P C cf c i rest fr1 Q) : z5g P C cf c i t fr Q := by subst e; exact ztl ho hg hv hs h
theorem zu1 {i : Nat} {t : SchT} {Q : Fr -> Prop} (h : z5g P C cf c i t fr Q) : z5g P C cf c i t fr Q := h
end
theorem zla {G : Prop} (g : G := by
  repeat' (first
    | with_reducible refine z0j ?_
    | with_reducible refine z6I ?_
    | with_reducible refine zhh ?_
    | with_reducible refine z4j ?_
    | ((with_reducible refine zw2 ?_); first | refine z3i rfl ?_ | refine zi5 rfl ?_)
    | with_reducible refine zpd ?_
    | (revert h; with_reducible refine zwG fun h => ?_)
    | (revert h; with_reducible refine zwH fun h => ?_)
    | ((with_reducible refine zwI h ?_); simp [*, zq5, zrr, zrP, Hd.H]; done)
    | (revert h; first
      | with_reducible refine zrX
      | with_reducible refine zrZ fun _ _ h => ?_
      | with_reducible refine zs0 fun _ _ h => ?_
      | with_reducible refine ztt fun _ _ _ h => ?_
      | with_reducible refine zwd fun _ _ _ _ h => ?_
      | with_reducible refine ztr fun _ _ _ _ h => ?_
      | with_reducible refine zrW fun _ _ _ _ h => ?_
      | with_reducible refine ztz fun _ h => ?_
      | with_reducible refine zqu (by assumption) (by assumption) fun h => ?_
      | with_reducible refine zrY (by assumption) fun h => ?_
      | with_reducible refine zwL (by assumption) fun h => ?_
      | with_reducible refine zqs (by assumption) fun h => ?_
      | with_reducible refine ztB fun _ _ _ _ _ _ k k1 k2 h => ?_
      | with_reducible refine ztA fun _ _ _ _ k k1 h => ?_
      | with_reducible refine ztC fun _ _ _ _ k k1 h => ?_
      | with_reducible refine p_0 fun _ _ _ _ _ h => ?_
      | with_reducible refine ztu fun _ _ _ _ _ h => ?_
      | with_reducible refine zts fun _ _ _ _ _ h => ?_
      | with_reducible refine zwK fun _ _ _ _ _ _ h => ?_
      | with_reducible refine zs2 fun _ _ _ _ _ h => ?_
      | ((with_reducible refine zoD fun _ _ _ _ _ _ _ k k2 h => ?_); try simp at k; try simp only [Int.reduceToNat, Int.toNat_natCast, Nat.sub_zero] at k2)
      | ((with_reducible refine zoC fun _ _ _ _ _ _ _ k k2 h => ?_); try simp at k; try simp only [Int.reduceToNat, Int.toNat_natCast, Nat.sub_zero] at k2)
      | ((with_reducible refine zoB fun _ _ _ _ _ _ _ k h => ?_); try simp only [Int.reduceToNat, Int.toNat_natCast] at k)
      | ((with_reducible refine zqt (fun _ k h => ?_) fun _ k h => ?_) <;> (try simp at k))
      | ((with_reducible refine zs1 fun _ _ k h => ?_); try simp at k))
    | ((with_reducible refine ztj ?_); first
      | refine zq rfl ?_
      | refine zb rfl ?_
      | refine zql rfl ?_
      | refine z6k rfl ?_
      | refine zqn rfl ?_
      | refine z8U rfl ?_
      | refine zk8 rfl ?_
      | refine zr rfl rfl rfl (by simp [*]; with_reducible rfl) ?_
      | refine z7Q rfl rfl rfl rfl ?_
      | refine zgf rfl rfl rfl rfl ?_
      | refine z9n rfl (by first | (simp [*]; done) | fail) ?_
      | refine z9o rfl (by first | (simp [*]; done) | fail) ?_
      | refine zox rfl rfl (by simp [*]; rfl) ?_
      | (refine zqm rfl rfl h (by simp [*]; rfl) (by first | (simp [*, zq5, zrr, zrP, Hd.H]; done) | fail) ?_; clear h; (repeat' refine zk9 fun _ => ?_); intro _ _ h; simp only [zq5, zrr, zrP, Hd.H, Nat.reduceEqDiff, if_true, if_false]))
    | ((with_reducible refine ztZ ?_); first
      | (refine z4B rfl rfl fun Q' hQ => ?_; simp [*]; refine hQ.out _ ?_; clear hQ; clear Q')
      | (refine zes rfl rfl fun Q1 Q2 h1 h2 => ?_; simp [*, zlj]; (first | refine h1.out ?_ | refine h2.out ?_); clear h1 h2; clear Q1 Q2; intro Q' hQ; simp [*]; refine hQ.out _ ?_; clear hQ; clear Q')
      | (refine z3S rfl fun Q' hQ => ?_; simp [*]; refine hQ.out _ ?_; clear hQ; clear Q'))
    | ((with_reducible refine zu1 ?_); first
      | refine tpN rfl ?_
      | refine tpA rfl ?_
      | refine tpO rfl rfl rfl (by simp [*, z0b, z0c]; rfl) ?_
      | refine tpT rfl rfl rfl (by first | (simp [*]; done) | fail) (by simp [*, z0b, z0c]; rfl) ?_
      | refine tpF rfl rfl rfl (by first | (simp [*]; done) | fail) (by simp [*]; rfl) ?_)
    | ((with_reducible refine ztm ?_); refine zfV rfl (by simp [*]; rfl) ?_)
    | ((with_reducible refine And.intro ?_ ?_); rotate_left)
    | ((with_reducible refine zwE ?_); simp [*, z8O]; done)
    | (revert h; first
      | with_reducible refine ztw (fun _ h => ?_) fun _ h => ?_
      | with_reducible refine ztx (fun _ h => ?_) fun _ h => ?_
      | with_reducible refine zty (fun _ _ h => ?_) fun _ _ h => ?_
      | with_reducible refine ztv (fun _ _ _ h => ?_) fun _ _ h => ?_
      | with_reducible refine zwJ (fun _ h => ?_) fun _ h => ?_
      | ((with_reducible refine zrV fun h => ?_); cases h; simp [*]; done)))) : G := g
end
section
open Go
structure Tape where
  l : List Int
  at_ : Int
deriving Inhabited
structure DFA where
  letters : Int
  start : Int
  final : List Bool
  next : List (List Int)
deriving Inhabited
structure Imgs where
  sets : List Int
  class_ : List Int
  height : List Int
  tiles : List (List Int)
  words : List ByteArray
  back : List ByteArray
deriving Inhabited
structure Dgm where
  sets : List Int
  next : List (List Int)
  below : List (List Bool)
deriving Inhabited
structure Hol where
  set : Int
  tiles : List Int
  words : List ByteArray
  perms : List (List Int)
deriving Inhabited
instance : IsS Hol := ⟨⟩
end
section
attribute [simp] undef scB ext z2O z4D Function.comp_def zdQ zh8 zbe zhK nav sub upd z4k z6g z2G zen z1H zkO z5X zsi z6L z8Y zjp zkN onA kill z4a zdD zdd setCells z9E zaP zqY z4Q zgz z9X zoR z9u zaX setT moveT zka ziJ plugL' zkI zkh z6G zsa zs9 zpz zsq zsp nrmO? plugL putR z8f explode cellsE z4q rdV scE zpf zpe znu zkA zkp zkt zkr zkq zkz zmN zko zeG zky zks zku zkv zkw zkx zk0 zjX zjY zjZ zk1 zjh zji zjj zjk zmd zme zmf zmg zoZ zmW zok zol List.map_flatMap ziO zgm zjw z1l zso unS ztI ztJ zjq opE zrx zhY zkk zkc znJ zwR z8G zj4 znN ziD zbC zt1 z9a zmM zp9 zrd z7O z7V z8P z6K zbf znL zoF zjF ztf zdf zmK z7S z8b z8M z4z z5h z6a zm1 zfY z8O znx zf8 zwe zrO zmt zpE zd8 zf9 zqM zoN zjx ztb zkV zsS opn zdb z5O ziy zri znB ztg z3L zdo z7F zcT clB ioF zto zsV zal z7P putF opF zib z5G zpI zhq z8R z8X onE ids zdk zdj z7D zkD z8Z z4W z8c z6u z5H z6C zrR zmn zg0 z8Q zb7 zs5 zkd zgk zhL zmu zt2 zs4 zgX zs3 zdm zh1 zwO zwQ zwN zwP zu0 z8d z0c wrF z9Z noM zth zt7 zsv zrw ziZ zrS zeA zew zgA zcA zqS zbx zte zno za1 z9z zhD zhV zdP zr2 zr1 Option.map_some zeV zn6
end
section
open Go
def zdl : List T -> Option (List Int)
  | [] => some []
  | .sc (.int .i64 x) :: l => (zdl l).map (x :: ·)
  | _ => none
theorem z7T : ∀ xs : List Int, zdl (xs.map fun x => .sc (.int .i64 x)) = some xs
  | [] => rfl
  | x :: xs => by simp [zdl, z7T xs]
theorem z7U : ∀ {cs : List T} {xs : List Int}, zdl cs = some xs -> cs = xs.map fun x => .sc (.int .i64 x)
  | [], xs, h => by simp [zdl] at h; subst h; rfl
  | c :: cs, xs, h => by
    unfold zdl at h
    split at h
    · rename_i he; cases he
    · rename_i x l he
      cases he
      simp only [Option.map_eq_some_iff] at h
      obtain ⟨ys, hy, rfl⟩ := h
      simp [← z7U hy]
    · cases h
def szN (s : Nat) : Nat := (List.range 7).countP fun q => s.testBit q
def zpX (p r : Nat) : Bool := decide (szN r < szN p) || (decide (szN p = szN r) && decide (p <= r))
def leI (a b : Int) : Bool := zpX a.toNat b.toNat
def zoV (x : Int) : List Int -> List Int
  | [] => [x]
  | y :: l => if leI x y = true then x :: y :: l else y :: zoV x l
def z9Q : List Int -> List Int
  | [] => []
  | x :: l => zoV x (z9Q l)
def zhb (xs : List Int) : Option (List Int) := if xs ≠ [] /\ xs.length < 4611686018427387904 /\ xs.all (fun x => decide (0 <= x /\ x < 128)) = true then some (z9Q xs) else none
def znO (fn : FuncId) (args : List T) : Option (T × List T) := match args with
  | [.os 1 n cs, .sc (.func (.func f) fs gs)] => if f = fn /\ fs.isEmpty /\ gs.isEmpty then (match zdl cs with | some xs => if xs.length = n then (zhb xs).map fun ys => (.tup [], [.os 1 ys.length (ys.map fun x => .sc (.int .i64 x)), .dead]) else none | none => none) else none
  | _ => none
def zh4 (x : List Int) : T := .sl x.length (x.map fun z => .sc (.int .i64 z))
def zho : List T -> Option (List (List Int))
  | [] => some []
  | .sl n cs :: l => (match zdl cs with | some x => if x.length = n then (zho l).map (x :: ·) else none | none => none)
  | _ => none
theorem zg9 : ∀ xs : List (List Int), zho (xs.map zh4) = some xs
  | [] => rfl
  | x :: xs => by simp [zh4, zho, z7T, zg9 xs]
theorem zga : ∀ {cs : List T} {xs : List (List Int)}, zho cs = some xs -> cs = xs.map zh4
  | [], xs, h => by simp [zho] at h; subst h; rfl
  | c :: cs, xs, h => by
    unfold zho at h
    split at h
    · rename_i he; cases he
    · rename_i n es l he
      cases he
      split at h
      case h_2 => cases h
      rename_i x hx
      split at h
      case isFalse => cases h
      rename_i hn
      simp only [Option.map_eq_some_iff] at h
      obtain ⟨ys, hy, rfl⟩ := h
      subst hn
      rw [z7U hx, zga hy, List.map_cons, zh4]
    · cases h
def zqO (x : List Int) : List (List Int) -> List (List Int)
  | [] => [x]
  | y :: l => if z7B x y <= 0 then x :: y :: l else y :: zqO x l
def zaF : List (List Int) -> List (List Int)
  | [] => []
  | x :: l => zqO x (zaF l)
def zjK (xs : List (List Int)) : Option (List (List Int)) := if xs ≠ [] /\ xs.length < 4611686018427387904 then some (zaF xs) else none
def znP (fn : FuncId) (args : List T) : Option (T × List T) := match args with
  | [.os 1 n cs, .sc (.func (.func f) fs gs)] => if f = fn /\ fs.isEmpty /\ gs.isEmpty then (match zho cs with | some xs => if xs.length = n then (zjK xs).map fun ys => (.tup [], [.os 1 ys.length (ys.map zh4), .dead]) else none | none => none) else none
  | _ => none
def zdr (xs : List Int) : Option (List Int) := if xs ≠ [] /\ xs.length < 4611686018427387904 then some (xs.mergeSort fun x y => decide (x <= y)) else none
def zic (args : List T) : Option (T × List T) := match args with
  | [.os 1 n cs] => (match zdl cs with | some xs => if xs.length = n then (zdr xs).map fun ys => (.tup [], [.os 1 ys.length (ys.map fun x => .sc (.int .i64 x))]) else none | none => none)
  | _ => none
def zds (xs : List Int) : Option (List Int) := if xs.length * 8 <= 140737488355328 then some xs else none
def zid (args : List T) : Option (T × List T) := match args with
  | [.sl n cs] => (match zdl cs with | some xs => if xs.length = n then (zds xs).map fun ys => (.os 1 ys.length (ys.map fun x => .sc (.int .i64 x)), [.dead]) else none | none => none)
  | _ => none
def xtC : z0l := fun f args => if f = 75 then znO 76 args else if f = 41 then znP 42 args else if f = 117 then zic args else if f = 116 then zid args else none
end
end Go.Proofs.YtodliknibbafeaaGreat
