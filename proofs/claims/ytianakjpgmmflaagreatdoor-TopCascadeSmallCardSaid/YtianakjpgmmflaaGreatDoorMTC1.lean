/- Proved here: a part of the proof of the law at hand, in one text: no condition. -/
import Derived.WalkKit
import Derived.WalkSpells
import Derived.WalkLawsBesides
import Derived.Lib.Hide
import Derived.Deep.OwnRows
import Derived.Deep.RegionLaw
import Derived.Below
import Derived.Shelf.Strings.Builder1
import Derived.Shelf.Small.Bits
import Derived.Shelf.Small.Wraps
import Derived.Shelf.Strings.BuilderF
import Derived.Shelf.Strings.BuilderK
import Derived.Shelf.Strconv.Itoa0
import Derived.Shelf.Sort.Plain
import Derived.Shelf.Strings.BuilderCap
import Derived.Shelf.Slices.Turned
import Derived.Ground.Names2Prog
import Derived.Shelf.Slices.Clone
import Derived.Shelf.Slices.CompactI
import Derived.Shelf.Slices.SearchI
import Derived.Shelf.Slices.Cells
import Derived.Shelf.Slices.In.SortNone
import Derived.Ground.SlgnProg
import Derived.Shelf.SlicesE.Clone
import Derived.Ground.SlsfProg
import Derived.Shelf.SlSortCmp.Insertion
import Derived.Shelf.SlSortCmp.SiftDown1
import Derived.Shelf.SlSortCmp.HeapSort1
import Derived.Shelf.SlSortCmp.Insertion1
import Derived.Shelf.SlSortCmp.Median1
import Derived.Shelf.SlSortCmp.Pivot1
import Derived.Shelf.SlSortCmp.ReverseRange1
import Derived.Shelf.SlSortCmp.PartialInsertion1
import Derived.Shelf.SlSortCmp.PartitionEqual1
import Derived.Shelf.SlSortCmp.Partition1
import Derived.Shelf.SlSortCmp.Pdq1
import Derived.Shelf.SlSortCmp.Whole1
import Derived.Shelf.SlSortCmp.WholeK
import Derived.Shelf.SlSortCmp.NoneTotal
import Derived.Test.YtianakjpgmmflaaGreatDoorProg
import Derived.Laws.Cells
import Derived.ChangeKeysEq
import Derived.Laws.BytesString
import Derived.IntWalk
import Derived.Laws.AppendOwn
set_option linter.unusedVariables false
set_option linter.unusedSimpArgs false
set_option linter.unusedSectionVars false
set_option maxRecDepth 100000
namespace Go.Proofs.YtianakjpgmmflaaGreatDoor
section
open Go
abbrev Yp:= @Array.ext'
abbrev Z7:= @Array.getD_eq_getD_getElem?
abbrev X8:= @Array.getElem?_append
abbrev YG:= @Array.getElem?_eq_getElem
abbrev ZO:= @Array.getElem?_eq_some_iff
abbrev XF:= @Array.getElem?_extract
abbrev X7:= @Array.getElem?_mapIdx
abbrev Y2:= @Array.getElem?_modify
abbrev Yk:= @Array.getElem?_push
abbrev ZZ:= @Array.getElem?_setIfInBounds
abbrev Zv:= @Array.getElem?_toList
abbrev Xi:= @Array.getElem_toList
abbrev XO:= @Array.isEmpty_empty
abbrev X4:= @Array.isEmpty_iff
abbrev Yj:= @Array.length_toList
abbrev Xw:= @Array.size_append
abbrev Yy:= @Array.toArray_toList
abbrev YV:= @Bool.and_eq_false_iff
abbrev Z6:= @Bool.and_eq_true
abbrev XP:= @Bool.and_true
abbrev Yf:= @Bool.eq_iff_iff
abbrev ZR:= @Bool.false_eq_true
abbrev Xf:= @Bool.false_or
abbrev XC:= @Bool.not_eq_true
abbrev Yb:= @Bool.not_eq_true'
abbrev XN:= @Bool.not_false
abbrev XX:= @Bool.not_not
abbrev Xe:= @Bool.not_true
abbrev YY:= @Bool.or_eq_false_iff
abbrev Y7:= @Bool.or_eq_true
abbrev YN:= @Bool.true_and
abbrev Y6:= @Classical.byContradiction
abbrev YU:= @Iff.rfl
abbrev ZF:= @Int.eq_ofNat_of_zero_le
abbrev Z3:= @Int.toNat_natCast
abbrev XB:= @IntKind.wrap_u64
abbrev YI:= @IntKind.wrap_u8
abbrev YM:= @List.Pairwise.filter
abbrev Xz:= @List.Pairwise.imp_of_mem
abbrev YC:= @List.Pairwise.map
abbrev Xy:= @List.Perm.eq_of_pairwise
abbrev Xx:= @List.all_cons
abbrev Zn:= @List.all_eq_true
abbrev Yg:= @List.any_eq_true
abbrev Zo:= @List.append_assoc
abbrev YQ:= @List.append_cancel_left
abbrev Y1:= @List.append_nil
abbrev Xl:= @List.cons.injEq
abbrev ZU:= @List.cons_append
abbrev Yd:= @List.drop_eq_getElem_cons
abbrev ZW:= @List.eq_nil_of_length_eq_zero
abbrev Zf:= @List.ext_getElem
abbrev XW:= @List.ext_getElem?
abbrev Xr:= @List.filter_append
abbrev X0:= @List.filter_cons
abbrev XH:= @List.filter_nil
abbrev X1:= @List.find?_range_eq_some
abbrev Xh:= @List.findIdx_getElem
abbrev YL:= @List.findIdx_lt_length_of_exists
abbrev Ya:= @List.flatMap_cons
abbrev YK:= @List.foldl_append
abbrev Xk:= @List.foldl_cons
abbrev XM:= @List.forall_mem_cons
abbrev Yz:= @List.getD_cons_succ
abbrev Xn:= @List.getD_cons_zero
abbrev YX:= @List.getD_eq_getElem?_getD
abbrev ZL:= @List.getElem?_append_left
abbrev Y5:= @List.getElem?_append_right
abbrev ZT:= @List.getElem?_cons_succ
abbrev X3:= @List.getElem?_cons_zero
abbrev Yo:= @List.getElem?_drop
abbrev Z1:= @List.getElem?_eq_getElem
abbrev X6:= @List.getElem?_eq_none
abbrev Z8:= @List.getElem?_eq_some_iff
abbrev Zd:= @List.getElem?_map
abbrev XV:= @List.getElem?_set
abbrev Xg:= @List.getElem?_set_ne
abbrev YF:= @List.getElem?_take
abbrev X5:= @List.getElem?_toArray
abbrev XR:= @List.getElem_idxOf
abbrev ZG:= @List.getElem_map
abbrev Zw:= @List.getElem_mem
abbrev Zt:= @List.getElem_of_mem
abbrev ZQ:= @List.getElem_range
abbrev Y9:= @List.getElem_set
abbrev Xv:= @List.getElem_take
abbrev Xo:= @List.idxOf_lt_length_of_mem
abbrev Za:= @List.length_append
abbrev Zr:= @List.length_cons
abbrev Y8:= @List.length_drop
abbrev XE:= @List.length_eq_one_iff
abbrev ZC:= @List.length_filter_le
abbrev Zh:= @List.length_map
abbrev Ye:= @List.length_nil
abbrev ZH:= @List.length_pos_iff
abbrev YT:= @List.length_pos_of_mem
abbrev ZD:= @List.length_range
abbrev Xj:= @List.length_set
abbrev ZE:= @List.length_singleton
abbrev Zq:= @List.length_take
abbrev ZY:= @List.map_append
abbrev ZB:= @List.map_congr_left
abbrev Zs:= @List.map_cons
abbrev YW:= @List.map_id
abbrev XU:= @List.map_id'
abbrev Y3:= @List.map_map
abbrev Ys:= @List.map_nil
abbrev Ze:= @List.mem_append
abbrev Zu:= @List.mem_cons
abbrev Zl:= @List.mem_cons_of_mem
abbrev Zy:= @List.mem_cons_self
abbrev ZV:= @List.mem_filter
abbrev Zm:= @List.mem_map
abbrev ZM:= @List.mem_of_getElem?
abbrev XL:= @List.mem_of_mem_drop
abbrev ZI:= @List.mem_of_mem_take
abbrev Xt:= @List.mem_or_eq_of_mem_set
abbrev Zk:= @List.mem_range
abbrev Zj:= @List.mem_singleton
abbrev Y4:= @List.nil_append
abbrev Yu:= @List.nodup_append
abbrev YH:= @List.nodup_cons
abbrev YP:= @List.nodup_range
abbrev YB:= @List.pairwise_append
abbrev Zz:= @List.pairwise_cons
abbrev ZK:= @List.pairwise_iff_getElem
abbrev XD:= @List.pairwise_lt_range
abbrev YA:= @List.range_succ
abbrev XI:= @List.singleton_append
abbrev XT:= @List.size_toArray
abbrev ZN:= @List.take_append_drop
abbrev Yr:= @List.take_length
abbrev Yq:= @List.take_of_length_le
abbrev Xm:= @List.take_succ_cons
abbrev ZA:= @List.take_succ_eq_append_getElem
abbrev Xq:= @List.take_zero
abbrev Xd:= @Nat.add_assoc
abbrev Yi:= @Nat.add_mul
abbrev Ym:= @Nat.add_sub_cancel_left
abbrev Yx:= @Nat.add_zero
abbrev Xa:= @Nat.div_eq_of_lt
abbrev Y0:= @Nat.eq_of_beq_eq_true
abbrev ZS:= @Nat.eq_of_testBit_eq
abbrev XQ:= @Nat.eq_zero_or_pos
abbrev YO:= @Nat.exists_eq_add_of_le
abbrev YR:= @Nat.exists_testBit_of_ne_zero
abbrev Z5:= @Nat.le_refl
abbrev ZJ:= @Nat.le_trans
abbrev X2:= @Nat.lt_of_le_of_lt
abbrev Zx:= @Nat.lt_of_lt_of_le
abbrev Yw:= @Nat.lt_or_ge
abbrev XA:= @Nat.lt_succ_self
abbrev Xu:= @Nat.lt_trichotomy
abbrev YZ:= @Nat.mod_eq_of_lt
abbrev Yc:= @Nat.mul_le_mul_right
abbrev Zi:= @Nat.pow_le_pow_right
abbrev Yn:= @Nat.pow_lt_pow_right
abbrev Xs:= @Nat.shiftRight_eq_div_pow
abbrev XS:= @Nat.sub_self
abbrev YJ:= @Nat.sub_zero
abbrev XG:= @Nat.testBit_and
abbrev YS:= @Nat.testBit_lt_two_pow
abbrev YE:= @Nat.testBit_or
abbrev Yh:= @Nat.testBit_two_pow
abbrev Yv:= @Nat.two_pow_pos
abbrev Zp:= @Nat.zero_add
abbrev Yt:= @Nat.zero_le
abbrev X9:= @Nat.zero_testBit
abbrev Yl:= @Option.bind_eq_some_iff
abbrev Z0:= @Option.bind_some
abbrev Zb:= @Option.getD_some
abbrev ZX:= @Option.isSome_iff_exists
abbrev Z4:= @Option.map_eq_some_iff
abbrev ZP:= @Option.map_some
abbrev YD:= @Option.some.inj
abbrev Z9:= @Option.some.injEq
abbrev XK:= @Prod.ext
abbrev Xb:= @Prod.mk.injEq
abbrev Z2:= @Result.andThen_ok
abbrev Zc:= @Sem.run_bind
abbrev Zg:= @Sem.run_pure
abbrev XJ:= @Std.Legacy.Range.forIn_eq_forIn_range'
abbrev Xp:= @UInt8.toNat_ofNat'
open Go.RowKit
variable{g n:Nat}{f:Nat->Value}{w w':World}
def Arr(w:World)(g n:Nat)(f:Nat->Value):Prop:=
 ∀i,i<n->w.cell? ⟨g,i,none⟩=some (f i)/\w.frozen? ⟨g,i,none⟩=false
theorem Arr.set(h:Arr w g n f)(j:Nat)(hj:j<n)(c:Value):
 Arr (w.setCell ⟨g,j,none⟩ c) g n (fun i=>if i=j then c else f i):=by
 intro i hi
 refine⟨?_,by rw[World.frozen?_setCell];exact(h i hi).2⟩
 by_cases hij:i=j
 · subst hij
   rw[World.cell?_setCell_same _ _ _ (h i hi).1];simp
 · rw[World.cell?_setCell_other _ _ _ _ (fun e=>hij (by cases e;rfl)),(h i hi).1];simp[hij]
theorem Arr.drew(h:Arr w g n f):Arr w.drew g n f:=h
theorem Arr.congr{f':Nat->Value}(h:Arr w g n f)(e:∀i,i<n->f i=f' i):Arr w g n f':=
 fun i hi=>by rw[←e i hi];exact h i hi
theorem Arr.below{B:Nat}(h:Arr w g n f)(hb:Below B w w')(hg:g<B):Arr w' g n f:=
 fun i hi=>⟨(hb.cell (p:=⟨g,i,none⟩) hg).trans (h i hi).1,(hb.frozen (p:=⟨g,i,none⟩) hg).trans (h i hi).2⟩
theorem Arr.grown{row:Option Nat}(h:Arr w g n f)(hb:w.grownBy w' row)(hg:some g≠row):Arr w' g n f:=
 fun i hi=>by
  have hlt:=World.block_lt_of_cell? w _ (h i hi).1
  have e:=hb.block g hlt hg
  exact⟨(World.cell?_of_block (a:=⟨g,i,none⟩) e).trans (h i hi).1,(World.frozen?_of_block (a:=⟨g,i,none⟩) e).trans (h i hi).2⟩
theorem Arr.lt(h:Arr w g n f)(hn:0<n):g<w.heap.size:=World.block_lt_of_cell? w _ (h 0 hn).1
theorem Arr.get(h:Arr w g n f)(i:Nat)(hi:i<n){v:Value}(e:f i=v):w.cell? ⟨g,i,none⟩=some v:=by rw[(h i hi).1,e]
theorem Arr.free(h:Arr w g n f)(i:Nat)(hi:i<n):w.frozen? ⟨g,i,none⟩=false:=(h i hi).2
end
section
open Go.RowKit
def Cells(w:World)(ga:Option Addr)(n:Nat)(F:Nat->Value):Prop:=∀j,j<n->∃g o,ga=some ⟨g,o,none⟩/\w.cell? ⟨g,o+j,none⟩=some (F j)
theorem zdT{w w':World}(hb:Below w.heap.size w w'){a:Addr}{v:Value}(h:w.cell? a=some v):w'.cell? a=some v:=by
 rw[hb.cell (World.block_lt_of_cell? w a h)];exact h
theorem Cells.below{w w':World}{ga:Option Addr}{n:Nat}{F:Nat->Value}(h:Cells w ga n F)(hb:Below w.heap.size w w'):Cells w' ga n F:=fun j hj=>by
 obtain⟨g,o,e,hc⟩:=h j hj
 exact⟨g,o,e,zdT hb hc⟩
theorem Cells.mono{w:World}{ga:Option Addr}{n m:Nat}{F:Nat->Value}(h:Cells w ga n F)(hm:m<=n):Cells w ga m F:=fun j hj=>h j (by omega)
theorem Cells.congr{w:World}{ga:Option Addr}{n:Nat}{F G:Nat->Value}(h:Cells w ga n F)(e:∀j,j<n->F j=G j):Cells w ga n G:=fun j hj=>by
 obtain⟨g,o,e1,hc⟩:=h j hj
 exact⟨g,o,e1,by rw[hc,e j hj]⟩
def IntsAt(w:World)(v:Value)(xs:List Int):Prop:=
 ∃ga cap,v= .slice ga xs.length cap/\xs.length<=cap/\cap<=maxLen/\Cells w ga xs.length (fun j=>.int .i64 (xs.getD j 0))
theorem IntsAt.below{w w':World}{v:Value}{xs:List Int}(h:IntsAt w v xs)(hb:Below w.heap.size w w'):IntsAt w' v xs:=by
 obtain⟨ga,cap,e,h1,h2,h3⟩:=h
 exact⟨ga,cap,e,h1,h2,h3.below hb⟩
def RowsAt(w:World)(v:Value)(rows:List (List Int)):Prop:=
 ∃ga cap,∃F:Nat->Value,v= .slice ga rows.length cap/\rows.length<=cap/\cap<=maxLen/\Cells w ga rows.length F/\ ∀j,j<rows.length->IntsAt w (F j) (rows.getD j [])
theorem RowsAt.below{w w':World}{v:Value}{rows:List (List Int)}(h:RowsAt w v rows)(hb:Below w.heap.size w w'):RowsAt w' v rows:=by
 obtain⟨ga,cap,F,e,h1,h2,h3,h4⟩:=h
 exact⟨ga,cap,F,e,h1,h2,h3.below hb,fun j hj=>(h4 j hj).below hb⟩
structure CRow where
 pre:List Int
 maps:List (List Int)
deriving Inhabited
structure Casc where
 letters:Int
 sizes:List Int
 rows:List CRow
deriving Inhabited
variable{v:Value}{w w':World}
def CRowsAt(w:World)(v:Value)(rows:List CRow):Prop:=
 ∃ga cap,∃F G:Nat->Value,v= .slice ga rows.length cap/\rows.length<=cap/\cap<=maxLen/\ ∀j,(h:j<rows.length)->∃g o,ga=some ⟨g,o,none⟩/\w.cell? ⟨g,o+j*2,none⟩=some (F j)/\w.cell? ⟨g,o+j*2+1,none⟩=some (G j)/\IntsAt w (F j) rows[j].pre/\RowsAt w (G j) rows[j].maps
theorem CRowsAt.below{rows:List CRow}(h:CRowsAt w v rows)(hb:Below w.heap.size w w'):CRowsAt w' v rows:=by
 obtain⟨ga,cap,F,G,e,h1,h2,h3⟩:=h
 refine⟨ga,cap,F,G,e,h1,h2,fun j hj=> ?_⟩
 obtain⟨g,o,e1,c1,c2,i1,i2⟩:=h3 j hj
 exact⟨g,o,e1,zdT hb c1,zdT hb c2,i1.below hb,i2.below hb⟩
def CascAt(w:World)(v:Value)(c:Casc):Prop:=
 ∃s r,v= .agg #[.int .i64 c.letters,s,r]/\IntsAt w s c.sizes/\CRowsAt w r c.rows
theorem CascAt.below{c:Casc}(h:CascAt w v c)(hb:Below w.heap.size w w'):CascAt w' v c:=by
 obtain⟨s,r,e,h1,h2⟩:=h
 exact⟨s,r,e,h1.below hb,h2.below hb⟩
end
section
def z8F:List Int->List Int->Int
 | [],[]=>0
 | [],_::_=> -1
 |_::_,[]=>1
 |a::x,b::y=>if a<b then-1 else if b<a then 1 else z8F x y
def zah(a b:List Int):Int:=if a.length<b.length then-1 else if b.length<a.length then 1 else z8F a b
theorem zlz:∀(xs ys:List Int) (k:Nat),k<xs.length->k<ys.length->(∀i,i<k->xs.getD i 0=ys.getD i 0)->xs.getD k 0≠ys.getD k 0->z8F xs ys=if xs.getD k 0<ys.getD k 0 then-1 else 1
 | [],_,k,h,_,_,_=>by simp at h
 |_::_,[],k,_,h,_,_=>by simp at h
 |a::x,b::y,0,_,_,_,hne=>by
  simp at hne
  simp only[z8F,Xn]
  by_cases h:a<b
  · simp[h]
  · have:b<a:=by omega
    simp[h,this]
 |a::x,b::y,k+1,h1,h2,he,hne=>by
  have h0:=he 0 (by omega)
  simp at h0
  subst h0
  have ih:=zlz x y k (by simpa using h1) (by simpa using h2) (fun i hi=>by have:=he (i+1) (by omega);simpa using this) (by simpa using hne)
  simp[z8F] at ih⊢
  exact ih
theorem zjn:∀(xs ys:List Int),(∀i,i<xs.length->i<ys.length->xs.getD i 0=ys.getD i 0)->z8F xs ys=if xs.length<ys.length then-1 else if ys.length<xs.length then 1 else 0
 | [],[],_=>by simp[z8F]
 | [],_::_,_=>by simp[z8F]
 |_::_,[],_=>by simp[z8F]
 |a::x,b::y,he=>by
  have h0:=he 0 (by simp) (by simp)
  simp at h0
  subst h0
  have ih:=zjn x y (fun i h1 h2=>by have:=he (i+1) (by simpa using h1) (by simpa using h2);simpa using this)
  simp[z8F,ih]
theorem zcV:∀(xs ys:List Int),z8F xs ys=0↔xs=ys
 | [],[]=>by simp[z8F]
 | [],_::_=>by simp[z8F]
 |_::_,[]=>by simp[z8F]
 |a::x,b::y=>by
  have ih:=zcV x y
  simp only[z8F]
  by_cases h:a<b
  · have:a≠b:=by omega
    simp[h,this]
  · by_cases h2:b<a
    · have:a≠b:=by omega
      simp[h,h2,this]
    · have:a=b:=by omega
      simp[this,ih]
theorem zgG(a b:List Int):zah a b=0↔a=b:=by
 have:=zcV a b
 unfold zah
 by_cases h:a.length<b.length
 · simp only[if_pos h]
   constructor
   · omega
   · intro e;subst e;omega
 · by_cases h2:b.length<a.length
   · simp only[if_neg h,if_pos h2]
     constructor
     · omega
     · intro e;subst e;omega
   · simp only[if_neg h,if_neg h2];exact this
end
end Go.Proofs.YtianakjpgmmflaaGreatDoor
section
namespace Go.Proofs
open Go.Shelf
def Tryz.lays169_ren:Go.Shelf.Ren:=⟨fun|169=>147|n=>n,fun|70=>191|9=>9|0=>0|72=>193|37=>84|127=>220|3=>3|5=>5|n=>n,fun|n=>n⟩
theorem Tryz.lays169:Go.Proofs.Lays.n169 Tryz.prog Tryz.lays169_ren:=by constructor<;>intros<;>kernel_rfl
theorem Tryz.Builder_Extra_169:Builder.Extra Tryz.prog Tryz.lays169_ren:={sizeBuilder:=by kernel_rfl,liesBuilder:=by kernel_rfl,t5:=Tryz.underlying5,a5:=Tryz.isAgg5,z5:=Tryz.sizeOf5,v5:=Tryz.zeroValue5,infoByte:=by kernel_rfl,cellsByte:=by kernel_rfl,sizeByte:=by kernel_rfl,neB5:=by decide}
open Go.RowKit in
theorem Tryz.Builder_String_any(B b:Nat)(l:List UInt8)(w:World)(h:Lib.IsBuilder 193 5 B b (Lib.byteCells l) w)(hBw:B<=w.heap.size):
 Calls Tryz.prog 147 #[.pointer (some ⟨b,0,none⟩)] w fun e w'=>e= .returned (.string ⟨l.toArray⟩)/\Below B w w':=Any.Builder_String_any Tryz.lays169 Tryz.Builder_Extra_169 B b l w h hBw
def Tryz.lays215_ren:Go.Shelf.Ren:=⟨fun|215=>93|n=>n,fun|3=>3|4=>4|n=>n,fun|n=>n⟩
theorem Tryz.lays215:Go.Proofs.Lays.n215 Tryz.prog Tryz.lays215_ren:=by constructor<;>intros<;>kernel_rfl
open Go.RowKit in
theorem Tryz.cmp_isNaN_int(x:Int)(w:World):
 Calls Tryz.prog 93 #[.int .i64 x] w fun e w'=>e= .returned (.bool false)/\w'=w:=Any.cmp_isNaN_int Tryz.lays215 x w
def Tryz.lays122_ren:Go.Shelf.Ren:=⟨fun|122=>49|215=>93|n=>n,fun|3=>3|4=>4|n=>n,fun|n=>n⟩
theorem Tryz.lays122:Go.Proofs.Lays.n122 Tryz.prog Tryz.lays122_ren:=by constructor<;>intros<;>kernel_rfl
open Go.RowKit in
theorem Tryz.cmp_Compare_int(x y:Int)(w:World):
 Calls Tryz.prog 49 #[.int .i64 x,.int .i64 y] w fun e w'=>e= .returned (.int .i64 (Lib.compareInt x y))/\w'=w:=Any.cmp_Compare_int Tryz.lays122 x y w
def Tryz.lays189_ren:Go.Shelf.Ren:=⟨fun|189=>210|125=>89|257=>218|128=>128|129=>129|294=>221|295=>222|296=>223|297=>224|298=>225|299=>226|216=>227|300=>228|301=>229|328=>238|329=>164|330=>165|331=>239|332=>240|215=>93|343=>244|n=>n,fun|28=>22|3=>3|46=>97|0=>0|51=>145|53=>147|4=>4|183=>169|182=>168|131=>163|5=>5|9=>9|218=>203|222=>184|228=>224|229=>225|n=>n,fun|n=>n⟩
theorem Tryz.lays189:Go.Proofs.Lays.n189 Tryz.prog Tryz.lays189_ren:=by constructor<;>intros<;>kernel_rfl
open Go.Sort Go.RowKit in
theorem Tryz.slices_Sort_int(blk off cap:Nat)(zs:List Int)(w:World)(hH:Holds (Value.int .i64) w blk off zs.toArray)(hblk:blk<w.heap.size)(hsz:zs.length<4611686018427387904):
 Calls Tryz.prog 210 #[.slice (some ⟨blk,off,none⟩) zs.length cap] w fun e w'=>
  e= .returned (.tuple #[])/\ ∃n os,w'=grow (putRow (Value.int .i64) (Sort.ahead w n) blk off (zs.mergeSort fun x y=>decide (x<=y)).toArray) os:=Any.slices_Sort_int Tryz.lays189 blk off cap zs w hH hblk hsz
def Tryz.laysNm215_ren:Go.Shelf.Ren:=⟨fun|15=>45|n=>n,fun|22=>22|3=>3|4=>4|n=>n,fun|n=>n⟩
theorem Tryz.laysNm215:Go.Proofs.Lays2.n15 Tryz.prog Tryz.laysNm215_ren:=by constructor<;>intros<;>kernel_rfl
open Go.RowKit Go.Lib in
theorem Tryz.slices_Clone_int(b off n c:Nat)(zs:List Int)(w:World)(hz:n<=zs.length)(hbig:n*8<=140737488355328)(hc:∀j,j<zs.length->w.cell? ⟨b,off+j,none⟩=some (.int .i64 (zs.getD j 0))):
 Calls Tryz.prog 45 #[.slice (some ⟨b,off,none⟩) n c] w fun e w'=>∃v',e= .returned v'/\w'.ownsRow w.heap.size 3 1 v' n ((zs.take n).map (Value.int .i64))/\v'≠ .slice none 0 0/\Below w.heap.size w w':=Any.slices_Clone_int Tryz.laysNm215 b off n c zs w hz hbig hc
open Go.RowKit Go.Lib in
theorem Tryz.slices_Clone_int_nil(n c:Nat)(w:World):
 Calls Tryz.prog 45 #[.slice none n c] w fun e w'=>e= .returned (.slice none 0 0)/\w'=w:=Any.slices_Clone_int_nil Tryz.laysNm215 n c w
open Go.RowKit Go.Lib in
theorem Tryz.slices_Clone_int_zero(a:Addr)(c:Nat)(w:World):
 Calls Tryz.prog 45 #[.slice (some a) 0 c] w fun e w'=>∃v',e= .returned v'/\w'.ownsRow w.heap.size 3 1 v' 0 []/\v'≠ .slice none 0 0/\Below w.heap.size w w':=Any.slices_Clone_int_zero Tryz.laysNm215 a c w
def Tryz.laysSlF6_f40_ren:Go.Shelf.Ren:=⟨fun|6=>40|15=>89|14=>88|28=>128|29=>129|20=>120|21=>121|22=>122|23=>123|24=>124|25=>125|26=>126|27=>127|46=>163|47=>164|48=>165|49=>166|50=>167|57=>193|n=>n,fun|22=>24|24=>22|25=>94|3=>3|39=>97|0=>0|53=>145|55=>147|4=>4|46=>169|45=>168|50=>163|5=>5|9=>9|66=>203|70=>184|76=>224|77=>225|n=>n,fun|n=>n⟩
theorem Tryz.laysSlF6_f40:Go.Proofs.SlLaysF.n6 Tryz.prog Tryz.laysSlF6_f40_ren:=by
 constructor
 case f6=>exact⟨Tryz.f40.name,rfl,by kernel_rfl⟩
 case f14=>exact⟨Tryz.f88.name,rfl,by kernel_rfl⟩
 case f20=>exact⟨Tryz.f120.name,rfl,by kernel_rfl⟩
 case f21=>exact⟨Tryz.f121.name,rfl,by kernel_rfl⟩
 case f22=>exact⟨Tryz.f122.name,rfl,by kernel_rfl⟩
 case f23=>exact⟨Tryz.f123.name,rfl,by kernel_rfl⟩
 case f24=>exact⟨Tryz.f124.name,rfl,by kernel_rfl⟩
 case f25=>exact⟨Tryz.f125.name,rfl,by kernel_rfl⟩
 case f26=>exact⟨Tryz.f126.name,rfl,by kernel_rfl⟩
 case f27=>exact⟨Tryz.f127.name,rfl,by kernel_rfl⟩
 case f46=>exact⟨Tryz.f163.name,rfl,by kernel_rfl⟩
 case f49=>exact⟨Tryz.f166.name,rfl,by kernel_rfl⟩
 case f50=>exact⟨Tryz.f167.name,rfl,by kernel_rfl⟩
 case f57=>exact⟨Tryz.f193.name,rfl,by kernel_rfl⟩
 all_goals intros;kernel_rfl
def Tryz.laysSlF6_f97_ren:Go.Shelf.Ren:=⟨fun|6=>97|15=>89|14=>138|28=>128|29=>129|20=>140|21=>171|22=>172|23=>173|24=>174|25=>175|26=>176|27=>177|46=>195|47=>164|48=>165|49=>196|50=>197|57=>212|n=>n,fun|22=>22|24=>3|25=>106|3=>3|39=>97|0=>0|53=>145|55=>147|4=>4|46=>169|45=>168|50=>163|5=>5|9=>9|66=>203|70=>184|76=>224|77=>225|n=>n,fun|n=>n⟩
theorem Tryz.laysSlF6_f97:Go.Proofs.SlLaysF.n6 Tryz.prog Tryz.laysSlF6_f97_ren:=by
 constructor
 case f6=>exact⟨Tryz.f97.name,rfl,by kernel_rfl⟩
 case f14=>exact⟨Tryz.f138.name,rfl,by kernel_rfl⟩
 case f20=>exact⟨Tryz.f140.name,rfl,by kernel_rfl⟩
 case f21=>exact⟨Tryz.f171.name,rfl,by kernel_rfl⟩
 case f22=>exact⟨Tryz.f172.name,rfl,by kernel_rfl⟩
 case f23=>exact⟨Tryz.f173.name,rfl,by kernel_rfl⟩
 case f24=>exact⟨Tryz.f174.name,rfl,by kernel_rfl⟩
 case f25=>exact⟨Tryz.f175.name,rfl,by kernel_rfl⟩
 case f26=>exact⟨Tryz.f176.name,rfl,by kernel_rfl⟩
 case f27=>exact⟨Tryz.f177.name,rfl,by kernel_rfl⟩
 case f46=>exact⟨Tryz.f195.name,rfl,by kernel_rfl⟩
 case f49=>exact⟨Tryz.f196.name,rfl,by kernel_rfl⟩
 case f50=>exact⟨Tryz.f197.name,rfl,by kernel_rfl⟩
 case f57=>exact⟨Tryz.f212.name,rfl,by kernel_rfl⟩
 all_goals intros;kernel_rfl
open Go.RowKit Go.Lib Go.Sort in
theorem Tryz.slices_SortFunc_f40{α:Type}[Inhabited α](enc:α->Value)(h1:OneCell enc)(cf:α->α->Int)(hO:SWO (ltOf cf))(g:Nat)(cb:Array Value)(blk off cap:Nat)(d:Array α)(w:World)(eg:∀args w,(callFunc g args).run Tryz.prog w= .ok (.enter g args) w)(hcmp:CmpLays1 Tryz.prog g cb enc cf blk off d.size w)(hH:Holds enc w blk off d)(hblk:blk<w.heap.size)(hsz:d.size<4611686018427387904):
 Calls Tryz.prog 40 #[.slice (some ⟨blk,off,none⟩) d.size cap,.func (.func g) #[] cb] w fun e w'=>
  e= .returned (.tuple #[])/\ ∃d' n os,PermIn 0 d.size d d'/\SortedIn (ltOf cf) 0 d.size d'/\w'=sortWorld enc w blk off n d' os:=Any.slices_SortFunc Tryz.laysSlF6_f40 enc h1 cf hO g cb blk off cap d w eg hcmp hH hblk hsz
open Go.RowKit Go.Lib Go.Sort in
theorem Tryz.slices_SortFunc_f97{α:Type}[Inhabited α](enc:α->Value)(h1:OneCell enc)(cf:α->α->Int)(hO:SWO (ltOf cf))(g:Nat)(cb:Array Value)(blk off cap:Nat)(d:Array α)(w:World)(eg:∀args w,(callFunc g args).run Tryz.prog w= .ok (.enter g args) w)(hcmp:CmpLays1 Tryz.prog g cb enc cf blk off d.size w)(hH:Holds enc w blk off d)(hblk:blk<w.heap.size)(hsz:d.size<4611686018427387904):
 Calls Tryz.prog 97 #[.slice (some ⟨blk,off,none⟩) d.size cap,.func (.func g) #[] cb] w fun e w'=>
  e= .returned (.tuple #[])/\ ∃d' n os,PermIn 0 d.size d d'/\SortedIn (ltOf cf) 0 d.size d'/\w'=sortWorld enc w blk off n d' os:=Any.slices_SortFunc Tryz.laysSlF6_f97 enc h1 cf hO g cb blk off cap d w eg hcmp hH hblk hsz
def Tryz.laysSlF06_f46_ren:Go.Shelf.Ren:=⟨fun|6=>46|15=>89|14=>92|28=>128|29=>129|20=>130|21=>131|22=>132|23=>133|24=>134|25=>135|26=>136|27=>137|46=>168|47=>164|48=>165|49=>169|50=>170|57=>194|n=>n,fun|22=>28|24=>101|25=>107|3=>3|39=>97|0=>0|53=>145|55=>147|4=>4|46=>169|45=>168|50=>163|5=>5|9=>9|66=>203|70=>184|76=>224|77=>225|n=>n,fun|n=>n⟩
theorem Tryz.laysSlF06_f46:Go.Proofs.SlLaysF0.n6 Tryz.prog Tryz.laysSlF06_f46_ren:=by
 constructor
 case f6=>exact⟨Tryz.f46.name,rfl,by kernel_rfl⟩
 case f14=>exact⟨Tryz.f92.name,rfl,by kernel_rfl⟩
 case f20=>exact⟨Tryz.f130.name,rfl,by kernel_rfl⟩
 case f21=>exact⟨Tryz.f131.name,rfl,by kernel_rfl⟩
 case f22=>exact⟨Tryz.f132.name,rfl,by kernel_rfl⟩
 case f23=>exact⟨Tryz.f133.name,rfl,by kernel_rfl⟩
 case f24=>exact⟨Tryz.f134.name,rfl,by kernel_rfl⟩
 case f25=>exact⟨Tryz.f135.name,rfl,by kernel_rfl⟩
 case f26=>exact⟨Tryz.f136.name,rfl,by kernel_rfl⟩
 case f27=>exact⟨Tryz.f137.name,rfl,by kernel_rfl⟩
 case f46=>exact⟨Tryz.f168.name,rfl,by kernel_rfl⟩
 case f49=>exact⟨Tryz.f169.name,rfl,by kernel_rfl⟩
 case f50=>exact⟨Tryz.f170.name,rfl,by kernel_rfl⟩
 case f57=>exact⟨Tryz.f194.name,rfl,by kernel_rfl⟩
 all_goals intros;kernel_rfl
open Go.RowKit Go.Lib Go.Sort in
theorem Tryz.slices_SortFunc_f46{α:Type}[Inhabited α](aE:∀w,(isAgg 101).run Tryz.prog w= .ok true w)(zE:∀w,(Go.sizeOf 101).run Tryz.prog w= .ok 2 w)(enc:α->List Value)(hk:∀x,(enc x).length=2)(h1:∀x,∀v∈enc x,v.oneCell'=true)(cf:α->α->Int)(hO:SWO (ltOf cf))(g:Nat)(cb:Array Value)(blk off cap:Nat)(d:Array α)(w:World)(eg:∀args w,(callFunc g args).run Tryz.prog w= .ok (.enter g args) w)(hcmp:CmpLays Tryz.prog g cb enc 2 cf blk off d.size w)(hH:HoldsK enc 2 w blk off d)(hblk:blk<w.heap.size)(hsz:d.size<4611686018427387904):
 Calls Tryz.prog 46 #[.slice (some ⟨blk,off,none⟩) d.size cap,.func (.func g) #[] cb] w fun e w'=>
  e= .returned (.tuple #[])/\ ∃d' n os,PermIn 0 d.size d d'/\SortedIn (ltOf cf) 0 d.size d'/\w'=sortWorldK enc 2 w blk off n d' os:=AnyQ.slices_SortFunc Tryz.laysSlF06_f46 2 aE zE enc hk h1 cf hO g cb blk off cap d w eg hcmp hH hblk hsz
end Go.Proofs
end
namespace Go.Proofs.YtianakjpgmmflaaGreatDoor
section
set_option maxHeartbeats 400000
open Go.RowKit
theorem zfR{a b:Int}(h:a=b):Ending.returned (.int .i64 a)= .returned (.int .i64 b):=by rw[h]
theorem IntsAt.get{w:World}{v:Value}{xs:List Int}(h:IntsAt w v xs):∃ga cap,v= .slice ga xs.length cap/\xs.length<=9223372036854775807/\Cells w ga xs.length (fun j=>.int .i64 (xs.getD j 0)):=by
 obtain⟨ga,cap,e,h1,h2,h3⟩:=h
 exact⟨ga,cap,e,by unfold maxLen at h2;omega,h3⟩
theorem zck(v u:Value)(xs ys:List Int)(w:World)(h1:IntsAt w v xs)(h2:IntsAt w u ys):
 Calls Tryz.prog 41 #[v,u] w fun e w'=>e= .returned (.int .i64 (z8F xs ys))/\w=w':=by
 obtain⟨ga,ca,rfl,n1,c1⟩:=h1.get
 obtain⟨gb,cb,rfl,n2,c2⟩:=h2.get
 have C1:=Lib.hid c1
 have C2:=Lib.hid c2
 clear c1 c2 h1 h2
 go_enter Tryz.func41,Tryz.ntmps41
 go_wp2
 go_loop [11] (fun vi=>∃k:Nat,k<=xs.length/\k<=ys.length/\vi= .int .i64 k/\(∀i,i<k->xs.getD i 0=ys.getD i 0)) (fun vi=>xs.length-(intOf vi).toNat)
 case atStart=>exact⟨0,Yt _,Yt _,rfl,fun i hi=>by omega⟩
 case round=>
  obtain⟨k,hk,hk2,rfl,hall⟩:=hrel
  have HA:=Lib.hid hall
  clear hall
  by_cases hl1:k<xs.length
  · obtain⟨a,oa,rfl,d1⟩:=C1.out k hl1
    simp only[] at d1
    have z1:(0:Int)<=(k:Int):=by omega
    have z2:(k:Int)<(xs.length:Int):=by omega
    by_cases hl2:k<ys.length
    · obtain⟨b,ob,rfl,d2⟩:=C2.out k hl2
      simp only[] at d2
      have z3:(k:Int)<(ys.length:Int):=by omega
      have HT:=Lib.hid (zlz xs ys k hl1 hl2 HA.out)
      generalize hx:xs.getD k 0=x at*
      generalize hy:ys.getD k 0=y at*
      have HX:=Lib.hid hx
      have HY:=Lib.hid hy
      clear hx hy
      by_cases he:x=y
      · subst he
        have hc:Lib.compareInt x x=0:=by unfold Lib.compareInt;simp
        go_wp2_with (go_at_call 49;refine(Tryz.cmp_Compare_int _ _ _).mono ?_;rintro e w' ⟨rfl,rfl⟩;rw[hc])
        go_round
        case rel=>exact⟨k+1,by omega,by omega,by go_num,fun i hi=>by
         by_cases e:i=k
         · subst e;rw[HX.out,HY.out]
         · exact HA.out i (by omega)⟩
        case measure=>simp[intOf];omega
      · have HE:=Lib.hid (HT.out he)
        by_cases hxy:x<y
        · have hc:Lib.compareInt x y= -1:=by unfold Lib.compareInt;simp[hxy]
          have HC:=Lib.hid hc
          clear he hc
          go_wp2_with (go_at_call 49;refine(Tryz.cmp_Compare_int _ _ _).mono ?_;rintro e w' ⟨rfl,rfl⟩;rw[HC.out])
          go_ret
          exact⟨zfR (by rw[HE.out,if_pos hxy]),rfl⟩
        · have hyx:y<x:=by omega
          have hc:Lib.compareInt x y=1:=by unfold Lib.compareInt;simp[hxy,hyx]
          have HC:=Lib.hid hc
          clear he hc
          go_wp2_with (go_at_call 49;refine(Tryz.cmp_Compare_int _ _ _).mono ?_;rintro e w' ⟨rfl,rfl⟩;rw[HC.out])
          go_ret
          exact⟨zfR (by rw[HE.out,if_neg (by omega)]),rfl⟩
    · have HE:=Lib.hid (zjn xs ys (fun i h1 h2=>HA.out i (by omega)))
      have q1:¬xs.length<ys.length:=by omega
      have q2:ys.length<xs.length:=by omega
      go_wp2
      go_ret
      exact⟨zfR (by rw[HE.out,if_neg q1,if_pos q2]),rfl⟩
  · have HE:=Lib.hid (zjn xs ys (fun i h1 h2=>HA.out i (by omega)))
    have q0:¬ys.length<xs.length:=by omega
    by_cases q1:xs.length<ys.length
    · go_wp2
      go_ret
      exact⟨zfR (by rw[HE.out,if_pos q1]),rfl⟩
    · go_wp2
      go_ret
      exact⟨zfR (by rw[HE.out,if_neg q1,if_neg q0]),rfl⟩
end
section
inductive T where
 |sc (v:Value)
 |dead
 |agg (cs:List T)
 |tup (cs:List T)
 |sl (n:Nat) (cs:List T)
 |os (sz n:Nat) (cs:List T)
 |vr (cs:List T)
 |vo (off:Nat) (cs:List T)
 |pr (cs:List T)
 |mp (kk:Option IntKind) (es:List (Value×Value))
 |mr (kk:Option IntKind) (es:List (Value×Value))
 |mt (kk:Option IntKind) (ks:List Value) (cs:List T)
 |ms (kk:Option IntKind) (ks:List Value) (cs:List T)
 |cl (f:FuncId) (cs:List T)
abbrev z0a:=List Nat
def scB:Value->Bool
 | .bool _| .int _ _| .float _ _| .string _| .pointer none| .map none| .nilFunc| .nilIface=>true
 | .func _ a b=>a.isEmpty&&b.isEmpty
 |_=>false
def ext(c:z0a)(j:Nat):z0a:=match c with| []=> []|_=>c++ [j]
theorem z6M{c:z0a}(h:c≠ [])(j:Nat):ext c j=c++ [j]:=by cases c<;>simp_all[ext]
def zwi:Value->Bool
 | .agg vs=>(match vs.toList with| [.int .i64 _,.int .i64 _]=>true|_=>false)
 |_=>false
def zu6:Value->Bool
 | .int .i64 _=>true
 |_=>false
def zCW(n:Nat):Value->Bool
 | .agg vs=>decide (vs.size=n)&&vs.toList.all zu6
 |_=>false
def agI(xs:List Int):Value:=.agg (xs.map (Value.int .i64)).toArray
def zbO(kk:Option IntKind)(v:Value):Bool:=match kk,v with|some .i8,v=>zwi v|some .i16,v=>zCW 7 v|some k,.int k' _=>k==k'|none,.string _=>true|_,_=>false
def zre(kk:Option IntKind)(ents:Array MapEntry)(clock:Nat)(es:List (Value×Value)):Prop:=ents.toList.map (fun e=>(e.key,e.val))=es/\(∀x∈es,zbO kk x.1=true/\scB x.2=true)/\(∀x∈ents.toList,x.born<clock)/\(ents.toList.map (·.born)).Nodup
def MapTs(kk:Option IntKind)(ents:Array MapEntry)(clock:Nat)(ks:List Value)(n:Nat)(F:Nat->Value):Prop:=ents.toList.map (fun e=>e.key)=ks/\ks.length=n/\(∀k∈ks,zbO kk k=true)/\(∀(j:Nat) (e:MapEntry),ents[j]? =some e->e.val=F j)/\(∀(j:Nat) (e:MapEntry),ents[j]? =some e->e.born<clock)/\ ∀(i j:Nat) (e e':MapEntry),ents[i]? =some e->ents[j]? =some e'->e.born=e'.born->i=j
inductive TRep(w:World)(K:Nat->z0a):z0a->Value->T->Prop
 |sc (c v) (h:scB v=true):TRep w K c v (.sc v)
 |dead (c v):TRep w K c v .dead
 |agg (c) (vs:Array Value) (cs:List T) (F:Nat->Value) (hl:vs.size=cs.length) (hF:∀j,j<cs.length->vs[j]? =some (F j)) (h:∀j t,cs[j]? =some t->TRep w K (ext c j) (F j) t):TRep w K c (.agg vs) (.agg cs)
 |tup (c) (vs:Array Value) (cs:List T) (F:Nat->Value) (hl:vs.size=cs.length) (hF:∀j,j<cs.length->vs[j]? =some (F j)) (h:∀j t,cs[j]? =some t->TRep w K (ext c j) (F j) t):TRep w K c (.tuple vs) (.tup cs)
 |emp (c a cap) (hc:cap<=maxLen):TRep w K c (.slice a 0 cap) (.sl 0 [])
 |fro (c g o n cap cs) (F:Nat->Value) (hK:K g= []) (hg:g<w.heap.size) (hn:n<=cap) (hc:cap<=maxLen) (hF:∀j,j<cs.length->w.cell? ⟨g,o+j,none⟩=some (F j))
   (h:∀j t,cs[j]? =some t->TRep w K [] (F j) t):TRep w K c (.slice (some ⟨g,o,none⟩) n cap) (.sl n cs)
 |nil (c sz):TRep w K c (.slice none 0 0) (.os sz 0 [])
 |own (c g n cap size cs) (arr:Array Value) (e:TypeId) (fz:Nat×Nat) (F:Nat->Value) (hfz:∀i,i<arr.size->¬(fz.1<=i/\fz.1≠fz.2)) (hc0:c≠ []) (hK:K g=c) (hg:w.heap[g]? =some (.cells arr e fz)) (hs:arr.size=cap*size) (hl:cs.length=n*size) (hz:0<size)
   (hn:n<=cap) (hc:cap<=maxLen) (hF:∀j,j<cs.length->arr[j]? =some (F j)) (h:∀j t,cs[j]? =some t->TRep w K (c++ [j]) (F j) t):TRep w K c (.slice (some ⟨g,0,none⟩) n cap) (.os size n cs)
 |vr (c g cs) (arr:Array Value) (e:TypeId) (fz:Nat×Nat) (F:Nat->Value) (hfz:∀i,i<arr.size->¬(fz.1<=i/\fz.1≠fz.2)) (hc0:c≠ []) (hK:K g=c) (hg:w.heap[g]? =some (.cells arr e fz)) (hl:cs.length<=arr.size)
   (hF:∀j,j<cs.length->arr[j]? =some (F j)) (h:∀j t,cs[j]? =some t->TRep w K (c++ [j]) (F j) t):TRep w K c (.pointer (some ⟨g,0,none⟩)) (.vr cs)
 |vo (c g off cs) (h:TRep w K c (.pointer (some ⟨g,0,none⟩)) (.vr cs)):TRep w K c (.pointer (some ⟨g,off,none⟩)) (.vo off cs)
 |pr (c g o cs) (F:Nat->Value) (hK:K g= []) (hg:g<w.heap.size) (hF:∀j,j<cs.length->w.cell? ⟨g,o+j,none⟩=some (F j))
   (h:∀j t,cs[j]? =some t->TRep w K [] (F j) t):TRep w K c (.pointer (some ⟨g,o,none⟩)) (.pr cs)
 |mr (c g kk es) (ents:Array MapEntry) (clock:Nat) (hK:K g= []) (hg:w.heap[g]? =some (.map ents clock)) (hh:zre kk ents clock es):TRep w K c (.map (some g)) (.mr kk es)
 |mp (c g kk es) (ents:Array MapEntry) (clock:Nat) (hc0:c≠ []) (hK:K g=c) (hg:w.heap[g]? =some (.map ents clock)) (hh:zre kk ents clock es):TRep w K c (.map (some g)) (.mp kk es)
 |ms (c g kk ks cs) (ents:Array MapEntry) (clock:Nat) (F:Nat->Value) (hK:K g= []) (hg:w.heap[g]? =some (.map ents clock)) (hh:MapTs kk ents clock ks cs.length F) (h:∀j t,cs[j]? =some t->TRep w K [] (F j) t):TRep w K c (.map (some g)) (.ms kk ks cs)
 |mt (c g kk ks cs) (ents:Array MapEntry) (clock:Nat) (F:Nat->Value) (hc0:c≠ []) (hK:K g=c) (hg:w.heap[g]? =some (.map ents clock)) (hh:MapTs kk ents clock ks cs.length F) (h:∀j t,cs[j]? =some t->TRep w K [] (F j) t):TRep w K c (.map (some g)) (.mt kk ks cs)
 |cl (c f) (vs:Array Value) (cs:List T) (F:Nat->Value) (hl:vs.size=cs.length) (hF:∀j,j<cs.length->vs[j]? =some (F j)) (h:∀j t,cs[j]? =some t->TRep w K [] (F j) t):TRep w K c (.func (.func f) #[] vs) (.cl f cs)
theorem z0P{w:World}{g:Nat}{o:Obj}(h:w.heap[g]? =some o):g<w.heap.size:=by
 rcases Yw g w.heap.size with h'|h'
 · exact h'
 · rw[Array.getElem?_eq_none h'] at h;cases h
theorem z0Y{w w':World}{g:Nat}(h:w'.heap[g]? =w.heap[g]?)(o:Nat):w'.cell? ⟨g,o,none⟩=w.cell? ⟨g,o,none⟩:=by
 simp only[World.cell?,h]
theorem z1E{w:World}{g:Nat}{arr:Array Value}{e:TypeId}{fr:Nat×Nat}(h:w.heap[g]? =some (.cells arr e fr))(j:Nat):w.cell? ⟨g,j,none⟩=arr[j]? :=by
 simp[World.cell?,h]
theorem TRep.move{w w':World}{K K':Nat->z0a}{c:z0a}{v:Value}{t:T}(h:TRep w K c v t):∀ {c':z0a},
 (∀b s,b<w.heap.size->c≠ []->K b=c++s->K' b=c'++s/\w'.heap[b]? =w.heap[b]?)->(∀b,b<w.heap.size->K b= []->K' b= []/\w'.heap[b]? =w.heap[b]?)->(c= []↔c'= [])->
 w.heap.size<=w'.heap.size->TRep w' K' c' v t:=by
 induction h with
 |sc c v h=>intro c' _ _ _ _;exact .sc c' v h
 |dead c v=>intro c' _ _ _ _;exact .dead c' v
 |agg c vs cs F hl hF h ih=>
  intro c' h1 h2 h3 h4
  refine .agg c' vs cs F hl hF (fun j t ht=>ih j t ht ?_ h2 ?_ h4)
  · intro b s hb hc hK
    by_cases hc0:c= []
    · subst hc0;exact absurd rfl hc
    · have hc0':c'≠ []:=fun e=>hc0 (h3.2 e)
      rw[z6M hc0] at hK
      rw[z6M hc0']
      have:=h1 b (j::s) hb hc0 (by simpa using hK)
      exact⟨by simpa using this.1,this.2⟩
  · cases c with
    |nil=>have:=h3.1 rfl;subst this;simp[ext]
    |cons a c=>cases c' with
     |nil=>have:=h3.2 rfl;cases this
     |cons a' c'=>simp[ext]
 |tup c vs cs F hl hF h ih=>
  intro c' h1 h2 h3 h4
  refine .tup c' vs cs F hl hF (fun j t ht=>ih j t ht ?_ h2 ?_ h4)
  · intro b s hb hc hK
    by_cases hc0:c= []
    · subst hc0;exact absurd rfl hc
    · have hc0':c'≠ []:=fun e=>hc0 (h3.2 e)
      rw[z6M hc0] at hK
      rw[z6M hc0']
      have:=h1 b (j::s) hb hc0 (by simpa using hK)
      exact⟨by simpa using this.1,this.2⟩
  · cases c with
    |nil=>have:=h3.1 rfl;subst this;simp[ext]
    |cons a c=>cases c' with
     |nil=>have:=h3.2 rfl;cases this
     |cons a' c'=>simp[ext]
 |emp c a cap hc=>intro c' _ _ _ _;exact .emp c' a cap hc
 |fro c g o n cap cs F hK hg hn hc hF h ih=>
  intro c' h1 h2 h3 h4
  obtain⟨k1,k2⟩:=h2 g hg hK
  exact .fro c' g o n cap cs F k1 (Zx hg h4) hn hc (fun j hj=>by rw[z0Y k2];exact hF j hj) (fun j t ht=>ih j t ht (fun _ _ _ hc=>absurd rfl hc) h2 YU h4)
 |nil c sz=>intro c' _ _ _ _;exact .nil c' sz
 |own c g n cap size cs arr e fz F hfz hc0 hK hg hs hl hz hn hc hF h ih=>
  intro c' h1 h2 h3 h4
  have hc0':c'≠ []:=fun e=>hc0 (h3.2 e)
  obtain⟨k1,k2⟩:=h1 g [] (z0P hg) hc0 (by simpa using hK)
  refine .own c' g n cap size cs arr e fz F hfz hc0' (by simpa using k1) (by rw[k2];exact hg) hs hl hz hn hc hF (fun j t ht=>ih j t ht ?_ h2 (by simp) h4)
  intro b s hb _ hK
  have:=h1 b (j::s) hb hc0 (by simpa using hK)
  exact⟨by simpa using this.1,this.2⟩
 |vr c g cs arr e fz F hfz hc0 hK hg hl hF h ih=>
  intro c' h1 h2 h3 h4
  have hc0':c'≠ []:=fun e=>hc0 (h3.2 e)
  obtain⟨k1,k2⟩:=h1 g [] (z0P hg) hc0 (by simpa using hK)
  refine .vr c' g cs arr e fz F hfz hc0' (by simpa using k1) (by rw[k2];exact hg) hl hF (fun j t ht=>ih j t ht ?_ h2 (by simp) h4)
  intro b s hb _ hK
  have:=h1 b (j::s) hb hc0 (by simpa using hK)
  exact⟨by simpa using this.1,this.2⟩
 |vo c g off cs h ih=>intro c' h1 h2 h3 h4;exact .vo c' g off cs (ih h1 h2 h3 h4)
 |pr c g o cs F hK hg hF h ih=>
  intro c' h1 h2 h3 h4
  obtain⟨k1,k2⟩:=h2 g hg hK
  exact .pr c' g o cs F k1 (Zx hg h4) (fun j hj=>by rw[z0Y k2];exact hF j hj) (fun j t ht=>ih j t ht (fun _ _ _ hc=>absurd rfl hc) h2 YU h4)
 |mr c g kk es ents clock hK hg hh=>
  intro c' h1 h2 h3 h4
  obtain⟨k1,k2⟩:=h2 g (z0P hg) hK
  exact .mr c' g kk es ents clock k1 (by rw[k2];exact hg) hh
 |mp c g kk es ents clock hc0 hK hg hh=>
  intro c' h1 h2 h3 h4
  obtain⟨k1,k2⟩:=h1 g [] (z0P hg) hc0 (by simpa using hK)
  exact .mp c' g kk es ents clock (fun e=>hc0 (h3.2 e)) (by simpa using k1) (by rw[k2];exact hg) hh
 |ms c g kk ks cs ents clock F hK hg hh h ih=>
  intro c' h1 h2 h3 h4
  obtain⟨k1,k2⟩:=h2 g (z0P hg) hK
  exact .ms c' g kk ks cs ents clock F k1 (by rw[k2];exact hg) hh (fun j t ht=>ih j t ht (fun _ _ _ hc=>absurd rfl hc) h2 YU h4)
 |mt c g kk ks cs ents clock F hc0 hK hg hh h ih=>
  intro c' h1 h2 h3 h4
  obtain⟨k1,k2⟩:=h1 g [] (z0P hg) hc0 (by simpa using hK)
  exact .mt c' g kk ks cs ents clock F (fun e=>hc0 (h3.2 e)) (by simpa using k1) (by rw[k2];exact hg) hh (fun j t ht=>ih j t ht (fun _ _ _ hc=>absurd rfl hc) h2 YU h4)
 |cl c f vs cs F hl hF h ih=>
  intro c' h1 h2 h3 h4
  exact .cl c' f vs cs F hl hF (fun j t ht=>ih j t ht (fun _ _ _ hc=>absurd rfl hc) h2 YU h4)
mutual
def z1P:T->T
 | .sc v=>.sc v
 | .dead=>.dead
 | .agg cs=>.agg (z5R cs)
 | .tup cs=>.tup (z5R cs)
 | .sl n cs=>.sl n (z5R cs)
 | .os _ n cs=>.sl n (z5R cs)
 | .vr cs=>.pr (z5R cs)
 | .vo _ _=>.dead
 | .pr cs=>.pr (z5R cs)
 | .mp kk es=>.mr kk es
 | .mr kk es=>.mr kk es
 | .mt kk ks cs=>.ms kk ks (z5R cs)
 | .ms kk ks cs=>.ms kk ks (z5R cs)
 | .cl f cs=>.cl f (z5R cs)
def z5R:List T->List T
 | []=> []
 |t::ts=>z1P t::z5R ts
end
theorem z3U:∀cs:List T,z5R cs=cs.map z1P
 | []=>rfl
 |t::ts=>by rw[z5R,Zs,z3U ts]
theorem TRep.freeze{w w':World}{K K':Nat->z0a}{c:z0a}{v:Value}{t:T}(h:TRep w K c v t):
 (∀b s,b<w.heap.size->c≠ []->K b=c++s->K' b= []/\w'.heap[b]? =w.heap[b]?)->(∀b,b<w.heap.size->K b= []->K' b= []/\w'.heap[b]? =w.heap[b]?)->
 w.heap.size<=w'.heap.size->∀c':z0a,TRep w' K' c' v (z1P t):=by
 induction h with
 |sc c v h=>intro _ _ _ c';rw[z1P];exact .sc c' v h
 |dead c v=>intro _ _ _ c';rw[z1P];exact .dead c' v
 |agg c vs cs F hl hF h ih=>
  intro h1 h2 h4 c'
  rw[z1P,z3U]
  refine .agg c' vs _ F (by simpa using hl) (by simpa using hF) (fun j t ht=> ?_)
  simp only[Zd,Z4] at ht
  obtain⟨t0,ht0,rfl⟩:=ht
  refine ih j t0 ht0 ?_ h2 h4 _
  intro b s hb hc hK
  by_cases hc0:c= []
  · subst hc0;exact absurd rfl hc
  · rw[z6M hc0] at hK
    exact h1 b (j::s) hb hc0 (by simpa using hK)
 |tup c vs cs F hl hF h ih=>
  intro h1 h2 h4 c'
  rw[z1P,z3U]
  refine .tup c' vs _ F (by simpa using hl) (by simpa using hF) (fun j t ht=> ?_)
  simp only[Zd,Z4] at ht
  obtain⟨t0,ht0,rfl⟩:=ht
  refine ih j t0 ht0 ?_ h2 h4 _
  intro b s hb hc hK
  by_cases hc0:c= []
  · subst hc0;exact absurd rfl hc
  · rw[z6M hc0] at hK
    exact h1 b (j::s) hb hc0 (by simpa using hK)
 |emp c a cap hc=>intro _ _ _ c';rw[z1P,z5R];exact .emp c' a cap hc
 |fro c g o n cap cs F hK hg hn hc hF h ih=>
  intro h1 h2 h4 c'
  obtain⟨k1,k2⟩:=h2 g hg hK
  rw[z1P,z3U]
  refine .fro c' g o n cap _ F k1 (Zx hg h4) hn hc (fun j hj=>by rw[z0Y k2];exact hF j (by simpa using hj)) (fun j t ht=> ?_)
  simp only[Zd,Z4] at ht
  obtain⟨t0,ht0,rfl⟩:=ht
  exact ih j t0 ht0 (fun _ _ _ hc=>absurd rfl hc) h2 h4 _
 |nil c sz=>intro _ _ _ c';rw[z1P,z5R];exact .emp c' none 0 (by decide)
 |own c g n cap size cs arr e fz F hfz hc0 hK hg hs hl hz hn hc hF h ih=>
  intro h1 h2 h4 c'
  obtain⟨k1,k2⟩:=h1 g [] (z0P hg) hc0 (by simpa using hK)
  rw[z1P,z3U]
  refine .fro c' g 0 n cap _ F k1 (Zx (z0P hg) h4) hn hc (fun j hj=>by rw[z0Y k2,z1E hg,Zp];exact hF j (by simpa using hj)) (fun j t ht=> ?_)
  simp only[Zd,Z4] at ht
  obtain⟨t0,ht0,rfl⟩:=ht
  exact ih j t0 ht0 (fun b s hb _ hK=>h1 b (j::s) hb hc0 (by simpa using hK)) h2 h4 _
 |vr c g cs arr e fz F hfz hc0 hK hg hl hF h ih=>
  intro h1 h2 h4 c'
  obtain⟨k1,k2⟩:=h1 g [] (z0P hg) hc0 (by simpa using hK)
  rw[z1P,z3U]
  refine .pr c' g 0 _ F k1 (Zx (z0P hg) h4) (fun j hj=>by rw[z0Y k2,z1E hg,Zp];exact hF j (by simpa using hj)) (fun j t ht=> ?_)
  simp only[Zd,Z4] at ht
  obtain⟨t0,ht0,rfl⟩:=ht
  exact ih j t0 ht0 (fun b s hb _ hK=>h1 b (j::s) hb hc0 (by simpa using hK)) h2 h4 _
 |vo c g off cs h ih=>intro _ _ _ c';rw[z1P];exact .dead c' _
 |pr c g o cs F hK hg hF h ih=>
  intro h1 h2 h4 c'
  obtain⟨k1,k2⟩:=h2 g hg hK
  rw[z1P,z3U]
  refine .pr c' g o _ F k1 (Zx hg h4) (fun j hj=>by rw[z0Y k2];exact hF j (by simpa using hj)) (fun j t ht=> ?_)
  simp only[Zd,Z4] at ht
  obtain⟨t0,ht0,rfl⟩:=ht
  exact ih j t0 ht0 (fun _ _ _ hc=>absurd rfl hc) h2 h4 _
 |mr c g kk es ents clock hK hg hh=>
  intro h1 h2 h4 c'
  obtain⟨k1,k2⟩:=h2 g (z0P hg) hK
  rw[z1P];exact .mr c' g kk es ents clock k1 (by rw[k2];exact hg) hh
 |mp c g kk es ents clock hc0 hK hg hh=>
  intro h1 h2 h4 c'
  obtain⟨k1,k2⟩:=h1 g [] (z0P hg) hc0 (by simpa using hK)
  rw[z1P];exact .mr c' g kk es ents clock k1 (by rw[k2];exact hg) hh
 |ms c g kk ks cs ents clock F hK hg hh h ih=>
  intro h1 h2 h4 c'
  obtain⟨k1,k2⟩:=h2 g (z0P hg) hK
  rw[z1P,z3U]
  refine .ms c' g kk ks _ ents clock F k1 (by rw[k2];exact hg) (by rw[Zh];exact hh) (fun j t ht=> ?_)
  simp only[Zd,Z4] at ht
  obtain⟨t0,ht0,rfl⟩:=ht
  exact ih j t0 ht0 (fun _ _ _ hc=>absurd rfl hc) h2 h4 _
 |mt c g kk ks cs ents clock F hc0 hK hg hh h ih=>
  intro h1 h2 h4 c'
  obtain⟨k1,k2⟩:=h1 g [] (z0P hg) hc0 (by simpa using hK)
  rw[z1P,z3U]
  refine .ms c' g kk ks _ ents clock F k1 (by rw[k2];exact hg) (by rw[Zh];exact hh) (fun j t ht=> ?_)
  simp only[Zd,Z4] at ht
  obtain⟨t0,ht0,rfl⟩:=ht
  exact ih j t0 ht0 (fun _ _ _ hc=>absurd rfl hc) h2 h4 _
 |cl c f vs cs F hl hF h ih=>
  intro h1 h2 h4 c'
  rw[z1P,z3U]
  refine .cl c' f vs _ F (by simpa using hl) (by simpa using hF) (fun j t ht=> ?_)
  simp only[Zd,Z4] at ht
  obtain⟨t0,ht0,rfl⟩:=ht
  exact ih j t0 ht0 (fun _ _ _ hc=>absurd rfl hc) h2 h4 _
def zep(w:World):Value->Nat->Option Value
 | .agg vs,j=>vs[j]?
 | .tuple vs,j=>vs[j]?
 | .slice (some a) _ _,j=>w.cell? ⟨a.block,j,none⟩
 | .pointer (some a),j=>w.cell? ⟨a.block,j,none⟩
 |_,_=>none
def zlV:T->Nat->Option T
 | .agg cs,j=>cs[j]?
 | .tup cs,j=>cs[j]?
 | .os _ _ cs,j=>cs[j]?
 | .vr cs,j=>cs[j]?
 |_,_=>none
def nav(w:World):Value->List Nat->Option Value
 |v,[]=>some v
 |v,j::p=>match zep w v j with|some v'=>nav w v' p|none=>none
def sub:T->List Nat->Option T
 |t,[]=>some t
 |t,j::p=>match zlV t j with|some t'=>sub t' p|none=>none
theorem TRep.kid{w:World}{K:Nat->z0a}{c:z0a}{v:Value}{t t':T}{j:Nat}(h:TRep w K c v t)(hc:c≠ [])(hk:zlV t j=some t'):∃v',zep w v j=some v'/\TRep w K (c++ [j]) v' t':=by
 cases h with
 |sc h=>cases hk
 |dead=>cases hk
 |agg c vs cs F hl hF h=>exact⟨F j,hF j (by have:=Z8.1 hk;exact this.1),by have:=h j t' hk;rwa [z6M hc] at this⟩
 |tup c vs cs F hl hF h=>exact⟨F j,hF j (by have:=Z8.1 hk;exact this.1),by have:=h j t' hk;rwa [z6M hc] at this⟩
 |emp=>cases hk
 |fro=>cases hk
 |nil=>simp[zlV] at hk
 |own c g n cap size cs arr e fz F hfz hc0 hK hg hs hl hz hn hc' hF h=>
  exact⟨F j,by show w.cell? ⟨g,j,none⟩=_;rw[z1E hg];exact hF j (Z8.1 hk).1,h j t' hk⟩
 |vr c g cs arr e fz F hfz hc0 hK hg hl hF h=>
  exact⟨F j,by show w.cell? ⟨g,j,none⟩=_;rw[z1E hg];exact hF j (Z8.1 hk).1,h j t' hk⟩
 |vo=>cases hk
 |pr=>cases hk
 |mr=>cases hk
 |mp=>cases hk
 |ms=>cases hk
 |mt=>cases hk
 |cl=>cases hk
theorem TRep.sub{w:World}{K:Nat->z0a}:∀ {p:List Nat} {c:z0a} {v:Value} {t t':T},TRep w K c v t->c≠ []->sub t p=some t'->∃v',nav w v p=some v'/\TRep w K (c++p) v' t'
 | [],c,v,t,t',h,hc,hs=>by
   simp only[Proofs.YtianakjpgmmflaaGreatDoor.sub,Z9] at hs
   subst hs
   exact⟨v,rfl,by simpa using h⟩
 |j::p,c,v,t,t',h,hc,hs=>by
  simp only[Proofs.YtianakjpgmmflaaGreatDoor.sub] at hs
  split at hs
  · rename_i k hk
    obtain⟨v1,e1,r1⟩:=h.kid hc hk
    obtain⟨v2,e2,r2⟩:=TRep.sub (p:=p) r1 (by simp) hs
    exact⟨v2,by simp only[nav,e1];exact e2,by simpa using r2⟩
  · cases hs
def upd:T->List Nat->T->Option T
 |_,[],x=>some x
 | .agg cs,j::p,x=>match cs[j]? with|some k=>(match upd k p x with|some k'=>some (.agg (cs.set j k'))|none=>none)|none=>none
 | .tup cs,j::p,x=>match cs[j]? with|some k=>(match upd k p x with|some k'=>some (.tup (cs.set j k'))|none=>none)|none=>none
 | .os sz n cs,j::p,x=>match cs[j]? with|some k=>(match upd k p x with|some k'=>some (.os sz n (cs.set j k'))|none=>none)|none=>none
 | .vr cs,j::p,x=>match cs[j]? with|some k=>(match upd k p x with|some k'=>some (.vr (cs.set j k'))|none=>none)|none=>none
 |_,_::_,_=>none
end
section
structure Keep(w w':World)(K K':Nat->z0a)(D:z0a->Prop):Prop where
 fro:∀b,b<w.heap.size->K b= []->K' b= []/\w'.heap[b]? =w.heap[b]?
 own:∀b,b<w.heap.size->D (K b)->K' b=K b/\w'.heap[b]? =w.heap[b]?
 size:w.heap.size<=w'.heap.size
variable{cs:List T}{j:Nat}{K K':Nat->z0a}{t:T}{v:Value}{w w':World}{c:z0a}{D:z0a->Prop}
theorem Keep.mono{D':z0a->Prop}(h:Keep w w' K K' D)(hd:∀c,D' c->D c):Keep w w' K K' D':=
 ⟨h.fro,fun b hb hD=>h.own b hb (hd _ hD),h.size⟩
theorem TRep.keep(h:TRep w K c v t)(k:Keep w w' K K' D)(hd:∀s,c≠ []->D (c++s)):TRep w' K' c v t:=
 h.move (fun b s hb hc hK=>by have:=k.own b hb (by rw[hK];exact hd s hc);rw[←hK];exact this) k.fro YU k.size
theorem zeG{F:Nat->Value}{k':T}
 (h1:∀j2 t2,j2≠j->cs[j2]? =some t2->TRep w' K' (c++ [j2]) (F j2) t2) (h2:TRep w' K' (c++ [j]) (F j) k'):
 ∀j2 t2,(cs.set j k')[j2]? =some t2->TRep w' K' (c++ [j2]) (F j2) t2:=by
 intro j2 t2 h
 by_cases e:j2=j
 · subst e
   rw[List.getElem?_set_self'] at h
   cases hc:cs[j2]? with
   |none=>rw[hc] at h;cases h
   |some x=>rw[hc] at h;cases h;exact h2
 · rw[Xg (fun e'=>e e'.symm)] at h
   exact h1 j2 t2 e h
theorem TRep.upd{w w':World}{K K':Nat->z0a}:∀ {p:List Nat} {c:z0a} {v vp:Value} {t t' x:T},TRep w K c v t->c≠ []->nav w v p=some vp->upd t p x=some t'->
 Keep w w' K K' (fun d=>∃s,d=c++s/\ ¬p<+:s)->TRep w' K' (c++p) vp x->TRep w' K' c v t'
 | [],c,v,vp,t,t',x,h,hc,hn,hu,k,hx=>by
   simp only[nav,Z9] at hn
   simp only[Proofs.YtianakjpgmmflaaGreatDoor.upd,Z9] at hu
   subst hn hu
   simpa using hx
 |j::p,c,v,vp,t,t',x,h,hc,hn,hu,k,hx=>by
  have kj:∀ {v0 k0 k'},TRep w K (c++ [j]) v0 k0->nav w v0 p=some vp->Proofs.YtianakjpgmmflaaGreatDoor.upd k0 p x=some k'->TRep w' K' (c++ [j]) v0 k':=fun {v0 k0 k'} r n u=>
   TRep.upd (p:=p) r (by simp) n u (k.mono fun d ⟨s,e,hs⟩=>⟨j::s,by simpa using e,by
    intro hh;exact hs ((List.prefix_cons_inj j).1 hh)⟩) (by simpa using hx)
  have ko:∀ {j2 v0 k0},j2≠j->TRep w K (c++ [j2]) v0 k0->TRep w' K' (c++ [j2]) v0 k0:=fun {j2 v0 k0} ne r=>
   r.keep k fun s _=>⟨j2::s,by simp,by
    intro hh
    rw[List.cons_prefix_cons] at hh
    exact ne hh.1.symm⟩
  simp only[nav] at hn
  split at hn
  case h_2=>cases hn
  case h_1 v1 hv1=>
  cases h with
  |sc h=>cases hu
  |dead=>cases hu
  |emp=>simp[Proofs.YtianakjpgmmflaaGreatDoor.upd] at hu
  |fro=>simp[Proofs.YtianakjpgmmflaaGreatDoor.upd] at hu
  |nil=>simp[Proofs.YtianakjpgmmflaaGreatDoor.upd] at hu
  |mr=>simp[Proofs.YtianakjpgmmflaaGreatDoor.upd] at hu
  |vo=>simp[Proofs.YtianakjpgmmflaaGreatDoor.upd] at hu
  |pr=>simp[Proofs.YtianakjpgmmflaaGreatDoor.upd] at hu
  |mp=>simp[Proofs.YtianakjpgmmflaaGreatDoor.upd] at hu
  |ms=>simp[Proofs.YtianakjpgmmflaaGreatDoor.upd] at hu
  |mt=>simp[Proofs.YtianakjpgmmflaaGreatDoor.upd] at hu
  |cl=>simp[Proofs.YtianakjpgmmflaaGreatDoor.upd] at hu
  |agg c vs cs F hl hF h=>
   simp only[Proofs.YtianakjpgmmflaaGreatDoor.upd] at hu
   split at hu
   case h_2=>cases hu
   case h_1 k0 hk0=>
   split at hu
   case h_2=>cases hu
   case h_1 k' hk'=>
   cases hu
   have e1:v1=F j:=by
    have:=hF j (Z8.1 hk0).1
    simp only[zep,this,Z9] at hv1;exact hv1.symm
   subst e1
   refine .agg c vs _ F (by simpa using hl) (by simpa using hF) ?_
   intro j2 t2 h2
   rw[z6M hc]
   exact zeG (fun j2 t2 ne ht=>ko ne (by have:=h j2 t2 ht;rwa [z6M hc] at this)) (kj (by have:=h j k0 hk0;rwa [z6M hc] at this) hn hk') j2 t2 h2
  |tup c vs cs F hl hF h=>
   simp only[Proofs.YtianakjpgmmflaaGreatDoor.upd] at hu
   split at hu
   case h_2=>cases hu
   case h_1 k0 hk0=>
   split at hu
   case h_2=>cases hu
   case h_1 k' hk'=>
   cases hu
   have e1:v1=F j:=by
    have:=hF j (Z8.1 hk0).1
    simp only[zep,this,Z9] at hv1;exact hv1.symm
   subst e1
   refine .tup c vs _ F (by simpa using hl) (by simpa using hF) ?_
   intro j2 t2 h2
   rw[z6M hc]
   exact zeG (fun j2 t2 ne ht=>ko ne (by have:=h j2 t2 ht;rwa [z6M hc] at this)) (kj (by have:=h j k0 hk0;rwa [z6M hc] at this) hn hk') j2 t2 h2
  |own c g n cap size cs arr e fz F hfz hc0 hK hg hs hl hz hn' hc' hF h=>
   simp only[Proofs.YtianakjpgmmflaaGreatDoor.upd] at hu
   split at hu
   case h_2=>cases hu
   case h_1 k0 hk0=>
   split at hu
   case h_2=>cases hu
   case h_1 k' hk'=>
   cases hu
   have e1:v1=F j:=by
    have:=hF j (Z8.1 hk0).1
    simp only[zep,z1E hg,this,Z9] at hv1;exact hv1.symm
   subst e1
   obtain⟨q1,q2⟩:=k.own g (z0P hg) ⟨[],by simpa using hK,by simp⟩
   exact .own c g n cap size _ arr e fz F hfz hc0 (by rw[q1];exact hK) (by rw[q2];exact hg) hs (by simpa using hl) hz hn' hc' (by simpa using hF) (zeG (fun j2 t2 ne ht=>ko ne (h j2 t2 ht)) (kj (h j k0 hk0) hn hk'))
  |vr c g cs arr e fz F hfz hc0 hK hg hl hF h=>
   simp only[Proofs.YtianakjpgmmflaaGreatDoor.upd] at hu
   split at hu
   case h_2=>cases hu
   case h_1 k0 hk0=>
   split at hu
   case h_2=>cases hu
   case h_1 k' hk'=>
   cases hu
   have e1:v1=F j:=by
    have:=hF j (Z8.1 hk0).1
    simp only[zep,z1E hg,this,Z9] at hv1;exact hv1.symm
   subst e1
   obtain⟨q1,q2⟩:=k.own g (z0P hg) ⟨[],by simpa using hK,by simp⟩
   exact .vr c g _ arr e fz F hfz hc0 (by rw[q1];exact hK) (by rw[q2];exact hg) (by simpa using hl) (by simpa using hF) (zeG (fun j2 t2 ne ht=>ko ne (h j2 t2 ht)) (kj (h j k0 hk0) hn hk'))
def z6O:Value->Option Nat
 | .slice (some a) _ _=>some a.block
 | .pointer (some a)=>some a.block
 |_=>none
def z5o:T->Option (List T)
 | .os _ _ cs=>some cs
 | .vr cs=>some cs
 |_=>none
def z7Y:T->List T->T
 | .os sz n _,cs=>.os sz n cs
 | .vr _,cs=>.vr cs
 |t,_=>t
theorem TRep.box(h:TRep w K c v t)(hcs:z5o t=some cs)(hj:j<cs.length):
 ∃g arr e fz,∃F:Nat->Value,z6O v=some g/\c≠ []/\K g=c/\w.heap[g]? =some (.cells arr e fz)/\(∀i,i<arr.size->¬(fz.1<=i/\fz.1≠fz.2))/\cs.length<=arr.size/\(∀i,i<cs.length->arr[i]? =some (F i))/\(∀i t,cs[i]? =some t->TRep w K (c++ [i]) (F i) t)/\
  ((v= .pointer (some ⟨g,0,none⟩))∨ ∃n cap,v= .slice (some ⟨g,0,none⟩) n cap)/\
  (∀(w':World) (K':Nat->z0a) (arr':Array Value) (cs':List T) (F':Nat->Value),arr'.size=arr.size->cs'.length=cs.length->K' g=c->w'.heap[g]? =some (.cells arr' e fz)->
    (∀i,i<cs.length->arr'[i]? =some (F' i))->(∀i t,cs'[i]? =some t->TRep w' K' (c++ [i]) (F' i) t)->TRep w' K' c v (z7Y t cs')):=by
 cases h with
 |sc h=>cases hcs
 |dead=>cases hcs
 |emp=>simp[z5o] at hcs
 |fro=>simp[z5o] at hcs
 |nil=>simp only[z5o,Z9] at hcs;subst hcs;simp at hj
 |agg=>simp[z5o] at hcs
 |tup=>simp[z5o] at hcs
 |mr=>simp[z5o] at hcs
 |vo=>simp[z5o] at hcs
 |pr=>simp[z5o] at hcs
 |mp=>simp[z5o] at hcs
 |ms=>simp[z5o] at hcs
 |mt=>simp[z5o] at hcs
 |cl=>simp[z5o] at hcs
 |own c g n cap size cs0 arr e fz F hfz hc0 hK hg hs hl hz hn hc hF h=>
  simp only[z5o,Z9] at hcs
  subst hcs
  refine⟨g,arr,e,fz,F,rfl,hc0,hK,hg,hfz,by rw[hs,hl];exact Yc _ hn,hF,h,.inr ⟨_,_,rfl⟩,fun w' K' arr' cs' F' a1 a2 a3 a4 a5 a6=> ?_⟩
  exact .own c g n cap size cs' arr' e fz F' (by rw[a1];exact hfz) hc0 a3 a4 (by rw[a1,hs]) (by rw[a2,hl]) hz hn hc (by rw[a2];exact a5) a6
 |vr c g cs0 arr e fz F hfz hc0 hK hg hl hF h=>
  simp only[z5o,Z9] at hcs
  subst hcs
  refine⟨g,arr,e,fz,F,rfl,hc0,hK,hg,hfz,by omega,hF,h,.inl rfl,fun w' K' arr' cs' F' a1 a2 a3 a4 a5 a6=> ?_⟩
  exact .vr c g cs' arr' e fz F' (by rw[a1];exact hfz) hc0 a3 a4 (by omega) (by rw[a2];exact a5) a6
end
section
inductive A where
 |dead
 |k (v:Value)
 |t (dep:Option Nat) (x:T)
 |h (id:Nat) (p:List Nat)
 |a (id:Nat) (p:List Nat) (off:Nat)
 |ea (dep:Option Nat) (cs:List T) (off:Nat)
 |tf (n:Nat) (cs:List T)
inductive E where
 |one (x:A)
 |ag (xs:List A)
structure Fr where
 nt:Nat
 tm:List (Nat×E)
 ob:List (Nat×T)
def z2J:List (Nat×E)->Nat->E
 | [],_=>.one .dead
 |(i,x)::r,j=>if i=j then x else z2J r j
def z7P(l:List (Nat×E))(d:Nat)(x:E):List (Nat×E):=(d,x)::l
def z2f:List (Nat×T)->Nat->Option T
 | [],_=>none
 |(i,x)::r,j=>if i=j then some x else z2f r j
def zlw:List (Nat×T)->Nat->List (Nat×T)
 | [],_=> []
 |(i,x)::r,j=>if i=j then zlw r j else(i,x)::zlw r j
def z6h(l:List (Nat×T))(d:Nat)(x:T):List (Nat×T):=(d,x)::zlw l d
def zBs(f:A->A):E->E
 | .one x=>.one (f x)
 | .ag xs=>.ag (xs.map f)
def z6J(f:A->A):List (Nat×E)->List (Nat×E)
 | []=> []
 |(i,x)::r=>(i,zBs f x)::z6J f r
theorem zj4(l:List (Nat×E))(d:Nat)(x:E)(j:Nat):z2J (z7P l d x) j=if d=j then x else z2J l j:=rfl
theorem zaR(l:List (Nat×T))(d j:Nat):z2f (zlw l d) j=if d=j then none else z2f l j:=by
 induction l with
 |nil=>simp[zlw,z2f]
 |cons a r ih=>
  obtain⟨i,x⟩:=a
  by_cases h:i=d
  · subst h
    simp only[zlw,if_true,ih]
    by_cases e:i=j<;>simp[z2f,e]
  · simp only[zlw,if_neg h,z2f,ih]
    by_cases e:i=j
    · subst e;simp[Ne.symm h]
    · simp[e]
theorem z0A(l:List (Nat×T))(d:Nat)(x:T)(j:Nat):z2f (z6h l d x) j=if d=j then some x else z2f l j:=by
 simp only[z6h,z2f,zaR]
 by_cases h:d=j<;>simp[h]
theorem z5M(f:A->A)(hf:f .dead= .dead)(l:List (Nat×E))(j:Nat):z2J (z6J f l) j=zBs f (z2J l j):=by
 induction l with
 |nil=>simp[z6J,z2J,zBs,hf]
 |cons a r ih=>
  obtain⟨i,x⟩:=a
  simp only[z6J,z2J,ih]
  by_cases h:i=j<;>simp[h]
def zag(own:Bool):Value->T
 | .slice none 0 0=>if own then .os 0 0 [] else .sl 0 []
 |v=>if scB v then .sc v else .dead
def zeh(own:Bool):Value->T
 | .agg vs=>.agg (vs.toList.map (zag own))
 |v=>zag own v
def col(id:Nat):z0a:= [id+2]
def frz(K:Nat->z0a):Option Nat->Nat->z0a
 |none,b=>K b
 |some id,b=>if(K b).head?=some (id+2) then [] else K b
def znk(ob:List (Nat×T))(dep:Option Nat):Prop:=∀i,dep=some i->(z2f ob i).isSome
def ARep(w:World)(K:Nat->z0a)(R:Nat->Value)(ob:List (Nat×T)):A->Value->Prop
 | .dead,_=>True
 | .k v,u=>u=v
 | .t dep x,u=>TRep w (frz K dep) [] u x/\znk ob dep
 | .h id p,u=>nav w (R id) p=some u/\ ∃t,z2f ob id=some t/\(sub t p).isSome
 | .a id p off,u=>∃hv g,nav w (R id) p=some hv/\z6O hv=some g/\u= .pointer (some ⟨g,off,none⟩)/\ ∃t,z2f ob id=some t/\(sub t p).isSome
 | .tf n cs,u=>(∃p,u= .slice p n n)/\TRep w (frz K none) [] u (.sl n cs)
 | .ea dep cs off,u=>∃g o,∃F:Nat->Value,u= .pointer (some ⟨g,o+off,none⟩)/\frz K dep g= []/\g<w.heap.size/\(∀j,j<cs.length->w.cell? ⟨g,o+j,none⟩=some (F j))/\(∀j t,cs[j]? =some t->TRep w (frz K dep) [] (F j) t)/\znk ob dep
def ERep(w:World)(K:Nat->z0a)(R:Nat->Value)(ob:List (Nat×T)):E->Value->Prop
 | .one x,u=>ARep w K R ob x u
 | .ag xs,u=>∃arr:Array Value,u= .agg arr/\arr.size=xs.length/\ ∀j x,xs[j]? =some x->ARep w K R ob x (arr.getD j undef)
theorem ERep.map{w w':World}{K K':Nat->z0a}{R R':Nat->Value}{ob ob':List (Nat×T)}{e:E}{u:Value}(f:A->A)(h:ERep w K R ob e u)
 (hf:∀x u,ARep w K R ob x u->ARep w' K' R' ob' (f x) u):ERep w' K' R' ob' (zBs f e) u:=by
 cases e with
 |one x=>exact hf x u h
 |ag xs=>
  obtain⟨arr,h1,h2,h3⟩:=h
  refine⟨arr,h1,by simpa using h2,fun j x hx=> ?_⟩
  simp only[Zd,Z4] at hx
  obtain⟨y,hy,rfl⟩:=hx
  exact hf y _ (h3 j y hy)
theorem ERep.mono{w w':World}{K K':Nat->z0a}{R R':Nat->Value}{ob ob':List (Nat×T)}{e:E}{u:Value}(h:ERep w K R ob e u)
 (hf:∀x u,ARep w K R ob x u->ARep w' K' R' ob' x u):ERep w' K' R' ob' e u:=by
 cases e with
 |one x=>exact hf x u h
 |ag xs=>
  obtain⟨arr,h1,h2,h3⟩:=h
  exact⟨arr,h1,h2,fun j x hx=>hf x _ (h3 j x hx)⟩
def z9I(a:Act)(G:Nat->Value)(i:Nat):Value:=if i<a.tmps.size then a.tmps.getD i undef else G i
structure FRep(w:World)(K:Nat->z0a)(R:Nat->Value)(G:Nat->Value)(fr:Fr)(a:Act):Prop where
 tm:∀i,ERep w K R fr.ob (z2J fr.tm i) (z9I a G i)
 ob:∀id t,z2f fr.ob id=some t->TRep w K (col id) (R id) t
 nt:a.tmps.size=fr.nt
 df:a.defers= []
def SzK(w w':World):Prop:=∀(b:Nat) (arr:Array Value) (e:TypeId) (fz:Nat×Nat),w.heap[b]? =some (.cells arr e fz)->∃(arr':Array Value) (e':TypeId) (fz':Nat×Nat),w'.heap[b]? =some (.cells arr' e' fz')/\arr'.size=arr.size
theorem SzK.same{w w':World}(h:w'.heap=w.heap):SzK w w':=fun b arr e fz hb=>⟨arr,e,fz,by rw[h];exact hb,rfl⟩
theorem SzK.olds{w w':World}(h:∀b,b<w.heap.size->w'.heap[b]? =w.heap[b]?):SzK w w':=fun b arr e fz hb=>⟨arr,e,fz,(h b (z0P hb)).trans hb,rfl⟩
theorem SzK.one{w w':World}{g:Nat}{arr arr':Array Value}{e e':TypeId}{fz fz':Nat×Nat}(hg:w.heap[g]? =some (.cells arr e fz))(hg':w'.heap[g]? =some (.cells arr' e' fz'))(hs:arr'.size=arr.size)(h:∀b,b≠g->w'.heap[b]? =w.heap[b]?):SzK w w':=fun b arr0 e0 fz0 hb=>by
 by_cases hbg:b=g
 · subst hbg
   rw[hg] at hb
   cases hb
   exact⟨arr',e',fz',hg',hs⟩
 · exact⟨arr0,e0,fz0,(h b hbg).trans hb,rfl⟩
theorem SzK.trans{w w1 w2:World}(h:SzK w w1)(k:SzK w1 w2):SzK w w2:=fun b arr e fz hb=>by
 obtain⟨a1,e1,f1,h1,h2⟩:=h b arr e fz hb
 obtain⟨a2,e2,f2,h3,h4⟩:=k b a1 e1 f1 h1
 exact⟨a2,e2,f2,h3,h4.trans h2⟩
structure Step(w:World)(K:Nat->z0a)(w':World)(K':Nat->z0a):Prop where
 os:w'.os=w.os
 tape:w'.tape=w.tape
 output:w'.output=w.output
 size:w.heap.size<=w'.heap.size
 old:∀b,b<w.heap.size->K b= []∨K b= [1]->K' b=K b/\w'.heap[b]? =w.heap[b]?
 sz:SzK w w'
variable{a:Act}{d:Nat}{G R:Nat->Value}{K K':Nat->z0a}{v:Value}{w w':World}
variable{x:E}
variable{fr:Fr}
theorem Step.refl(w:World)(K:Nat->z0a):Step w K w K:=⟨rfl,rfl,rfl,Z5 _,fun _ _ _=>⟨rfl,rfl⟩,.same rfl⟩
theorem Step.trans{w1 w2:World}{K1 K2:Nat->z0a}(h:Step w K w1 K1)(k:Step w1 K1 w2 K2):Step w K w2 K2:=
 ⟨k.os.trans h.os,k.tape.trans h.tape,k.output.trans h.output,ZJ h.size k.size,fun b hb hc=>by
   obtain⟨a1,a2⟩:=h.old b hb hc
   obtain⟨b1,b2⟩:=k.old b (Zx hb h.size) (by rw[a1];exact hc)
   exact⟨b1.trans a1,b2.trans a2⟩,h.sz.trans k.sz⟩
theorem z1D(id:Nat):col id≠ []:=by simp[col]
theorem z6x{w w':World}{K:Nat->z0a}:∀ {q:List Nat} {c:z0a} {v:Value} {t:T},TRep w K c v t->c≠ []->(sub t q).isSome->
 (∀r j s gb,q=r++j::s->K gb=c++r->gb<w.heap.size->w'.cell? ⟨gb,j,none⟩=w.cell? ⟨gb,j,none⟩)->nav w' v q=nav w v q
 | [],c,v,t,h,hc,hs,hw=>rfl
 |j::q,c,v,t,h,hc,hs,hw=>by
  simp only[sub] at hs
  split at hs
  case h_2=>cases hs
  case h_1 k hk=>
  obtain⟨v1,e1,r1⟩:=h.kid hc hk
  have e2:zep w' v j=zep w v j:=by
   cases h with
   |sc h=>cases hk
   |dead=>cases hk
   |agg=>rfl
   |tup=>rfl
   |emp=>cases hk
   |fro=>cases hk
   |nil=>simp[zlV] at hk
   |own c g n cap size cs arr e fz F hfz hc0 hK hg=>exact hw [] j q g rfl (by simpa using hK) (z0P hg)
   |vr c g cs arr e fz F hfz hc0 hK hg=>exact hw [] j q g rfl (by simpa using hK) (z0P hg)
   |mr=>cases hk
   |vo=>cases hk
   |pr=>cases hk
   |mp=>cases hk
   |ms=>cases hk
   |mt=>cases hk
   |cl=>cases hk
  simp only[nav,e2,e1]
  exact z6x r1 (by simp) hs fun r j2 s gb hq hK hb=>hw (j::r) j2 s gb (by simp[hq]) (by simpa using hK) hb
theorem ARep.keep{ob:List (Nat×T)}{x:A}{u:Value}(h:ARep w K R ob x u)
 (hob:∀id t,z2f ob id=some t->TRep w K (col id) (R id) t) (k:Keep w w' K K' (fun _=>True)):ARep w' K' R ob x u:=by
 have kf:∀dep,Keep w w' (frz K dep) (frz K' dep) (fun _=>True):=fun dep=>by
  have:∀b,b<w.heap.size->frz K' dep b=frz K dep b:=fun b hb=>by
   cases dep with
   |none=>exact(k.own b hb trivial).1
   |some id=>simp only[frz,(k.own b hb trivial).1]
  exact⟨fun b hb e=>⟨by rw[this b hb];exact e,(k.own b hb trivial).2⟩,fun b hb _=>⟨this b hb,(k.own b hb trivial).2⟩,k.size⟩
 cases x with
 |dead=>trivial
 |k v=>exact h
 |t dep x=>exact⟨TRep.keep h.1 (kf dep) (fun _ _=>trivial),h.2⟩
 |h id p=>
  obtain⟨h1,t,h2,h3⟩:=h
  refine⟨?_,t,h2,h3⟩
  rw[z6x (hob id t h2) (z1D id) h3 (fun r j s gb _ _ hb=>z0Y (k.own gb hb trivial).2 j)];exact h1
 |a id p off=>
  obtain⟨hv,g,h1,h4,h5,t,h2,h3⟩:=h
  refine⟨hv,g,?_,h4,h5,t,h2,h3⟩
  rw[z6x (hob id t h2) (z1D id) h3 (fun r j s gb _ _ hb=>z0Y (k.own gb hb trivial).2 j)];exact h1
 |tf n cs=>exact⟨h.1,TRep.keep h.2 (kf none) (fun _ _=>trivial)⟩
 |ea dep cs off=>
  obtain⟨g,o,F,h1,h2,h3,h4,h5,h6⟩:=h
  obtain⟨k1,k2⟩:=(kf dep).own g h3 trivial
  exact⟨g,o,F,h1,by rw[k1];exact h2,Zx h3 k.size,fun j hj=>by rw[z0Y k2];exact h4 j hj,fun j t ht=>(h5 j t ht).keep (kf dep) (fun _ _=>trivial),h6⟩
theorem FRep.keep(h:FRep w K R G fr a)(k:Keep w w' K K' (fun _=>True)):FRep w' K' R G fr a:=
 ⟨fun i=>(h.tm i).mono fun x u hx=>hx.keep h.ob k,fun id t ht=>(h.ob id t ht).keep k (fun _ _=>trivial),h.nt,h.df⟩
theorem ziF(a:Act)(G:Nat->Value)(d:Nat)(v:Value)(hd:d<a.tmps.size)(i:Nat):z9I (a.put (some d) v) G i=if d=i then v else z9I a G i:=by
 simp only[z9I,Act.put,Array.size_setIfInBounds,Z7,ZZ]
 by_cases h:d=i
 · subst h;simp[hd]
 · simp[h]
theorem FRep.put(h:FRep w K R G fr a)(hd:d<fr.nt)(hx:ERep w K R fr.ob x v):
 FRep w K R G {fr with tm:=z7P fr.tm d x} (a.put (some d) v):=by
 refine⟨fun i=> ?_,h.ob,by simp[Act.put,h.nt],h.df⟩
 rw[ziF a G d v (by rw[h.nt];exact hd),zj4]
 split
 · exact hx
 · exact h.tm i
theorem FRep.putG(h:FRep w K R G fr a)(hd:fr.nt<=d)(hx:ERep w K R fr.ob x v):
 FRep w K R (fun i=>if i=d then v else G i) {fr with tm:=z7P fr.tm d x} a:=by
 refine⟨fun i=> ?_,h.ob,h.nt,h.df⟩
 rw[zj4]
 split
 · rename_i e
   subst e
   rw[z9I,if_neg (by rw[h.nt];omega),if_pos rfl]
   exact hx
 · rename_i e
   have:z9I a (fun i=>if i=d then v else G i) i=z9I a G i:=by
    simp only[z9I]
    split
    · rfl
    · rw[if_neg (fun e'=>e e'.symm)]
   rw[this]
   exact h.tm i
theorem FRep.weaken(h:FRep w K R G fr a){tm:List (Nat×E)}(ht:∀i,z2J tm i=z2J fr.tm i∨z2J tm i= .one .dead):
 FRep w K R G {fr with tm:=tm} a:=by
 refine⟨fun i=> ?_,h.ob,h.nt,h.df⟩
 rcases ht i with e|e
 · show ERep w K R fr.ob (z2J tm i) _
   rw[e];exact h.tm i
 · show ERep w K R fr.ob (z2J tm i) _
   rw[e];trivial
end
section
variable{a:Act}{fr:Fr}{ob ob':List (Nat×T)}{p:List Nat}{d:Nat}{G R R':Nat->Value}{K K':Nat->z0a}{x:T}{u v:Value}{w w':World}
def onA:A->Option Nat
 | .h i _=>some i
 | .a i _ _=>some i
 | .t dep _=>dep
 | .ea dep _ _=>dep
 |_=>none
def kill(d:Nat)(x:A):A:=match onA x with|some i=>if i=d then .dead else x|none=>x
def z9P(R:Nat->Value)(d:Nat)(v:Value)(i:Nat):Value:=if i=d then v else R i
theorem zle(d:Nat):kill d .dead= .dead:=rfl
def But(d:Nat)(c:z0a):Prop:=∃i s,c=(i+2)::s/\i≠d
theorem zjd(k:Keep w w' K K' (But d)){dep:Option Nat}(hd:dep≠some d)(b:Nat)(hb:b<w.heap.size)(h:frz K dep b= []):
 frz K' dep b= []/\w'.heap[b]? =w.heap[b]? :=by
 cases dep with
 |none=>exact k.fro b hb h
 |some i=>
  simp only[frz] at h⊢
  split at h
  · rename_i hh
    have hne:i≠d:=fun e=>hd (by rw[e])
    obtain⟨s,hs⟩:∃s,K b=(i+2)::s:=by
     cases hk:K b with
     |nil=>rw[hk] at hh;cases hh
     |cons a s=>rw[hk] at hh;simp at hh;subst hh;exact⟨s,rfl⟩
    obtain⟨k1,k2⟩:=k.own b hb ⟨i,s,hs,hne⟩
    rw[k1,hs]
    exact⟨by simp,k2⟩
  · obtain⟨k1,k2⟩:=k.fro b hb h
    rw[k1]
    exact⟨by simp,k2⟩
theorem TRep.fz(h:TRep w K [] v x)(hk:∀b,b<w.heap.size->K b= []->K' b= []/\w'.heap[b]? =w.heap[b]?)(hs:w.heap.size<=w'.heap.size):TRep w' K' [] v x:=
 h.move (fun b s hb hc=>absurd rfl hc) hk YU hs
theorem ARep.but{x:A}(h:ARep w K R ob x u)
 (hob:∀id t,z2f ob id=some t->TRep w K (col id) (R id) t) (k:Keep w w' K K' (But d)) (hR:∀i,i≠d->R' i=R i/\z2f ob' i=z2f ob i) (hx:onA x≠some d):ARep w' K' R' ob' x u:=by
 cases x with
 |dead=>trivial
 |k v=>exact h
 |t dep x=>exact⟨TRep.fz h.1 (fun b hb e=>zjd k hx b hb e) k.size,fun i hi=>by
    subst hi
    rw[(hR i (fun e=>hx (by simp[onA,e]))).2];exact h.2 i rfl⟩
 |h id p=>
  have hne:id≠d:=fun e=>hx (by simp[onA,e])
  obtain⟨h1,t,h2,h3⟩:=h
  obtain⟨r1,r2⟩:=hR id hne
  refine⟨?_,t,by rw[r2];exact h2,h3⟩
  rw[r1,z6x (hob id t h2) (z1D id) h3 (fun r j s gb _ hK hb=>z0Y (k.own gb hb ⟨id,r,by simpa[col] using hK,hne⟩).2 j)];exact h1
 |a id p off=>
  have hne:id≠d:=fun e=>hx (by simp[onA,e])
  obtain⟨hv,g,h1,h4,h5,t,h2,h3⟩:=h
  obtain⟨r1,r2⟩:=hR id hne
  refine⟨hv,g,?_,h4,h5,t,by rw[r2];exact h2,h3⟩
  rw[r1,z6x (hob id t h2) (z1D id) h3 (fun r j s gb _ hK hb=>z0Y (k.own gb hb ⟨id,r,by simpa[col] using hK,hne⟩).2 j)];exact h1
 |tf n cs=>exact⟨h.1,TRep.fz h.2 (fun b hb e=>zjd (dep:=none) k (by simp) b hb e) k.size⟩
 |ea dep cs off=>
  obtain⟨g,o,F,h1,h2,h3,h4,h5,h6⟩:=h
  obtain⟨k1,k2⟩:=zjd k hx g h3 h2
  exact⟨g,o,F,h1,k1,Zx h3 k.size,fun j hj=>by rw[z0Y k2];exact h4 j hj,fun j t ht=>TRep.fz (h5 j t ht) (fun b hb e=>zjd k hx b hb e) k.size,fun i hi=>by
   subst hi
   rw[(hR i (fun e=>hx (by simp[onA,e]))).2];exact h6 i rfl⟩
theorem ARep.kill{x:A}(h:ARep w K R ob x u)
 (hob:∀id t,z2f ob id=some t->TRep w K (col id) (R id) t) (k:Keep w w' K K' (But d)) (hR:∀i,i≠d->R' i=R i/\z2f ob' i=z2f ob i):ARep w' K' R' ob' (Proofs.YtianakjpgmmflaaGreatDoor.kill d x) u:=by
 by_cases hx:onA x=some d
 · have:Proofs.YtianakjpgmmflaaGreatDoor.kill d x= .dead:=by simp[Proofs.YtianakjpgmmflaaGreatDoor.kill,hx]
   rw[this];trivial
 · have:Proofs.YtianakjpgmmflaaGreatDoor.kill d x=x:=by
    simp only[Proofs.YtianakjpgmmflaaGreatDoor.kill]
    split
    · rename_i j hj
      rw[if_neg (fun e=>hx (by rw[hj,e]))]
    · rfl
   rw[this]
   exact h.but hob k hR hx
theorem FRep.replace(h:FRep w K R G fr a){t:T}(k:Keep w w' K K' (But d))(ht:TRep w' K' (col d) v t):
 FRep w' K' (z9P R d v) G {fr with tm:=z6J (kill d) fr.tm,ob:=z6h fr.ob d t} a:=by
 have hR:∀i,i≠d->z9P R d v i=R i/\z2f (z6h fr.ob d t) i=z2f fr.ob i:=fun i hi=>⟨by simp[z9P,hi],by rw[z0A,if_neg (fun e=>hi e.symm)]⟩
 refine⟨fun i=> ?_,fun id t' ht'=> ?_,h.nt,h.df⟩
 · show ERep w' K' (z9P R d v) (z6h fr.ob d t) (z2J (z6J (kill d) fr.tm) i) _
   rw[z5M _ (zle d)]
   exact(h.tm i).map _ fun x u hx=>hx.kill h.ob k hR
 · rw[z0A] at ht'
   split at ht'
   · rename_i e
     subst e
     cases ht'
     simpa[z9P] using ht
   · rename_i hne
     have hne':id≠d:=fun e=>hne e.symm
     rw[(hR id hne').1]
     exact(h.ob id t' ht').keep k fun s _=>⟨id,s,rfl,hne'⟩
theorem FRep.drop(h:FRep w K R G fr a)(d:Nat):
 FRep w K R G {fr with tm:=z6J (kill d) fr.tm,ob:=zlw fr.ob d} a:=by
 have hR:∀i,i≠d->R i=R i/\z2f (zlw fr.ob d) i=z2f fr.ob i:=fun i hi=>⟨rfl,by rw[zaR,if_neg (fun e=>hi e.symm)]⟩
 refine⟨fun i=> ?_,fun id t' ht'=> ?_,h.nt,h.df⟩
 · show ERep w K R (zlw fr.ob d) (z2J (z6J (kill d) fr.tm) i) _
   rw[z5M _ (zle d)]
   exact(h.tm i).map _ fun x u hx=>hx.kill h.ob ⟨fun _ _ e=>⟨e,rfl⟩,fun _ _ _=>⟨rfl,rfl⟩,Z5 _⟩ hR
 · rw[zaR] at ht'
   split at ht'
   · cases ht'
   · exact h.ob id t' ht'
def z5h:List Nat->List Nat->Option (List Nat)
 | [],q=>some q
 |_::_,[]=>none
 |a::p,b::q=>if a=b then z5h p q else none
theorem z7E:∀ {p q s:List Nat},z5h p q=some s↔q=p++s
 | [],q,s=>by simp[z5h]
 |a::p,[],s=>by simp[z5h]
 |a::p,b::q,s=>by
  simp only[z5h]
  by_cases h:a=b
  · subst h;simp[z7E (p:=p)]
  · simp[h];intro e;exact absurd e.symm h
theorem z5e{q:List Nat}:z5h p q=none↔ ¬p<+:q:=by
 constructor
 · intro h ⟨s,e⟩
   rw[z7E.2 e.symm] at h;cases h
 · intro h
   cases hs:z5h p q with
   |none=>rfl
   |some s=>exact absurd ⟨s,(z7E.1 hs).symm⟩ h
theorem z6g(p s:List Nat):z5h p (p++s)=some s:=z7E.2 rfl
theorem z5D{w:World}:∀ {p s:List Nat} {v vp:Value},nav w v p=some vp->nav w v (p++s)=nav w vp s
 | [],s,v,vp,h=>by simp only[nav,Z9] at h;subst h;rfl
 |j::p,s,v,vp,h=>by
  simp only[nav,ZU] at h⊢
  split at h
  · rename_i v' hv'
    exact z5D h
  · cases h
theorem z5d:∀ {p s:List Nat} {t t':T},sub t p=some t'->sub t (p++s)=sub t' s
 | [],s,t,t',h=>by simp only[sub,Z9] at h;subst h;rfl
 |j::p,s,t,t',h=>by
  simp only[sub,ZU] at h⊢
  split at h
  · exact z5d h
  · cases h
theorem zot{t t' k k':T}{j:Nat}(h:upd t (j::p) x=some t'):∃k k',zlV t j=some k/\upd k p x=some k'/\ ∀i,zlV t' i=if i=j then some k' else zlV t i:=by
 have hset:∀(cs:List T) k',(∃k,cs[j]? =some k)->∀i,(cs.set j k')[i]? =if i=j then some k' else cs[i]? :=by
  intro cs k' ⟨k,hk⟩ i
  by_cases e:i=j
  · subst e
    rw[List.getElem?_set_self',hk,if_pos rfl];rfl
  · rw[Xg (fun e'=>e e'.symm),if_neg e]
 cases t with
 |sc v=>cases h
 |dead=>cases h
 |agg cs=>
  simp only[upd] at h
  split at h
  case h_2=>cases h
  case h_1 k hk=>
  split at h
  case h_2=>cases h
  case h_1 k' hk'=>
  cases h
  exact⟨k,k',hk,hk',fun i=>hset cs k' ⟨k,hk⟩ i⟩
 |tup cs=>
  simp only[upd] at h
  split at h
  case h_2=>cases h
  case h_1 k hk=>
  split at h
  case h_2=>cases h
  case h_1 k' hk'=>
  cases h
  exact⟨k,k',hk,hk',fun i=>hset cs k' ⟨k,hk⟩ i⟩
 |sl n cs=>cases h
 |os sz n cs=>
  simp only[upd] at h
  split at h
  case h_2=>cases h
  case h_1 k hk=>
  split at h
  case h_2=>cases h
  case h_1 k' hk'=>
  cases h
  exact⟨k,k',hk,hk',fun i=>hset cs k' ⟨k,hk⟩ i⟩
 |vr cs=>
  simp only[upd] at h
  split at h
  case h_2=>cases h
  case h_1 k hk=>
  split at h
  case h_2=>cases h
  case h_1 k' hk'=>
  cases h
  exact⟨k,k',hk,hk',fun i=>hset cs k' ⟨k,hk⟩ i⟩
 |mp kk es=>cases h
 |mr kk es=>cases h
 |mt=>cases h
 |ms=>cases h
 |vo=>cases h
 |pr=>cases h
 |cl f cs=>cases h
theorem z6q:∀ {p s:List Nat} {t t' x:T},upd t p x=some t'->sub t' (p++s)=sub x s
 | [],s,t,t',x,h=>by simp only[upd,Z9] at h;subst h;rfl
 |j::p,s,t,t',x,h=>by
  obtain⟨k,k',h1,h2,h3⟩:=zot (k:=x) (k':=x) h
  simp only[sub,ZU,h3,if_true]
  exact z6q h2
theorem z4R:∀ {p q:List Nat} {t t' x:T},upd t p x=some t'->¬p<+:q->(sub t q).isSome->(sub t' q).isSome
 | [],q,t,t',x,h,hn,hs=>absurd List.nil_prefix hn
 |j::p,[],t,t',x,h,hn,hs=>by simp[sub]
 |j::p,i::q,t,t',x,h,hn,hs=>by
  obtain⟨k,k',h1,h2,h3⟩:=zot (k:=x) (k':=x) h
  simp only[sub,h3] at hs⊢
  by_cases e:i=j
  · subst e
    simp only[if_true,h1] at hs⊢
    exact z4R h2 (fun hp=>hn ((List.prefix_cons_inj i).2 hp)) hs
  · rw[if_neg e];exact hs
end
section
variable{a:Act}{fr:Fr}{p s:List Nat}{d id:Nat}{G R:Nat->Value}{K:Nat->z0a}{w:World}
def reK(id:Nat)(p:List Nat)(d:Nat):z0a->z0a
 | []=> []
 |h::q=>if h=id+2 then(match z5h p q with|some s=>(d+2)::s|none=>if d=id then [1] else h::q) else if h=d+2 then [1] else h::q
def zhU(id:Nat)(p:List Nat)(d:Nat):A->A
 | .h i q=>if i=id then(match z5h p q with|some s=>.h d s|none=>if d=id then .dead else .h i q) else if i=d then .dead else .h i q
 | .a i q off=>if i=id then(match z5h p q with|some s=>.a d s off|none=>if d=id then .dead else .a i q off) else if i=d then .dead else .a i q off
 | .t (some i) x=>if i=id then(if p= [] then .t (some d) x else .dead) else if i=d then .dead else .t (some i) x
 | .ea (some i) cs off=>if i=id then(if p= [] then .ea (some d) cs off else .dead) else if i=d then .dead else .ea (some i) cs off
 |x=>x
def zdu(fr:Fr)(id:Nat)(p:List Nat)(d:Nat):Option Fr:=
 match z2f fr.ob id with
 |none=>none
 |some root=>
  match sub root p with
  |none=>none
  |some t=>
   if p= []∨d=id then some {fr with tm:=z6J (zhU id p d) fr.tm,ob:=z6h (zlw fr.ob id) d t}
   else match upd root p .dead with
    |none=>none
    |some root'=>some {fr with tm:=z6J (zhU id p d) fr.tm,ob:=z6h (z6h fr.ob id root') d t}
theorem zfU{i:Nat}(h1:i≠id)(h2:i≠d):reK id p d ((i+2)::s)=(i+2)::s:=by
 simp[reK,h1,h2]
theorem zy0:reK id p d ((id+2)::(p++s))=(d+2)::s:=by
 simp[reK,z6g]
theorem zyT(h:¬p<+:s)(hd:d≠id):reK id p d ((id+2)::s)=(id+2)::s:=by
 simp[reK,z5e.2 h,hd]
theorem zex(id:Nat)(p:List Nat)(d:Nat):Step w K w (fun b=>reK id p d (K b)):=
 ⟨rfl,rfl,rfl,Z5 _,fun b _ h=>⟨by
   show reK id p d (K b)=K b
   rcases h with h|h<;>rw[h]<;>simp[reK],rfl⟩,.same rfl⟩
theorem FRep.take{fr':Fr}(h:FRep w K R G fr a)(ht:zdu fr id p d=some fr'):
 ∃vp t,nav w (R id) p=some vp/\z2f fr'.ob d=some t/\FRep w (fun b=>reK id p d (K b)) (z9P R d vp) G fr' a:=by
 unfold zdu at ht
 split at ht
 case h_1=>cases ht
 case h_2 root hroot=>
 split at ht
 case h_1=>cases ht
 case h_2 t hsub=>
 obtain⟨vp,hnav,hrep⟩:=(h.ob id root hroot).sub (z1D id) hsub
 let K':Nat->z0a:=fun b=>reK id p d (K b)
 have hmv:TRep w K' (col d) vp t:=hrep.move (fun b s hb hc hK=>⟨by
  show reK id p d (K b)=_
  rw[hK];simpa[col] using zy0,rfl⟩) (fun b hb e=>⟨by show reK id p d (K b)= [];rw[e];rfl,rfl⟩) (by simp[col]) (Z5 _)
 have hot:∀i t,i≠id->i≠d->z2f fr.ob i=some t->TRep w K' (col i) (R i) t:=fun i t h1 h2 ho=>
  (h.ob i t ho).move (fun b s hb hc hK=>⟨by
    show reK id p d (K b)=_
    rw[hK];exact zfU h1 h2,rfl⟩) (fun b hb e=>⟨by show reK id p d (K b)= [];rw[e];rfl,rfl⟩) YU (Z5 _)
 have hfz:∀b,K b= []->K' b= []:=fun b e=>by show reK id p d (K b)= [];rw[e];rfl
 have hdep:∀i,i≠id->i≠d->∀b,frz K (some i) b= []->frz K' (some i) b= []:=fun i h1 h2 b e=>by
  simp only[frz] at e⊢
  split at e
  · rename_i hh
    obtain⟨s,hs⟩:∃s,K b=(i+2)::s:=by
     cases hk:K b with
     |nil=>rw[hk] at hh;cases hh
     |cons a s=>rw[hk] at hh;simp at hh;subst hh;exact⟨s,rfl⟩
    have:K' b=(i+2)::s:=by show reK id p d (K b)=_;rw[hs];exact zfU h1 h2
    rw[this];simp
  · rw[hfz b e];simp
 have hdepd:p= []->∀b,frz K (some id) b= []->frz K' (some d) b= []:=fun hp b e=>by
  subst hp
  simp only[frz] at e⊢
  split at e
  · rename_i hh
    obtain⟨s,hs⟩:∃s,K b=(id+2)::s:=by
     cases hk:K b with
     |nil=>rw[hk] at hh;cases hh
     |cons a s=>rw[hk] at hh;simp at hh;subst hh;exact⟨s,rfl⟩
    have:K' b=(d+2)::s:=by show reK id [] d (K b)=_;rw[hs];exact zy0 (p:= []) (s:=s)
    rw[this];simp
  · rw[hfz b e];simp
 have hR:∀i,i≠d->z9P R d vp i=R i:=fun i hi=>by simp[z9P,hi]
 have hRd:z9P R d vp d=vp:=by simp[z9P]
 have htm:∀(ob':List (Nat×T)),(∀i,i≠id->i≠d->z2f ob' i=z2f fr.ob i)->z2f ob' d=some t->
  (∀q,d≠id->¬p<+:q->(sub root q).isSome->∃t',z2f ob' id=some t'/\(sub t' q).isSome)->
  ∀x u,ARep w K R fr.ob x u->ARep w K' (z9P R d vp) ob' (zhU id p d x) u:=by
  intro ob' ho1 ho2 ho3 x u hx
  cases x with
  |dead=>trivial
  |k v=>exact hx
  |t dep x=>
   cases dep with
   |none=>exact⟨TRep.fz hx.1 (fun b _ e=>⟨hfz b e,rfl⟩) (Z5 _),fun _ e=>by cases e⟩
   |some i=>
    by_cases h1:i=id
    · subst h1
      by_cases hp:p= []
      · simp only[zhU,if_true,hp]
        subst hp
        exact⟨TRep.fz hx.1 (fun b _ e=>⟨hdepd rfl b e,rfl⟩) (Z5 _),fun _ e=>by cases e;rw[ho2];rfl⟩
      · simp only[zhU,if_true,if_neg hp];trivial
    · by_cases h2:i=d
      · simp only[zhU,if_neg h1,if_pos h2];trivial
      · simp only[zhU,if_neg h1,if_neg h2]
        exact⟨TRep.fz hx.1 (fun b _ e=>⟨hdep i h1 h2 b e,rfl⟩) (Z5 _),fun _ e=>by cases e;rw[ho1 i h1 h2];exact hx.2 i rfl⟩
  |h i q=>
   obtain⟨n1,t1,n2,n3⟩:=hx
   by_cases h1:i=id
   · subst h1
     rw[hroot] at n2;cases n2
     simp only[zhU,if_true]
     cases hs:z5h p q with
     |some s=>
      have:=z7E.1 hs
      subst this
      rw[z5D hnav] at n1
      rw[z5d hsub] at n3
      exact⟨by rw[hRd];exact n1,t,ho2,n3⟩
     |none=>
      simp only
      by_cases hd:d=i
      · rw[if_pos hd];trivial
      · rw[if_neg hd]
        obtain⟨t',m1,m2⟩:=ho3 q hd (z5e.1 hs) n3
        exact⟨by rw[hR i (fun e=>hd e.symm)];exact n1,t',m1,m2⟩
   · by_cases h2:i=d
     · simp only[zhU,if_neg h1,if_pos h2];trivial
     · simp only[zhU,if_neg h1,if_neg h2]
       exact⟨by rw[hR i h2];exact n1,t1,by rw[ho1 i h1 h2];exact n2,n3⟩
  |a i q off=>
   obtain⟨hv,g,n1,n4,n5,t1,n2,n3⟩:=hx
   by_cases h1:i=id
   · subst h1
     rw[hroot] at n2;cases n2
     simp only[zhU,if_true]
     cases hs:z5h p q with
     |some s=>
      have:=z7E.1 hs
      subst this
      rw[z5D hnav] at n1
      rw[z5d hsub] at n3
      exact⟨hv,g,by rw[hRd];exact n1,n4,n5,t,ho2,n3⟩
     |none=>
      simp only
      by_cases hd:d=i
      · rw[if_pos hd];trivial
      · rw[if_neg hd]
        obtain⟨t',m1,m2⟩:=ho3 q hd (z5e.1 hs) n3
        exact⟨hv,g,by rw[hR i (fun e=>hd e.symm)];exact n1,n4,n5,t',m1,m2⟩
   · by_cases h2:i=d
     · simp only[zhU,if_neg h1,if_pos h2];trivial
     · simp only[zhU,if_neg h1,if_neg h2]
       exact⟨hv,g,by rw[hR i h2];exact n1,n4,n5,t1,by rw[ho1 i h1 h2];exact n2,n3⟩
  |tf n cs=>exact⟨hx.1,TRep.fz hx.2 (fun b _ e=>⟨hfz b e,rfl⟩) (Z5 _)⟩
  |ea dep cs off=>
   obtain⟨g,o,F,e1,e2,e3,e4,e5,e6⟩:=hx
   have mk:∀dep',(∀b,frz K dep b= []->frz K' dep' b= [])->znk ob' dep'->ARep w K' (z9P R d vp) ob' (.ea dep' cs off) u:=fun dep' hh hd=>
    ⟨g,o,F,e1,hh g e2,e3,e4,fun j t ht=>TRep.fz (e5 j t ht) (fun b _ e=>⟨hh b e,rfl⟩) (Z5 _),hd⟩
   cases dep with
   |none=>exact mk none hfz (fun _ e=>by cases e)
   |some i=>
    by_cases h1:i=id
    · subst h1
      by_cases hp:p= []
      · simp only[zhU,if_true,hp]
        subst hp
        exact mk (some d) (hdepd rfl) (fun _ e=>by cases e;rw[ho2];rfl)
      · simp only[zhU,if_true,if_neg hp];trivial
    · by_cases h2:i=d
      · simp only[zhU,if_neg h1,if_pos h2];trivial
      · simp only[zhU,if_neg h1,if_neg h2]
        exact mk (some i) (hdep i h1 h2) (fun _ e=>by cases e;rw[ho1 i h1 h2];exact e6 i rfl)
 refine⟨vp,t,hnav,?_⟩
 split at ht
 · rename_i hpd
   cases ht
   refine⟨by simp[z0A],fun i=> ?_,fun i t' hi=> ?_,h.nt,h.df⟩
   · show ERep w K' (z9P R d vp) _ (z2J (z6J (zhU id p d) fr.tm) i) _
     rw[z5M _ rfl]
     refine(h.tm i).map _ (htm _ (fun i h1 h2=> ?_) (by simp[z0A]) (fun q hd hn hs=> ?_))
     · rw[z0A,if_neg (fun e=>h2 e.symm),zaR,if_neg (fun e=>h1 e.symm)]
     · rcases hpd with hp|hp
       · subst hp;exact absurd List.nil_prefix hn
       · exact absurd hp hd
   · rw[z0A] at hi
     split at hi
     · rename_i e
       subst e;cases hi
       rw[hRd];exact hmv
     · rename_i e
       rw[zaR] at hi
       split at hi
       · cases hi
       · rename_i e2
         rw[hR i (fun e'=>e e'.symm)]
         exact hot i t' (fun e'=>e2 e'.symm) (fun e'=>e e'.symm) hi
 · rename_i hpd
   split at ht
   case h_1=>cases ht
   case h_2 root' hupd=>
   cases ht
   have hp:p≠ []:=fun e=>hpd (.inl e)
   have hd:d≠id:=fun e=>hpd (.inr e)
   have hroot':TRep w K' (col id) (R id) root':=
    TRep.upd (h.ob id root hroot) (z1D id) hnav hupd ⟨fun b hb e=>⟨hfz b e,rfl⟩,fun b hb ⟨s,e,hs⟩=>⟨by
     show reK id p d (K b)=K b
     rw[e];exact zyT hs hd,rfl⟩,Z5 _⟩ (.dead _ _)
   refine⟨by simp[z0A],fun i=> ?_,fun i t' hi=> ?_,h.nt,h.df⟩
   · show ERep w K' (z9P R d vp) _ (z2J (z6J (zhU id p d) fr.tm) i) _
     rw[z5M _ rfl]
     refine(h.tm i).map _ (htm _ (fun i h1 h2=> ?_) (by simp[z0A]) (fun q hd hn hs=>⟨root',?_,z4R hupd hn hs⟩))
     · rw[z0A,if_neg (fun e=>h2 e.symm),z0A,if_neg (fun e=>h1 e.symm)]
     · rw[z0A,if_neg hd,z0A,if_pos rfl]
   · rw[z0A] at hi
     split at hi
     · rename_i e
       subst e;cases hi
       rw[hRd];exact hmv
     · rename_i e
       rw[z0A] at hi
       split at hi
       · rename_i e2
         subst e2;cases hi
         rw[hR id (fun e'=>e e'.symm)];exact hroot'
       · rename_i e2
         rw[hR i (fun e'=>e e'.symm)]
         exact hot i t' (fun e'=>e2 e'.symm) (fun e'=>e e'.symm) hi
def setCells(cs:List T)(off:Nat):List T->List T
 | []=>cs
 |x::xs=>setCells (cs.set off x) (off+1) xs
theorem zfJ(cs:List T)(off:Nat)(xs:List T):(setCells cs off xs).length=cs.length:=by
 induction xs generalizing cs off with
 |nil=>rfl
 |cons x xs ih=>rw[setCells,ih,Xj]
theorem za0(xs:List T):∀(cs:List T) (off j:Nat),off+xs.length<=cs.length->(setCells cs off xs)[j]? =if off<=j/\j<off+xs.length then xs[j-off]? else cs[j]? :=by
 induction xs with
 |nil=>intro cs off j h;simp only[setCells,Ye];rw[if_neg (by omega)]
 |cons x xs ih=>
  intro cs off j h
  simp only[Zr] at h
  rw[setCells,ih _ _ _ (by simp;omega)]
  simp only[Zr]
  by_cases h1:off+1<=j/\j<off+1+xs.length
  · rw[if_pos h1,if_pos (by omega)]
    rw[show j-off=(j-(off+1))+1 by omega,ZT]
  · rw[if_neg h1]
    by_cases h2:j=off
    · subst h2
      rw[if_pos (by omega),List.getElem?_set_self (by omega)];simp
    · rw[if_neg (by omega),Xg (fun e=>h2 e.symm)]
def z9R(p:List Nat)(off m:Nat)(q:List Nat):Bool:=match z5h p q with|some (j::_)=>decide (off<=j)&&decide (j<off+m)|_=>false
def zdH(id:Nat)(p:List Nat)(off m:Nat):A->A
 | .h i q=>if i=id/\z9R p off m q=true then .dead else .h i q
 | .a i q o=>if i=id/\z9R p off m q=true then .dead else .a i q o
 | .t (some i) x=>if i=id then .dead else .t (some i) x
 | .ea (some i) cs o=>if i=id then .dead else .ea (some i) cs o
 |x=>x
theorem FRep.store{w':World}{K':Nat->z0a}{root root' box:T}{cs xs:List T}{off g:Nat}{arr arr':Array Value}{e:TypeId}{fz:Nat×Nat}{vs:List Value}{hval:Value}
 (h:FRep w K R G fr a) (hroot:z2f fr.ob id=some root) (hbox:sub root p=some box) (hcs:z5o box=some cs) (hoff:off+xs.length<=cs.length) (hx0:0<xs.length)
 (hupd:upd root p (z7Y box (setCells cs off xs))=some root')
 (hnav:nav w (R id) p=some hval) (hbl:z6O hval=some g) (hg:w.heap[g]? =some (.cells arr e fz)) (hg':w'.heap[g]? =some (.cells arr' e fz))
 (hsz:w'.heap.size=w.heap.size) (hoth:∀b,b≠g->w'.heap[b]? =w.heap[b]?) (hlen:vs.length=xs.length)
 (harr:arr'.size=arr.size/\ ∀j,arr'[j]? =if off<=j/\j<off+xs.length then vs[j-off]? else arr[j]?)
 (hK0:∀b,b<w.heap.size->K b= []->K' b= [])
 (hK:∀b i s,b<w.heap.size->K b=(i+2)::s->(∃t,z2f fr.ob i=some t)->¬(i=id/\z9R p off xs.length s=true)->K' b=K b)
 (hnew:∀j x v,xs[j]? =some x->vs[j]? =some v->TRep w' K' (col id++p++ [off+j]) v x):
 FRep w' K' R G {fr with tm:=z6J (zdH id p off xs.length) fr.tm,ob:=z6h fr.ob id root'} a:=by
 have hrt:=h.ob id root hroot
 obtain⟨hv2,hnav2,hrep⟩:=hrt.sub (z1D id) hbox
 rw[hnav] at hnav2;cases hnav2
 obtain⟨g2,arr2,e2,fz2,F,b1,b2,b3,b4,b5,b6,b7,b8,b9,b10⟩:=hrep.box hcs (show off<cs.length by omega)
 rw[hbl] at b1;cases b1
 rw[hg] at b4;cases b4
 have hKg:K g=col id++p:=b3
 have hne:∀b i s,K b=(i+2)::s->i≠id->b≠g:=fun b i s e1 e2 e3=>by
  subst e3;rw[hKg] at e1;simp[col] at e1;exact e2 e1.1.symm
 have hne0:∀b,K b= []->b≠g:=fun b e1 e3=>by subst e3;rw[hKg] at e1;simp[col] at e1
 have hfro:∀b,b<w.heap.size->K b= []->K' b= []/\w'.heap[b]? =w.heap[b]? :=fun b hb e1=>⟨hK0 b hb e1,hoth b (hne0 b e1)⟩
 have hunder:∀j s,z9R p off xs.length (p++j::s)=(decide (off<=j)&&decide (j<off+xs.length)):=fun j s=>by simp only[z9R,z6g]
 have hunder0:z9R p off xs.length p=false:=by
  have:z5h p p=some []:=z7E.2 (by simp)
  simp only[z9R,this]
 have hunderN:∀s,¬p<+:s->z9R p off xs.length s=false:=fun s hs=>by simp only[z9R,z5e.2 hs]
 have hway:∀i t q,z2f fr.ob i=some t->(sub t q).isSome->¬(i=id/\z9R p off xs.length q=true)->nav w' (R i) q=nav w (R i) q:=fun i t q ho hs hn=>by
  refine z6x (h.ob i t ho) (z1D i) hs fun r j s gb hq hKb hb=> ?_
  by_cases e1:gb=g
  · subst e1
    rw[z1E hg',z1E hg,harr.2 j,if_neg]
    intro hj
    rw[hKg] at hKb
    obtain⟨rfl,rfl⟩:id=i/\p=r:=by simpa[col] using hKb
    apply hn
    refine⟨rfl,?_⟩
    rw[hq,hunder];simp[hj.1,hj.2]
  · exact z0Y (hoth gb e1) j
 have hsub:∀q,(sub root q).isSome->¬z9R p off xs.length q=true->(sub root' q).isSome:=fun q hs hn=>by
  by_cases hp:p<+:q
  · obtain⟨s,rfl⟩:=hp
    rw[z6q hupd]
    rw[z5d hbox] at hs
    cases s with
    |nil=>simp[sub]
    |cons j s=>
     rw[hunder] at hn
     have hkid:zlV (z7Y box (setCells cs off xs)) j=zlV box j:=by
      cases box with
      |sc v=>cases hcs
      |dead=>cases hcs
      |agg=>cases hcs
      |tup=>cases hcs
      |sl n cs0=>cases hcs
      |mp=>cases hcs
      |mr=>cases hcs
      |mt=>cases hcs
      |ms=>cases hcs
      |vo=>cases hcs
      |pr=>cases hcs
      |cl=>cases hcs
      |os sz n cs0=>
       simp only[z5o,Z9] at hcs
       subst hcs
       simp only[z7Y,zlV]
       rw[za0 _ _ _ _ hoff,if_neg (by simpa using hn)]
      |vr cs0=>
       simp only[z5o,Z9] at hcs
       subst hcs
       simp only[z7Y,zlV]
       rw[za0 _ _ _ _ hoff,if_neg (by simpa using hn)]
     simp only[sub,hkid] at hs⊢
     exact hs
  · exact z4R hupd hp hs
 have hdep:∀i t,z2f fr.ob i=some t->i≠id->∀b,b<w.heap.size->frz K (some i) b= []->frz K' (some i) b= []/\w'.heap[b]? =w.heap[b]? :=fun i t ho hi b hb e1=>by
  simp only[frz] at e1⊢
  split at e1
  · rename_i hh
    obtain⟨s,hs⟩:∃s,K b=(i+2)::s:=by
     cases hk:K b with
     |nil=>rw[hk] at hh;cases hh
     |cons a s=>rw[hk] at hh;simp at hh;subst hh;exact⟨s,rfl⟩
    rw[hK b i s hb hs ⟨t,ho⟩ (fun hc=>hi hc.1),hs]
    exact⟨by simp,hoth b (hne b i s hs hi)⟩
  · obtain⟨k1,k2⟩:=hfro b hb e1
    rw[k1];exact⟨by simp,k2⟩
 have hobi:∀i,i≠id->z2f (z6h fr.ob id root') i=z2f fr.ob i:=fun i hi=>by rw[z0A,if_neg (fun e=>hi e.symm)]
 refine⟨fun i=> ?_,fun i t ho=> ?_,h.nt,h.df⟩
 · show ERep w' K' R (z6h fr.ob id root') (z2J (z6J (zdH id p off xs.length) fr.tm) i) _
   rw[z5M _ rfl]
   refine(h.tm i).map _ fun x u hx=> ?_
   cases x with
   |dead=>trivial
   |k v=>exact hx
   |t dep x=>
    cases dep with
    |none=>exact⟨TRep.fz hx.1 hfro (by omega),fun _ e=>by cases e⟩
    |some i=>
     by_cases hi:i=id
     · simp only[zdH,if_pos hi];trivial
     · simp only[zdH,if_neg hi]
       obtain⟨t0,ht0⟩:=ZX.1 (hx.2 i rfl)
       exact⟨TRep.fz hx.1 (fun b hb e1=>hdep i t0 ht0 hi b hb e1) (by omega),fun _ e=>by cases e;rw[hobi i hi,ht0];rfl⟩
   |h i q=>
    obtain⟨n1,t,n2,n3⟩:=hx
    by_cases hc:i=id/\z9R p off xs.length q=true
    · simp only[zdH,if_pos hc];trivial
    · simp only[zdH,if_neg hc]
      refine⟨by rw[hway i t q n2 n3 hc];exact n1,?_⟩
      by_cases hi:i=id
      · subst hi
        rw[hroot] at n2;cases n2
        exact⟨root',by simp[z0A],hsub q n3 (fun h=>hc ⟨rfl,h⟩)⟩
      · exact⟨t,by rw[hobi i hi];exact n2,n3⟩
   |a i q o=>
    obtain⟨hv,g,n1,n4,n5,t,n2,n3⟩:=hx
    by_cases hc:i=id/\z9R p off xs.length q=true
    · simp only[zdH,if_pos hc];trivial
    · simp only[zdH,if_neg hc]
      refine⟨hv,g,by rw[hway i t q n2 n3 hc];exact n1,n4,n5,?_⟩
      by_cases hi:i=id
      · subst hi
        rw[hroot] at n2;cases n2
        exact⟨root',by simp[z0A],hsub q n3 (fun h=>hc ⟨rfl,h⟩)⟩
      · exact⟨t,by rw[hobi i hi];exact n2,n3⟩
   |tf n cs=>exact⟨hx.1,TRep.fz hx.2 hfro (by omega)⟩
   |ea dep cs o=>
    obtain⟨g,o,F,e1,e2,e3,e4,e5,e6⟩:=hx
    cases dep with
    |none=>
     obtain⟨k1,k2⟩:=hfro g e3 e2
     exact⟨g,o,F,e1,k1,by omega,fun j hj=>by rw[z0Y k2];exact e4 j hj,fun j t ht=>TRep.fz (e5 j t ht) hfro (by omega),fun _ e=>by cases e⟩
    |some i=>
     by_cases hi:i=id
     · simp only[zdH,if_pos hi];trivial
     · simp only[zdH,if_neg hi]
       obtain⟨t0,ht0⟩:=ZX.1 (e6 i rfl)
       obtain⟨k1,k2⟩:=hdep i t0 ht0 hi g e3 e2
       exact⟨g,o,F,e1,k1,by omega,fun j hj=>by rw[z0Y k2];exact e4 j hj,fun j t ht=>TRep.fz (e5 j t ht) (fun b hb e1=>hdep i t0 ht0 hi b hb e1) (by omega),fun _ e=>by cases e;rw[hobi i hi,ht0];rfl⟩
 · rw[z0A] at ho
   split at ho
   · rename_i e1
     subst e1;cases ho
     refine TRep.upd hrt (z1D id) hnav hupd ⟨hfro,fun b hb ⟨s,e1,hs⟩=> ?_,by omega⟩ ?_
     · have hb':b≠g:=fun e2=>by subst e2;rw[hKg] at e1;exact hs (by rw[YQ e1];exact List.prefix_rfl)
       exact⟨hK b id s hb (by simpa[col] using e1) ⟨root,hroot⟩ (fun hc=>by rw[hunderN s hs] at hc;cases hc.2),hoth b hb'⟩
     · refine b10 w' K' arr' (setCells cs off xs) (fun j=>(arr'[j]?).getD undef) harr.1 (zfJ _ _ _) ?_ hg' (fun i hi=> ?_) (fun i t ht=> ?_)
       · rw[hK g id p (z0P hg) (by simpa[col] using hKg) ⟨root,hroot⟩ (fun hc=>by rw[hunder0] at hc;cases hc.2)];exact hKg
       · have:i<arr'.size:=by rw[harr.1];omega
         rw[YG this];rfl
       · rw[za0 _ _ _ _ hoff] at ht
         by_cases hj:off<=i/\i<off+xs.length
         · rw[if_pos hj] at ht
           have hl:i-off<vs.length:=by omega
           have:=hnew (i-off) t vs[i-off] ht (Z1 hl)
           rw[show off+(i-off)=i by omega] at this
           rw[harr.2 i,if_pos hj,Z1 hl]
           exact this
         · rw[if_neg hj] at ht
           have hlt:=(Z8.1 ht).1
           have hF:=b7 i hlt
           rw[harr.2 i,if_neg hj,hF]
           refine(b8 i t ht).keep (D:=fun c=>∃s,c=col id++p++i::s) ⟨hfro,fun b hb ⟨s,e1⟩=> ?_,by omega⟩ (fun s _=>⟨s,by simp⟩)
           have hb':b≠g:=fun e2=>by subst e2;rw[hKg] at e1;simp at e1
           exact⟨hK b id (p++i::s) hb (by simpa[col] using e1) ⟨root,hroot⟩ (fun hc=>by rw[hunder] at hc;simp at hc;omega),hoth b hb'⟩
   · rename_i e1
     have hi:i≠id:=fun e2=>e1 e2.symm
     refine(h.ob i t ho).keep (D:=fun c=>∃s,c=(i+2)::s) ⟨hfro,fun b hb ⟨s,e2⟩=> ?_,by omega⟩ (fun s _=>⟨s,rfl⟩)
     exact⟨hK b i s hb e2 ⟨t,ho⟩ (fun hc=>hi hc.1),hoth b (hne b i s e2 hi)⟩
end
section
variable{a:Act}{fr fr':Fr}{p s:List Nat}{id:Nat}{G R:Nat->Value}{K:Nat->z0a}{t:T}{v:Value}{w:World}{c:z0a}
theorem TRep.vr_ne{cs:List T}(h:TRep w K c v (.vr cs)):c≠ []:=by
 cases h with
 |vr _ _ _ _ _ _ _ _ hc0=>exact hc0
theorem TRep.any(h:TRep w K c v t):c= []->∀c',TRep w K c' v t:=by
 induction h with
 |sc c v h=>intro _ c';exact .sc c' v h
 |dead c v=>intro _ c';exact .dead c' v
 |agg c vs cs F hl hF h ih=>intro hc c';subst hc;exact .agg c' vs cs F hl hF fun j t ht=>ih j t ht rfl _
 |tup c vs cs F hl hF h ih=>intro hc c';subst hc;exact .tup c' vs cs F hl hF fun j t ht=>ih j t ht rfl _
 |emp c a cap hc=>intro _ c';exact .emp c' a cap hc
 |fro c g o n cap cs F hK hg hn hc hF h ih=>intro _ c';exact .fro c' g o n cap cs F hK hg hn hc hF h
 |nil c sz=>intro _ c';exact .nil c' sz
 |own c g n cap size cs arr e fz F hfz hc0=>intro hc;exact absurd hc hc0
 |vr c g cs arr e fz F hfz hc0=>intro hc;exact absurd hc hc0
 |vo c g off cs h ih=>intro hc c';subst hc;exact absurd rfl h.vr_ne
 |pr c g o cs F hK hg hF h ih=>intro _ c';exact .pr c' g o cs F hK hg hF h
 |mr c g kk es ents clock hK hg hh=>intro _ c';exact .mr c' g kk es ents clock hK hg hh
 |mp c g kk es ents clock hc0=>intro hc;exact absurd hc hc0
 |ms c g kk ks cs ents clock F hK hg hh h ih=>intro _ c';exact .ms c' g kk ks cs ents clock F hK hg hh h
 |mt c g kk ks cs ents clock F hc0=>intro hc;exact absurd hc hc0
 |cl c f vs cs F hl hF h ih=>intro _ c';exact .cl c' f vs cs F hl hF h
theorem z7b(w:World)(K:Nat->z0a)(own:Bool)(c:z0a)(v:Value):TRep w K c v (zag own v):=by
 unfold zag
 split
 · cases own
   · exact .emp c none 0 (by decide)
   · exact .nil c 0
 · split
   · rename_i h;exact .sc c v h
   · exact .dead c v
def szL:List Nat->List T->List T
 |_,[]=> []
 |l,.os _ 0 []::ts=>.os (l.headD 0) 0 []::szL l.tail ts
 |l,t::ts=>t::szL l.tail ts
theorem zrR:∀(cs:List T) (l:List Nat) (j:Nat) (t:T),(szL l cs)[j]? =some t->∃t0,cs[j]? =some t0/\(t=t0∨ ∃s0 s,t0= .os s0 0 []/\t= .os s 0 [])
 | [],l,j,t,h=>by simp[szL] at h
 |t0::ts,l,0,t,h=>by
  refine⟨t0,rfl,?_⟩
  unfold szL at h
  split at h
  · rename_i e;cases e
  · rename_i e;cases e;simp at h;exact .inr ⟨_,_,rfl,h.symm⟩
  · rename_i e;cases e;simp at h;exact .inl h.symm
 |t0::ts,l,j+1,t,h=>by
  have:(szL l.tail ts)[j]? =some t:=by
   unfold szL at h
   split at h
   · rename_i e;cases e
   · rename_i e;cases e;simpa using h
   · rename_i e;cases e;simpa using h
  simpa using zrR ts l.tail j t this
theorem zhM:∀(cs:List T) (l:List Nat),(szL l cs).length=cs.length
 | [],l=>by simp[szL]
 |t0::ts,l=>by
  have:=zhM ts l.tail
  unfold szL
  split
  · rename_i e;cases e
  · rename_i e;cases e;simp[this]
  · rename_i e;cases e;simp[this]
def zTs(l:List Nat)(z:List Value):List T:=szL l (z.map (zag true))
theorem z6f(l:List Nat)(z:List Value):(zTs l z).length=z.length:=by simp[zTs,zhM]
theorem zlX{l:List Nat}{z:List Value}{j:Nat}(h:(zTs l z)[j]? =some t):∃v,z[j]? =some v/\ ∀(w:World) (K:Nat->z0a) (c:z0a),TRep w K c v t:=by
 obtain⟨t0,h0,h1⟩:=zrR _ _ _ _ h
 simp only[Zd,Z4] at h0
 obtain⟨v,hv,rfl⟩:=h0
 refine⟨v,hv,fun w K c=> ?_⟩
 have hr:=z7b w K true c v
 rcases h1 with rfl|⟨s0,s,e,rfl⟩
 · exact hr
 · unfold zag at e
   split at e
   · exact .nil c s
   · split at e<;>cases e
def fzK(id:Nat)(p:List Nat):z0a->z0a
 | []=> []
 |h::q=>if h=id+2/\(z5h p q).isSome=true then [] else h::q
def zzM(id:Nat)(p:List Nat)(t:T):A->A
 | .h i q=>if i=id then(match z5h p q with|some s=>(match sub t s with|some t'=>.t none (z1P t')|none=>.dead)|none=>.h i q) else .h i q
 | .a i q off=>if i=id then(match z5h p q with|some s=>(match sub t s with|some (.vr cs)=>.ea none (cs.map z1P) off|_=>.dead)|none=>.a i q off) else .a i q off
 |x=>x
def z5Q(fr:Fr)(id:Nat)(p:List Nat):Option Fr:=
 match z2f fr.ob id with
 |none=>none
 |some root=>
  match sub root p with
  |none=>none
  |some t=>
   match upd root p (z1P t) with
   |none=>none
   |some root'=>some {fr with tm:=z6J (zzM id p t) fr.tm,ob:=z6h fr.ob id root'}
theorem zuq{i:Nat}(h1:i≠id):fzK id p ((i+2)::s)=(i+2)::s:=by
 simp[fzK,h1]
theorem zur:fzK id p ((id+2)::(p++s))= []:=by
 simp[fzK,z6g]
theorem zzH(h:¬p<+:s):fzK id p ((id+2)::s)=(id+2)::s:=by
 simp[fzK,z5e.2 h]
theorem zaT(id:Nat)(p:List Nat):Step w K w (fun b=>fzK id p (K b)):=
 ⟨rfl,rfl,rfl,Z5 _,fun b _ h=>⟨by
   show fzK id p (K b)=K b
   rcases h with h|h<;>rw[h]<;>simp[fzK],rfl⟩,.same rfl⟩
theorem FRep.freeze(h:FRep w K R G fr a)(ht:z5Q fr id p=some fr'):
 FRep w (fun b=>fzK id p (K b)) R G fr' a/\ ∀root t vp,z2f fr.ob id=some root->sub root p=some t->nav w (R id) p=some vp->∀c,TRep w (fun b=>fzK id p (K b)) c vp (z1P t):=by
 unfold z5Q at ht
 split at ht
 case h_1=>cases ht
 case h_2 root hroot=>
 split at ht
 case h_1=>cases ht
 case h_2 t hsub=>
 split at ht
 case h_1=>cases ht
 case h_2 root' hupd=>
 cases ht
 obtain⟨vp,hnav,hrep⟩:=(h.ob id root hroot).sub (z1D id) hsub
 let K':Nat->z0a:=fun b=>fzK id p (K b)
 have hfz:∀b,K b= []->K' b= []:=fun b e=>by show fzK id p (K b)= [];rw[e];rfl
 have hdm:∀s t' v',sub t s=some t'->nav w vp s=some v'->∀c,TRep w K' c v' (z1P t'):=fun s t' v' e1 e2 c=>by
  obtain⟨v2,e3,r⟩:=hrep.sub (by simp[col]) e1
  rw[e2] at e3;cases e3
  refine r.freeze (fun b q hb hc hK=>⟨?_,rfl⟩) (fun b hb e=>⟨hfz b e,rfl⟩) (Z5 _) c
  show fzK id p (K b)= []
  rw[hK]
  have:=zur (id:=id) (p:=p) (s:=s++q)
  simpa[col] using this
 have hd0:∀c,TRep w K' c vp (z1P t):=hdm [] t vp rfl rfl
 have hot:∀i t,i≠id->z2f fr.ob i=some t->TRep w K' (col i) (R i) t:=fun i t h1 ho=>
  (h.ob i t ho).move (fun b s hb hc hK=>⟨by
    show fzK id p (K b)=_
    rw[hK];exact zuq h1,rfl⟩) (fun b hb e=>⟨hfz b e,rfl⟩) YU (Z5 _)
 have hdep:∀i b,frz K (some i) b= []->frz K' (some i) b= []:=fun i b e=>by
  simp only[frz] at e⊢
  split at e
  · rename_i hh
    obtain⟨s,hs⟩:∃s,K b=(i+2)::s:=by
     cases hk:K b with
     |nil=>rw[hk] at hh;cases hh
     |cons a s=>rw[hk] at hh;simp at hh;subst hh;exact⟨s,rfl⟩
    have:K' b=fzK id p ((i+2)::s):=by show fzK id p (K b)=_;rw[hs]
    rw[this]
    simp only[fzK]
    split<;>split<;>simp_all
  · rw[hfz b e];simp
 have hobi:∀i,i≠id->z2f (z6h fr.ob id root') i=z2f fr.ob i:=fun i hi=>by rw[z0A,if_neg (fun e=>hi e.symm)]
 have hobs:∀i,(z2f fr.ob i).isSome->(z2f (z6h fr.ob id root') i).isSome:=fun i hi=>by
  rw[z0A];split
  · rfl
  · exact hi
 refine⟨⟨fun i=> ?_,fun i t' hi=> ?_,h.nt,h.df⟩,?_⟩
 · show ERep w K' R (z6h fr.ob id root') (z2J (z6J (zzM id p t) fr.tm) i) _
   rw[z5M _ rfl]
   refine(h.tm i).map _ fun x u hx=> ?_
   cases x with
   |dead=>trivial
   |k v=>exact hx
   |t dep x=>
    cases dep with
    |none=>exact⟨TRep.fz hx.1 (fun b _ e=>⟨hfz b e,rfl⟩) (Z5 _),fun _ e=>by cases e⟩
    |some i=>exact⟨TRep.fz hx.1 (fun b _ e=>⟨hdep i b e,rfl⟩) (Z5 _),fun j e=>hobs j (hx.2 j e)⟩
   |h i q=>
    obtain⟨n1,t1,n2,n3⟩:=hx
    by_cases h1:i=id
    · subst h1
      rw[hroot] at n2;cases n2
      simp only[zzM,if_true]
      cases hs:z5h p q with
      |some s=>
       have:=z7E.1 hs
       subst this
       rw[z5D hnav] at n1
       rw[z5d hsub] at n3
       obtain⟨t',ht'⟩:=ZX.1 n3
       simp only[ht']
       exact⟨hdm s t' u ht' n1 [],fun _ e=>by cases e⟩
      |none=>
       exact⟨n1,root',by simp[z0A],z4R hupd (z5e.1 hs) n3⟩
    · simp only[zzM,if_neg h1]
      exact⟨n1,t1,by rw[hobi i h1];exact n2,n3⟩
   |a i q off=>
    obtain⟨hv,g,n1,n4,n5,t1,n2,n3⟩:=hx
    by_cases h1:i=id
    · subst h1
      rw[hroot] at n2;cases n2
      simp only[zzM,if_true]
      cases hs:z5h p q with
      |none=>exact⟨hv,g,n1,n4,n5,root',by simp[z0A],z4R hupd (z5e.1 hs) n3⟩
      |some s=>
       have:=z7E.1 hs
       subst this
       rw[z5D hnav] at n1
       simp only
       split
       case h_2=>trivial
       case h_1 cs hcs=>
       obtain⟨v2,e3,r⟩:=hrep.sub (by simp[col]) hcs
       rw[n1] at e3;cases e3
       generalize hT:T.vr cs=tt at r
       generalize hC:col i++p++s=cc at r
       cases r with
       |vr c g' cs' arr e fz F hfz2 hc0 hK hg hl hF hh=>
        injection hT with hT
        subst hT
        simp only[z6O,Z9] at n4
        subst n4
        refine⟨g',0,F,by rw[Zp];exact n5,?_,z0P hg,fun j hj=> ?_,fun j t hj=> ?_,fun _ e=>by cases e⟩
        · show fzK i p (K g')= []
          rw[hK,←hC]
          have:=zur (id:=i) (p:=p) (s:=s)
          simpa[col] using this
        · rw[Zp,z1E hg]
          exact hF j (by simpa using hj)
        · simp only[Zd,Z4] at hj
          obtain⟨t0,ht0,rfl⟩:=hj
          refine(hh j t0 ht0).freeze (fun b q hb hc hKb=>⟨?_,rfl⟩) (fun b hb e=>⟨hfz b e,rfl⟩) (Z5 _) []
          show fzK i p (K b)= []
          rw[hKb,←hC]
          have:=zur (id:=i) (p:=p) (s:=s++ [j]++q)
          simpa[col] using this
       |_=>cases hT
    · simp only[zzM,if_neg h1]
      exact⟨hv,g,n1,n4,n5,t1,by rw[hobi i h1];exact n2,n3⟩
   |tf n cs=>exact⟨hx.1,TRep.fz hx.2 (fun b _ e=>⟨hfz b e,rfl⟩) (Z5 _)⟩
   |ea dep cs off=>
    obtain⟨g,o,F,e1,e2,e3,e4,e5,e6⟩:=hx
    cases dep with
    |none=>exact⟨g,o,F,e1,hfz g e2,e3,e4,fun j t ht=>TRep.fz (e5 j t ht) (fun b _ e=>⟨hfz b e,rfl⟩) (Z5 _),fun _ e=>by cases e⟩
    |some i=>exact⟨g,o,F,e1,hdep i g e2,e3,e4,fun j t ht=>TRep.fz (e5 j t ht) (fun b _ e=>⟨hdep i b e,rfl⟩) (Z5 _),fun j e=>hobs j (e6 j e)⟩
 · rw[z0A] at hi
   split at hi
   · rename_i e
     subst e;cases hi
     exact TRep.upd (h.ob id root hroot) (z1D id) hnav hupd ⟨fun b hb e=>⟨hfz b e,rfl⟩,fun b hb ⟨s,e,hs⟩=>⟨by
      show fzK id p (K b)=K b
      rw[e];exact zzH hs,rfl⟩,Z5 _⟩ (hd0 _)
   · rename_i e
     exact hot i t' (fun e'=>e e'.symm) hi
 · intro root2 t2 vp2 e1 e2 e3 c
   rw[hroot] at e1;cases e1
   rw[hsub] at e2;cases e2
   rw[hnav] at e3;cases e3
   exact hd0 c
def zcH(id:Nat)(q:List Nat):A->A
 | .h i s=>if i=id/\(z5h q s).isSome=true then .dead else .h i s
 | .a i s o=>if i=id/\(z5h q s).isSome=true then .dead else .a i s o
 |x=>x
theorem FRep.fill{K':Nat->z0a}{q:List Nat}{root root':T}{u:Value}(h:FRep w K R G fr a)
 (hroot:z2f fr.ob id=some root) (hnav:nav w (R id) q=some u) (hupd:upd root q t=some root')
 (hK0:∀b,b<w.heap.size->K b= []->K' b= [])
 (hK:∀b i s,b<w.heap.size->K b=(i+2)::s->(z2f fr.ob i).isSome->¬(i=id/\q<+:s)->K' b=K b)
 (hKd:∀b s,b<w.heap.size->K b=(id+2)::(q++s)->K' b= []∨(K' b).head?=some (id+2))
 (ht:TRep w K' (col id++q) u t):
 FRep w K' R G {fr with tm:=z6J (zcH id q) fr.tm,ob:=z6h fr.ob id root'} a:=by
 have hobi:∀i,i≠id->z2f (z6h fr.ob id root') i=z2f fr.ob i:=fun i hi=>by rw[z0A,if_neg (fun e=>hi e.symm)]
 have hobs:∀i,(z2f fr.ob i).isSome->(z2f (z6h fr.ob id root') i).isSome:=fun i hi=>by
  rw[z0A];split
  · rfl
  · exact hi
 have hdep:∀i,(z2f fr.ob i).isSome->∀b,b<w.heap.size->frz K (some i) b= []->frz K' (some i) b= []:=fun i hi b hb e=>by
  simp only[frz] at e⊢
  split at e
  · rename_i hh
    obtain⟨s,hs⟩:∃s,K b=(i+2)::s:=by
     cases hk:K b with
     |nil=>rw[hk] at hh;cases hh
     |cons a s=>rw[hk] at hh;simp at hh;subst hh;exact⟨s,rfl⟩
    by_cases hc:i=id/\q<+:s
    · obtain⟨rfl,s2,rfl⟩:=hc
      rcases hKd b s2 hb hs with e1|e1
      · rw[e1];simp
      · simp[e1]
    · rw[hK b i s hb hs hi hc,hs];simp
  · rw[hK0 b hb e];simp
 have hfro:∀b,b<w.heap.size->K b= []->K' b= []/\w.heap[b]? =w.heap[b]? :=fun b hb e=>⟨hK0 b hb e,rfl⟩
 refine⟨fun i=> ?_,fun i t' hi=> ?_,h.nt,h.df⟩
 · show ERep w K' R (z6h fr.ob id root') (z2J (z6J (zcH id q) fr.tm) i) _
   rw[z5M _ rfl]
   refine(h.tm i).map _ fun x u hx=> ?_
   cases x with
   |dead=>trivial
   |k v=>exact hx
   |t dep x=>
    cases dep with
    |none=>exact⟨TRep.fz hx.1 hfro (Z5 _),fun _ e=>by cases e⟩
    |some i=>exact⟨TRep.fz hx.1 (fun b hb e=>⟨hdep i (hx.2 i rfl) b hb e,rfl⟩) (Z5 _),fun j e=>hobs j (hx.2 j e)⟩
   |h i s=>
    obtain⟨n1,t1,n2,n3⟩:=hx
    by_cases hc:i=id/\(z5h q s).isSome=true
    · simp only[zcH,if_pos hc];trivial
    · simp only[zcH,if_neg hc]
      by_cases h1:i=id
      · subst h1
        rw[hroot] at n2;cases n2
        have hs:z5h q s=none:=by
         cases hs:z5h q s with
         |none=>rfl
         |some s=>exact absurd ⟨rfl,by rw[hs];rfl⟩ hc
        exact⟨n1,root',by simp[z0A],z4R hupd (z5e.1 hs) n3⟩
      · exact⟨n1,t1,by rw[hobi i h1];exact n2,n3⟩
   |a i s off=>
    obtain⟨hv,g,n1,n4,n5,t1,n2,n3⟩:=hx
    by_cases hc:i=id/\(z5h q s).isSome=true
    · simp only[zcH,if_pos hc];trivial
    · simp only[zcH,if_neg hc]
      by_cases h1:i=id
      · subst h1
        rw[hroot] at n2;cases n2
        have hs:z5h q s=none:=by
         cases hs:z5h q s with
         |none=>rfl
         |some s=>exact absurd ⟨rfl,by rw[hs];rfl⟩ hc
        exact⟨hv,g,n1,n4,n5,root',by simp[z0A],z4R hupd (z5e.1 hs) n3⟩
      · exact⟨hv,g,n1,n4,n5,t1,by rw[hobi i h1];exact n2,n3⟩
   |tf n cs=>exact⟨hx.1,TRep.fz hx.2 hfro (Z5 _)⟩
   |ea dep cs off=>
    obtain⟨g,o,F,e1,e2,e3,e4,e5,e6⟩:=hx
    cases dep with
    |none=>exact⟨g,o,F,e1,hK0 g e3 e2,e3,e4,fun j t ht=>TRep.fz (e5 j t ht) hfro (Z5 _),fun _ e=>by cases e⟩
    |some i=>exact⟨g,o,F,e1,hdep i (e6 i rfl) g e3 e2,e3,e4,fun j t ht=>TRep.fz (e5 j t ht) (fun b hb e=>⟨hdep i (e6 i rfl) b hb e,rfl⟩) (Z5 _),fun j e=>hobs j (e6 j e)⟩
 · rw[z0A] at hi
   split at hi
   · rename_i e
     subst e;cases hi
     exact TRep.upd (h.ob id root hroot) (z1D id) hnav hupd ⟨hfro,fun b hb ⟨s,e,hs⟩=>⟨by
      rw[hK b id s hb (by simpa[col] using e) (by rw[hroot];rfl) (fun hc=>hs hc.2)],rfl⟩,Z5 _⟩ ht
   · rename_i e
     have hne:i≠id:=fun e'=>e e'.symm
     exact(h.ob i t' hi).move (fun b s hb hc hKb=>⟨by rw[hK b i s hb (by simpa[col] using hKb) (by rw[hi];rfl) (fun hc=>hne hc.1),hKb],rfl⟩) hfro YU (Z5 _)
def freezeKids(fr:Fr)(id:Nat)(p:List Nat):Option Fr:=
 match z2f fr.ob id with
 |none=>none
 |some root=>
  match sub root p with
  |some (.os sz n cs)=>(match upd root p (.os sz n (cs.map z1P)) with
   |some root'=>some {fr with tm:=z6J (zcH id p) fr.tm,ob:=z6h fr.ob id root'}
   |none=>none)
  |_=>none
def zbe(id:Nat)(p:List Nat):z0a->z0a
 | []=> []
 |h::q=>if h=id+2/\(match z5h p q with|some (_::_)=>true|_=>false)=true then [] else h::q
theorem FRep.freezeKids(h:FRep w K R G fr a)(ht:freezeKids fr id p=some fr'):
 ∃K',FRep w K' R G fr' a/\Step w K w K':=by
 unfold Proofs.YtianakjpgmmflaaGreatDoor.freezeKids at ht
 split at ht
 case h_1=>cases ht
 case h_2 root hroot=>
 split at ht
 case h_2=>cases ht
 case h_1 sz n cs hsub=>
 split at ht
 case h_2=>cases ht
 case h_1 root' hupd=>
 cases ht
 obtain⟨u,hnav,hrep⟩:=(h.ob id root hroot).sub (z1D id) hsub
 have z9R:∀(j:Nat) (s:List Nat),zbe id p ((id+2)::(p++j::s))= []:=fun j s=>by
  simp[zbe,z6g]
 have self:zbe id p ((id+2)::p)=(id+2)::p:=by
  have:=z6g p []
  rw[Y1] at this
  simp[zbe,this]
 have off:∀(i:Nat) (s:List Nat),¬(i=id/\p<+:s)->zbe id p ((i+2)::s)=(i+2)::s:=fun i s hn=>by
  by_cases h1:i=id
  · have:=z5e.2 (fun h2=>hn ⟨h1,h2⟩)
    simp[zbe,this]
  · simp[zbe,h1]
 refine⟨fun b=>zbe id p (K b),h.fill (u:=u) (t:=.os sz n (cs.map z1P)) hroot hnav hupd (fun b _ e=>by simp only[e];rfl) (fun b i s _ e _ hn=>by simp only[e];exact off i s hn) (fun b s _ e=> ?_) ?_,rfl,rfl,rfl,Z5 _,fun b _ hc=>⟨?_,rfl⟩,.same rfl⟩
 · simp only[e]
   cases s with
   |nil=>rw[Y1,self];exact .inr rfl
   |cons j s=>exact .inl (z9R j s)
 · generalize hC:col id++p=cc at hrep⊢
   cases hrep with
   |nil=>exact .nil _ _
   |own _ g n cap size cs arr e fz F hfz hc0 hK hg hs hl hz hn hc hF hh=>
    refine .own cc g n cap sz _ arr e fz F hfz hc0 ?_ hg hs (by simpa using hl) hz hn hc (fun j hj=>hF j (by simpa using hj)) (fun j t ht=> ?_)
    · show zbe id p (K g)=cc
      rw[hK,←hC]
      exact self
    · simp only[Zd,Z4] at ht
      obtain⟨t0,ht0,rfl⟩:=ht
      refine(hh j t0 ht0).freeze (fun b q hb _ hKb=>⟨?_,rfl⟩) (fun b hb e=>⟨by simp only[e];rfl,rfl⟩) (Z5 _) _
      simp only[hKb,←hC]
      have:=z9R j q
      simpa[col] using this
 · rcases hc with e|e<;>simp only[e]<;>simp[zbe]
end
section
variable{a:Act}{fr fr':Fr}{xs:List A}{p q:List Nat}{e id r:Nat}{M:Nat->Bool}{G R:Nat->Value}{K:Nat->z0a}{t:T}{u v:Value}{w:World}{c:z0a}
def zcs:T->Bool
 | .sc _=>true
 | .sl _ _=>true
 | .mr _ _=>true
 | .ms _ _ _=>true
 | .pr _=>true
 | .cl _ _=>true
 |_=>false
def zwE(id:Nat)(p:List Nat)(j:Nat):T->A
 | .sc v=>.t none (.sc v)
 | .sl n cs=>.t none (.sl n cs)
 | .mr kk es=>.t none (.mr kk es)
 | .ms kk ks cs=>.t none (.ms kk ks cs)
 | .pr cs=>.t none (.pr cs)
 | .cl f cs=>.t none (.cl f cs)
 | .dead=>.dead
 |_=>.h id (p++ [j])
def zbN(id:Nat)(p:List Nat)(off:Nat):List T->List A
 | []=> []
 |s::l=>zwE id p off s::zbN id p (off+1) l
theorem TRep.free(h:TRep w K c v t)(hp:zcs t=true):∀c',TRep w K c' v t:=by
 cases h with
 |sc _ _ h=>exact fun c'=>.sc c' _ h
 |dead=>cases hp
 |agg=>cases hp
 |tup=>cases hp
 |emp c0 a cap hc=>exact fun c'=>.emp c' _ _ hc
 |fro c0 g o n cap cs F hK hg hn hc hF h=>exact fun c'=>.fro c' g o n cap cs F hK hg hn hc hF h
 |nil=>cases hp
 |own=>cases hp
 |vr=>cases hp
 |vo=>cases hp
 |pr c0 g o cs F hK hg hF h=>exact fun c'=>.pr c' g o cs F hK hg hF h
 |mr c0 g kk es ents clock hK hg hh=>exact fun c'=>.mr c' g kk es ents clock hK hg hh
 |mp=>cases hp
 |mt=>cases hp
 |ms c0 g kk ks cs ents clock F hK hg hh h=>exact fun c'=>.ms c' g kk ks cs ents clock F hK hg hh h
 |cl c0 f vs cs F hl hF h=>exact fun c'=>.cl c' f vs cs F hl hF h
theorem zcI{ob:List (Nat×T)}{root box s:T}{hv:Value}{j:Nat}(hroot:z2f ob id=some root)(hsub:sub root p=some box)
 (hnav:nav w (R id) p=some hv) (hr:TRep w K (col id++p) hv box) (hk:zlV box j=some s):∃v,zep w hv j=some v/\ARep w K R ob (zwE id p j s) v:=by
 obtain⟨v,e1,r⟩:=hr.kid (by simp[col]) hk
 refine⟨v,e1,?_⟩
 have hh:ARep w K R ob (.h id (p++ [j])) v:=by
  refine⟨by rw[z5D hnav];simp[nav,e1],root,hroot,?_⟩
  rw[z5d hsub];simp[sub,hk]
 unfold zwE
 split
 · exact⟨r.free rfl [],fun _ e=>by cases e⟩
 · exact⟨r.free rfl [],fun _ e=>by cases e⟩
 · exact⟨r.free rfl [],fun _ e=>by cases e⟩
 · exact⟨r.free rfl [],fun _ e=>by cases e⟩
 · exact⟨r.free rfl [],fun _ e=>by cases e⟩
 · exact⟨r.free rfl [],fun _ e=>by cases e⟩
 · trivial
 · exact hh
theorem za6{id:Nat}{p:List Nat}:∀ {l:List T} {off j:Nat},(zbN id p off l)[j]? =(l[j]?).map (zwE id p (off+j))
 | [],off,j=>by simp[zbN]
 |s::l,off,0=>by simp[zbN]
 |s::l,off,j+1=>by
  simp only[zbN,ZT]
  rw[za6]
  congr 2;omega
theorem z7r{id:Nat}{p:List Nat}:∀ {l:List T} {off:Nat},(zbN id p off l).length=l.length
 | [],off=>rfl
 |s::l,off=>by simp[zbN,z7r]
def zcW:T->Bool
 | .sc _=>true
 | .sl _ _=>true
 | .os _ _ _=>true
 | .mp _ _=>true
 | .mr _ _=>true
 | .mt _ _ _=>true
 | .ms _ _ _=>true
 | .pr _=>true
 | .cl _ _=>true
 |_=>false
def zzx:Option T->Bool
 |some (.tup _)=>true
 |some (.agg _)=>true
 |_=>false
def setT(fr:Fr)(id:Nat)(q:List Nat)(t:T):Option Fr:=
 match z2f fr.ob id with
 |none=>none
 |some root=>match upd root q t with
  |none=>none
  |some root'=>some {fr with tm:=z6J (zcH id q) fr.tm,ob:=z6h fr.ob id root'}
def moveT(fr:Fr)(e id:Nat)(q:List Nat):Option Fr:=
 if e=id then none else
 match z2f fr.ob e with
 |none=>none
 |some t=>setT {fr with tm:=z6J (kill e) fr.tm,ob:=zlw fr.ob e} id q t
def mvA(e id:Nat)(q:List Nat):A->A
 | .h i p=>if i=e then .h id (q++p) else zcH id q (kill e (.h i p))
 | .a i p o=>if i=e then .a id (q++p) o else zcH id q (kill e (.a i p o))
 |x=>zcH id q (kill e x)
def moveR(fr:Fr)(e id:Nat)(q:List Nat):Option Fr:=
 match moveT fr e id q with
 |none=>none
 |some f=>some {f with tm:=z6J (mvA e id q) fr.tm}
def zGo:Option T->Bool
 |some (.os sz _ _)=>decide (1<sz)
 |_=>false
def zqg(mv:Bool)(fr:Fr)(id:Nat)(q:List Nat)(r:Nat):Option Fr:=
 match z2J fr.tm r with
 | .one (.k v)=>setT fr id q (zag true v)
 | .one (.t none x)=>setT fr id q x
 | .one (.t (some i) x)=>(match z5Q fr i [] with|some fr'=>setT fr' id q x|none=>none)
 | .one (.h e p)=>
   if p= [] then(if zGo (z2f fr.ob e)=true then moveR fr e id q else moveT fr e id q)
   else if mv||zzx (z2f fr.ob e) then(match zdu fr e p r with|some fr'=>moveT fr' r id q|none=>none)
   else match z2f fr.ob e with
    |none=>none
    |some root=>match sub root p with
     |none=>none
     |some t=>match z5Q fr e p with|some fr'=>setT fr' id q (z1P t)|none=>none
 | .one (.a e [] 0)=>(match z2f fr.ob e with|some (.vr _)=>moveR fr e id q|_=>none)
 |_=>none
def mvK(e id:Nat)(q:List Nat):z0a->z0a
 | []=> []
 |h::s=>if h=e+2 then(id+2)::(q++s) else h::s
theorem zeA(e id:Nat)(q:List Nat):Step w K w (fun b=>mvK e id q (K b)):=
 ⟨rfl,rfl,rfl,Z5 _,fun b _ h=>⟨by
   show mvK e id q (K b)=K b
   rcases h with h|h<;>rw[h]<;>simp[mvK],rfl⟩,.same rfl⟩
def KMc(M:Nat->Bool)(c c':z0a):Prop:=(c= []∨ ∃i s,c=(i+2)::s/\M i=false)->(c'= []∨ ∃i s,c'=(i+2)::s/\M i=false)
theorem KMc.rfl:KMc M c c:=fun h=>h
theorem KMc.trans{c1 c2:z0a}(h:KMc M c c1)(k:KMc M c1 c2):KMc M c c2:=fun x=>k (h x)
theorem zzi(hM:M id=false):KMc M c (mvK e id q c):=fun h=>by
 rcases h with rfl|⟨i,s,rfl,hi⟩
 · exact .inl rfl
 · right
   by_cases hie:i+2=e+2
   · exact⟨id,q++s,by simp[mvK,hie],hM⟩
   · exact⟨i,s,by simp only[mvK];rw[if_neg hie],hi⟩
theorem zBH:KMc M c (fzK id p c):=fun h=>by
 rcases h with rfl|⟨i,s,rfl,hi⟩
 · exact .inl rfl
 · by_cases hie:i+2=id+2/\(z5h p s).isSome=true
   · left;simp only[fzK];rw[if_pos hie]
   · exact .inr ⟨i,s,by simp only[fzK];rw[if_neg hie],hi⟩
theorem FRep.setT(h:FRep w K R G fr a)(hnav:nav w (R id) q=some u)
 (hs:setT fr id q t=some fr') (ht:∀c,TRep w K c u t):FRep w K R G fr' a:=by
 unfold Proofs.YtianakjpgmmflaaGreatDoor.setT at hs
 split at hs
 case h_1=>cases hs
 case h_2 root hroot=>
 split at hs
 case h_1=>cases hs
 case h_2 root' hupd=>
 cases hs
 exact h.fill hroot hnav hupd (fun b _ e=>e) (fun b i s _ _ _ _=>rfl) (fun b s _ e=>.inr (by rw[e];rfl)) (ht _)
theorem FRep.moveT(h:FRep w K R G fr a)(hnav:nav w (R id) q=some u)
 (hs:moveT fr e id q=some fr') (hu:R e=u):FRep w (fun b=>mvK e id q (K b)) R G fr' a:=by
 unfold Proofs.YtianakjpgmmflaaGreatDoor.moveT at hs
 split at hs
 · cases hs
 rename_i hne
 split at hs
 case h_1=>cases hs
 case h_2 t ht=>
 unfold Proofs.YtianakjpgmmflaaGreatDoor.setT at hs
 split at hs
 case h_1=>cases hs
 case h_2 root hroot=>
 split at hs
 case h_1=>cases hs
 case h_2 root' hupd=>
 cases hs
 have hne':id≠e:=fun e'=>hne e'.symm
 refine(h.drop e).fill (K':=fun b=>mvK e id q (K b)) hroot hnav hupd (fun b _ e0=>by show mvK e id q (K b)= [];rw[e0];rfl) (fun b i s _ e1 e2 _=> ?_) (fun b s _ e1=>.inr ?_) ?_
 · show mvK e id q (K b)=K b
   have hie:i≠e:=by
    intro e'
    subst e'
    simp[zaR] at e2
   rw[e1];simp[mvK,hie]
 · show(mvK e id q (K b)).head?=_
   rw[e1];simp[mvK,hne']
 · have:=h.ob e t ht
   rw[hu] at this
   refine this.move (fun b s hb hc hKb=>⟨?_,rfl⟩) (fun b hb e0=>⟨by show mvK e id q (K b)= [];rw[e0];rfl,rfl⟩) (by simp[col]) (Z5 _)
   show mvK e id q (K b)=_
   rw[hKb];simp[mvK,col]
theorem FRep.moveR(h:FRep w K R G fr a)(hnav:nav w (R id) q=some u)
 (hs:moveR fr e id q=some fr') (hu:R e=u):FRep w (fun b=>mvK e id q (K b)) R G fr' a:=by
 unfold Proofs.YtianakjpgmmflaaGreatDoor.moveR at hs
 split at hs
 case h_1=>cases hs
 case h_2 f hf=>
 cases hs
 have h1:=h.moveT hnav hf hu
 have hf':=hf
 unfold Proofs.YtianakjpgmmflaaGreatDoor.moveT at hf
 split at hf
 · cases hf
 rename_i hne
 split at hf
 case h_1=>cases hf
 case h_2 t ht=>
 unfold Proofs.YtianakjpgmmflaaGreatDoor.setT at hf
 split at hf
 case h_1=>cases hf
 case h_2 root hroot=>
 split at hf
 case h_1=>cases hf
 case h_2 root' hupd=>
 cases hf
 have hsub:sub root' q=some t:=by have:=z6q (s:= []) hupd;simpa[sub] using this
 have hone:∀x v,ARep w K R fr.ob x v->ARep w (fun b=>mvK e id q (K b)) R (z6h (zlw fr.ob e) id root') (zcH id q (kill e x)) v->ARep w (fun b=>mvK e id q (K b)) R (z6h (zlw fr.ob e) id root') (mvA e id q x) v:=fun x v hx hk=>by
  cases x with
  |h i p=>
   simp only[mvA]
   by_cases hi:i=e
   · subst hi
     rw[if_pos rfl]
     obtain⟨n1,t0,n2,n3⟩:=hx
     rw[ht] at n2;cases n2
     refine⟨by rw[z5D hnav,←hu];exact n1,root',by simp[z0A],by rw[z5d hsub];exact n3⟩
   · rw[if_neg hi];exact hk
  |a i p o=>
   simp only[mvA]
   by_cases hi:i=e
   · subst hi
     rw[if_pos rfl]
     obtain⟨hv,g,n1,n4,n5,t0,n2,n3⟩:=hx
     rw[ht] at n2;cases n2
     exact⟨hv,g,by rw[z5D hnav,←hu];exact n1,n4,n5,root',by simp[z0A],by rw[z5d hsub];exact n3⟩
   · rw[if_neg hi];exact hk
  |dead=>exact hk
  |k v=>exact hk
  |t dep x=>exact hk
  |ea dep cs off=>exact hk
  |tf n cs=>exact hk
 have hkd:kill e .dead= .dead:=rfl
 refine⟨fun i=> ?_,h1.ob,h1.nt,h1.df⟩
 have h0:=h.tm i
 have h2:=h1.tm i
 show ERep w _ R (z6h (zlw fr.ob e) id root') (z2J (z6J (mvA e id q) fr.tm) i) _
 have h2':ERep w (fun b=>mvK e id q (K b)) R (z6h (zlw fr.ob e) id root') (z2J (z6J (zcH id q) (z6J (kill e) fr.tm)) i) (z9I a G i):=h2
 rw[z5M _ rfl,z5M _ rfl] at h2'
 rw[z5M _ rfl]
 generalize z2J fr.tm i=x at h0 h2'
 cases x with
 |one x=>exact hone x _ h0 h2'
 |ag xs=>
  obtain⟨arr,a1,a2,a3⟩:=h0
  obtain⟨arr',b1,b2,b3⟩:=h2'
  rw[a1] at b1;cases b1
  refine⟨arr,a1,by simpa using a2,fun j y hy=> ?_⟩
  simp only[Zd,Z4] at hy
  obtain⟨z,hz,rfl⟩:=hy
  exact hone z _ (a3 j z hz) (b3 j _ (by simp[hz]))
theorem FRep.plug{mv:Bool}(h:FRep w K R G fr a)(hnav:nav w (R id) q=some (z9I a G r))(hr:r≠id)
 (hp:zqg mv fr id q r=some fr'):∃K' R',FRep w K' R' G fr' a/\Step w K w K'/\(∀i,i≠r->R' i=R i)/\fr'.nt=fr.nt/\((∀e p,z2J fr.tm r= .one (.h e p)->p= [])->∀M:Nat->Bool,M id=false->∀b,KMc M (K b) (K' b)):=by
 have hreg:=h.tm r
 unfold zqg at hp
 have hnt:∀ {fr fr':Fr} {id q t},Proofs.YtianakjpgmmflaaGreatDoor.setT fr id q t=some fr'->fr'.nt=fr.nt:=fun {fr fr' id q t} hs=>by
  unfold Proofs.YtianakjpgmmflaaGreatDoor.setT at hs
  split at hs
  · cases hs
  · split at hs
    · cases hs
    · cases hs;rfl
 have hntm:∀ {fr fr':Fr} {e id q},Proofs.YtianakjpgmmflaaGreatDoor.moveT fr e id q=some fr'->fr'.nt=fr.nt:=fun {fr fr' e id q} hs=>by
  unfold Proofs.YtianakjpgmmflaaGreatDoor.moveT at hs
  split at hs
  · cases hs
  · split at hs
    · cases hs
    · have:=hnt hs;exact this
 have hntR:∀ {fr fr':Fr} {e id q},Proofs.YtianakjpgmmflaaGreatDoor.moveR fr e id q=some fr'->fr'.nt=fr.nt:=fun {fr fr' e id q} hs=>by
  unfold Proofs.YtianakjpgmmflaaGreatDoor.moveR at hs
  split at hs
  · cases hs
  · rename_i f hf
    cases hs
    show f.nt=fr.nt
    exact hntm hf
 have hntf:∀ {fr fr':Fr} {id p},z5Q fr id p=some fr'->fr'.nt=fr.nt:=fun {fr fr' id p} hs=>by
  unfold z5Q at hs
  split at hs
  · cases hs
  · split at hs
    · cases hs
    · split at hs
      · cases hs
      · cases hs;rfl
 have hntt:∀ {fr fr':Fr} {id p d},zdu fr id p d=some fr'->fr'.nt=fr.nt:=fun {fr fr' id p d} hs=>by
  unfold zdu at hs
  split at hs
  · cases hs
  · split at hs
    · cases hs
    · split at hs
      · cases hs;rfl
      · split at hs
        · cases hs
        · cases hs;rfl
 split at hp
 · rename_i v hg
   rw[hg] at hreg
   have hreg':z9I a G r=v:=hreg
   exact⟨K,R,h.setT hnav hp (fun c=>by rw[hreg'];exact z7b w K true c v),Step.refl _ _,fun _ _=>rfl,hnt hp,fun _ _ _ _=>KMc.rfl⟩
 · rename_i x hg
   rw[hg] at hreg
   exact⟨K,R,h.setT hnav hp (fun c=>hreg.1.any rfl c),Step.refl _ _,fun _ _=>rfl,hnt hp,fun _ _ _ _=>KMc.rfl⟩
 · rename_i i x hg
   rw[hg] at hreg
   split at hp
   · rename_i fr1 hf
     obtain⟨h1,h2⟩:=h.freeze hf
     refine⟨_,R,h1.setT hnav hp (fun c=> ?_),zaT i [],fun _ _=>rfl,(hnt hp).trans (hntf hf),fun _ _ _ _=>zBH⟩
     refine(TRep.fz hreg.1 (fun b _ e=>⟨?_,rfl⟩) (Z5 _)).any rfl c
     show fzK i [] (K b)= []
     simp only[frz] at e
     split at e
     · rename_i hh
       cases hk:K b with
       |nil=>rfl
       |cons a s=>rw[hk] at hh;simp at hh;subst hh;simp[fzK,z5h]
     · rw[e];rfl
   · cases hp
 · rename_i e p hg
   rw[hg] at hreg
   obtain⟨n1,t0,n2,n3⟩:=hreg
   split at hp
   · rename_i hp0
     subst hp0
     simp only[nav,Z9] at n1
     split at hp
     · exact⟨_,R,h.moveR hnav hp n1,zeA _ _ _,fun _ _=>rfl,hntR hp,fun _ _ hM _=>zzi hM⟩
     · exact⟨_,R,h.moveT hnav hp n1,zeA _ _ _,fun _ _=>rfl,hntm hp,fun _ _ hM _=>zzi hM⟩
   · split at hp
     · split at hp
       · rename_i fr1 hf
         obtain⟨vp,t,m1,m2,m3⟩:=h.take hf
         rw[n1] at m1;cases m1
         have hidr:id≠r:=fun e'=>hr e'.symm
         have:=m3.moveT (u:=z9I a G r) (by rw[show z9P R r (z9I a G r) id=R id by simp[z9P,hidr]];exact hnav) hp (by simp[z9P])
         exact⟨_,_,this,(zex e p r).trans (zeA _ _ _),fun i hi=>by simp[z9P,hi],(hntm hp).trans (hntt hf),fun hno=>absurd (hno e p hg) (by assumption)⟩
       · cases hp
     · split at hp
       · cases hp
       rename_i root hroot
       split at hp
       · cases hp
       rename_i t hsub
       split at hp
       · rename_i fr1 hf
         obtain⟨h1,h2⟩:=h.freeze hf
         exact⟨_,R,h1.setT hnav hp (fun c=>h2 root t _ hroot hsub n1 c),zaT e p,fun _ _=>rfl,(hnt hp).trans (hntf hf),fun _ _ _ _=>zBH⟩
       · cases hp
 · rename_i e hg
   rw[hg] at hreg
   split at hp
   · rename_i cs hob
     obtain⟨hv,g,n1,n4,n5,_⟩:=hreg
     simp only[nav,Z9] at n1
     have hr0:=h.ob e _ hob
     rw[n1] at hr0
     have hRe:R e=z9I a G r:=by
      rw[n5,n1]
      cases hr0 with
      |vr c g' cs arr e' fz F hfz hc0 hK hg' hl hF hh=>
       simp only[z6O,Z9] at n4
       rw[n4]
     exact⟨_,R,h.moveR hnav hp hRe,zeA _ _ _,fun _ _=>rfl,hntR hp,fun _ _ hM _=>zzi hM⟩
   · cases hp
 · cases hp
def plugL(mv:Bool)(fr:Fr)(id:Nat):List (List Nat×Nat)->Option Fr
 | []=>some fr
 |(q,r)::l=>match zqg mv fr id q r with|some fr'=>plugL mv fr' id l|none=>none
def zoc(fr:Fr)(id:Nat)(q:List Nat)(r:Nat):Option Fr:=
 match z2J fr.tm r with
 | .one (.h _ (_::_))=>none
 |_=>zqg false fr id q r
theorem zkX(h:zoc fr id q r=some fr'):zqg false fr id q r=some fr'/\ ∀e p,z2J fr.tm r= .one (.h e p)->p= []:=by
 unfold zoc at h
 split at h
 · cases h
 · rename_i hn
   refine⟨h,fun e p hg=> ?_⟩
   cases p with
   |nil=>rfl
   |cons a s=>exact absurd hg (hn e a s)
def plugL'(fr:Fr)(id:Nat):List (List Nat×Nat)->Option Fr
 | []=>some fr
 |(q,r)::l=>match zoc fr id q r with|some fr'=>plugL' fr' id l|none=>none
theorem zkW{id:Nat}:∀ {l:List (List Nat×Nat)} {fr fr':Fr},plugL' fr id l=some fr'->plugL false fr id l=some fr'
 | [],fr,fr',h=>h
 |(q,r)::l,fr,fr',h=>by
  simp only[plugL'] at h
  split at h
  · rename_i fr1 h1
    simp only[Proofs.YtianakjpgmmflaaGreatDoor.plugL,(zkX h1).1]
    exact zkW h
  · cases h
theorem FRep.plugL{mv:Bool}{w:World}{G:Nat->Value}{a:Act}{id:Nat}:∀ {l:List (List Nat×Nat)} {K:Nat->z0a} {R:Nat->Value} {fr fr':Fr},FRep w K R G fr a->
 (∀q r,(q,r)∈l->nav w (R id) q=some (z9I a G r)/\r≠id)->plugL mv fr id l=some fr'->∃K' R',FRep w K' R' G fr' a/\Step w K w K'/\fr'.nt=fr.nt/\(∀i,(∀q r,(q,r)∈l->i≠r)->R' i=R i)/\(mv=false->plugL' fr id l=some fr'->∀M:Nat->Bool,M id=false->∀b,KMc M (K b) (K' b))
 | [],K,R,fr,fr',h,hl,hp=>by
   cases hp
   exact⟨K,R,h,Step.refl _ _,rfl,fun _ _=>rfl,fun _ _ _ _ _=>KMc.rfl⟩
 |(q,r)::l,K,R,fr,fr',h,hl,hp=>by
  simp only[Proofs.YtianakjpgmmflaaGreatDoor.plugL] at hp
  split at hp
  · rename_i fr1 h1
    obtain⟨m1,m2⟩:=hl q r (by simp)
    obtain⟨K1,R1,a1,a2,a3,a4,a5⟩:=h.plug m1 m2 h1
    obtain⟨K2,R2,b1,b2,b3,b4,b5⟩:=FRep.plugL (l:=l) a1 (fun q' r' hm=>by
     obtain⟨c1,c2⟩:=hl q' r' (by simp[hm])
     exact⟨by rw[a3 id (fun e=>m2 e.symm)];exact c1,c2⟩) hp
    exact⟨K2,R2,b1,a2.trans b2,b3.trans a4,fun i hi=>(b4 i fun q' r' hm=>hi q' r' (by simp[hm])).trans (a3 i (hi q r (by simp))),fun hmv hp' M hM b=>by
     subst hmv
     simp only[Proofs.YtianakjpgmmflaaGreatDoor.plugL'] at hp'
     split at hp'
     · rename_i fr2 h2
       obtain⟨c1,c2⟩:=zkX h2
       rw[h1] at c1;cases c1
       exact(a5 c2 M hM b).trans (b5 rfl hp' M hM b)
     · cases hp'⟩
  · cases hp
def putR(tm:List (Nat×E))(base:Nat):List A->List (Nat×E)
 | []=>tm
 |x::xs=>putR (z7P tm base (.one x)) (base+1) xs
def gv(G:Nat->Value)(base:Nat)(us:Nat->Value)(n:Nat)(i:Nat):Value:=if base<=i/\i<base+n then us (i-base) else G i
theorem FRep.putR{w:World}{K:Nat->z0a}{R:Nat->Value}{a:Act}:∀ {xs:List A} {base:Nat} {G:Nat->Value} {fr:Fr} {us:Nat->Value},FRep w K R G fr a->fr.nt<=base->(∀j x,xs[j]? =some x->ARep w K R fr.ob x (us j))->
 FRep w K R (gv G base us xs.length) {fr with tm:=putR fr.tm base xs} a
 | [],base,G,fr,us,h,hb,hx=>by
   have:gv G base us 0=G:=by
    funext i;simp only[gv];rw[if_neg (by omega)]
   simp only[Ye,this]
   exact h
 |x::xs,base,G,fr,us,h,hb,hx=>by
  have h1:=h.putG (d:=base) (x:=.one x) (v:=us 0) hb (hx 0 x rfl)
  have h2:=FRep.putR (xs:=xs) (base:=base+1) (us:=fun j=>us (j+1)) h1 (by show fr.nt<=base+1;omega) (fun j y hy=>hx (j+1) y (by simpa using hy))
  have e:gv (fun i=>if i=base then us 0 else G i) (base+1) (fun j=>us (j+1)) xs.length=gv G base us (x::xs).length:=by
   funext i
   simp only[gv,Zr]
   by_cases h1:i=base
   · subst h1
     rw[if_neg (by omega),if_pos rfl,if_pos (by omega)];simp
   · by_cases h2:base+1<=i/\i<base+1+xs.length
     · rw[if_pos h2,if_pos (by omega)];congr 1;omega
     · rw[if_neg h2,if_neg h1,if_neg (by omega)]
  rw[e] at h2
  exact h2
def zai(fr:Fr):A->Bool
 | .k v=>v.oneCell'
 | .t _ x=>zcW x
 | .h id p=>match z2f fr.ob id with|some root=>(match sub root p with|some t=>zcW t|none=>false)|none=>false
 | .ea none _ _=>true
 | .a _ _ _=>true
 |_=>false
def explode(fr:Fr):E->Option (List A)
 | .ag xs=>some xs
 | .one (.k (.agg vs))=>some (vs.toList.map A.k)
 | .one (.t dep (.agg cs))=>some (cs.map (A.t dep))
 | .one (.h id p)=>match z2f fr.ob id with
   |some root=>(match sub root p with|some (.agg cs)=>some (zbN id p 0 cs)|_=>none)
   |none=>none
 |_=>none
def cellsE(fr:Fr)(agg:Bool)(e:E):Option (List A):=if agg then explode fr e else match e with| .one x=>some [x]|_=>none
theorem zyO(h:scB v=true):v.oneCell'=true:=by
 cases v<;>first|rfl|(simp[scB] at h)
theorem TRep.one(h:TRep w K c v t)(hc:zcW t=true):v.oneCell'=true:=by
 cases h with
 |sc _ _ h=>exact zyO h
 |dead=>cases hc
 |agg=>cases hc
 |tup=>cases hc
 |emp=>rfl
 |fro=>rfl
 |nil=>rfl
 |own=>rfl
 |vr=>cases hc
 |mr=>rfl
 |vo=>cases hc
 |pr=>rfl
 |mp=>rfl
 |mt=>rfl
 |ms=>rfl
 |cl=>rfl
theorem FRep.one(h:FRep w K R G fr a){x:A}(hx:ARep w K R fr.ob x u)(hc:zai fr x=true):u.oneCell'=true:=by
 cases x with
 |dead=>cases hc
 |k v=>obtain rfl:u=v:=hx;exact hc
 |t dep x=>exact hx.1.one hc
 |h id p=>
  obtain⟨n1,t,n2,n3⟩:=hx
  obtain⟨t',ht'⟩:=ZX.1 n3
  obtain⟨v',e1,r⟩:=(h.ob id t n2).sub (z1D id) ht'
  rw[n1] at e1;cases e1
  simp only[zai,n2,ht'] at hc
  exact r.one hc
 |a id p off=>
  obtain⟨hv,g,_,_,n5,_⟩:=hx
  rw[n5];rfl
 |ea dep cs off=>
  obtain⟨g,o,F,h1,_⟩:=hx
  rw[h1];rfl
 |tf=>cases hc
theorem FRep.explode(h:FRep w K R G fr a){e:E}(he:ERep w K R fr.ob e u)(hx:explode fr e=some xs):
 ∃arr:Array Value,u= .agg arr/\arr.size=xs.length/\ ∀j x,xs[j]? =some x->ARep w K R fr.ob x (arr.getD j undef):=by
 unfold Proofs.YtianakjpgmmflaaGreatDoor.explode at hx
 split at hx
 · cases hx
   exact he
 · rename_i vs
   cases hx
   obtain rfl:u= .agg vs:=he
   refine⟨vs,rfl,by simp,fun j x hj=> ?_⟩
   simp only[Zd,Z4] at hj
   obtain⟨v,hv,rfl⟩:=hj
   show vs.getD j undef=v
   simp only[Zv] at hv
   simp[Z7,hv]
 · rename_i dep cs
   cases hx
   obtain⟨h1,h2⟩:=he
   cases h1 with
   |agg c vs cs F hl hF h=>
    refine⟨vs,rfl,by simpa using hl,fun j x hj=> ?_⟩
    simp only[Zd,Z4] at hj
    obtain⟨t,ht,rfl⟩:=hj
    have hlt:=(Z8.1 ht).1
    rw[Z7,hF j hlt]
    exact⟨h j t ht,h2⟩
 · rename_i id p
   split at hx
   · rename_i root hroot
     split at hx
     · rename_i cs hs
       cases hx
       obtain⟨n1,t,n2,n3⟩:=he
       obtain⟨v',e1,r⟩:=(h.ob id root hroot).sub (z1D id) hs
       rw[n1] at e1;cases e1
       have hkid:=fun j s (hs':cs[j]? =some s)=>zcI (R:=R) hroot hs n1 r (j:=j) (s:=s) hs'
       cases r with
       |agg c vs cs F hl hF hh=>
        refine⟨vs,rfl,by rw[z7r];exact hl,fun j x hj=> ?_⟩
        rw[za6,Zp] at hj
        cases hc:cs[j]? with
        |none=>rw[hc] at hj;cases hj
        |some s=>
         rw[hc] at hj;cases hj
         obtain⟨v,k1,k2⟩:=hkid j s hc
         have hlt:=(Z8.1 hc).1
         simp only[zep,hF j hlt,Z9] at k1
         rw[Z7,hF j hlt,Zb,k1]
         exact k2
     · cases hx
   · cases hx
 · cases hx
theorem FRep.cellsE(h:FRep w K R G fr a){agg:Bool}{e:E}(he:ERep w K R fr.ob e u)(hx:cellsE fr agg e=some xs)
 (hc:xs.all (zai fr)=true):u.cells.size=xs.length/\(∀j x,xs[j]? =some x->ARep w K R fr.ob x (u.cells.getD j undef))/\(∀v∈u.cells.toList,v.oneCell'=true):=by
 have key:∀arr:Array Value,arr.size=xs.length->(∀j x,xs[j]? =some x->ARep w K R fr.ob x (arr.getD j undef))->∀v∈arr.toList,v.oneCell'=true:=by
  intro arr h1 h2 v hv
  obtain⟨j,hj,rfl⟩:=Zt hv
  have hj':j<arr.size:=by simpa using hj
  have hjx:j<xs.length:=by omega
  have:=h2 j xs[j] (Z1 hjx)
  have h3:=h.one this (Zn.1 hc _ (Zw hjx))
  simpa[Z7,hj'] using h3
 unfold Proofs.YtianakjpgmmflaaGreatDoor.cellsE at hx
 split at hx
 · obtain⟨arr,e1,e2,e3⟩:=h.explode he hx
   subst e1
   exact⟨e2,e3,key arr e2 e3⟩
 · split at hx
   · rename_i x
     cases hx
     have hone:=h.one (u:=u) he (by simpa using hc)
     have hcells:u.cells= #[u]:=by
      cases u<;>first|rfl|(simp[Value.oneCell'] at hone)
     rw[hcells]
     refine⟨rfl,fun j x' hj=> ?_,fun v hv=> ?_⟩
     · match j,hj with
       |0,hj=>simp at hj;subst hj;exact he
       |j+1,hj=>simp at hj
     · simp at hv;subst hv;exact hone
   · cases hx
end
section
def z5V:TypeDesc->Bool
 | .struct _=>true
 | .array _ _=>true
 |_=>false
structure TyI where
 u:TypeDesc
 size:Nat
 bytes:Nat
 zero:Option (List T)
variable{ob:List (Nat×T)}{R:Nat->Value}{K:Nat->z0a}{t:TypeId}{a v:Value}{w:World}
variable{i:TyI}
def zwm(P:Program):Nat->TypeId->List Nat
 |0,_=> []
 |n+1,t=>match P.underlying t,P.info? t with
  |some (.slice el),_=> [match P.info? el with|some i=>i.size|none=>0]
  |some (.struct fs),_=>fs.toList.flatMap fun f=>zwm P n f.type
  |some (.array len el),_=>(List.replicate len (zwm P n el)).flatten
  |some _,some i=>List.replicate i.size 0
  |_,_=> []
def z2w(P:Program)(t:TypeId):Option TyI:=
 match P.underlying t,P.info? t with
 |some u,some i=>some ⟨u,i.size,i.bytes,match i.zero with|some z=>some (zTs (zwm P 6 t) z.cells.toList)|none=>none⟩
 |_,_=>none
theorem z3E{P:Program}(h:z2w P t=some i):P.underlying t=some i.u/\ ∃j,P.info? t=some j/\j.size=i.size/\j.bytes=i.bytes/\(match j.zero with|some z=>some (zTs (zwm P 6 t) z.cells.toList)|none=>none)=i.zero:=by
 unfold z2w at h
 split at h
 · rename_i u j h1 h2
   cases h
   exact⟨h1,j,h2,rfl,rfl,rfl⟩
 · cases h
section
variable {P:Program}
theorem z1U(h:z2w P t=some i)(w:World):(underlying t).run P w= .ok i.u w:=by
 simp[underlying,(z3E h).1]
theorem z8u(h:z2w P t=some i)(w:World):(sizeOf t).run P w= .ok i.size w:=by
 obtain⟨h1,j,h2,h3,_⟩:=z3E h
 simp[sizeOf,typeInfo,h2,h3]
theorem zfO(h:z2w P t=some i)(w:World):(isAgg t).run P w= .ok (z5V i.u) w:=by
 have:=z1U h w
 simp only[isAgg,Zc,this,Z2]
 cases i.u<;>rfl
end
def rdV:E->Option Value
 | .one (.t _ (.sc v))=>some v
 | .one (.k v)=>if scB v then some v else none
 |_=>none
def scE(v:Value):E:=.one (.t none (.sc v))
theorem z1o{e:E}{u:Value}(h:ERep w K R ob e u)(hr:rdV e=some v):u=v/\scB v=true:=by
 unfold rdV at hr
 split at hr
 · cases hr
   have h1:TRep w _ [] u (.sc v):=h.1
   cases h1 with
   |sc _ _ h2=>exact⟨rfl,h2⟩
 · split at hr
   · rename_i hs
     cases hr;exact⟨h,hs⟩
   · cases hr
 · cases hr
theorem z3L(h:scB v=true):ERep w K R ob (scE v) v:=⟨.sc _ _ h,fun _ e=>by cases e⟩
def z6L(op:BinOp)(k:IntKind)(a b:Int):Option Value:=
 match op with
 | .add=>some (.int k (k.wrap (a+b)))
 | .sub=>some (.int k (k.wrap (a-b)))
 | .mul=>some (.int k (k.wrap (a*b)))
 | .quo=>if b=0 then none else some (.int k (k.wrap (a.tdiv b)))
 | .rem=>if b=0 then none else some (.int k (a.tmod b))
 | .and=>some (.int k (k.wrap (BitVec.ofInt k.bits a&&&BitVec.ofInt k.bits b).toNat))
 | .or=>some (.int k (k.wrap (BitVec.ofInt k.bits a|||BitVec.ofInt k.bits b).toNat))
 | .xor=>some (.int k (k.wrap (BitVec.ofInt k.bits a^^^BitVec.ofInt k.bits b).toNat))
 | .andNot=>some (.int k (k.wrap (BitVec.ofInt k.bits a&&& ~~~ BitVec.ofInt k.bits b).toNat))
 | .eql=>some (.bool (a==b))
 | .neq=>some (.bool (a !=b))
 | .lss=>some (.bool (decide (a<b)))
 | .leq=>some (.bool (decide (a<=b)))
 | .gtr=>some (.bool (decide (a>b)))
 | .geq=>some (.bool (decide (a≥b)))
 |_=>none
def zbb(op:BinOp)(a b:ByteArray):Option Value:=
 match op with
 | .add=>if((a.size+b.size:Nat):Int)>IntKind.i64.max then none else some (.string (a++b))
 | .eql=>some (.bool (a.toList==b.toList))
 | .neq=>some (.bool (!(a.toList==b.toList)))
 | .lss=>some (.bool (Op.bytesLess a.toList b.toList))
 | .leq=>some (.bool (Op.bytesLess a.toList b.toList||a.toList==b.toList))
 | .gtr=>some (.bool (!(Op.bytesLess a.toList b.toList||a.toList==b.toList)))
 | .geq=>some (.bool (!(Op.bytesLess a.toList b.toList)))
 |_=>none
def zAs(op:BinOp)(u:Option TyI):Value->Value->Option Value
 | .int k a,.int k' b=>
   match op with
   | .shl=>if b<0 then none else some (.int k (k.wrap (a*2^(min b.toNat k.bits))))
   | .shr=>if b<0 then none else some (.int k (a.fdiv (2^(min b.toNat k.bits))))
   |_=>if k=k' then z6L op k a b else none
 | .string a,.string b=>zbb op a b
 | .bool a,.bool b=>
   match u with
   |some ⟨.bool,_,_,_⟩=>(match op with| .eql=>some (.bool (a==b))| .neq=>some (.bool (!(a==b)))|_=>none)
   |_=>none
 | .map none,.map none=>
   match u with
   |some ⟨.map _ _,_,_,_⟩=>(match op with| .eql=>some (.bool true)| .neq=>some (.bool false)|_=>none)
   |_=>none
 |_,_=>none
theorem zp8{P:Program}{op:BinOp}{xt:TypeId}{x y:Operand}{b:Value}(h:zAs op (z2w P xt) a b=some v)(w:World):
 scB v=true/\(do eqGuard op xt x y a b;binOp op xt a b:Sem Value).run P w= .ok v w:=by
 unfold zAs at h
 split at h
 · rename_i k a k' b
   split at h
   · split at h
     · cases h
     · rename_i hb
       cases h
       exact⟨rfl,by simp[eqGuard,binOp,Op.shift,hb]⟩
   · split at h
     · cases h
     · rename_i hb
       cases h
       exact⟨rfl,by simp[eqGuard,binOp,Op.shift,hb]⟩
   · rename_i n1 n2
     split at h
     · rename_i hk
       subst hk
       unfold z6L at h
       cases op<;>simp only[] at h
       all_goals first
        |(cases h;done)
        |(cases h;exact⟨rfl,by simp[eqGuard,binOp,Op.intArith,Op.intBits,Op.intCmp]⟩)
        |(split at h
          · cases h
          · rename_i hb
            cases h
            exact⟨rfl,by simp[eqGuard,binOp,Op.intDiv,hb]⟩)
        |exact absurd rfl n1
        |exact absurd rfl n2
     · cases h
 · rename_i a b
   unfold zbb at h
   cases op<;>simp only[] at h
   all_goals first
    |(cases h;done)
    |(cases h;exact⟨rfl,by simp[eqGuard,binOp,Op.stringOp]⟩)
    |(split at h
      · cases h
      · rename_i hb
        cases h
        have h9:IntKind.i64.max=9223372036854775807:=rfl
        rw[h9] at hb
        exact⟨rfl,by simp[eqGuard,binOp,Op.stringOp];omega⟩)
 · rename_i a b
   split at h
   · rename_i s1 s2 s3 hu
     have hu':=z1U hu w
     simp only[] at hu'
     have he:(Op.equal xt (.bool a) (.bool b)).run P w= .ok (a==b) w:=by
      show(Op.equalIn (9999+1) xt (.bool a) (.bool b)).run P w=_
      rw[Op.equalIn]
      simp only[Zc,hu',Z2,Zg]
     cases op<;>simp only[] at h
     all_goals first
      |(cases h;done)
      |(cases h;exact⟨rfl,by simp[eqGuard,binOp,he]⟩)
   · cases h
 · split at h
   · rename_i s1 s2 s3 s4 s5 hu
     have he:(Op.equal xt (.map none) (.map none)).run P w= .ok true w:=by
      have hu':=z1U hu w
      simp only[] at hu'
      show(Op.equalIn (9999+1) xt (.map none) (.map none)).run P w=_
      rw[Op.equalIn]
      simp only[Zc,hu',Z2]
      rfl
     cases op<;>simp only[] at h
     all_goals first
      |(cases h;done)
      |(cases h;exact⟨rfl,by simp[eqGuard,binOp,he]⟩)
   · cases h
 · cases h
def unS(op:UnOp):Value->Option Value
 | .int k n=>match op with
   | .neg=>some (.int k (k.wrap (0-n)))
   | .xor=>some (.int k (k.wrap (BitVec.ofInt k.bits (if k.signed then-1 else k.max)^^^BitVec.ofInt k.bits n).toNat))
   |_=>none
 | .bool b=>match op with| .not=>some (.bool (!b))|_=>none
 |_=>none
theorem zrw{P:Program}{op:UnOp}(h:unS op a=some v)(w:World):scB v=true/\(Op.unary op a).run P w= .ok v w:=by
 unfold unS at h
 split at h
 · cases op<;>simp only[] at h<;>first|(cases h;done)|(cases h;exact⟨rfl,by simp[Op.unary,Op.intArith,Op.intBits]⟩)
 · cases op<;>simp only[] at h<;>first|(cases h;done)|(cases h;exact⟨rfl,by simp[Op.unary]⟩)
 · cases h
def zEl:Value->Value->Option Value
 | .int k x,.int _ y=>some (.int k (if y<x then y else x))
 |_,_=>none
def zEm:Value->Value->Option Value
 | .int k x,.int _ y=>some (.int k (if y>x then y else x))
 |_,_=>none
end
section
variable{a:Act}{fr:Fr}{ob:List (Nat×T)}{M:Nat->Bool}{G R:Nat->Value}{K:Nat->z0a}{t:TypeId}{w:World}
def zgE:Value->E
 | .int k n=>scE (.int k n)
 | .bool b=>scE (.bool b)
 | .string s=>scE (.string s)
 |v=>.one (.k v)
theorem zr2(v:Value):ERep w K R ob (zgE v) v:=by
 unfold zgE
 split
 · exact z3L rfl
 · exact z3L rfl
 · exact z3L rfl
 · exact(rfl:v=v)
def opE(fr:Fr):Operand->E
 | .tmp t=>if t<fr.nt then z2J fr.tm t else .one .dead
 | .const v=>zgE v
 | .func f=>scE (.func (.func f) #[] #[])
 | .global _=>.one .dead
theorem FRep.opE(h:FRep w K R G fr a)(x:Operand):ERep w K R fr.ob (opE fr x) (a.eval x):=by
 cases x with
 |tmp t=>
  simp only[Proofs.YtianakjpgmmflaaGreatDoor.opE,Act.eval]
  split
  · rename_i ht
    have:=h.tm t
    rwa [z9I,if_pos (by rw[h.nt];exact ht)] at this
  · trivial
 |const v=>exact zr2 v
 |global g=>trivial
 |func f=>exact z3L rfl
def zAo(dep:Option Nat):T->A
 | .sc v=>.t none (.sc v)
 | .dead=>.dead
 |c=>.t dep c
theorem zjl{dep:Option Nat}{c:T}{v:Value}(h:TRep w (frz K dep) [] v c)(hd:znk ob dep):ARep w K R ob (zAo dep c) v:=by
 unfold zAo
 split
 · cases h with
   |sc _ _ h=>exact⟨.sc _ _ h,fun _ e=>by cases e⟩
 · trivial
 · exact⟨h,hd⟩
def noM(_:Nat):Bool:=false
def zDu(_:Nat):Bool:=true
def Stay(w w':World)(K:Nat->z0a)(M:Nat->Bool):Prop:=∀b,b<w.heap.size->(K b= []∨ ∃i s,K b=(i+2)::s/\M i=false)->w'.heap[b]? =w.heap[b]?
theorem Stay.refl(w:World)(K:Nat->z0a)(M:Nat->Bool):Stay w w K M:=fun _ _ _=>rfl
def zjk(dep:Option Nat)(M:Nat->Bool):Bool:=match dep with|some i=>M i|none=>false
theorem Stay.dep{w':World}(h:Stay w w' K M){dep:Option Nat}(hd:zjk dep M=false){b:Nat}(hb:b<w.heap.size)(e:frz K dep b= []):w'.heap[b]? =w.heap[b]? :=by
 cases dep with
 |none=>exact h b hb (.inl e)
 |some i=>
  simp only[frz] at e
  split at e
  · rename_i hh
    obtain⟨s,hs⟩:∃s,K b=(i+2)::s:=by
     cases hk:K b with
     |nil=>rw[hk] at hh;cases hh
     |cons a s=>rw[hk] at hh;simp at hh;subst hh;exact⟨s,rfl⟩
    exact h b hb (.inr ⟨i,s,hs,by simpa[zjk] using hd⟩)
  · exact h b hb (.inl e)
theorem z8B(g o j:Nat):(⟨g,o,none⟩:Addr).add j=⟨g,o+j,none⟩:=by unfold Addr.add;split<;>simp_all
section
variable {P:Program}
theorem z7g{ti:TyI}(ht:z2w P t=some ti)(w:World)(g o:Nat)(vs:List Value)(hn:vs.length=if z5V ti.u then ti.size else 1)(hc:∀j v,vs[j]? =some v->w.cell? ⟨g,o+j,none⟩=some v):
 (loadVar t ⟨g,o,none⟩).run P w= .ok (if z5V ti.u then .agg vs.toArray else vs.headD undef) w:=by
 unfold loadVar
 simp only[Zc,zfO ht,Z2]
 cases h:z5V ti.u with
 |true=>
  simp only[if_true,Zc,z8u ht,Z2]
  rw[h] at hn
  simp only[if_true] at hn
  rw[←hn,run_loadCells_list w ⟨g,o,none⟩ vs (fun j v hv=>by rw[z8B];exact hc j v hv)]
  rfl
 |false=>
  rw[h] at hn
  simp only[ZR,if_false] at hn⊢
  match vs,hn with
  | [v],_=>
    have:=hc 0 v rfl
    simp only[Yx] at this
    simp[load,Sem.run,this]
end
def zqt(P:Program)(M:Nat->Bool)(fr:Fr)(t:TypeId)(e:E):Option E:=
 match z2w P t with
 |none=>none
 |some ti=>
  match e with
  | .one (.a id p off)=>
    if M id then none else
    match z2f fr.ob id with
    |none=>none
    |some root=>match sub root p with
     |none=>none
     |some box=>match z5o box with
      |none=>none
      |some cs=>
       if z5V ti.u then
        (if off+ti.size<=cs.length/\0<ti.size then
          (if((cs.drop off).take ti.size).all zcs then some (.one (.t none (.agg ((cs.drop off).take ti.size)))) else some (.ag (zbN id p off ((cs.drop off).take ti.size))))
        else none)
       else match cs[off]? with
        |some s=>some (.one (zwE id p off s))
        |none=>none
  | .one (.ea dep cs off)=>
    if zjk dep M then none else
    if z5V ti.u then(if off+ti.size<=cs.length/\0<ti.size then some (.one (.t dep (.agg ((cs.drop off).take ti.size)))) else none)
    else match cs[off]? with
     |some s=>some (.one (zAo dep s))
     |none=>none
  |_=>none
theorem zr9{box:T}{cs:List T}(h:z5o box=some cs)(j:Nat):zlV box j=cs[j]? :=by
 cases box with
 |sc v=>cases h
 |dead=>cases h
 |agg=>cases h
 |tup=>cases h
 |sl n cs0=>cases h
 |mp=>cases h
 |mr=>cases h
 |mt=>cases h
 |ms=>cases h
 |vo=>cases h
 |pr=>cases h
 |cl=>cases h
 |os sz n cs0=>simp only[z5o,Z9] at h;subst h;rfl
 |vr cs0=>simp only[z5o,Z9] at h;subst h;rfl
theorem zoq{P:Program}{e e':E}{u:Value}(h:FRep w K R G fr a)(he:ERep w K R fr.ob e u)(hl:zqt P M fr t e=some e'):
 ∃v,ERep w K R fr.ob e' v/\ ∀w',Stay w w' K M->(Instr.loadAt t u).run P w'= .ok v w':=by
 unfold zqt at hl
 split at hl
 case h_1=>cases hl
 case h_2 ti hti=>
 split at hl
 · rename_i id p off
   split at hl
   · cases hl
   rename_i hM
   split at hl
   case h_1=>cases hl
   case h_2 root hroot=>
   split at hl
   case h_1=>cases hl
   case h_2 box hsub=>
   split at hl
   case h_1=>cases hl
   case h_2 cs hcs=>
   obtain⟨hv,g,n1,n4,rfl,t0,n2,n3⟩:=he
   obtain⟨hv2,m1,hrep⟩:=(h.ob id root hroot).sub (z1D id) hsub
   rw[n1] at m1;cases m1
   have main:∀(n:Nat),0<n->off+n<=cs.length->∃vs:List Value,vs.length=n/\(∀w',Stay w w' K M->∀(j:Nat) (v:Value),vs[j]? =some v->w'.cell? ⟨g,off+j,none⟩=some v)/\(∀(j:Nat) (v:Value),vs[j]? =some v->∃s,cs[off+j]? =some s/\ARep w K R fr.ob (zwE id p (off+j) s) v/\(zcs s=true->∀c,TRep w K c v s)):=by
    intro n hn hle
    obtain⟨g2,arr,el,fz,F,b1,b2,b3,b4,b5,b6,b7,b8,b9,b10⟩:=hrep.box hcs (show off<cs.length by omega)
    rw[n4] at b1;cases b1
    refine⟨(List.range n).map fun j=>F (off+j),by simp,fun w' hst j v hv=> ?_,fun j v hv=> ?_⟩
    · have hst':=hst g (z0P b4) (.inr ⟨id,p,by rw[b3];rfl,by simpa using hM⟩)
      simp only[Zd,Z4] at hv
      obtain⟨i,hi,rfl⟩:=hv
      obtain⟨h2,h3⟩:=Z8.1 hi
      simp at h2 h3;subst h3
      rw[z0Y hst',z1E b4]
      exact b7 _ (by omega)
    · simp only[Zd,Z4] at hv
      obtain⟨i,hi,rfl⟩:=hv
      obtain⟨h2,h3⟩:=Z8.1 hi
      simp at h2 h3;subst h3
      have hlt:off+j<cs.length:=by omega
      refine⟨cs[off+j],Z1 hlt,?_,fun hp=>(b8 _ _ (Z1 hlt)).free hp⟩
      obtain⟨v,k1,k2⟩:=zcI hroot hsub n1 hrep (j:=off+j) (s:=cs[off+j]) (by rw[zr9 hcs,Z1 hlt])
      have:v=F (off+j):=by
       have hcell:w.cell? ⟨g,off+j,none⟩=some (F (off+j)):=by rw[z1E b4];exact b7 _ hlt
       rcases b9 with rfl|⟨n,cap,rfl⟩
       · simp only[zep,hcell,Z9] at k1;exact k1.symm
       · simp only[zep,hcell,Z9] at k1;exact k1.symm
      rw[←this];exact k2
   split at hl
   · rename_i hagg
     split at hl
     · rename_i hsz
       obtain⟨vs,v1,v2,v3⟩:=main ti.size hsz.2 hsz.1
       refine⟨.agg vs.toArray,?_,fun w' hst=> ?_⟩
       · have hget:∀j,((cs.drop off).take ti.size)[j]? =if j<ti.size then cs[off+j]? else none:=fun j=>by
          rw[YF];split
          · rw[Yo]
          · rfl
         have hlen:((cs.drop off).take ti.size).length=ti.size:=by simp;omega
         split at hl
         · rename_i hall
           cases hl
           refine⟨.agg _ _ _ (fun j=>vs.getD j undef) (by simp[v1,hlen]) (fun j hj=> ?_) (fun j s hs=> ?_),fun _ e=>by cases e⟩
           · have:j<vs.length:=by omega
             simp[List.getD,Z1 this]
           · have hj:j<ti.size:=by rw[hget] at hs;split at hs;assumption;cases hs
             rw[hget,if_pos hj] at hs
             have hjv:j<vs.length:=by omega
             obtain⟨s',q1,q2,q3⟩:=v3 j vs[j] (Z1 hjv)
             rw[hs] at q1;cases q1
             have hp:zcs s=true:=Zn.1 hall s (ZM (by rw[hget,if_pos hj];exact hs))
             simp only[List.getD,Z1 hjv,Zb]
             exact q3 hp _
         · cases hl
           refine⟨vs.toArray,rfl,by simp[v1,z7r,hlen],fun j x hx=> ?_⟩
           rw[za6,hget] at hx
           split at hx
           · rename_i hj
             have hjv:j<vs.length:=by omega
             obtain⟨s',q1,q2,q3⟩:=v3 j vs[j] (Z1 hjv)
             rw[q1] at hx
             cases hx
             simpa[Z7,hjv] using q2
           · cases hx
       · have:=z7g hti w' g off vs (by rw[if_pos hagg];exact v1) (v2 w' hst)
         rw[if_pos hagg] at this
         simpa[Instr.loadAt,Instr.sureAddr] using this
     · cases hl
   · rename_i hagg
     split at hl
     · rename_i s hs
       cases hl
       obtain⟨vs,v1,v2,v3⟩:=main 1 (by omega) (by have:=(Z8.1 hs).1;omega)
       match vs,v1 with
       | [v],_=>
         obtain⟨s',q1,q2,q3⟩:=v3 0 v rfl
         simp only[Yx] at q1 q2
         rw[hs] at q1;cases q1
         refine⟨v,q2,fun w' hst=> ?_⟩
         have:=z7g hti w' g off [v] (by rw[if_neg hagg];rfl) (v2 w' hst)
         rw[if_neg hagg] at this
         simpa[Instr.loadAt,Instr.sureAddr] using this
     · cases hl
 · rename_i dep cs off
   split at hl
   · cases hl
   rename_i hM
   obtain⟨g,o,F,rfl,e2,e3,e4,e5,e6⟩:=he
   have hst':∀w',Stay w w' K M->w'.heap[g]? =w.heap[g]? :=fun w' hst=>hst.dep (by simpa using hM) e3 e2
   split at hl
   · rename_i hagg
     split at hl
     · rename_i hsz
       cases hl
       have hget:∀j,((cs.drop off).take ti.size)[j]? =if j<ti.size then cs[off+j]? else none:=fun j=>by
        rw[YF];split
        · rw[Yo]
        · rfl
       have hlen:((cs.drop off).take ti.size).length=ti.size:=by simp;omega
       refine⟨.agg ((List.range ti.size).map fun j=>F (off+j)).toArray,⟨.agg _ _ _ (fun j=>F (off+j)) (by simp[hlen]) (fun j hj=> ?_) (fun j s hs=> ?_),e6⟩,fun w' hst=> ?_⟩
       · have:j<ti.size:=by omega
         simp[this]
       · rw[hget] at hs
         split at hs
         · exact e5 _ s hs
         · cases hs
       · have:=z7g hti w' g (o+off) ((List.range ti.size).map fun j=>F (off+j)) (by rw[if_pos hagg];simp) (fun j v hv=>by
          simp only[Zd,Z4] at hv
          obtain⟨i,hi,rfl⟩:=hv
          obtain⟨h2,h3⟩:=Z8.1 hi
          simp at h2 h3;subst h3
          rw[z0Y (hst' w' hst),Xd]
          exact e4 _ (by omega))
         rw[if_pos hagg] at this
         simpa[Instr.loadAt,Instr.sureAddr] using this
     · cases hl
   · rename_i hagg
     split at hl
     · rename_i s hs
       cases hl
       have hlt:=(Z8.1 hs).1
       refine⟨F off,zjl (e5 off s hs) e6,fun w' hst=> ?_⟩
       have:=z7g hti w' g (o+off) [F off] (by rw[if_neg hagg];rfl) (fun j v hv=>by
        match j,hv with
        |0,hv=>
         simp at hv;subst hv
         rw[z0Y (hst' w' hst)]
         exact e4 off hlt
        |j+1,hv=>simp at hv)
       rw[if_neg hagg] at this
       simpa[Instr.loadAt,Instr.sureAddr] using this
     · cases hl
 · cases hl
end
section
variable{a:Act}{e e':E}{fr:Fr}{f:Nat}{G R:Nat->Value}{K:Nat->z0a}{P:Program}{t:TypeId}{u:Value}{w:World}
def z8X(P:Program)(t:TypeId)(e:E)(f:Nat):Option E:=
 match z2w P t with
 |some ⟨.struct fields,_,_,_⟩=>match fields[f]? with
  |none=>none
  |some fd=>match z2w P fd.type with
   |none=>none
   |some ti=>if ti.size=0 then none else
    match e with
    | .one (.a id p off)=>some (.one (.a id p (off+fd.offset)))
    | .one (.ea dep cs off)=>some (.one (.ea dep cs (off+fd.offset)))
    |_=>none
 |_=>none
theorem zjg{ob:List (Nat×T)}(he:ERep w K R ob e u)(hl:z8X P t e f=some e'):
 ∃v,ERep w K R ob e' v/\ ∀w',(Instr.fieldAt t u f).run P w'= .ok v w':=by
 unfold z8X at hl
 split at hl
 case h_2=>cases hl
 case h_1 fields s1 s2 s3 ht=>
 split at hl
 case h_1=>cases hl
 case h_2 fd hfd=>
 split at hl
 case h_1=>cases hl
 case h_2 ti hti=>
 split at hl
 · cases hl
 rename_i hz
 have hrun:∀g o w',(Instr.fieldAt t (.pointer (some ⟨g,o,none⟩)) f).run P w'= .ok (.pointer (some ⟨g,o+fd.offset,none⟩)) w':=fun g o w'=>by
  have:=z1U ht w'
  simp[Instr.fieldAt,this,hfd,Instr.sureAddr,fieldPlace,z8u hti,hz,z8B]
 split at hl
 · cases hl
   obtain⟨hv,g,n1,n4,rfl,n5⟩:=he
   exact⟨_,⟨hv,g,n1,n4,rfl,n5⟩,hrun _ _⟩
 · cases hl
   obtain⟨g,o,F,rfl,e2,e3,e4,e5,e6⟩:=he
   exact⟨_,⟨g,o,F,by rw[Xd],e2,e3,e4,e5,e6⟩,hrun _ _⟩
 · cases hl
def zqj(fr:Fr)(agg:Bool)(size off:Nat)(e:E):Option E:=
 match e with
 | .ag xs=>if agg then(if off+size<=xs.length then some (.ag ((xs.drop off).take size)) else none) else(match xs[off]? with|some x=>some (.one x)|none=>none)
 | .one (.k (.agg vs))=>if agg then(if off+size<=vs.size then some (.one (.k (.agg (vs.extract off (off+size))))) else none) else(match vs[off]? with|some v=>some (.one (.k v))|none=>none)
 | .one (.t dep (.agg cs))=>if agg then(if off+size<=cs.length then some (.one (.t dep (.agg ((cs.drop off).take size)))) else none) else(match cs[off]? with|some c=>some (.one (zAo dep c))|none=>none)
 | .one (.h id p)=>match z2f fr.ob id with
   |none=>none
   |some root=>match sub root p with
    |some (.agg cs)=>if agg then(if off+size<=cs.length then some (.ag (zbN id p off ((cs.drop off).take size))) else none) else(match cs[off]? with|some c=>some (.one (zwE id p off c))|none=>none)
    |_=>none
 |_=>none
theorem zoe{ti:TyI}{off:Nat}(h:FRep w K R G fr a)(he:ERep w K R fr.ob e u)(ht:z2w P t=some ti)
 (hl:zqj fr (z5V ti.u) ti.size off e=some e'):∃cs v,u= .agg cs/\ERep w K R fr.ob e' v/\ ∀w',(part t cs off).run P w'= .ok v w':=by
 have hr1:∀(cs:Array Value) (h:z5V ti.u=true) (w':World),(part t cs off).run P w'= .ok (.agg (cs.extract off (off+ti.size))) w':=fun cs h w'=>by
  simp[part,zfO ht,h,z8u ht]
 have hr2:∀(cs:Array Value) (v:Value),z5V ti.u=false->cs[off]? =some v->∀w',(part t cs off).run P w'= .ok v w':=fun cs v h hv w'=>by
  simp[part,zfO ht,h,hv]
 unfold zqj at hl
 split at hl
 · rename_i xs
   obtain⟨arr,rfl,e2,e3⟩:=he
   split at hl
   · rename_i hagg
     split at hl
     · rename_i hsz
       cases hl
       refine⟨arr,_,rfl,⟨arr.extract off (off+ti.size),rfl,by simp;omega,fun j x hx=> ?_⟩,hr1 _ hagg⟩
       rw[YF] at hx
       split at hx
       · rename_i hj
         rw[Yo] at hx
         have:=e3 _ x hx
         have hlt:=(Z8.1 hx).1
         have e1:(arr.extract off (off+ti.size)).getD j undef=arr.getD (off+j) undef:=by
          simp only[Z7,XF]
          rw[if_pos (by omega)]
         rw[e1];exact this
       · cases hx
     · cases hl
   · rename_i hagg
     split at hl
     · rename_i x hx
       cases hl
       have hlt:=(Z8.1 hx).1
       have hlt':off<arr.size:=by omega
       have:=e3 off x hx
       refine⟨arr,arr[off],rfl,?_,hr2 _ _ (by simpa using hagg) (YG hlt')⟩
       rw[show arr.getD off undef=arr[off] by simp[Z7,hlt']] at this
       exact this
     · cases hl
 · rename_i vs
   obtain rfl:u= .agg vs:=he
   split at hl
   · rename_i hagg
     split at hl
     · cases hl
       exact⟨vs,_,rfl,(rfl:_=_),hr1 _ hagg⟩
     · cases hl
   · rename_i hagg
     split at hl
     · rename_i v hv
       cases hl
       exact⟨vs,v,rfl,(rfl:_=_),hr2 _ _ (by simpa using hagg) hv⟩
     · cases hl
 · rename_i dep cs
   obtain⟨h1,h2⟩:=he
   cases h1 with
   |agg c vs cs F hlen hF hh=>
   split at hl
   · rename_i hagg
     split at hl
     · rename_i hsz
       cases hl
       have hln:((cs.drop off).take ti.size).length=ti.size:=by simp;omega
       refine⟨vs,_,rfl,⟨.agg _ (vs.extract off (off+ti.size)) _ (fun j=>F (off+j)) (by simp;omega) (fun j hj=> ?_) (fun j s hs=> ?_),h2⟩,hr1 _ hagg⟩
       · have hj':j<ti.size:=by omega
         rw[XF,if_pos (by omega)]
         exact hF _ (by omega)
       · rw[YF] at hs
         split at hs
         · rw[Yo] at hs
           exact hh _ s hs
         · cases hs
     · cases hl
   · rename_i hagg
     split at hl
     · rename_i c hc
       cases hl
       have hlt:=(Z8.1 hc).1
       exact⟨vs,F off,rfl,zjl (hh off c hc) h2,hr2 _ _ (by simpa using hagg) (hF off hlt)⟩
     · cases hl
 · rename_i id p
   split at hl
   case h_1=>cases hl
   case h_2 root hroot=>
   split at hl
   case h_2=>cases hl
   case h_1 cs hsub=>
   obtain⟨n1,t0,n2,n3⟩:=he
   obtain⟨v',m1,hrep⟩:=(h.ob id root hroot).sub (z1D id) hsub
   rw[n1] at m1;cases m1
   have hkid:=fun j s (hs:cs[j]? =some s)=>zcI (R:=R) hroot hsub n1 hrep (j:=j) (s:=s) hs
   cases hrep with
   |agg c vs cs F hlen hF hh=>
   split at hl
   · rename_i hagg
     split at hl
     · rename_i hsz
       cases hl
       have hln:((cs.drop off).take ti.size).length=ti.size:=by simp;omega
       refine⟨vs,_,rfl,⟨vs.extract off (off+ti.size),rfl,by rw[z7r,hln];simp;omega,fun j x hx=> ?_⟩,hr1 _ hagg⟩
       rw[za6,YF] at hx
       split at hx
       · rename_i hj
         rw[Yo] at hx
         cases hc:cs[off+j]? with
         |none=>rw[hc] at hx;cases hx
         |some s=>
          rw[hc] at hx;cases hx
          obtain⟨v,k1,k2⟩:=hkid _ s hc
          have hlt:=(Z8.1 hc).1
          have e1:(vs.extract off (off+ti.size)).getD j undef=v:=by
           simp only[Z7,XF]
           rw[if_pos (by omega)]
           simp only[zep] at k1
           rw[k1];rfl
          rw[e1];exact k2
       · cases hx
     · cases hl
   · rename_i hagg
     split at hl
     · rename_i c hc
       cases hl
       obtain⟨v,k1,k2⟩:=hkid _ c hc
       exact⟨vs,v,rfl,k2,hr2 _ _ (by simpa using hagg) k1⟩
     · cases hl
 · cases hl
def zlr(P:Program)(fr:Fr)(t:TypeId)(e:E)(f:Nat):Option E:=
 match z2w P t with
 |some ⟨.struct fields,_,_,_⟩=>match fields[f]? with
  |none=>none
  |some fd=>match z2w P fd.type with
   |none=>none
   |some ti=>zqj fr (z5V ti.u) ti.size fd.offset e
 |_=>none
theorem zuy(h:FRep w K R G fr a)(he:ERep w K R fr.ob e u)(hl:zlr P fr t e f=some e'):
 ∃v,ERep w K R fr.ob e' v/\ ∀w',(Instr.field t u f).run P w'= .ok v w':=by
 unfold zlr at hl
 split at hl
 case h_2=>cases hl
 case h_1 fields s1 s2 s3 ht=>
 split at hl
 case h_1=>cases hl
 case h_2 fd hfd=>
 split at hl
 case h_1=>cases hl
 case h_2 ti hti=>
 obtain⟨cs,v,rfl,h1,h2⟩:=zoe h he hti hl
 refine⟨v,h1,fun w'=> ?_⟩
 have:=z1U ht w'
 simp[Instr.field,this,hfd,asAgg,h2]
def zsy(fr:Fr):E->Option (Option Nat×Nat×List T)
 | .one (.t dep (.sl n cs))=>some (dep,n,cs)
 | .one (.t dep (.os _ n cs))=>some (dep,n,cs)
 | .one (.tf n cs)=>some (none,n,cs)
 | .one (.h id p)=>match z2f fr.ob id with
   |none=>none
   |some root=>match sub root p with
    |some (.os _ n cs)=>some (some id,n,z5R cs)
    |some (.sl n cs)=>some (none,n,cs)
    |_=>none
 | .one (.k (.slice none 0 0))=>some (none,0,[])
 |_=>none
theorem z7o{dep:Option Nat}{n:Nat}{cs:List T}(h:FRep w K R G fr a)(he:ERep w K R fr.ob e u)(hr:zsy fr e=some (dep,n,cs)):
 znk fr.ob dep/\((∃a cap,u= .slice a 0 cap/\cap<=maxLen/\n=0/\cs= [])∨ ∃g o cap,∃F:Nat->Value,u= .slice (some ⟨g,o,none⟩) n cap/\n<=cap/\cap<=maxLen/\frz K dep g= []/\g<w.heap.size/\
  (∀j,j<cs.length->w.cell? ⟨g,o+j,none⟩=some (F j))/\ ∀j t,cs[j]? =some t->TRep w (frz K dep) [] (F j) t):=by
 have key:∀ {K':Nat->z0a} {t0:T},TRep w K' [] u t0->(t0= .sl n cs∨ ∃sz,t0= .os sz n cs)->(∃a cap,u= .slice a 0 cap/\cap<=maxLen/\n=0/\cs= [])∨ ∃g o cap,∃F:Nat->Value,u= .slice (some ⟨g,o,none⟩) n cap/\n<=cap/\cap<=maxLen/\K' g= []/\g<w.heap.size/\
  (∀j,j<cs.length->w.cell? ⟨g,o+j,none⟩=some (F j))/\ ∀j t,cs[j]? =some t->TRep w K' [] (F j) t:=fun {K' t0} hh et=>by
  cases hh with
  |sc=>rcases et with et|⟨_,et⟩<;>cases et
  |dead=>rcases et with et|⟨_,et⟩<;>cases et
  |agg=>rcases et with et|⟨_,et⟩<;>cases et
  |tup=>rcases et with et|⟨_,et⟩<;>cases et
  |emp c0 a cap hc=>rcases et with et|⟨_,et⟩<;>cases et;exact .inl ⟨a,cap,rfl,hc,rfl,rfl⟩
  |fro c0 g o n' cap cs' F hK hg hn hc hF hh=>rcases et with et|⟨_,et⟩<;>cases et;exact .inr ⟨g,o,cap,F,rfl,hn,hc,hK,hg,hF,hh⟩
  |nil=>rcases et with et|⟨_,et⟩<;>cases et;exact .inl ⟨none,0,rfl,by decide,rfl,rfl⟩
  |own _ _ _ _ _ _ _ _ _ _ _ hc0=>exact absurd rfl hc0
  |vr _ _ _ _ _ _ _ _ hc0=>exact absurd rfl hc0
  |vo=>rcases et with et|⟨_,et⟩<;>cases et
  |pr=>rcases et with et|⟨_,et⟩<;>cases et
  |mr=>rcases et with et|⟨_,et⟩<;>cases et
  |mp=>rcases et with et|⟨_,et⟩<;>cases et
  |mt=>rcases et with et|⟨_,et⟩<;>cases et
  |ms=>rcases et with et|⟨_,et⟩<;>cases et
  |cl=>rcases et with et|⟨_,et⟩<;>cases et
 unfold zsy at hr
 split at hr
 · cases hr
   exact⟨he.2,key he.1 (.inl rfl)⟩
 · cases hr
   exact⟨he.2,key he.1 (.inr ⟨_,rfl⟩)⟩
 · cases hr
   exact⟨fun i e=>(by cases e),key he.2 (.inl rfl)⟩
 · rename_i id p
   split at hr
   case h_1=>cases hr
   case h_2 root hroot=>
   obtain⟨n1,t0,n2,n3⟩:=he
   split at hr
   · rename_i n' cs' hsub
     cases hr
     obtain⟨v',m1,hrep⟩:=(h.ob id root hroot).sub (z1D id) hsub
     rw[n1] at m1;cases m1
     refine⟨fun i e=>(by cases e;rw[hroot];rfl),?_⟩
     have:=hrep.freeze (w':=w) (K':=frz K (some id)) (fun b s hb hc hK=>⟨by simp[frz,hK,col],rfl⟩) (fun b hb e=>⟨by simp[frz,e],rfl⟩) (Z5 _) []
     rw[z1P] at this
     exact key this (.inl rfl)
   · rename_i n' cs' hsub
     cases hr
     obtain⟨v',m1,hrep⟩:=(h.ob id root hroot).sub (z1D id) hsub
     rw[n1] at m1;cases m1
     exact⟨fun i e=>(by cases e),key (hrep.free rfl []) (.inl rfl)⟩
   · cases hr
 · cases hr
   exact⟨fun i e=>(by cases e),.inl ⟨none,0,he,by decide,rfl,rfl⟩⟩
 · cases hr
def zGY:Option Value->Option Int
 |some (.int _ i)=>some i
 |_=>none
def zaQ(P:Program)(fr:Fr)(t:TypeId)(e:E)(i:Int):Option E:=
 match z2w P t with
 |some ⟨.slice el,_,_,_⟩=>match z2w P el with
  |none=>none
  |some ti=>
   match e with
   | .one (.h id p)=>match z2f fr.ob id with
     |none=>none
     |some root=>match sub root p with
      |some (.os _ n cs)=>if 0<=i/\i<n then some (.one (.a id p (i.toNat*ti.size))) else none
      |some (.sl n cs)=>if 0<=i/\i<n then some (.one (.ea none cs (i.toNat*ti.size))) else none
      |_=>none
   | .one (.t dep (.sl n cs))=>if 0<=i/\i<n then some (.one (.ea dep cs (i.toNat*ti.size))) else none
   | .one (.tf n cs)=>if 0<=i/\i<n then some (.one (.ea none cs (i.toNat*ti.size))) else none
   |_=>none
 |some ⟨.array len el,_,_,_⟩=>match z2w P el with
  |none=>none
  |some ti=>
   match e with
   | .one (.a id p off)=>if 0<=i/\i<len then some (.one (.a id p (off+i.toNat*ti.size))) else none
   | .one (.ea dep cs off)=>if 0<=i/\i<len then some (.one (.ea dep cs (off+i.toNat*ti.size))) else none
   |_=>none
 |_=>none
theorem zj1{k:IntKind}{i:Int}(h:FRep w K R G fr a)(he:ERep w K R fr.ob e u)(hl:zaQ P fr t e i=some e'):
 ∃v,ERep w K R fr.ob e' v/\ ∀w',(Instr.indexAt t u (.int k i)).run P w'= .ok v w':=by
 unfold zaQ at hl
 split at hl
 · rename_i el s1 s2 s3 ht
   split at hl
   case h_1=>cases hl
   case h_2 ti hti=>
   have hrun:∀g o n cap,0<=i/\i<(n:Nat)->∀w',(Instr.indexAt t (.slice (some ⟨g,o,none⟩) n cap) (.int k i)).run P w'= .ok (.pointer (some ⟨g,o+i.toNat*ti.size,none⟩)) w':=fun g o n cap hi w'=>by
    have:=z1U ht w'
    simp[Instr.indexAt,asIntOf,this,hi,z8u hti,z8B]
   have hslice:∀dep n cs,zsy fr e=some (dep,n,cs)->0<=i/\i<(n:Nat)->∃v,ERep w K R fr.ob (.one (.ea dep cs (i.toNat*ti.size))) v/\ ∀w',(Instr.indexAt t u (.int k i)).run P w'= .ok v w':=fun dep n cs hr hi=>by
    obtain⟨d1,d2⟩:=z7o h he hr
    rcases d2 with⟨a,cap,rfl,hc,rfl,rfl⟩|⟨g,o,cap,F,rfl,hn,hc,hK,hg,hF,hh⟩
    · omega
    · exact⟨_,⟨g,o,F,rfl,hK,hg,hF,hh,d1⟩,hrun g o n cap hi⟩
   split at hl
   · rename_i id p
     split at hl
     case h_1=>cases hl
     case h_2 root hroot=>
     split at hl
     · rename_i n cs hsub
       split at hl
       · rename_i hi
         cases hl
         obtain⟨n1,t0,n2,n3⟩:=he
         obtain⟨v',m1,hrep⟩:=(h.ob id root hroot).sub (z1D id) hsub
         rw[n1] at m1;cases m1
         cases hrep with
         |nil=>omega
         |own c g n cap size cs arr el2 fz F hfz hc0 hK hg hs hlen hz hn hc hF hh=>
          refine⟨_,⟨_,g,n1,rfl,rfl,root,hroot,by rw[hsub];rfl⟩,?_⟩
          intro w'
          have:=hrun g 0 n cap hi w'
          simpa using this
       · cases hl
     · rename_i n cs hsub
       split at hl
       · rename_i hi
         cases hl
         exact hslice none n cs (by simp[zsy,hroot,hsub]) hi
       · cases hl
     · cases hl
   · rename_i dep n cs
     split at hl
     · rename_i hi
       cases hl
       exact hslice dep n cs rfl hi
     · cases hl
   · rename_i n cs
     split at hl
     · rename_i hi
       cases hl
       exact hslice none n cs rfl hi
     · cases hl
   · cases hl
 · rename_i len el s1 s2 s3 ht
   split at hl
   case h_1=>cases hl
   case h_2 ti hti=>
   have hrun:∀g o,0<=i/\i<(len:Nat)->∀w',(Instr.indexAt t (.pointer (some ⟨g,o,none⟩)) (.int k i)).run P w'= .ok (.pointer (some ⟨g,o+i.toNat*ti.size,none⟩)) w':=fun g o hi w'=>by
    have:=z1U ht w'
    simp[Instr.indexAt,asIntOf,this,hi,z8u hti,z8B,Instr.sureAddr]
   split at hl
   · split at hl
     · rename_i hi
       cases hl
       obtain⟨hv,g,n1,n4,rfl,n5⟩:=he
       exact⟨_,⟨hv,g,n1,n4,rfl,n5⟩,hrun _ _ hi⟩
     · cases hl
   · split at hl
     · rename_i hi
       cases hl
       obtain⟨g,o,F,rfl,e2,e3,e4,e5,e6⟩:=he
       exact⟨_,⟨g,o,F,by rw[Xd],e2,e3,e4,e5,e6⟩,hrun _ _ hi⟩
     · cases hl
   · cases hl
 · cases hl
end
section
variable{a:Act}{e e':E}{fr:Fr}{i:Int}{k:IntKind}{ob:List (Nat×T)}{G R:Nat->Value}{K:Nat->z0a}{hi lo:Option E}{vhi vlo:Option Value}{P:Program}{t:TypeId}{u:Value}{w:World}{c:z0a}
def zoB(P:Program)(fr:Fr)(t:TypeId)(e:E)(i:Int):Option E:=
 match z2w P t with
 |some ⟨.string,_,_,_⟩=>match rdV e with
  |some (.string s)=>match(if 0<=i then s[i.toNat]? else none) with
   |some b=>some (scE (.int .u8 b.toNat))
   |none=>none
  |_=>none
 |some ⟨.array len el,_,_,_⟩=>match z2w P el with
  |none=>none
  |some ti=>if 0<=i/\i<len then zqj fr (z5V ti.u) ti.size (i.toNat*ti.size) e else none
 |_=>none
theorem zuc(h:FRep w K R G fr a)(he:ERep w K R fr.ob e u)(hl:zoB P fr t e i=some e'):
 ∃v,ERep w K R fr.ob e' v/\ ∀w',(Instr.index t u (.int k i)).run P w'= .ok v w':=by
 unfold zoB at hl
 split at hl
 · rename_i s1 s2 s3 ht
   split at hl
   case h_2=>cases hl
   case h_1 s hs=>
   split at hl
   case h_2=>cases hl
   case h_1 b hb=>
   cases hl
   obtain⟨rfl,-⟩:=z1o he hs
   refine⟨_,z3L rfl,fun w'=> ?_⟩
   have:=z1U ht w'
   simp[Instr.index,asIntOf,this,hb]
 · rename_i len el s1 s2 s3 ht
   split at hl
   case h_1=>cases hl
   case h_2 ti hti=>
   split at hl
   · rename_i hi
     obtain⟨cs,v,rfl,h1,h2⟩:=zoe h he hti hl
     refine⟨v,h1,fun w'=> ?_⟩
     have:=z1U ht w'
     simp[Instr.index,asIntOf,this,hi,z8u hti,h2]
   · cases hl
 · cases hl
def zvx(x:Option E)(d:Nat)(top:Nat):Option Nat:=
 match x with
 |none=>some d
 |some e=>match rdV e with
  |some (.int _ i)=>if 0<=i/\i<=top then some i.toNat else none
  |_=>none
def zo3(P:Program)(fr:Fr)(t:TypeId)(e:E)(lo hi:Option E):Option E:=
 match z2w P t with
 |some ⟨.string,_,_,_⟩=>match rdV e with
  |some (.string s)=>match zvx hi s.size s.size with
   |none=>none
   |some h=>match zvx lo 0 h with
    |none=>none
    |some l=>some (scE (.string (s.extract l h)))
  |_=>none
 |some ⟨.slice el,_,_,_⟩=>match z2w P el with
  |none=>none
  |some ti=>match zsy fr e with
   |none=>none
   |some (dep,n,cs)=>match zvx hi n n with
    |none=>none
    |some h=>match zvx lo 0 h with
     |none=>none
     |some l=>if cs.length=n*ti.size then some (.one (.t dep (.sl (h-l) ((cs.drop (l*ti.size)).take ((h-l)*ti.size))))) else none
 |_=>none
theorem z5f{y:Nat}{code:BoundsCode}(h:0<=i/\i<=(y:Nat))(w:World):(Instr.sliceBound (.int k i) y code).run P w= .ok i.toNat w:=by
 simp[Instr.sliceBound,asIntOf,h]
def zxt(w:World)(K:Nat->z0a)(R:Nat->Value)(ob:List (Nat×T)):Option E->Option Value->Prop
 |none,none=>True
 |some e,some v=>ERep w K R ob e v
 |_,_=>False
theorem zgJ{x:Option E}{v:Option Value}{d top r:Nat}(hx:zxt w K R ob x v)(h:zvx x d top=some r):
 (v=none/\r=d)∨ ∃k i,v=some (.int k i)/\0<=i/\i<=(top:Nat)/\r=i.toNat:=by
 cases x with
 |none=>cases v with
  |none=>simp only[zvx,Z9] at h;exact .inl ⟨rfl,h.symm⟩
  |some v=>exact hx.elim
 |some e=>cases v with
  |none=>exact hx.elim
  |some v=>
   simp only[zvx] at h
   split at h
   · rename_i k i hi
     split at h
     · rename_i hb
       cases h
       obtain⟨rfl,-⟩:=z1o hx hi
       exact .inr ⟨k,i,rfl,hb.1,hb.2,rfl⟩
     · cases h
   · cases h
theorem z5p{isSlice:Bool}{len cap l h:Nat}(h1:zxt w K R ob lo vlo)(h2:zxt w K R ob hi vhi)
 (hh:zvx hi len len=some h) (hl:zvx lo 0 h=some l) (hc:len<=cap) (w':World):(Instr.sliceBounds isSlice len cap vlo vhi none).run P w'= .ok (l,h,cap) w'/\l<=h/\h<=len:=by
 rcases zgJ h2 hh with⟨rfl,rfl⟩|⟨k,i,rfl,i0,i1,rfl⟩
 · rcases zgJ h1 hl with⟨rfl,rfl⟩|⟨k2,j,rfl,j0,j1,rfl⟩
   · exact⟨by simp[Instr.sliceBounds],by omega,by omega⟩
   · refine⟨by simp[Instr.sliceBounds,z5f (P:=P) (k:=k2) (i:=j) ⟨j0,j1⟩],by omega,by omega⟩
 · have ic:i<=(cap:Nat):=by omega
   rcases zgJ h1 hl with⟨rfl,rfl⟩|⟨k2,j,rfl,j0,j1,rfl⟩
   · refine⟨by simp[Instr.sliceBounds,z5f (P:=P) (k:=k) (i:=i) (y:=cap) ⟨i0,ic⟩],by omega,by omega⟩
   · refine⟨by simp[Instr.sliceBounds,z5f (P:=P) (k:=k) (i:=i) (y:=cap) ⟨i0,ic⟩,z5f (P:=P) (k:=k2) (i:=j) (y:=i.toNat) ⟨j0,j1⟩],by omega,by omega⟩
theorem zs5(h:FRep w K R G fr a)(he:ERep w K R fr.ob e u)
 (h1:zxt w K R fr.ob lo vlo) (h2:zxt w K R fr.ob hi vhi) (hl:zo3 P fr t e lo hi=some e'):∃v,ERep w K R fr.ob e' v/\ ∀w',(Instr.sliceAt t u vlo vhi none).run P w'= .ok v w':=by
 unfold zo3 at hl
 split at hl
 · rename_i s1 s2 s3 ht
   split at hl
   case h_2=>cases hl
   case h_1 s hs=>
   split at hl
   case h_1=>cases hl
   case h_2 hh hhe=>
   split at hl
   case h_1=>cases hl
   case h_2 ll hle=>
   cases hl
   obtain⟨rfl,-⟩:=z1o he hs
   refine⟨_,z3L rfl,fun w'=> ?_⟩
   have hu:=z1U ht w'
   obtain⟨r1,r2,r3⟩:=z5p (P:=P) (isSlice:=false) (cap:=s.size) h1 h2 hhe hle (Z5 _) w'
   simp[Instr.sliceAt,Instr.slice,hu,r1]
 · rename_i el s1 s2 s3 ht
   split at hl
   case h_1=>cases hl
   case h_2 ti hti=>
   split at hl
   case h_1=>cases hl
   case h_2 dep n cs hrd=>
   split at hl
   case h_1=>cases hl
   case h_2 hh hhe=>
   split at hl
   case h_1=>cases hl
   case h_2 ll hle=>
   split at hl
   case isFalse=>cases hl
   case isTrue hlen=>
   cases hl
   obtain⟨d1,d2⟩:=z7o h he hrd
   rcases d2 with⟨a0,cap,rfl,hc,rfl,rfl⟩|⟨g,o,cap,F,rfl,hn,hc,hK,hg,hF,hrep⟩
   · obtain⟨_,r2,r3⟩:=z5p (P:=P) (isSlice:=true) (cap:=cap) h1 h2 hhe hle (Yt _) default
     have r1:=fun w'=>(z5p (P:=P) (isSlice:=true) (cap:=cap) h1 h2 hhe hle (Yt _) w').1
     obtain rfl:hh=0:=by omega
     obtain rfl:ll=0:=by omega
     refine⟨_,⟨?_,d1⟩,fun w'=>(by have hu:=z1U ht w';simp[Instr.sliceAt,Instr.slice,hu,r1,z8u hti];rfl)⟩
     simp
     exact .emp _ _ _ hc
   · obtain⟨_,r2,r3⟩:=z5p (P:=P) (isSlice:=true) (cap:=cap) h1 h2 hhe hle hn default
     have r1:=fun w'=>(z5p (P:=P) (isSlice:=true) (cap:=cap) h1 h2 hhe hle hn w').1
     refine⟨.slice (if cap=ll then some ⟨g,o,none⟩ else some ⟨g,o+ll*ti.size,none⟩) (hh-ll) (cap-ll),⟨?_,d1⟩,fun w'=> ?_⟩
     · by_cases e0:hh=ll
       · subst e0
         simp only[XS,Nat.zero_mul,Xq]
         exact .emp _ _ _ (by omega)
       · rw[if_neg (by omega)]
         have hle2:hh*ti.size<=n*ti.size:=Yc _ r3
         have hlm:ll*ti.size+(hh-ll)*ti.size=hh*ti.size:=by rw[←Yi];congr 1;omega
         refine .fro _ g _ _ _ _ (fun j=>F (ll*ti.size+j)) hK hg (by omega) (by omega) (fun j hj=> ?_) (fun j t hj=> ?_)
         · rw[Zq,Y8] at hj
           rw[Xd]
           exact hF _ (by omega)
         · rw[YF] at hj
           split at hj
           · rw[Yo] at hj
             exact hrep _ t hj
           · cases hj
     · have hu:=z1U ht w'
       simp only[Instr.sliceAt,Zc,hu,Z2,Instr.slice,r1,z8u hti,Zg,ZP,z8B]
 · cases hl
def zeM(fr:Fr)(e:E)(i:Nat):Option E:=
 match e with
 | .one (.t dep (.tup cs))=>match cs[i]? with|some c=>some (.one (zAo dep c))|none=>none
 | .one (.h id p)=>match z2f fr.ob id with
   |none=>none
   |some root=>match sub root p with
    |some (.tup cs)=>match cs[i]? with|some c=>some (.one (zwE id p i c))|none=>none
    |_=>none
 |_=>none
theorem znc{i:Nat}(h:FRep w K R G fr a)(he:ERep w K R fr.ob e u)(hl:zeM fr e i=some e'):
 ∃v,ERep w K R fr.ob e' v/\ ∀w':World,(Instr.extract u i).run P w'= .ok v w':=by
 unfold zeM at hl
 split at hl
 · rename_i dep cs
   split at hl
   · rename_i c hc
     cases hl
     obtain⟨h1,h2⟩:=he
     cases h1 with
     |tup c0 vs cs F hlen hF hh=>
      have hlt:=(Z8.1 hc).1
      exact⟨F i,zjl (hh i c hc) h2,fun w'=>(by simp[Instr.extract,hF i hlt])⟩
   · cases hl
 · rename_i id p
   split at hl
   case h_1=>cases hl
   case h_2 root hroot=>
   split at hl
   case h_2=>cases hl
   case h_1 cs hsub=>
   split at hl
   · rename_i c hc
     cases hl
     obtain⟨n1,t0,n2,n3⟩:=he
     obtain⟨v',m1,hrep⟩:=(h.ob id root hroot).sub (z1D id) hsub
     rw[n1] at m1;cases m1
     obtain⟨v,k1,k2⟩:=zcI (R:=R) hroot hsub n1 hrep (j:=i) (s:=c) hc
     cases hrep with
     |tup c0 vs cs F hlen hF hh=>
      exact⟨v,k2,fun w'=>(by simp only[zep] at k1;simp[Instr.extract,k1])⟩
   · cases hl
 · cases hl
def zDe(P:Program)(fr:Fr)(t:TypeId)(e:E):Option E:=
 match z2w P t with
 |some ⟨.string,_,_,_⟩=>match rdV e with
  |some (.string s)=>some (scE (.int .i64 s.size))
  |_=>none
 |some ⟨.slice _,_,_,_⟩=>match zsy fr e with
  |some (_,n,_)=>some (scE (.int .i64 n))
  |none=>none
 |some ⟨.array n _,_,_,_⟩=>some (scE (.int .i64 n))
 |_=>none
theorem zzt{ty:TypeId}(h:FRep w K R G fr a)(he:ERep w K R fr.ob e u)(hl:zDe P fr t e=some e'):
 ∃v,ERep w K R fr.ob e' v/\ ∀w',(Builtin.len_ #[t] ty #[u]).run P w'= .ok v w':=by
 unfold zDe at hl
 split at hl
 · rename_i s1 s2 s3 ht
   have hu:=fun w'=>z1U ht w'
   simp only[] at hu
   split at hl
   case h_2=>cases hl
   case h_1 s hs=>
   cases hl
   obtain⟨rfl,-⟩:=z1o he hs
   exact⟨_,z3L rfl,fun w'=>(by simp[Builtin.len_,hu,goInt])⟩
 · rename_i el s1 s2 s3 ht
   have hu:=fun w'=>z1U ht w'
   simp only[] at hu
   split at hl
   case h_2=>cases hl
   case h_1 dep n cs hrd=>
   cases hl
   obtain⟨d1,d2⟩:=z7o h he hrd
   rcases d2 with⟨a0,cap,rfl,hc,rfl,rfl⟩|⟨g,o,cap,F,rfl,_⟩
   · exact⟨_,z3L rfl,fun w'=>(by simp[Builtin.len_,hu,goInt])⟩
   · exact⟨_,z3L rfl,fun w'=>(by simp[Builtin.len_,hu,goInt])⟩
 · rename_i n el s1 s2 s3 ht
   have hu:=fun w'=>z1U ht w'
   simp only[] at hu
   cases hl
   exact⟨_,z3L rfl,fun w'=>(by simp[Builtin.len_,hu,goInt])⟩
 · cases hl
theorem TRep.sc_eq{v:Value}(h:TRep w K c v (.sc u)):v=u:=by
 generalize ht:T.sc u=t at h
 cases h<;>first|(cases ht;rfl)|cases ht
theorem TRep.sc_B{v:Value}(h:TRep w K c v (.sc u)):scB u=true:=by
 generalize ht:T.sc u=t at h
 cases h<;>first|(cases ht;assumption)|cases ht
def zbi:List T->Option (List UInt8)
 | []=>some []
 | .sc (.int .u8 z)::l=>match zbi l with|some bs=>some (UInt8.ofNat z.toNat::bs)|none=>none
 |_=>none
def zu9:List T->Option (List Int)
 | []=>some []
 | .sc (.int .u8 z)::l=>match zu9 l with|some bs=>some (z::bs)|none=>none
 |_=>none
theorem zgI:∀ {cs:List T} {bs:List UInt8},zbi cs=some bs->∃zs:List Int,cs=zs.map (fun z=>T.sc (.int .u8 z))/\bs=zs.map fun z=>UInt8.ofNat z.toNat
 | [],bs,h=>by simp only[zbi,Z9] at h;subst h;exact⟨[],rfl,rfl⟩
 | .sc (.int .u8 z)::l,bs,h=>by
   simp only[zbi] at h
   split at h
   · rename_i bs' hb
     cases h
     obtain⟨zs,h1,h2⟩:=zgI hb
     exact⟨z::zs,by simp[h1],by simp[h2]⟩
   · cases h
 | .sc (.bool _)::_,_,h=>by cases h
 | .sc (.int .i8 _)::_,_,h=>by cases h
 | .sc (.int .i16 _)::_,_,h=>by cases h
 | .sc (.int .i32 _)::_,_,h=>by cases h
 | .sc (.int .i64 _)::_,_,h=>by cases h
 | .sc (.int .u16 _)::_,_,h=>by cases h
 | .sc (.int .u32 _)::_,_,h=>by cases h
 | .sc (.int .u64 _)::_,_,h=>by cases h
 | .sc (.float _ _)::_,_,h=>by cases h
 | .sc (.complex _ _ _)::_,_,h=>by cases h
 | .sc (.string _)::_,_,h=>by cases h
 | .sc (.pointer _)::_,_,h=>by cases h
 | .sc (.slice _ _ _)::_,_,h=>by cases h
 | .sc (.map _)::_,_,h=>by cases h
 | .sc (.chan _)::_,_,h=>by cases h
 | .sc (.func _ _ _)::_,_,h=>by cases h
 | .sc .nilFunc::_,_,h=>by cases h
 | .sc (.iface _ _)::_,_,h=>by cases h
 | .sc .nilIface::_,_,h=>by cases h
 | .sc (.agg _)::_,_,h=>by cases h
 | .sc (.tuple _)::_,_,h=>by cases h
 | .dead::_,_,h=>by cases h
 | .agg _::_,_,h=>by cases h
 | .tup _::_,_,h=>by cases h
 | .sl _ _::_,_,h=>by cases h
 | .os _ _ _::_,_,h=>by cases h
 | .vr _::_,_,h=>by cases h
 | .vo _ _::_,_,h=>by cases h
 | .pr _::_,_,h=>by cases h
def zxb(P:Program)(M:Nat->Bool)(fr:Fr)(src dst:TypeId)(e:E):Option E:=
 match z2w P src,z2w P dst with
 |some i,some ⟨.int k,_,_,_⟩=>(match rdV e with|some (.int _ n)=>some (scE (.int k (k.wrap n)))|_=>none)
 |some ⟨.slice el,_,_,_⟩,some ⟨.string,_,_,_⟩=>match z2w P el with
  |some ⟨.int .u8,_,_,_⟩=>match zsy fr e with
   |some (dep,n,cs)=>if zjk dep M then none else if cs.length=n then(match zbi cs with|some bs=>some (scE (.string ⟨bs.toArray⟩))|none=>none) else none
   |none=>none
  |_=>none
 |some ⟨.string,_,_,_⟩,some ⟨.string,_,_,_⟩=>(match rdV e with|some (.string s)=>some (scE (.string s))|_=>none)
 |some ⟨.int _,_,_,_⟩,some ⟨.string,_,_,_⟩=>(match rdV e with|some (.int _ n)=>some (scE (.string (Utf8.encode n)))|_=>none)
 |_,_=>none
theorem zqU(zs:List Int):∀b:ByteArray,zs.foldl (fun r n=>r.push (UInt8.ofNat n.toNat)) b=⟨b.data++(zs.map fun z=>UInt8.ofNat z.toNat).toArray⟩:=by
 induction zs with
 |nil=>intro b;simp
 |cons z zs ih=>
  intro b
  simp only[Xk,ih]
  simp[ByteArray.push]
theorem zxa{M:Nat->Bool}{src dst:TypeId}(h:FRep w K R G fr a)(he:ERep w K R fr.ob e u)(hl:zxb P M fr src dst e=some e'):
 ∃v,ERep w K R fr.ob e' v/\ ∀w',Stay w w' K M->(convert src dst u).run P w'= .ok v w':=by
 unfold zxb at hl
 split at hl
 · rename_i i k s1 s2 s3 h1 h2
   have hu1:=fun w'=>z1U h1 w'
   have hu2:=fun w'=>z1U h2 w'
   simp only[] at hu1 hu2
   split at hl
   · rename_i k' n hn
     cases hl
     obtain⟨rfl,-⟩:=z1o he hn
     refine⟨_,z3L rfl,fun w' hst=> ?_⟩
     simp only[convert,Zc,hu1,hu2,Z2]
     cases i.u<;>simp[Conv.intToInt]
   · cases hl
 · rename_i el s1 s2 s3 s4 s5 s6 h1 h2
   have hu1:=fun w'=>z1U h1 w'
   have hu2:=fun w'=>z1U h2 w'
   simp only[] at hu1 hu2
   split at hl
   · rename_i s7 s8 s9 h3
     have hu3:=fun w'=>z1U h3 w'
     simp only[] at hu3
     split at hl
     · rename_i dep n cs hrd
       split at hl
       · cases hl
       rename_i hM
       split at hl
       · rename_i hlen
         split at hl
         · rename_i bs hb
           cases hl
           obtain⟨d1,d2⟩:=z7o h he hrd
           obtain⟨zs,rfl,rfl⟩:=zgI hb
           refine⟨_,z3L rfl,fun w' hst=> ?_⟩
           rcases d2 with⟨a0,cap,rfl,hc,rfl,h9⟩|⟨g,o,cap,F,rfl,hn,hc,hK,hg,hF,hrep⟩
           · have hz:zs= []:=by simpa using h9
             subst hz
             simp only[convert,Zc,hu1,hu2,hu3,Z2]
             cases a0 with
             |none=>simp[Conv.bytesToString];rfl
             |some a0=>
              have:=run_bytesToString (P:=P) w' a0 0 cap [] (by simp[loadCells,loadCellsFrom])
              simp at this⊢
              exact this
           · have hst':=hst.dep (by simpa using hM) hg hK
             have hF':∀j z,zs[j]? =some z->F j= .int .u8 z:=fun j z hz=>by
              have:=hrep j (.sc (.int .u8 z)) (by simp[hz])
              exact this.sc_eq
             have hld:=run_loadCells_list (P:=P) w' ⟨g,o,none⟩ (zs.map (Value.int .u8)) (fun j v hv=>by
              simp only[Zd,Z4] at hv
              obtain⟨z,hz,rfl⟩:=hv
              rw[z8B,z0Y hst',←hF' j z hz]
              exact hF j (by simpa using(Z8.1 hz).1))
             have hlz:(zs.map (Value.int .u8)).length=n:=by simpa using hlen
             rw[hlz] at hld
             have:=run_bytesToString (P:=P) w' ⟨g,o,none⟩ n cap zs hld
             simp only[convert,Zc,hu1,hu2,hu3,Z2,this]
             rw[zqU];simp
         · cases hl
       · cases hl
     · cases hl
   · cases hl
 · rename_i s1 s2 s3 s4 s5 s6 h1 h2
   have hu1:=fun w'=>z1U h1 w'
   have hu2:=fun w'=>z1U h2 w'
   simp only[] at hu1 hu2
   split at hl
   · rename_i s hs
     cases hl
     obtain⟨rfl,-⟩:=z1o he hs
     exact⟨_,z3L rfl,fun w' _=>(by simp[convert,hu1,hu2])⟩
   · cases hl
 · rename_i k s1 s2 s3 s4 s5 s6 h1 h2
   have hu1:=fun w'=>z1U h1 w'
   have hu2:=fun w'=>z1U h2 w'
   simp only[] at hu1 hu2
   split at hl
   · rename_i k' n hn
     cases hl
     obtain⟨rfl,-⟩:=z1o he hn
     exact⟨_,z3L rfl,fun w' _=>(by simp[convert,hu1,hu2,Conv.intToString])⟩
   · cases hl
 · cases hl
end
section
variable{a:Act}{b:Bool}{e:E}{fr:Fr}{G R:Nat->Value}{K:Nat->z0a}{P:Program}{u:Value}{w:World}
def zA6(P:Program)(fr:Fr)(c:Call):Option E:=
 match c.callee,c.args.toList,c.argTypes.toList with
 | .builtin .len,[x],[t]=>zDe P fr t (opE fr x)
 | .builtin .min,[x,y],_=>(match rdV (opE fr x),rdV (opE fr y) with|some a,some b=>(match zEl a b with|some v=>some (scE v)|none=>none)|_,_=>none)
 | .builtin .max,[x,y],_=>(match rdV (opE fr x),rdV (opE fr y) with|some a,some b=>(match zEm a b with|some v=>some (scE v)|none=>none)|_,_=>none)
 |_,_,_=>none
def zEf(fr:Fr)(e:E):Option Bool:=match e with
 | .one (.k (.slice none 0 0))=>some true
 |e=>match zsy fr e with
  |some (_,n,_)=>if n=0 then none else some false
  |none=>none
def zD8:T->Option Bool
 | .sc (.map none)=>some true
 | .mp _ _=>some false
 | .mr _ _=>some false
 | .mt _ _ _=>some false
 | .ms _ _ _=>some false
 |_=>none
def zEe(fr:Fr)(e:E):Option Bool:=match e with
 | .one (.k (.map none))=>some true
 | .one (.t none t)=>zD8 t
 | .one (.h id p)=>match z2f fr.ob id with
   |none=>none
   |some root=>match sub root p with
    |some t=>zD8 t
    |none=>none
 |_=>none
theorem zl3{c:z0a}{t:T}(h:TRep w K c u t)(ht:zD8 t=some b):∃m,u= .map m/\m.isNone=b:=by
 unfold zD8 at ht
 split at ht<;>cases ht<;>cases h<;>exact⟨_,rfl,rfl⟩
theorem zsT(h:FRep w K R G fr a)(he:ERep w K R fr.ob e u)(hb:zEe fr e=some b):∃m,u= .map m/\m.isNone=b:=by
 unfold zEe at hb
 split at hb
 · cases hb
   exact⟨none,he,rfl⟩
 · exact zl3 he.1 hb
 · rename_i id p
   split at hb
   case h_1=>cases hb
   case h_2 root hroot=>
   split at hb
   case h_2=>cases hb
   case h_1 t hsub=>
   obtain⟨n1,t',n2,n3⟩:=he
   obtain⟨v,e1,r⟩:=(h.ob id root hroot).sub (z1D id) hsub
   rw[n1] at e1;cases e1
   exact zl3 r hb
 · cases hb
def zoj(fr:Fr)(op:BinOp)(u:Option TyI)(x y:E):Option Value:=match y with
 | .one (.k (.map none))=>match u with
   |some ⟨.map _ _,_,_,_⟩=>(match zEe fr x with
    |some b=>(match op with| .eql=>some (.bool b)| .neq=>some (.bool (!b))|_=>none)
    |none=>none)
   |_=>none
 | .one (.k (.slice none 0 0))=>match u with
   |some ⟨.slice _,_,_,_⟩=>(match zEf fr x with
    |some b=>(match op with| .eql=>some (.bool b)| .neq=>some (.bool (!b))|_=>none)
    |none=>none)
   |_=>none
 |_=>none
theorem zqo{op:BinOp}{xt:TypeId}{ex ey:E}{ox oy:Operand}{v r:Value}(h:FRep w K R G fr a)(hx:ERep w K R fr.ob ex u)(hy:ERep w K R fr.ob ey v)(hc:zoj fr op (z2w P xt) ex ey=some r):
 scB r=true/\ ∀w':World,(do eqGuard op xt ox oy u v;binOp op xt u v:Sem Value).run P w'= .ok r w':=by
 unfold zoj at hc
 split at hc
 case h_3=>cases hc
 case h_1=>
  split at hc
  case h_2=>cases hc
  rename_i s0 s1 s2 s3 s4 hu
  split at hc
  case h_2=>cases hc
  rename_i b hb
  have hv:v= .map none:=hy
  subst hv
  obtain⟨m,rfl,hm⟩:=zsT h hx hb
  have he:∀w':World,(Op.equal xt (.map m) (.map none)).run P w'= .ok b w':=fun w'=>by
   have hu':=z1U hu w'
   simp only[] at hu'
   show(Op.equalIn (9999+1) xt (.map m) (.map none)).run P w'=_
   rw[Op.equalIn]
   simp only[Zc,hu',Z2]
   cases m<;>cases hm<;>rfl
  cases op<;>simp only[] at hc
  all_goals first
   |(cases hc;done)
   |(cases hc
     refine⟨rfl,fun w'=> ?_⟩
     simp[eqGuard,binOp,he w'])
 split at hc
 case h_2=>cases hc
 rename_i s1 s2 s3 s4 hu
 split at hc
 case h_2=>cases hc
 rename_i b hb
 have hv:v= .slice none 0 0:=hy
 subst hv
 have he:∀w':World,(Op.equal xt u (.slice none 0 0)).run P w'= .ok b w'/\ ∃p n c,u= .slice p n c:=fun w'=>by
  have hu':=z1U hu w'
  simp only[] at hu'
  unfold zEf at hb
  split at hb
  · cases hb
    have hux:u= .slice none 0 0:=hx
    subst hux
    refine⟨?_,_,_,_,rfl⟩
    show(Op.equalIn (9999+1) xt (.slice none 0 0) (.slice none 0 0)).run P w'=_
    rw[Op.equalIn]
    simp only[Zc,hu',Z2,Zg]
    rfl
  · split at hb
    · rename_i dep n cs hr
      split at hb
      · cases hb
      · rename_i hn
        cases hb
        obtain⟨-,h2⟩:=z7o h hx hr
        rcases h2 with⟨_,_,_,_,e,_⟩|⟨g,o,cap,F,e,_⟩
        · exact absurd e hn
        · subst e
          refine⟨?_,_,_,_,rfl⟩
          show(Op.equalIn (9999+1) xt (.slice (some ⟨g,o,none⟩) n cap) (.slice none 0 0)).run P w'=_
          rw[Op.equalIn]
          simp only[Zc,hu',Z2,Zg]
    · cases hb
 cases op<;>simp only[] at hc
 all_goals first
  |(cases hc;done)
  |(cases hc
    refine⟨rfl,fun w'=> ?_⟩
    obtain⟨e1,p,n,c,e2⟩:=he w'
    subst e2
    simp[eqGuard,binOp,e1])
def za2(P:Program)(M:Nat->Bool)(fr:Fr):Op->Option E
 | .move x=>some (opE fr x)
 | .assign x=>some (opE fr x)
 | .pick c a b=>(match rdV (opE fr c) with|some (.bool true)=>some (opE fr a)|some (.bool false)=>some (opE fr b)|_=>none)
 | .load t x=>zqt P M fr t (opE fr x)
 | .binOp op xt x y _=>(match rdV (opE fr x),rdV (opE fr y) with|some a,some b=>(match zAs op (z2w P xt) a b with|some v=>some (scE v)|none=>none)|_,_=>(match zoj fr op (z2w P xt) (opE fr x) (opE fr y) with|some v=>some (scE v)|none=>none))
 | .unOp op _ x=>(match rdV (opE fr x) with|some a=>(match unS op a with|some v=>some (scE v)|none=>none)|none=>none)
 | .convert s d x=>zxb P M fr s d (opE fr x)
 | .fieldAddr t x f=>z8X P t (opE fr x) f
 | .field t x f=>zlr P fr t (opE fr x) f
 | .indexAddr t x i=>(match rdV (opE fr i) with|some (.int _ i)=>zaQ P fr t (opE fr x) i|_=>none)
 | .index t x i=>(match rdV (opE fr i) with|some (.int _ i)=>zoB P fr t (opE fr x) i|_=>none)
 | .slice t x lo hi none=>zo3 P fr t (opE fr x) (lo.map (opE fr)) (hi.map (opE fr))
 | .extract x i=>zeM fr (opE fr x) i
 | .nilCheck x=>(match opE fr x with| .one (.a id p off)=>some (.one (.a id p off))| .one (.ea dep cs off)=>some (.one (.ea dep cs off))| .one (.t dep (.pr cs))=>some (.one (.ea dep cs 0))| .one (.h id p)=>(match z2f fr.ob id with|some root=>(match sub root p with|some (.vr _)=>some (.one (.a id p 0))|_=>none)|none=>none)|_=>none)
 | .call c=>zA6 P fr c
 |_=>none
theorem zjy(h:FRep w K R G fr a)(x:Option Operand):zxt w K R fr.ob (x.map (opE fr)) (x.map a.eval):=by
 cases x with
 |none=>trivial
 |some x=>exact h.opE x
theorem zkU{M:Nat->Bool}{o:Oper}(h:FRep w K R G fr a)(hq:za2 P M fr o.op=some e):
 ∃v,ERep w K R fr.ob e v/\ ∀w',Stay w w' K M->(execOp a.eval o).run P w'= .ok (.value v) w':=by
 have lift:∀ {s:Sem Value} {v:Value} {w':World},s.run P w'= .ok v w'->(do pure (Next.value (←s)):Sem Next).run P w'= .ok (.value v) w':=fun {s v w'} hs=>by
  simp only[Zc,hs,Z2,Zg]
 cases hop:o.op with
 |move x=>
  rw[hop] at hq;cases hq
  exact⟨_,h.opE x,fun w' _=>(by simp[execOp,hop])⟩
 |assign x=>
  rw[hop] at hq;cases hq
  exact⟨_,h.opE x,fun w' _=>(by simp[execOp,hop])⟩
 |pick c x y=>
  rw[hop] at hq
  simp only[za2] at hq
  split at hq
  · rename_i hc
    cases hq
    obtain⟨h1,-⟩:=z1o (h.opE c) hc
    exact⟨_,h.opE x,fun w' _=>(by simp[execOp,hop,h1,asBool])⟩
  · rename_i hc
    cases hq
    obtain⟨h1,-⟩:=z1o (h.opE c) hc
    exact⟨_,h.opE y,fun w' _=>(by simp[execOp,hop,h1,asBool])⟩
  · cases hq
 |load t x=>
  rw[hop] at hq
  obtain⟨v,h1,h2⟩:=zoq h (h.opE x) hq
  exact⟨v,h1,fun w' hst=>(by simp only[execOp,hop];exact lift (h2 w' hst))⟩
 |binOp op xt x y yt=>
  rw[hop] at hq
  simp only[za2] at hq
  split at hq
  · rename_i u v hu hv
    split at hq
    · rename_i r hr
      cases hq
      obtain⟨h1,-⟩:=z1o (h.opE x) hu
      obtain⟨h2,-⟩:=z1o (h.opE y) hv
      obtain⟨h3,-⟩:=zp8 (x:=x) (y:=y) hr default
      refine⟨r,z3L h3,fun w' _=> ?_⟩
      obtain⟨-,h4⟩:=zp8 (x:=x) (y:=y) hr w'
      simp only[execOp,hop,h1,h2]
      exact lift h4
    · cases hq
  · split at hq
    · rename_i r hr
      cases hq
      obtain⟨h3,h4⟩:=zqo (ox:=x) (oy:=y) h (h.opE x) (h.opE y) hr
      refine⟨r,z3L h3,fun w' _=> ?_⟩
      simp only[execOp,hop]
      exact lift (h4 w')
    · cases hq
 |unOp op xt x=>
  rw[hop] at hq
  simp only[za2] at hq
  split at hq
  · rename_i u hu
    split at hq
    · rename_i r hr
      cases hq
      obtain⟨h1,-⟩:=z1o (h.opE x) hu
      obtain⟨h3,-⟩:=zrw (P:=P) hr default
      refine⟨r,z3L h3,fun w' _=> ?_⟩
      obtain⟨-,h4⟩:=zrw (P:=P) hr w'
      simp only[execOp,hop,h1]
      exact lift h4
    · cases hq
  · cases hq
 |convert s d x=>
  rw[hop] at hq
  obtain⟨v,h1,h2⟩:=zxa h (h.opE x) hq
  exact⟨v,h1,fun w' hst=>(by simp only[execOp,hop];exact lift (h2 w' hst))⟩
 |fieldAddr t x f=>
  rw[hop] at hq
  obtain⟨v,h1,h2⟩:=zjg (h.opE x) hq
  exact⟨v,h1,fun w' _=>(by simp only[execOp,hop];exact lift (h2 w'))⟩
 |field t x f=>
  rw[hop] at hq
  obtain⟨v,h1,h2⟩:=zuy h (h.opE x) hq
  exact⟨v,h1,fun w' _=>(by simp only[execOp,hop];exact lift (h2 w'))⟩
 |indexAddr t x i=>
  rw[hop] at hq
  simp only[za2] at hq
  split at hq
  · rename_i k i' hi
    obtain⟨h3,-⟩:=z1o (h.opE i) hi
    obtain⟨v,h1,h2⟩:=zj1 (k:=k) h (h.opE x) hq
    exact⟨v,h1,fun w' _=>(by simp only[execOp,hop,h3];exact lift (h2 w'))⟩
  · cases hq
 |index t x i=>
  rw[hop] at hq
  simp only[za2] at hq
  split at hq
  · rename_i k i' hi
    obtain⟨h3,-⟩:=z1o (h.opE i) hi
    obtain⟨v,h1,h2⟩:=zuc (k:=k) h (h.opE x) hq
    exact⟨v,h1,fun w' _=>(by simp only[execOp,hop,h3];exact lift (h2 w'))⟩
  · cases hq
 |slice t x lo hi mx=>
  rw[hop] at hq
  cases mx with
  |some m=>cases hq
  |none=>
   obtain⟨v,h1,h2⟩:=zs5 h (h.opE x) (zjy h lo) (zjy h hi) hq
   exact⟨v,h1,fun w' _=>(by simp only[execOp,hop];exact lift (h2 w'))⟩
 |extract x i=>
  rw[hop] at hq
  obtain⟨v,h1,h2⟩:=znc h (h.opE x) hq
  exact⟨v,h1,fun w' _=>(by simp only[execOp,hop];exact lift (h2 w'))⟩
 |nilCheck x=>
  rw[hop] at hq
  have hx:=h.opE x
  simp only[za2] at hq
  split at hq
  · rename_i id p off he
    cases hq
    rw[he] at hx
    refine⟨_,hx,fun w' _=> ?_⟩
    obtain⟨hv,g,n1,n4,n5,n6⟩:=hx
    simp[execOp,hop,n5]
  · rename_i dep cs off he
    cases hq
    rw[he] at hx
    refine⟨_,hx,fun w' _=> ?_⟩
    obtain⟨g,o',F,n5,n6⟩:=hx
    simp[execOp,hop,n5]
  · rename_i dep cs he
    cases hq
    rw[he] at hx
    obtain⟨hx1,hx2⟩:=hx
    generalize hu:a.eval x=u at hx1
    cases hx1 with
    |pr _ g o' _ F hK hg hF hh=>
     refine⟨_,⟨g,o',F,rfl,hK,hg,hF,hh,hx2⟩,fun w' _=> ?_⟩
     simp[execOp,hop,hu]
  · rename_i id p he
    split at hq
    case h_2=>cases hq
    case h_1 root hroot=>
    split at hq
    case h_2=>cases hq
    case h_1 cs hsub=>
    cases hq
    rw[he] at hx
    obtain⟨n1,t0,n2,n3⟩:=hx
    obtain⟨v',m1,hrep⟩:=(h.ob id root hroot).sub (z1D id) hsub
    rw[n1] at m1;cases m1
    generalize hu:a.eval x=u at hrep n1
    cases hrep with
    |vr _ g _ arr e fz F hfz hc0 hK hg hl hF hh=>
     refine⟨_,⟨_,g,n1,rfl,rfl,root,hroot,by rw[hsub];rfl⟩,fun w' _=> ?_⟩
     simp[execOp,hop,hu]
  · cases hq
 |call c=>
  rw[hop] at hq
  simp only[za2,zA6] at hq
  obtain⟨callee,args,ats⟩:=c
  split at hq
  · rename_i x t h1 h2 h3
    simp only[] at h1 h2 h3
    subst h1
    obtain rfl:args= #[x]:=by apply Yp;simpa using h2
    obtain rfl:ats= #[t]:=by apply Yp;simpa using h3
    obtain⟨v,e1,e2⟩:=zzt (ty:=o.type) h (h.opE x) hq
    refine⟨v,e1,fun w' _=> ?_⟩
    simp only[execOp,hop,resolve,Zc,Zg,Z2,invoke,builtin]
    simp[e2]
  · rename_i x y h1 h2
    simp only[] at h1 h2
    subst h1
    obtain rfl:args= #[x,y]:=by apply Yp;simpa using h2
    split at hq
    · rename_i u v hu hv
      split at hq
      · rename_i r hr
        cases hq
        obtain⟨e1,-⟩:=z1o (h.opE x) hu
        obtain⟨e2,-⟩:=z1o (h.opE y) hv
        unfold zEl at hr
        split at hr
        · cases hr
          refine⟨_,z3L rfl,fun w' _=> ?_⟩
          simp only[execOp,hop,resolve,Zc,Zg,Z2,invoke,builtin]
          simp[e1,e2,Builtin.min_,Builtin.min2]
        · cases hr
      · cases hq
    · cases hq
  · rename_i x y h1 h2
    simp only[] at h1 h2
    subst h1
    obtain rfl:args= #[x,y]:=by apply Yp;simpa using h2
    split at hq
    · rename_i u v hu hv
      split at hq
      · rename_i r hr
        cases hq
        obtain⟨e1,-⟩:=z1o (h.opE x) hu
        obtain⟨e2,-⟩:=z1o (h.opE y) hv
        unfold zEm at hr
        split at hr
        · cases hr
          refine⟨_,z3L rfl,fun w' _=> ?_⟩
          simp only[execOp,hop,resolve,Zc,Zg,Z2,invoke,builtin]
          simp[e1,e2,Builtin.max_,Builtin.max2]
        · cases hr
      · cases hq
    · cases hq
  · cases hq
 |alloc=>rw[hop] at hq;cases hq
 |box=>rw[hop] at hq;cases hq
 |build=>rw[hop] at hq;cases hq
 |buildSlice=>rw[hop] at hq;cases hq
 |insert=>rw[hop] at hq;cases hq
 |store=>rw[hop] at hq;cases hq
 |ready=>rw[hop] at hq;cases hq
 |waits=>rw[hop] at hq;cases hq
 |sliceToArrayPointer=>rw[hop] at hq;cases hq
 |makeInterface=>rw[hop] at hq;cases hq
 |makeFunc=>rw[hop] at hq;cases hq
 |makeMap=>rw[hop] at hq;cases hq
 |makeChan=>rw[hop] at hq;cases hq
 |makeSlice=>rw[hop] at hq;cases hq
 |lookup=>rw[hop] at hq;cases hq
 |mapUpdate=>rw[hop] at hq;cases hq
 |mapEntry=>rw[hop] at hq;cases hq
 |entryStore=>rw[hop] at hq;cases hq
 |range=>rw[hop] at hq;cases hq
 |next=>rw[hop] at hq;cases hq
 |entry=>rw[hop] at hq;cases hq
 |typeAssert=>rw[hop] at hq;cases hq
 |go=>rw[hop] at hq;cases hq
 |defer=>rw[hop] at hq;cases hq
 |panic=>rw[hop] at hq;cases hq
 |send=>rw[hop] at hq;cases hq
 |recv=>rw[hop] at hq;cases hq
 |select=>rw[hop] at hq;cases hq
end
section
def za8:A->T
 | .k v=>zag true v
 | .t none x=>if zcW x then x else .dead
 | .ea none cs 0=>.pr cs
 |_=>.dead
def zb4:A->Bool
 | .k _=>false
 | .t none _=>false
 | .ea none _ 0=>false
 |_=>true
theorem zgl{w:World}{K:Nat->z0a}{R:Nat->Value}{ob:List (Nat×T)}{x:A}{u:Value}(h:ARep w K R ob x u)(c:z0a):TRep w K c u (za8 x):=by
 unfold za8
 split
 · obtain rfl:u=_:=h;exact z7b w K true c _
 · split
   · exact h.1.any rfl c
   · exact .dead c u
 · rename_i cs
   obtain⟨g,o,F,h1,h2,h3,h4,h5,h6⟩:=h
   rw[h1]
   exact .pr c g o _ F h2 h3 h4 h5
 · exact .dead c u
def z8D(p:List Nat)(off base:Nat):List A->List (List Nat×Nat)
 | []=> []
 |x::xs=>if zb4 x then(p++ [off],base)::z8D p (off+1) (base+1) xs else z8D p (off+1) (base+1) xs
theorem zcr{p:List Nat}:∀ {xs:List A} {off base:Nat} {q:List Nat} {r:Nat},(q,r)∈z8D p off base xs->∃j,j<xs.length/\q=p++ [off+j]/\r=base+j
 | [],off,base,q,r,h=>by cases h
 |x::xs,off,base,q,r,h=>by
  simp only[z8D] at h
  have rest:(q,r)∈z8D p (off+1) (base+1) xs->∃j,j<(x::xs).length/\q=p++ [off+j]/\r=base+j:=fun h=>by
   obtain⟨j,h1,h2,h3⟩:=zcr h
   exact⟨j+1,by simpa using h1,by rw[h2];congr 2;omega,by omega⟩
  split at h
  · rcases Zu.1 h with e|e
    · cases e;exact⟨0,by simp,rfl,rfl⟩
    · exact rest e
  · exact rest h
def zes(n:Nat):List (Nat×E)->List (Nat×E)
 | []=> []
 |(i,x)::r=>if i<n∨n+1000<=i then(i,x)::zes n r else zes n r
theorem zqR(n:Nat)(l:List (Nat×E))(j:Nat):z2J (zes n l) j=z2J l j∨z2J (zes n l) j= .one .dead:=by
 induction l with
 |nil=>exact .inl rfl
 |cons a r ih=>
  obtain⟨i,x⟩:=a
  simp only[zes]
  by_cases h:i=j
  · subst h
    by_cases h2:i<n∨n+1000<=i
    · rw[if_pos h2];left;simp[z2J]
    · rw[if_neg h2]
      right
      have:∀l:List (Nat×E),z2J (zes n l) i= .one .dead:=by
       intro l
       induction l with
       |nil=>rfl
       |cons b r ih=>
        obtain⟨k,y⟩:=b
        simp only[zes]
        split
        · simp only[z2J]
          rw[if_neg (by omega)];exact ih
        · exact ih
      exact this r
  · split
    · simp only[z2J,if_neg h];exact ih
    · simp only[z2J,if_neg h];exact ih
theorem zqY(n:Nat)(l:List (Nat×E))(i:Nat)(h1:n<=i)(h2:i<n+1000):z2J (zes n l) i= .one .dead:=by
 induction l with
 |nil=>rfl
 |cons b r ih=>
  obtain⟨k,y⟩:=b
  simp only[zes]
  split
  · simp only[z2J]
    rw[if_neg (by omega)];exact ih
  · exact ih
theorem FRep.reG{w:World}{K:Nat->z0a}{R G G2:Nat->Value}{fr:Fr}{a:Act}(h:FRep w K R G fr a)(hG:∀i,fr.nt<=i->z2J fr.tm i= .one .dead∨G2 i=G i):FRep w K R G2 fr a:=by
 refine⟨fun i=> ?_,h.ob,h.nt,h.df⟩
 have hi:=h.tm i
 by_cases hlt:i<a.tmps.size
 · rw[z9I,if_pos hlt] at hi⊢;exact hi
 · rcases hG i (by rw[←h.nt];omega) with e|e
   · rw[e];trivial
   · rw[z9I,if_neg hlt] at hi⊢;rw[e];exact hi
def zvv(mv:Bool)(fr:Fr)(id:Nat)(l:List (List Nat×Nat)):Option Fr:=
 match l with
 | []=>some fr
 |l=>match plugL mv fr id l with|some fr'=>some {fr' with tm:=zes fr'.nt fr'.tm}|none=>none
def zqW(fr:Fr)(id:Nat)(l:List (List Nat×Nat)):Option Fr:=
 match l with
 | []=>some fr
 |l=>match plugL' fr id l with|some fr'=>some {fr' with tm:=zes fr'.nt fr'.tm}|none=>none
theorem FRep.fin{mv:Bool}{w:World}{K:Nat->z0a}{R G:Nat->Value}{fr fr':Fr}{a:Act}{id:Nat}{l:List (List Nat×Nat)}(h:FRep w K R G fr a)(hl:∀q r,(q,r)∈l->nav w (R id) q=some (z9I a G r)/\r≠id)(hf:zvv mv fr id l=some fr'):
 ∃K' R',FRep w K' R' G fr' a/\Step w K w K'/\fr'.nt=fr.nt/\(mv=false->(zqW fr id l).isSome=true->∀M:Nat->Bool,M id=false->∀b,KMc M (K b) (K' b)):=by
 unfold zvv at hf
 split at hf
 · cases hf;exact⟨K,R,h,Step.refl _ _,rfl,fun _ _ _ _ _=>KMc.rfl⟩
 · split at hf
   · rename_i fr1 h1
     cases hf
     obtain⟨K',R',a1,a2,a3,_,a5⟩:=h.plugL hl h1
     refine⟨K',R',a1.weaken (zqR _ _),a2,a3,fun hmv hs M hM b=>a5 hmv ?_ M hM b⟩
     subst hmv
     unfold zqW at hs
     split at hs
     · simpa[Proofs.YtianakjpgmmflaaGreatDoor.plugL,plugL'] using h1
     · split at hs
       · rename_i fr2 h2
         rw[h2]
         have:=zkW h2
         rw[h1] at this
         exact this.symm
       · cases hs
   · cases hf
theorem zgB{mv:Bool}{fr fr':Fr}{id:Nat}{l:List (List Nat×Nat)}(hf:zvv mv fr id l=some fr')(hl:l≠ [])(i:Nat)(h1:fr'.nt<=i)(h2:i<fr'.nt+1000):z2J fr'.tm i= .one .dead:=by
 unfold zvv at hf
 split at hf
 · exact absurd rfl hl
 · split at hf
   · cases hf
     exact zqY _ _ _ h1 h2
   · cases hf
theorem zey{p:List Nat}:∀ {xs:List A} {off base:Nat},xs.any zb4=true->z8D p off base xs≠ []
 | [],off,base,h=>by cases h
 |x::xs,off,base,h=>by
  simp only[z8D]
  split
  · simp
  · rename_i hx
    refine zey ?_
    simpa[hx] using h
structure NewB(w w1:World)(o:Obj):Prop where
 os:w1.os=w.os
 tape:w1.tape=w.tape
 output:w1.output=w.output
 heap:w1.heap=w.heap.push o
variable{a:Act}{arr:Array Value}{hdl:E}{fr fr':Fr}{xs:List A}{mk:List T->T}{d:Nat}{G R:Nat->Value}{K:Nat->z0a}{o:Obj}{el:TypeId}{v:Value}{w w1:World}{c:z0a}
theorem NewB.size(h:NewB w w1 o):w1.heap.size=w.heap.size+1:=by rw[h.heap];simp
theorem NewB.old(h:NewB w w1 o){b:Nat}(hb:b<w.heap.size):w1.heap[b]? =w.heap[b]? :=by
 rw[h.heap,Yk,if_neg (by omega)]
theorem NewB.new(h:NewB w w1 o):w1.heap[w.heap.size]? =some o:=by
 rw[h.heap,Yk,if_pos rfl]
theorem NewB.alloc(w:World)(o:Obj):NewB w {w with heap:=w.heap.push o} o:=⟨rfl,rfl,rfl,rfl⟩
theorem NewB.step(h:NewB w w1 o):Step w K w1 (fun b=>if b=w.heap.size then c else K b):=
 ⟨h.os,h.tape,h.output,by rw[h.size];omega,fun b hb _=>⟨by
   show(if b=w.heap.size then c else K b)=K b
   rw[if_neg (by omega)],h.old hb⟩,.olds fun b hb=>h.old hb⟩
theorem NewB.keep(h:NewB w w1 o):Keep w w1 K (fun b=>if b=w.heap.size then c else K b) (fun _=>True):=
 ⟨fun b hb e=>⟨by
   show(if b=w.heap.size then c else K b)= []
   rw[if_neg (by omega)];exact e,h.old hb⟩,fun b hb _=>⟨by
   show(if b=w.heap.size then c else K b)=K b
   rw[if_neg (by omega)],h.old hb⟩,by rw[h.size];omega⟩
def zBj(mv:Bool)(fr:Fr)(d:Nat)(mk:List T->T)(hdl:E)(xs:List A):Option Fr:=
 if d<fr.nt/\xs.length<=1000 then
  zvv mv {fr with tm:=z7P (z6J (kill d) (if xs.any zb4 then putR fr.tm fr.nt xs else fr.tm)) d hdl,ob:=z6h fr.ob d (mk (xs.map za8))} d (z8D [] 0 fr.nt xs)
 else none
def zzh(fr:Fr)(d:Nat)(mk:List T->T)(hdl:E)(xs:List A):Option Fr:=zBj false fr d mk hdl xs
def zmO(fr:Fr)(d:Nat)(mk:List T->T)(hdl:E)(xs:List A):Bool:=
 (zqW {fr with tm:=z7P (z6J (kill d) (if xs.any zb4 then putR fr.tm fr.nt xs else fr.tm)) d hdl,ob:=z6h fr.ob d (mk (xs.map za8))} d (z8D [] 0 fr.nt xs)).isSome
theorem zdA{p:List Nat}:∀ {xs:List A} {off base:Nat},xs.any zb4=false->z8D p off base xs= []
 | [],off,base,h=>rfl
 |x::xs,off,base,h=>by
  simp only[List.any_cons,YY] at h
  simp only[z8D,h.1,ZR,if_false]
  exact zdA h.2
theorem FRep.newObjG{mv:Bool}{fz:Nat×Nat}(h:FRep w K R G fr a)(hw1:NewB w w1 (.cells arr el fz))
 (hx:∀j x,xs[j]? =some x->ARep w K R fr.ob x (arr.getD j undef)) (hlen:xs.length<=arr.size)
 (hv:v= .pointer (some ⟨w.heap.size,0,none⟩)∨ ∃n cap,v= .slice (some ⟨w.heap.size,0,none⟩) n cap)
 (hmk:∀(w':World) (K':Nat->z0a) (cs:List T) (F:Nat->Value),cs.length=xs.length->K' w.heap.size=col d->w'.heap[w.heap.size]? =some (.cells arr el fz)->(∀j,j<cs.length->arr[j]? =some (F j))->
   (∀j t,cs[j]? =some t->TRep w' K' (col d++ [j]) (F j) t)->TRep w' K' (col d) v (mk cs))
 (hh:(hdl= .one (.h d [])∨(hdl= .one (.a d [] 0)))) (hva:hdl= .one (.a d [] 0)->v= .pointer (some ⟨w.heap.size,0,none⟩))
 (hf:zBj mv fr d mk hdl xs=some fr'):∃K' R',FRep w1 K' R' G fr' (a.put (some d) v)/\Step w K w1 K'/\(mv=false->zmO fr d mk hdl xs=true->∀M:Nat->Bool,M d=false->∀b,b<w.heap.size->KMc M (K b) (K' b)):=by
 unfold zBj at hf
 split at hf
 case isFalse=>cases hf
 case isTrue hd1=>
 obtain⟨hd,hx1000⟩:=hd1
 let K1:Nat->z0a:=fun b=>if b=w.heap.size then col d else K b
 have hk:Keep w w1 K K1 (fun _=>True):=hw1.keep
 have hst:Step w K w1 K1:=hw1.step
 have hnew:w1.heap[w.heap.size]? =some (.cells arr el fz):=hw1.new
 have key:∀(G1:Nat->Value) (tm1:List (Nat×E)),FRep w K R G1 {fr with tm:=tm1} a->(∀j,j<xs.length->xs.any zb4=true->G1 (fr.nt+j)=arr.getD j undef)->
  ∀fr',zvv mv {fr with tm:=z7P (z6J (kill d) tm1) d hdl,ob:=z6h fr.ob d (mk (xs.map za8))} d (z8D [] 0 fr.nt xs)=some fr'->
  ∃K' R',FRep w1 K' R' G1 fr' (a.put (some d) v)/\Step w K w1 K'/\fr'.nt=fr.nt/\(mv=false->(zqW {fr with tm:=z7P (z6J (kill d) tm1) d hdl,ob:=z6h fr.ob d (mk (xs.map za8))} d (z8D [] 0 fr.nt xs)).isSome=true->∀M:Nat->Bool,M d=false->∀b,b<w.heap.size->KMc M (K b) (K' b)):=by
  intro G1 tm1 h1 hG fr' hf
  have h2:=h1.keep hk
  have hx2:∀j x,xs[j]? =some x->ARep w1 K1 R fr.ob x (arr.getD j undef):=fun j x hj=>(hx j x hj).keep h.ob hk
  have ht:TRep w1 K1 (col d) v (mk (xs.map za8)):=by
   refine hmk w1 K1 _ (fun j=>arr.getD j undef) (by simp) (by simp[K1]) hnew (fun j hj=> ?_) (fun j t hj=> ?_)
   · have:j<arr.size:=by simp at hj;omega
     simp[Z7,this]
   · simp only[Zd,Z4] at hj
     obtain⟨x,hx',rfl⟩:=hj
     exact zgl (hx2 j x hx') _
  have h3:=h2.replace (d:=d) (v:=v) (t:=mk (xs.map za8)) ⟨fun b hb e=>⟨e,rfl⟩,fun b hb _=>⟨rfl,rfl⟩,Z5 _⟩ ht
  have hobd:z2f (z6h fr.ob d (mk (xs.map za8))) d=some (mk (xs.map za8)):=by simp[z0A]
  have hRd:z9P R d v d=v:=by simp[z9P]
  have h4:=h3.put (d:=d) (x:=hdl) (v:=v) hd (by
   rcases hh with e|e
   · subst e
     exact⟨by rw[hRd];rfl,_,hobd,rfl⟩
   · have hv':=hva e
     subst e
     exact⟨v,w.heap.size,by rw[hRd];rfl,by rw[hv'];rfl,hv',_,hobd,rfl⟩)
  obtain⟨K2,R2,e1,e2,e3,e4⟩:=h4.fin (l:=z8D [] 0 fr.nt xs) (fun q r hm=>by
   obtain⟨j,j1,rfl,rfl⟩:=zcr hm
   have hany:xs.any zb4=true:=by
    cases hb:xs.any zb4 with
    |true=>rfl
    |false=>rw[zdA hb] at hm;cases hm
   refine⟨?_,by omega⟩
   have hja:j<arr.size:=by omega
   have hcell:w1.cell? ⟨w.heap.size,j,none⟩=some arr[j]:=by rw[z1E hnew];simp[hja]
   rw[ziF a G1 d v (by rw[h.nt];exact hd),if_neg (by omega),hRd]
   have hreg:z9I a G1 (fr.nt+j)=arr[j]:=by
    rw[z9I,if_neg (by rw[h.nt];omega),hG j j1 hany]
    simp[Z7,hja]
   rw[hreg]
   simp only[Y4,Zp,nav]
   rcases hv with e|⟨n,cap,e⟩<;>rw[e]<;>simp[zep,hcell]) hf
  exact⟨K2,R2,e1,hst.trans e2,e3,fun hmv hs M hM b hb=>by
   have:=e4 hmv hs M hM b
   have hK:K1 b=K b:=by simp only[K1];rw[if_neg (by omega)]
   rw[hK] at this;exact this⟩
 by_cases hany:xs.any zb4=true
 · rw[if_pos hany] at hf
   obtain⟨K2,R2,e1,e2,e3,e4⟩:=key (gv G fr.nt (fun j=>arr.getD j undef) xs.length) _ (h.putR (Z5 _) hx) (fun j hj _=>by simp only[gv];rw[if_pos (by omega)];congr 1;omega) fr' hf
   refine⟨K2,R2,e1.reG fun i hi=> ?_,e2,fun hmv hs=>e4 hmv (by unfold zmO at hs;rw[if_pos hany] at hs;exact hs)⟩
   by_cases hlt:i<fr'.nt+1000
   · exact .inl (zgB hf (zey hany) i hi hlt)
   · right;simp only[gv];rw[if_neg (by omega)]
 · rw[if_neg hany] at hf
   obtain⟨K2,R2,e1,e2,e3,e4⟩:=key G fr.tm h (fun j hj e=>absurd e hany) fr' hf
   exact⟨K2,R2,e1,e2,fun hmv hs=>e4 hmv (by unfold zmO at hs;rw[if_neg hany] at hs;exact hs)⟩
theorem FRep.newObjM{fz:Nat×Nat}(h:FRep w K R G fr a)(hw1:NewB w w1 (.cells arr el fz))
 (hx:∀j x,xs[j]? =some x->ARep w K R fr.ob x (arr.getD j undef)) (hlen:xs.length<=arr.size)
 (hv:v= .pointer (some ⟨w.heap.size,0,none⟩)∨ ∃n cap,v= .slice (some ⟨w.heap.size,0,none⟩) n cap)
 (hmk:∀(w':World) (K':Nat->z0a) (cs:List T) (F:Nat->Value),cs.length=xs.length->K' w.heap.size=col d->w'.heap[w.heap.size]? =some (.cells arr el fz)->(∀j,j<cs.length->arr[j]? =some (F j))->
   (∀j t,cs[j]? =some t->TRep w' K' (col d++ [j]) (F j) t)->TRep w' K' (col d) v (mk cs))
 (hh:(hdl= .one (.h d [])∨(hdl= .one (.a d [] 0)))) (hva:hdl= .one (.a d [] 0)->v= .pointer (some ⟨w.heap.size,0,none⟩))
 (hf:zzh fr d mk hdl xs=some fr'):∃K' R',FRep w1 K' R' G fr' (a.put (some d) v)/\Step w K w1 K'/\(zmO fr d mk hdl xs=true->∀M:Nat->Bool,M d=false->∀b,b<w.heap.size->KMc M (K b) (K' b)):=by
 obtain⟨K',R',h1,h2,h3⟩:=h.newObjG hw1 hx hlen hv hmk hh hva hf
 exact⟨K',R',h1,h2,h3 rfl⟩
theorem FRep.newObj{fz:Nat×Nat}(h:FRep w K R G fr a)(hw1:NewB w w1 (.cells arr el fz))
 (hx:∀j x,xs[j]? =some x->ARep w K R fr.ob x (arr.getD j undef)) (hlen:xs.length<=arr.size)
 (hv:v= .pointer (some ⟨w.heap.size,0,none⟩)∨ ∃n cap,v= .slice (some ⟨w.heap.size,0,none⟩) n cap)
 (hmk:∀(w':World) (K':Nat->z0a) (cs:List T) (F:Nat->Value),cs.length=xs.length->K' w.heap.size=col d->w'.heap[w.heap.size]? =some (.cells arr el fz)->(∀j,j<cs.length->arr[j]? =some (F j))->
   (∀j t,cs[j]? =some t->TRep w' K' (col d++ [j]) (F j) t)->TRep w' K' (col d) v (mk cs))
 (hh:(hdl= .one (.h d [])∨(hdl= .one (.a d [] 0)))) (hva:hdl= .one (.a d [] 0)->v= .pointer (some ⟨w.heap.size,0,none⟩))
 (hf:zzh fr d mk hdl xs=some fr'):∃K' R',FRep w1 K' R' G fr' (a.put (some d) v)/\Step w K w1 K':=by
 obtain⟨K',R',h1,h2,_⟩:=h.newObjM hw1 hx hlen hv hmk hh hva hf
 exact⟨K',R',h1,h2⟩
end
section
variable{a:Act}{fr fr':Fr}{d:Nat}{G R:Nat->Value}{K:Nat->z0a}{P:Program}{α:Type}{t:TypeId}{w:World}
theorem z5z(arr:Array Value)(j:Nat)(hj:j<arr.size):arr[j]? =some (arr.getD j undef):=by
 simp[Z7,hj]
def zpf(P:Program)(fr:Fr)(t:TypeId)(d:Nat):Option Fr:=
 match z2w P t with
 |some ⟨_,_,_,some zs⟩=>zzh fr d (fun _=>.vr zs) (.one (.a d [] 0)) []
 |_=>none
theorem zvi(h:FRep w K R G fr a)(hf:zpf P fr t d=some fr'):
 ∃v w',(Instr.alloc t true (.tuple #[])).run P w= .ok v w'/\(∃K' R',FRep w' K' R' G fr' (a.put (some d) v)/\Step w K w' K')/\ ∀b,b<w.heap.size->w'.heap[b]? =w.heap[b]? :=by
 unfold zpf at hf
 split at hf
 case h_2=>cases hf
 case h_1 u s b zs ht=>
 obtain⟨h1,j,h2,h3,h4,h5⟩:=z3E ht
 cases hz:j.zero with
 |none=>rw[hz] at h5;cases h5
 |some z=>
  rw[hz] at h5
  simp only[Z9] at h5
  have hrun:(Instr.alloc t true (.tuple #[])).run P w= .ok (.pointer (some ⟨w.heap.size,0,none⟩)) {w with heap:=w.heap.push (.cells z.cells t)}:=by
   simp[Instr.alloc,zeroValue,typeInfo,h2,hz,newVar,newRow,newObj,Sem.run]
  refine⟨_,_,hrun,?_,fun b hb=>(NewB.alloc w _).old hb⟩
  refine h.newObj (NewB.alloc w _) (xs:= []) (fun j x hx=>by cases hx) (Yt _) (.inl rfl) (fun w' K' cs F hl hK hg hF hk=> ?_) (.inr rfl) (fun _=>rfl) hf
  refine .vr (col d) _ zs z.cells t (0,0) (fun j=>z.cells.getD j undef) (fun i _=>by omega) (z1D d) hK hg (by rw[←h5,z6f];simp) (fun j hj=>z5z _ _ (by rw[←h5,z6f] at hj;simpa using hj)) (fun j t' hj=> ?_)
  rw[←h5] at hj
  obtain⟨zv,hzv,hr⟩:=zlX hj
  rw[Zv] at hzv
  have:z.cells.getD j undef=zv:=by simp[Z7,hzv]
  rw[this]
  exact hr _ _ _
def zDs(P:Program)(fr:Fr)(t:TypeId)(e:E)(d:Nat):Option Fr:=
 match z2w P t with
 |some ti=>match cellsE fr (z5V ti.u) e with
  |some xs=>if xs.all (zai fr) then zzh fr d .vr (.one (.a d [] 0)) xs else none
  |none=>none
 |none=>none
theorem zA7{e:E}{u:Value}(h:FRep w K R G fr a)(he:ERep w K R fr.ob e u)(hf:zDs P fr t e d=some fr'):
 ∃v w',(Instr.box t u).run P w= .ok v w'/\(∃K' R',FRep w' K' R' G fr' (a.put (some d) v)/\Step w K w' K')/\ ∀b,b<w.heap.size->w'.heap[b]? =w.heap[b]? :=by
 unfold zDs at hf
 split at hf
 case h_2=>cases hf
 case h_1 ti hti=>
 split at hf
 case h_2=>cases hf
 case h_1 xs hxs=>
 split at hf
 case isFalse=>cases hf
 case isTrue hall=>
 obtain⟨c1,c2,c3⟩:=h.cellsE he hxs hall
 have hrun:(Instr.box t u).run P w= .ok (.pointer (some ⟨w.heap.size,0,none⟩)) {w with heap:=w.heap.push (.cells u.cells t)}:=by
  simp[Instr.box,newVar,newRow,newObj,Sem.run]
 refine⟨_,_,hrun,?_,fun b hb=>(NewB.alloc w _).old hb⟩
 refine h.newObj (NewB.alloc w _) c2 (by omega) (.inl rfl) (fun w' K' cs F hl hK hg hF hk=> ?_) (.inr rfl) (fun _=>rfl) hf
 exact .vr (col d) _ cs u.cells t (0,0) F (fun i _=>by omega) (z1D d) hK hg (by omega) hF hk
def zgZ{α:Type}(l:List α)(off:Nat):List α->List α
 | []=>l
 |x::xs=>zgZ (l.set off x) (off+1) xs
theorem zkE(l:List α)(off:Nat)(xs:List α):(zgZ l off xs).length=l.length:=by
 induction xs generalizing l off with
 |nil=>rfl
 |cons x xs ih=>rw[zgZ,ih,Xj]
theorem zkF(xs:List α):∀(cs:List α) (off j:Nat),off+xs.length<=cs.length->(zgZ cs off xs)[j]? =if off<=j/\j<off+xs.length then xs[j-off]? else cs[j]? :=by
 induction xs with
 |nil=>intro cs off j h;simp only[zgZ,Ye];rw[if_neg (by omega)]
 |cons x xs ih=>
  intro cs off j h
  simp only[Zr] at h
  rw[zgZ,ih _ _ _ (by simp;omega)]
  simp only[Zr]
  by_cases h1:off+1<=j/\j<off+1+xs.length
  · rw[if_pos h1,if_pos (by omega)]
    rw[show j-off=(j-(off+1))+1 by omega,ZT]
  · rw[if_neg h1]
    by_cases h2:j=off
    · subst h2
      rw[if_pos (by omega),List.getElem?_set_self (by omega)];simp
    · rw[if_neg (by omega),Xg (fun e=>h2 e.symm)]
def zu4(x:A):A->A
 | .k (.slice none 0 0)=>(match x with| .t none (.os s 0 [])=>.t none (.os s 0 [])|_=>.k (.slice none 0 0))
 |y=>y
def za7:List A->List A->List A
 |_,[]=> []
 | [],y::ys=>y::ys
 |x::xs,y::ys=>zu4 x y::za7 xs ys
theorem zwF(x y:A):zu4 x y=y∨(zu4 x y=x/\y= .k (.slice none 0 0)/\ ∃s,x= .t none (.os s 0 [])):=by
 unfold zu4
 split
 · split
   · exact .inr ⟨rfl,rfl,_,rfl⟩
   · exact .inl rfl
 · exact .inl rfl
theorem zcJ:∀(xs ys:List A),(za7 xs ys).length=ys.length
 | [],[]=>rfl
 |_::_,[]=>rfl
 | [],_::_=>rfl
 |_::xs,_::ys=>by simp only[za7,Zr,zcJ xs ys]
theorem zi4:∀(xs ys:List A) (j:Nat) (z:A),(za7 xs ys)[j]? =some z->∃y,ys[j]? =some y/\(z=y∨(z∈xs/\y= .k (.slice none 0 0)/\ ∃s,z= .t none (.os s 0 [])))
 | [],[],j,z,h=>by simp[za7] at h
 |_::_,[],j,z,h=>by simp[za7] at h
 | [],y::ys,j,z,h=>⟨z,h,.inl rfl⟩
 |x::xs,y::ys,0,z,h=>by
  simp only[za7,X3,Z9] at h
  refine⟨y,rfl,?_⟩
  rcases zwF x y with e|⟨e,e2,s,e3⟩
  · exact .inl (by rw[←h,e])
  · exact .inr ⟨by rw[←h,e];exact Zy,e2,s,by rw[←h,e,e3]⟩
 |x::xs,y::ys,j+1,z,h=>by
  simp only[za7,ZT] at h⊢
  obtain⟨y',h1,h2⟩:=zi4 xs ys j z h
  exact⟨y',h1,h2.imp id fun⟨a,b⟩=>⟨Zl _ a,b⟩⟩
theorem zxu{ob:List (Nat×T)}{s:Nat}{v:Value}(h:ARep w K R ob (.k (.slice none 0 0)) v):ARep w K R ob (.t none (.os s 0 [])) v:=by
 have e:v= .slice none 0 0:=h
 subst e
 exact⟨.nil _ _,fun _ e=>by cases e⟩
def zer(fr:Fr)(place:Nat->Option (Nat×Nat×Bool))(cs:List A):List (Nat×Operand)->Option (List A)
 | []=>some cs
 |(i,x)::rest=>match place i with
  |none=>none
  |some (off,size,agg)=>match cellsE fr agg (opE fr x) with
   |none=>none
   |some xs=>if xs.length=size/\off+size<=cs.length/\xs.all (zai fr)=true then zer fr place (zgZ cs off (za7 ((cs.drop off).take size) xs)) rest else none
theorem zll(off:Nat):∀(vs:List Value) (k:Nat) (cs:Array Value),off+k+vs.length<=cs.size->∃cs',(vs.zipIdx k).foldl (fun cs (c,j)=>cs.setIfInBounds (off+j) c) cs=cs'/\cs'.size=cs.size/\
 ∀j,cs'[j]? =if off+k<=j/\j<off+k+vs.length then vs[j-(off+k)]? else cs[j]?
 | [],k,cs,h=>⟨cs,rfl,rfl,fun j=>by simp only[Ye];rw[if_neg (by omega)]⟩
 |v::vs,k,cs,h=>by
  simp only[Zr] at h
  obtain⟨cs',h1,h2,h3⟩:=zll off vs (k+1) (cs.setIfInBounds (off+k) v) (by simp;omega)
  refine⟨cs',by simpa[List.zipIdx_cons] using h1,by simpa using h2,fun j=> ?_⟩
  rw[h3 j]
  simp only[Zr]
  by_cases c1:off+(k+1)<=j/\j<off+(k+1)+vs.length
  · rw[if_pos c1,if_pos (by omega),show j-(off+k)=(j-(off+(k+1)))+1 by omega,ZT]
  · rw[if_neg c1,ZZ]
    by_cases c2:off+k=j
    · subst c2
      rw[if_pos rfl,if_pos (by omega),if_pos (by omega)];simp
    · rw[if_neg c2,if_neg (by omega)]
theorem zjf{w:World}{K:Nat->z0a}{R G:Nat->Value}{fr:Fr}{a:Act}(h:FRep w K R G fr a){pl:Nat->Option (Nat×Nat×Bool)}{place:Nat->Option (Nat×Nat)}(hp:∀i,place i=(pl i).map fun x=>(x.1,x.2.1)):
 ∀ {parts:List (Nat×Operand)} {cs cs':List A} {arr:Array Value},cs.length=arr.size->(∀j x,cs[j]? =some x->ARep w K R fr.ob x (arr.getD j undef))->(∀x∈cs,zai fr x=true)->zer fr pl cs parts=some cs'->
   ∃arr',Instr.fill place arr (parts.map fun(i,x)=>(i,a.eval x))=some arr'/\cs'.length=arr'.size/\arr'.size=arr.size/\(∀j x,cs'[j]? =some x->ARep w K R fr.ob x (arr'.getD j undef))/\(∀x∈cs',zai fr x=true)
 | [],cs,cs',arr,hl,hr,hc,hf=>by
   simp only[zer,Z9] at hf
   subst hf
   exact⟨arr,rfl,hl,rfl,hr,hc⟩
 |(i,x)::rest,cs,cs',arr,hl,hr,hc,hf=>by
  simp only[zer] at hf
  split at hf
  case h_1=>cases hf
  case h_2 off size agg hpl=>
  split at hf
  case h_1=>cases hf
  case h_2 xs hxs=>
  split at hf
  case isFalse=>cases hf
  case isTrue hcond=>
  obtain⟨hsz,hoff,hall0⟩:=hcond
  obtain⟨c1,c20,c3⟩:=h.cellsE (h.opE x) hxs hall0
  generalize hys:za7 ((cs.drop off).take size) xs=ys at hf
  have hly:ys.length=xs.length:=by rw[←hys,zcJ]
  have hget:∀j z,ys[j]? =some z->∃y,xs[j]? =some y/\(z=y∨(z∈cs/\y= .k (.slice none 0 0)/\ ∃s,z= .t none (.os s 0 []))):=fun j z hz=>by
   rw[←hys] at hz
   obtain⟨y,h1,h2⟩:=zi4 _ _ j z hz
   exact⟨y,h1,h2.imp id fun⟨a,b⟩=>⟨XL (ZI a),b⟩⟩
  have c2:∀j z,ys[j]? =some z->ARep w K R fr.ob z ((a.eval x).cells.getD j undef):=fun j z hz=>by
   obtain⟨y,h1,h2⟩:=hget j z hz
   have h9:=c20 j y h1
   rcases h2 with e|⟨_,e2,s,e3⟩
   · rw[e];exact h9
   · rw[e2] at h9
     rw[e3]
     exact zxu h9
  have hall:∀z∈ys,zai fr z=true:=fun z hz=>by
   obtain⟨j,hj⟩:=List.getElem?_of_mem hz
   obtain⟨y,h1,h2⟩:=hget j z hj
   rcases h2 with e|⟨e1,_⟩
   · rw[e];exact Zn.1 hall0 _ (ZM h1)
   · exact hc _ e1
  rw[←hly] at c1 hsz
  clear hxs hall0 c20 hget hys hly
  obtain⟨arr1,f1,f2,f3⟩:=zll off (a.eval x).cells.toList 0 arr (by simp;omega)
  have hplace:place i=some (off,size):=by rw[hp i,hpl];rfl
  have hlen1:(zgZ cs off ys).length=arr1.size:=by rw[zkE,f2,hl]
  obtain⟨arr',g1,g2,g3,g4,g5⟩:=zjf h hp (parts:=rest) (cs:=zgZ cs off ys) (arr:=arr1) hlen1 (fun j y hy=>by
   rw[zkF _ _ _ _ (by omega)] at hy
   have:=f3 j
   simp only[Yx,Yj,Zv] at this
   by_cases hj:off<=j/\j<off+ys.length
   · rw[if_pos hj] at hy
     rw[if_pos (by omega)] at this
     have h9:=c2 (j-off) y hy
     have e:arr1.getD j undef=(a.eval x).cells.getD (j-off) undef:=by
      simp only[Z7,this]
     rw[e];exact h9
   · rw[if_neg hj] at hy
     rw[if_neg (by omega)] at this
     have e:arr1.getD j undef=arr.getD j undef:=by
      simp only[Z7,this]
     rw[e];exact hr j y hy) (fun y hy=>by
   obtain⟨j,hj,rfl⟩:=Zt hy
   have hg:=zkF ys cs off j (by omega)
   rw[Z1 hj] at hg
   by_cases hc2:off<=j/\j<off+ys.length
   · rw[if_pos hc2] at hg
     exact hall _ (ZM hg.symm)
   · rw[if_neg hc2] at hg
     exact hc _ (ZM hg.symm)) hf
  refine⟨arr',?_,g2,by omega,g4,g5⟩
  simp only[Zs,Instr.fill,hplace]
  rw[if_neg (by
   simp only[Y7,decide_eq_true_eq,bne_iff_ne,ne_eq,not_or]
   omega)]
  have:(a.eval x).cells.zipIdx.foldl (fun cs (x:Value×Nat)=>cs.setIfInBounds (off+x.2) x.1) arr=arr1:=by
   rw[←f1,←Array.foldl_toList,Array.toList_zipIdx]
  rw[this];exact g1
end
section
variable{a:Act}{fr fr':Fr}{k k':IntKind}{parts:List (Nat×Operand)}{d n:Nat}{G R:Nat->Value}{K:Nat->z0a}{P:Program}{t:TypeId}{w:World}
def zb0:Nat->List T->List T
 |0,_=> []
 |n+1,zs=>zs++zb0 n zs
theorem z7m:∀(n:Nat) (zs:List T),(zb0 n zs).length=n*zs.length
 |0,zs=>by simp[zb0]
 |n+1,zs=>by simp[zb0,z7m n,Nat.succ_mul];omega
theorem zjD:∀(n:Nat) (zs:List T) (j:Nat),j<n*zs.length->(zb0 n zs)[j]? =zs[j%zs.length]?
 |0,zs,j,h=>by simp at h
 |n+1,zs,j,h=>by
  have hz:0<zs.length:=by
   rcases XQ zs.length with e|e
   · rw[e] at h;simp at h
   · exact e
  simp only[zb0]
  by_cases hj:j<zs.length
  · rw[ZL hj,YZ hj]
  · rw[Y5 (by omega),zjD n zs (j-zs.length) (by rw[Nat.succ_mul] at h;omega)]
    congr 1
    rw[Nat.mod_eq_sub_mod (by omega:zs.length<=j)]
def z6e(z:Array Value)(n:Nat):Array Value:=(Array.range n).map (z[·%z.size]!)
theorem zpl(z:Array Value)(n j:Nat)(hj:j<n)(hz:0<z.size):(z6e z n)[j]? =z[j%z.size]? :=by
 have h2:j%z.size<z.size:=Nat.mod_lt _ hz
 simp[z6e,hj,h2,YG]
theorem z7U(z:Array Value)(n:Nat):(z6e z n).size=n:=by simp[z6e]
theorem zh9{z:Array Value}{zs:List T}{sl:List Nat}(hz:zTs sl z.toList=zs){m:Nat}{j:Nat}{t:T}(hn:n*zs.length<=m)(ht:(zb0 n zs)[j]? =some t)(c:z0a):
 TRep w K c ((z6e z m).getD j undef) t:=by
 have hlz:zs.length=z.size:=by rw[←hz,z6f];simp
 have hj:j<n*zs.length:=by
  have:=(Z8.1 ht).1
  rwa [z7m] at this
 have hpos:0<zs.length:=by
  rcases XQ zs.length with e|e
  · rw[e] at hj;simp at hj
  · exact e
 rw[zjD n zs j hj,←hz] at ht
 obtain⟨v,hv,hr⟩:=zlX ht
 rw[z6f,Zv] at hv
 have:(z6e z m).getD j undef=v:=by
  rw[Z7,zpl z m j (by omega) (by omega)]
  simp only[Yj] at hv
  rw[hv];rfl
 rw[this]
 exact hr _ _ _
def z8m(P:Program)(mv:Bool)(fr:Fr)(t:TypeId)(n:Nat)(parts:List (Nat×Operand))(d:Nat):Option Fr:=
 match z2w P t with
 |some ⟨.slice el,_,_,_⟩=>match z2w P el with
  |some ⟨u,size,_,some zs⟩=>
   if zs.length=size/\0<size/\zs.all zcW=true/\n*size<=16777216 then
    match zer fr (fun i=>some (i*size,size,z5V u)) ((zb0 n zs).map (A.t none)) parts with
    |some xs=>zBj mv fr d (fun cs=>.os size n cs) (.one (.h d [])) xs
    |none=>none
   else none
  |_=>none
 |_=>none
def z6d(P:Program)(fr:Fr)(t:TypeId)(n:Nat)(parts:List (Nat×Operand))(d:Nat):Option Fr:=z8m P false fr t n parts d
theorem zrm{zs:List T}{t:T}(h:t∈zb0 n zs):t∈zs:=by
 induction n with
 |zero=>cases h
 |succ n ih=>
  simp only[zb0,Ze] at h
  rcases h with h|h
  · exact h
  · exact ih h
theorem zBm{X:(Nat->z0a)->(Nat->Value)->Prop}{Z Y:(Nat->z0a)->Prop}{c1 c2:Bool}(h:∃K' R',X K' R'/\Z K'/\(c1=true->Y K'))(hc:c2=true->c1=true):∃K' R',X K' R'/\Z K'/\(c2=true->Y K'):=by
 obtain⟨K',R',a,b,c⟩:=h
 exact⟨K',R',a,b,fun e=>c (hc e)⟩
def z6l(P:Program)(fr:Fr)(t:TypeId)(n:Nat)(parts:List (Nat×Operand))(d:Nat):Bool:=
 match z2w P t with
 |some ⟨.slice el,_,_,_⟩=>match z2w P el with
  |some ⟨u,size,_,some zs⟩=>(match zer fr (fun i=>some (i*size,size,z5V u)) ((zb0 n zs).map (A.t none)) parts with
    |some xs=>zmO fr d (fun cs=>.os size n cs) (.one (.h d [])) xs
    |none=>false)
  |_=>false
 |_=>false
theorem zal{mv:Bool}(h:FRep w K R G fr a)(hf:z8m P mv fr t n parts d=some fr'):
 ∃v w',(∃p,v= .slice p n n)/\(Instr.buildSlice t n (parts.map fun(i,x)=>(i,a.eval x)).toArray).run P w= .ok v w'/\(∃K' R',FRep w' K' R' G fr' (a.put (some d) v)/\Step w K w' K'/\(mv=false->z6l P fr t n parts d=true->∀M:Nat->Bool,M d=false->∀b,b<w.heap.size->KMc M (K b) (K' b)))/\ ∀b,b<w.heap.size->w'.heap[b]? =w.heap[b]? :=by
 unfold z8m at hf
 split at hf
 case h_2=>cases hf
 case h_1 el s1 s2 s3 ht=>
 split at hf
 case h_2=>cases hf
 case h_1 u size s4 zs hti=>
 split at hf
 case isFalse=>cases hf
 case isTrue hcond=>
 obtain⟨k1,k2,k3,k4⟩:=hcond
 split at hf
 case h_2=>cases hf
 case h_1 xs hxs=>
 have hu:=z1U ht w
 have hsz:=z8u hti w
 simp only[] at hu hsz
 obtain⟨h1,j,h2,h3,h4,h5⟩:=z3E hti
 simp only[] at h3 h5
 cases hz:j.zero with
 |none=>rw[hz] at h5;cases h5
 |some z=>
  rw[hz] at h5
  simp only[Z9] at h5
  have hlz:zs.length=z.cells.size:=by rw[←h5,z6f];simp
  obtain⟨arr',g1,g2,g3,g4,g5⟩:=zjf h (pl:=fun i=>some (i*size,size,z5V u)) (place:=fun i=>some (i*size,size)) (fun i=>rfl) (parts:=parts) (cs:=(zb0 n zs).map (A.t none)) (arr:=z6e z.cells (n*size))
   (by simp[z7m,z7U,k1]) (fun j x hx=>by
     simp only[Zd,Z4] at hx
     obtain⟨t,ht,rfl⟩:=hx
     exact⟨zh9 h5 (by rw[k1];exact Z5 _) ht _,fun _ e=>by cases e⟩) (fun x hx=>by
     obtain⟨t,ht,rfl⟩:=Zm.1 hx
     exact Zn.1 k3 t (zrm ht)) hxs
  have hzero:(z6e (if n*size=0 then #[] else z.cells) (n*size))=z6e z.cells (n*size):=by
   split
   · rename_i e;rw[e];simp[z6e]
   · rfl
  have hrun:(Instr.buildSlice t n (parts.map fun(i,x)=>(i,a.eval x)).toArray).run P w= .ok (.slice (some ⟨w.heap.size,0,none⟩) n n) {w with heap:=w.heap.push (.cells arr' el)}:=by
   unfold Instr.buildSlice
   simp only[Zc,hu,Z2,hsz]
   rw[if_neg (by omega)]
   by_cases e:n*size=0
   · rw[if_pos e]
     simp only[Zc,Zg,Z2]
     have:(Array.range (n*size)).map (fun x=>(#[]:Array Value)[x%(#[]:Array Value).size]!)=z6e z.cells (n*size):=by rw[e];simp[z6e]
     rw[this,g1]
     simp[newRow,newObj,Sem.run]
   · rw[if_neg e]
     have:(zeroValue el).run P w= .ok z w:=by simp[zeroValue,typeInfo,h2,hz]
     simp only[Zc,this,Zg,Z2]
     have:(Array.range (n*size)).map (fun x=>z.cells[x%z.cells.size]!)=z6e z.cells (n*size):=rfl
     rw[this,g1]
     simp[newRow,newObj,Sem.run]
  refine⟨_,_,⟨_,rfl⟩,hrun,?_,fun b hb=>(NewB.alloc w _).old hb⟩
  have hn2:n<=16777216:=ZJ (Nat.le_mul_of_pos_right n k2) k4
  obtain⟨K',R',z1,z2,z3⟩:=(h.newObjG (NewB.alloc w _) g4 (by omega) (.inr ⟨n,n,rfl⟩) (fun w' K' cs F hl hK hg hF hk=>.own (col d) _ n n size cs arr' el (0,0) F (fun i _=>by omega) (z1D d) hK hg (by rw[g3,z7U]) (by rw[hl,g2,g3,z7U]) k2 (Z5 _) (by unfold maxLen;omega) hF hk) (.inl rfl) (fun e=>by cases e) hf)
  exact⟨K',R',z1,z2,fun hmv hs=>z3 hmv (by unfold z6l at hs;rw[ht] at hs;simp only[hti,hxs] at hs;exact hs)⟩
theorem zaj(h:FRep w K R G fr a)(hf:z6d P fr t n parts d=some fr'):
 ∃v w',(∃p,v= .slice p n n)/\(Instr.buildSlice t n (parts.map fun(i,x)=>(i,a.eval x)).toArray).run P w= .ok v w'/\(∃K' R',FRep w' K' R' G fr' (a.put (some d) v)/\Step w K w' K'/\(z6l P fr t n parts d=true->∀M:Nat->Bool,M d=false->∀b,b<w.heap.size->KMc M (K b) (K' b)))/\ ∀b,b<w.heap.size->w'.heap[b]? =w.heap[b]? :=by
 obtain⟨v,w',h1,h2,⟨K',R',h3,h4,h5⟩,h6⟩:=zal h hf
 exact⟨v,w',h1,h2,⟨K',R',h3,h4,h5 rfl⟩,h6⟩
theorem zak(h:FRep w K R G fr a)(hf:z6d P fr t n parts d=some fr'):
 ∃v w',(Instr.buildSlice t n (parts.map fun(i,x)=>(i,a.eval x)).toArray).run P w= .ok v w'/\(∃K' R',FRep w' K' R' G fr' (a.put (some d) v)/\Step w K w' K'/\(z6l P fr t n parts d=true->∀M:Nat->Bool,M d=false->∀b,b<w.heap.size->KMc M (K b) (K' b)))/\ ∀b,b<w.heap.size->w'.heap[b]? =w.heap[b]? :=by
 obtain⟨v,w',_,h1,h2⟩:=zaj h hf
 exact⟨v,w',h1,h2⟩
theorem zh5(h:FRep w K R G fr a)(hf:z6d P fr t n parts d=some fr'):
 ∃v w',(Instr.buildSlice t n (parts.map fun(i,x)=>(i,a.eval x)).toArray).run P w= .ok v w'/\(∃K' R',FRep w' K' R' G fr' (a.put (some d) v)/\Step w K w' K')/\ ∀b,b<w.heap.size->w'.heap[b]? =w.heap[b]? :=by
 obtain⟨v,w',h1,⟨K',R',h2,h3,_⟩,h4⟩:=zak h hf
 exact⟨v,w',h1,⟨K',R',h2,h3⟩,h4⟩
def z7R(P:Program)(fr:Fr)(t:TypeId)(l c:Int)(d:Nat):Option Fr:=
 match z2w P t with
 |some ⟨.slice el,_,_,_⟩=>match z2w P el with
  |some ⟨u,size,bytes,some zs⟩=>
   if zs.length=size/\0<size/\0<=l/\l<=c/\c<=140737488355328/\bytes*c<=140737488355328 then
    zzh fr d (fun _=>.os size l.toNat (zb0 l.toNat zs)) (.one (.h d [])) []
   else none
  |_=>none
 |_=>none
theorem zbd{l c:Int}(h:FRep w K R G fr a)(hf:z7R P fr t l c d=some fr'):
 ∃v w',(Instr.makeSlice t (.int k l) (.int k' c)).run P w= .ok v w'/\(∃K' R',FRep w' K' R' G fr' (a.put (some d) v)/\Step w K w' K'/\(true=true->∀M:Nat->Bool,M d=false->∀b,b<w.heap.size->KMc M (K b) (K' b)))/\ ∀b,b<w.heap.size->w'.heap[b]? =w.heap[b]? :=by
 unfold z7R at hf
 split at hf
 case h_2=>cases hf
 case h_1 el s1 s2 s3 ht=>
 split at hf
 case h_2=>cases hf
 case h_1 u size bytes zs hti=>
 split at hf
 case isFalse=>cases hf
 case isTrue hcond=>
 obtain⟨k1,k2,l0,lc,c1,cb⟩:=hcond
 have hu:=z1U ht w
 have hsz:=z8u hti w
 simp only[] at hu hsz
 obtain⟨h1,j,h2,h3,h4,h5⟩:=z3E hti
 simp only[] at h3 h4 h5
 cases hz:j.zero with
 |none=>rw[hz] at h5;cases h5
 |some z=>
  rw[hz] at h5
  simp only[Z9] at h5
  have hlz:zs.length=z.cells.size:=by rw[←h5,z6f];simp
  have wl:IntKind.i64.wrap l=l:=IntWalk.i64_in _ (by omega)
  have wc:IntKind.i64.wrap c=c:=IntWalk.i64_in _ (by omega)
  have htl:¬((c<0||(bytes:Int)*c>2^48)||l<0||l>c)=true:=by
   simp only[Y7,decide_eq_true_eq,not_or];omega
  have hrun:(Instr.makeSlice t (.int k l) (.int k' c)).run P w= .ok (.slice (some ⟨w.heap.size,0,none⟩) l.toNat c.toNat) {w with heap:=w.heap.push (.cells (z6e z.cells (c.toNat*size)) el)}:=by
   unfold Instr.makeSlice
   have hti2:(typeInfo el).run P w= .ok j w:=by simp[typeInfo,h2]
   simp only[Zc,hu,Z2,asInt,asIntOf,Zg,hti2,h4,wl,wc]
   rw[if_neg htl]
   simp only[Zc,Zg,Z2,hsz]
   have hroom:(askRoom (c.toNat*bytes)).run P w= .ok () w:=by
    unfold askRoom
    split<;>simp[mark,Sem.run]
   simp only[hroom,hsz,Z2]
   by_cases e:c.toNat*size=0
   · rw[if_pos e]
     simp only[Zc,Zg,Z2]
     have:(Array.range (c.toNat*size)).map (fun x=>(#[]:Array Value)[x%(#[]:Array Value).size]!)=z6e z.cells (c.toNat*size):=by rw[e];simp[z6e]
     rw[this]
     simp[newRow,newObj,Sem.run]
   · rw[if_neg e]
     have:(zeroValue el).run P w= .ok z w:=by simp[zeroValue,typeInfo,h2,hz]
     simp only[Zc,this,Zg,Z2]
     have:(Array.range (c.toNat*size)).map (fun x=>z.cells[x%z.cells.size]!)=z6e z.cells (c.toNat*size):=rfl
     rw[this]
     simp[newRow,newObj,Sem.run]
  refine⟨_,_,hrun,?_,fun b hb=>(NewB.alloc w _).old hb⟩
  have hlc:l.toNat<=c.toNat:=by omega
  have hmul:l.toNat*size<=c.toNat*size:=Yc _ hlc
  refine zBm (h.newObjM (NewB.alloc w _) (xs:= []) (fun j x hx=>by cases hx) (Yt _) (.inr ⟨_,_,rfl⟩) (fun w' K' cs F hl hK hg hF hk=> ?_) (.inl rfl) (fun e=>by cases e) hf) (fun _=>by simp[zmO,z8D,zqW])
  refine .own (col d) _ l.toNat c.toNat size _ (z6e z.cells (c.toNat*size)) el (0,0) (fun j=>(z6e z.cells (c.toNat*size)).getD j undef) (fun i _=>by omega) (z1D d) hK hg (z7U _ _) (by rw[z7m,k1]) k2 hlc (by unfold maxLen;omega)
   (fun j hj=>z5z _ _ (by rw[z7U];rw[z7m,k1] at hj;omega)) (fun j t hj=> ?_)
  exact zh9 h5 (by rw[k1];exact hmul) hj _
theorem ziL{l c:Int}(h:FRep w K R G fr a)(hf:z7R P fr t l c d=some fr'):
 ∃v w',(Instr.makeSlice t (.int k l) (.int k' c)).run P w= .ok v w'/\(∃K' R',FRep w' K' R' G fr' (a.put (some d) v)/\Step w K w' K')/\ ∀b,b<w.heap.size->w'.heap[b]? =w.heap[b]? :=by
 obtain⟨v,w',h1,⟨K',R',h2,h3,_⟩,h4⟩:=zbd (k:=k) (k':=k') h hf
 exact⟨v,w',h1,⟨K',R',h2,h3⟩,h4⟩
end
section
structure Wrote(w w':World)(g:Nat)(arr arr':Array Value)(el:TypeId)(fz:Nat×Nat)(off:Nat)(vs:List Value):Prop where
 os:w'.os=w.os
 tape:w'.tape=w.tape
 output:w'.output=w.output
 size:w'.heap.size=w.heap.size
 new:w'.heap[g]? =some (.cells arr' el fz)
 oth:∀b,b≠g->w'.heap[b]? =w.heap[b]?
 len:arr'.size=arr.size
 cells:∀j,arr'[j]? =if off<=j/\j<off+vs.length then vs[j-off]? else arr[j]?
variable{a:Act}{e:E}{fr fr':Fr}{g:Nat}{G R:Nat->Value}{K:Nat->z0a}{P:Program}{t:TypeId}{av u:Value}{w:World}
theorem z9w{f:Obj->Obj}(b:Nat):(w.heap.modify g f)[b]? =if g=b then(w.heap[b]?).map f else w.heap[b]? :=by
 rw[Y2]
theorem zq4{o:Nat}{arr:Array Value}{el:TypeId}{fz:Nat×Nat}{v:Value}(hg:w.heap[g]? =some (.cells arr el fz))(ho:o<arr.size)(hfz:∀i,i<arr.size->¬(fz.1<=i/\fz.1≠fz.2))(h1:v.oneCell'=true):
 ∃w',(store ⟨g,o,none⟩ v).run P w= .ok () w'/\Wrote w w' g arr (arr.setIfInBounds o v) el fz o [v]:=by
 have hc:w.cell? ⟨g,o,none⟩=some arr[o]:=by simp[World.cell?,hg,ho]
 have hf:w.frozen? ⟨g,o,none⟩=false:=by
  obtain⟨lo,hi⟩:=fz
  have h0:=hfz o ho
  simp only at h0
  have h1:¬(lo<=o/\o<hi):=by omega
  simp only[World.frozen?,hg]
  simpa using h1
 have hrun:(store ⟨g,o,none⟩ v).run P w= .ok () (w.setCell ⟨g,o,none⟩ v):=by
  cases v<;>first|(cases h1;done)|simp[store,Sem.run,hc,hf]
 refine⟨_,hrun,rfl,rfl,rfl,by simp[World.setCell],?_,fun b hb=> ?_,by simp,fun j=> ?_⟩
 · simp only[World.setCell,z9w,if_true,hg,ZP];rfl
 · simp only[World.setCell,z9w];rw[if_neg (fun e=>hb e.symm)]
 · rw[ZZ]
   by_cases e:o=j
   · subst e;simp[ho]
   · rw[if_neg e,if_neg (by simp only[Zr,Ye];omega)]
theorem z6s{P:Program}{g o:Nat}{el:TypeId}{fz:Nat×Nat}:∀(vs:List Value) (i:Nat) (arr:Array Value) (w:World),w.heap[g]? =some (.cells arr el fz)->o+i+vs.length<=arr.size->
 (∀i,i<arr.size->¬(fz.1<=i/\fz.1≠fz.2))->(∀v∈vs,v.oneCell'=true)->∃w' arr',(storeCells ⟨g,o,none⟩ vs i).run P w= .ok () w'/\Wrote w w' g arr arr' el fz (o+i) vs
 | [],i,arr,w,hg,hl,hfz,h1=>⟨w,arr,rfl,rfl,rfl,rfl,rfl,hg,fun _ _=>rfl,rfl,fun j=>by rw[if_neg (by simp only[Ye];omega)]⟩
 |v::vs,i,arr,w,hg,hl,hfz,h1=>by
  simp only[Zr] at hl
  obtain⟨w1,r1,k1⟩:=zq4 (P:=P) (o:=o+i) (v:=v) hg (by omega) hfz (h1 v (by simp))
  obtain⟨w2,arr2,r2,k2⟩:=z6s (P:=P) (o:=o) vs (i+1) (arr.setIfInBounds (o+i) v) w1 k1.new (by simp;omega) (by simpa using hfz) (fun u hu=>h1 u (by simp[hu]))
  refine⟨w2,arr2,?_,k2.os.trans k1.os,k2.tape.trans k1.tape,k2.output.trans k1.output,k2.size.trans k1.size,k2.new,fun b hb=>(k2.oth b hb).trans (k1.oth b hb),by rw[k2.len];simp,fun j=> ?_⟩
  · simp only[storeCells,Zc,z8B,r1,Z2];exact r2
  · rw[k2.cells j,k1.cells j]
    simp only[Zr,Ye]
    by_cases e1:o+(i+1)<=j/\j<o+(i+1)+vs.length
    · rw[if_pos e1,if_pos (by omega),show j-(o+i)=(j-(o+(i+1)))+1 by omega,ZT]
    · rw[if_neg e1]
      by_cases e2:j=o+i
      · subst e2;rw[if_pos (by omega),if_pos (by omega)];simp
      · rw[if_neg (by omega),if_neg (by omega)]
def zhN(P:Program)(mv:Bool)(fr:Fr)(t:TypeId)(ad e:E):Option Fr:=
 match z2w P t with
 |none=>none
 |some ti=>match ad with
  | .one (.a id p off)=>match cellsE fr (z5V ti.u) e with
    |none=>none
    |some xs=>
     if xs.all (zai fr)=true/\xs.length=ti.size/\0<ti.size/\id<fr.nt/\xs.length<=1000 then
      match z2f fr.ob id with
      |none=>none
      |some root=>match sub root p with
       |none=>none
       |some box=>match z5o box with
        |none=>none
        |some cs=>
         if off+ti.size<=cs.length then
          match upd root p (z7Y box (setCells cs off (xs.map za8))) with
          |none=>none
          |some root'=>zvv mv {fr with tm:=z6J (zdH id p off xs.length) (if xs.any zb4 then putR fr.tm fr.nt xs else fr.tm),ob:=z6h fr.ob id root'} id (z8D p off fr.nt xs)
         else none
     else none
  |_=>none
def zrV(P:Program)(fr:Fr)(t:TypeId)(ad e:E):Option Fr:=zhN P false fr t ad e
theorem zdw{mv:Bool}{ad:E}(h:FRep w K R G fr a)(had:ERep w K R fr.ob ad av)(he:ERep w K R fr.ob e u)(hf:zhN P mv fr t ad e=some fr'):
 ∃w',(Instr.storeAt t av u).run P w= .ok () w'/\(∃K' R',FRep w' K' R' G fr' a/\Step w K w' K')/\(∃id p off,ad= .one (.a id p off)/\ ∀b,b<w.heap.size->(¬ ∃s,K b=(id+2)::s)->w'.heap[b]? =w.heap[b]?):=by
 unfold zhN at hf
 split at hf
 case h_1=>cases hf
 case h_2 ti hti=>
 split at hf
 case h_2=>cases hf
 case h_1 id p off=>
 split at hf
 case h_1=>cases hf
 case h_2 xs hxs=>
 split at hf
 case isFalse=>cases hf
 case isTrue hcond=>
 obtain⟨hall,hlen,hpos,hid,hx1000⟩:=hcond
 split at hf
 case h_1=>cases hf
 case h_2 root hroot=>
 split at hf
 case h_1=>cases hf
 case h_2 box hsub=>
 split at hf
 case h_1=>cases hf
 case h_2 cs hcs=>
 split at hf
 case isFalse=>cases hf
 case isTrue hoff=>
 split at hf
 case h_1=>cases hf
 case h_2 root' hupd=>
 obtain⟨c1,c2,c3⟩:=h.cellsE he hxs hall
 obtain⟨hv,g,n1,n4,rfl,t0,n2,n3⟩:=had
 obtain⟨hv2,m1,hrep⟩:=(h.ob id root hroot).sub (z1D id) hsub
 rw[n1] at m1;cases m1
 obtain⟨g2,arr,el,fz,F,b1,b2,b3,b4,b5,b6,b7,b8,b9,b10⟩:=hrep.box hcs (show off<cs.length by omega)
 rw[n4] at b1;cases b1
 have hul:u.cells.toList.length=xs.length:=by simpa using c1
 obtain⟨w',arr',r1,k1⟩:=z6s (P:=P) (o:=off) u.cells.toList 0 arr w b4 (by omega) b5 c3
 have hrun:(Instr.storeAt t (.pointer (some ⟨g,off,none⟩)) u).run P w= .ok () w':=by
  simp only[Instr.storeAt,Instr.sureAddr,Zc,Zg,Z2,storeVar,z8u hti]
  rw[if_neg (by omega)]
  exact r1
 simp only[Yx] at k1
 have hne:∀b,(¬ ∃s,K b=(id+2)::s)->b≠g:=fun b hb e=>by
  subst e
  exact hb ⟨p,by rw[b3];rfl⟩
 have hstep:Step w K w' K:=⟨k1.os,k1.tape,k1.output,by rw[k1.size];exact Z5 _,fun b hb hc=>⟨rfl,k1.oth b (hne b (by
  rintro⟨s,hs⟩
  rcases hc with hc|hc<;>rw[hs] at hc<;>simp at hc))⟩,.one b4 k1.new k1.len k1.oth⟩
 refine⟨w',hrun,?_,id,p,off,rfl,fun b hb hc=>k1.oth b (hne b hc)⟩
 have key:∀(G1:Nat->Value) (tm1:List (Nat×E)),FRep w K R G1 {fr with tm:=tm1} a->(∀j,j<xs.length->xs.any zb4=true->G1 (fr.nt+j)=u.cells.getD j undef)->
  ∀fr',zvv mv {fr with tm:=z6J (zdH id p off xs.length) tm1,ob:=z6h fr.ob id root'} id (z8D p off fr.nt xs)=some fr'->∃K' R',FRep w' K' R' G1 fr' a/\Step w K w' K'/\fr'.nt=fr.nt:=by
  intro G1 tm1 h1 hG fr' hf
  have hl2:(xs.map za8).length=xs.length:=by simp
  have h2:=h1.store (w':=w') (K':=K) (xs:=xs.map za8) (vs:=u.cells.toList) hroot hsub hcs (by rw[hl2];omega) (by rw[hl2];omega) hupd n1 n4 b4 k1.new k1.size k1.oth (by rw[hl2];exact hul)
   ⟨k1.len,fun j=>by rw[hl2,←hul];exact k1.cells j⟩ (fun _ _ e=>e) (fun _ _ _ _ _ _ _=>rfl) (fun j x v hx hv=>by
     simp only[Zd,Z4] at hx
     obtain⟨y,hy,rfl⟩:=hx
     have hr:=c2 j y hy
     have hvv:u.cells.getD j undef=v:=by
      rw[Zv] at hv
      simp[Z7,hv]
     rw[hvv] at hr
     have hk:Keep w w' K K (fun c=>∃i s,c=(i+2)::s/\i≠id):=⟨fun b hb e=>⟨e,k1.oth b (hne b (by rintro⟨s,hs⟩;rw[hs] at e;cases e))⟩,fun b hb ⟨i,s,e,hi⟩=>⟨rfl,k1.oth b (hne b (by
      rintro⟨s',hs⟩;rw[hs] at e;simp at e;exact hi e.1.symm))⟩,by rw[k1.size];exact Z5 _⟩
     have h0:=zgl hr []
     exact(TRep.fz h0 hk.fro hk.size).any rfl _)
  rw[hl2] at h2
  obtain⟨K2,R2,e1,e2,e3,_⟩:=h2.fin (l:=z8D p off fr.nt xs) (fun q r hm=>by
   obtain⟨j,j1,rfl,rfl⟩:=zcr hm
   have hany:xs.any zb4=true:=by
    cases hb:xs.any zb4 with
    |true=>rfl
    |false=>rw[zdA hb] at hm;cases hm
   refine⟨?_,by omega⟩
   have hju:j<u.cells.size:=by omega
   have hreg:z9I a G1 (fr.nt+j)=u.cells[j]:=by
    rw[z9I,if_neg (by rw[h.nt];omega),hG j j1 hany]
    simp[Z7,hju]
   rw[hreg]
   have hcell:w'.cell? ⟨g,off+j,none⟩=some u.cells[j]:=by
    rw[z1E k1.new,k1.cells,if_pos (by omega),show off+j-off=j by omega,Zv,YG hju]
   have hnav':nav w' (R id) p=some hv:=by
    rw[z6x (h.ob id root hroot) (z1D id) (by rw[hsub];rfl) (fun r j2 s gb hq hKb hb=> ?_)]
    · exact n1
    · refine z0Y (k1.oth gb ?_) j2
      intro e
      subst e
      rw[b3] at hKb
      have:=YQ hKb
      rw[hq] at this
      have:=congrArg List.length this
      simp at this
   rw[z5D hnav']
   simp only[nav]
   rcases b9 with e|⟨n,cap,e⟩<;>rw[e]<;>simp[zep,hcell]) hf
  exact⟨K2,R2,e1,hstep.trans e2,e3⟩
 by_cases hany:xs.any zb4=true
 · rw[if_pos hany] at hf
   obtain⟨K2,R2,e1,e2,e3⟩:=key (gv G fr.nt (fun j=>u.cells.getD j undef) xs.length) _ (h.putR (Z5 _) c2) (fun j hj _=>by simp only[gv];rw[if_pos (by omega)];congr 1;omega) fr' hf
   refine⟨K2,R2,e1.reG fun i hi=> ?_,e2⟩
   by_cases hlt:i<fr'.nt+1000
   · exact .inl (zgB hf (zey hany) i hi hlt)
   · right;simp only[gv];rw[if_neg (by omega)]
 · rw[if_neg hany] at hf
   obtain⟨K2,R2,e1,e2,e3⟩:=key G fr.tm h (fun j hj e=>absurd e hany) fr' hf
   exact⟨K2,R2,e1,e2⟩
theorem zrU{ad:E}(h:FRep w K R G fr a)(had:ERep w K R fr.ob ad av)(he:ERep w K R fr.ob e u)(hf:zrV P fr t ad e=some fr'):
 ∃w',(Instr.storeAt t av u).run P w= .ok () w'/\(∃K' R',FRep w' K' R' G fr' a/\Step w K w' K')/\(∃id p off,ad= .one (.a id p off)/\ ∀b,b<w.heap.size->(¬ ∃s,K b=(id+2)::s)->w'.heap[b]? =w.heap[b]?):=zdw h had he hf
def zlI(P:Program)(fr:Fr)(t:TypeId)(parts:List (Nat×Operand)):Option E:=
 match z2w P t with
 |some ⟨.struct fields,_,_,some zs⟩=>
  if zs.all zcW=true/\(fields.toList.all fun f=>(z2w P f.type).isSome)=true then
   match zer fr (fun i=>match fields[i]? with|some f=>(match z2w P f.type with|some ti=>some (f.offset,ti.size,z5V ti.u)|none=>none)|none=>none) (zs.map (A.t none)) parts with
   |some xs=>some (.ag xs)
   |none=>none
  else none
 |some ⟨.array _ el,_,_,some zs⟩=>match z2w P el with
  |some ti=>if zs.all zcW=true then
    (match zer fr (fun i=>some (i*ti.size,ti.size,z5V ti.u)) (zs.map (A.t none)) parts with
    |some xs=>some (.ag xs)
    |none=>none)
   else none
  |none=>none
 |_=>none
theorem zhS{P:Program}{w:World}:∀(l:List Field),(l.all fun f=>(z2w P f.type).isSome)=true->(l.mapM (fun f=>do pure (f.offset,←sizeOf f.type):Field->Sem (Nat×Nat))).run P w=
 .ok (l.map fun f=>(f.offset,match z2w P f.type with|some ti=>ti.size|none=>0)) w
 | [],h=>by simp
 |f::l,h=>by
  simp only[Xx,Z6] at h
  obtain⟨ti,hti⟩:=ZX.1 h.1
  have ih:=zhS (P:=P) (w:=w) l h.2
  rw[List.mapM_cons]
  simp only[Zc,z8u hti,Z2,Zg,ih,Zs,hti]
theorem zv3{parts:List (Nat×Operand)}(h:FRep w K R G fr a)(hf:zlI P fr t parts=some e):
 ∃v,ERep w K R fr.ob e v/\ ∀w',(Instr.build t (parts.map fun(i,x)=>(i,a.eval x)).toArray).run P w'= .ok v w':=by
 have fin:∀ {zs:List T} {z:Value} {sl:List Nat} {pl place xs},zTs sl z.cells.toList=zs->zs.all zcW=true->(∀i,place i=(pl i).map fun(x:Nat×Nat×Bool)=>(x.1,x.2.1))->zer fr pl (zs.map (A.t none)) parts=some xs->
  ∃arr',Instr.fill place z.cells (parts.map fun(i,x)=>(i,a.eval x))=some arr'/\ERep w K R fr.ob (.ag xs) (.agg arr'):=fun {zs z sl pl place xs} hz hc hp hx=>by
  obtain⟨arr',g1,g2,g3,g4,g5⟩:=zjf h (pl:=pl) (place:=place) hp (parts:=parts) (cs:=zs.map (A.t none)) (arr:=z.cells) (by rw[←hz];simp[z6f]) (fun j x hx=>by
   simp only[Zd,Z4] at hx
   obtain⟨t,ht,rfl⟩:=hx
   rw[←hz] at ht
   obtain⟨v,hv,hr⟩:=zlX ht
   rw[Zv] at hv
   have:z.cells.getD j undef=v:=by simp[Z7,hv]
   rw[this]
   exact⟨hr _ _ _,fun _ e=>by cases e⟩) (fun x hx=>by
   obtain⟨t,ht,rfl⟩:=Zm.1 hx
   exact Zn.1 hc t ht) hx
  exact⟨arr',g1,arr',rfl,g2.symm,g4⟩
 unfold zlI at hf
 split at hf
 · rename_i fields s1 s2 zs ht
   split at hf
   case isFalse=>cases hf
   case isTrue hcond=>
   split at hf
   case h_2=>cases hf
   case h_1 xs hxs=>
   cases hf
   obtain⟨h1,j,h2,h3,h4,h5⟩:=z3E ht
   simp only[] at h5
   cases hz:j.zero with
   |none=>rw[hz] at h5;cases h5
   |some z=>
    rw[hz] at h5
    simp only[Z9] at h5
    have hu:=fun w'=>z1U ht w'
    simp only[] at hu
    have hzr:∀w',(zeroValue t).run P w'= .ok z w':=fun w'=>by simp[zeroValue,typeInfo,h2,hz]
    obtain⟨arr',g1,g2⟩:=fin (place:=((fields.toList.map fun f=>(f.offset,match z2w P f.type with|some ti=>ti.size|none=>0)).toArray[·]?)) h5 hcond.1 (fun i=>by
     simp only[X5,Zd,Zv]
     cases hfi:fields[i]? with
     |none=>rfl
     |some f=>
      have hm:f∈fields.toList:=ZM (by rw[Zv];exact hfi)
      obtain⟨ti,hti⟩:=ZX.1 (Zn.1 hcond.2 f hm)
      simp[hti]) hxs
    refine⟨_,g2,fun w'=> ?_⟩
    have hpl:(fields.mapM (fun f=>do pure (f.offset,←sizeOf f.type):Field->Sem (Nat×Nat))).run P w'= .ok (fields.toList.map fun f=>(f.offset,match z2w P f.type with|some ti=>ti.size|none=>0)).toArray w':=by
     have:=zhS (P:=P) (w:=w') fields.toList hcond.2
     rw[Array.mapM_eq_mapM_toList]
     simp only[map_eq_pure_bind,Zc,this,Z2,Zg]
    unfold Instr.build
    simp only[Zc,hzr,hu,Z2]
    simp only[Zc,hpl,Z2,g1,Zg]
 · rename_i len el s1 s2 zs ht
   split at hf
   case h_2=>cases hf
   case h_1 ti hti=>
   split at hf
   case isFalse=>cases hf
   case isTrue hcond=>
   split at hf
   case h_2=>cases hf
   case h_1 xs hxs=>
   cases hf
   obtain⟨h1,j,h2,h3,h4,h5⟩:=z3E ht
   simp only[] at h5
   cases hz:j.zero with
   |none=>rw[hz] at h5;cases h5
   |some z=>
    rw[hz] at h5
    simp only[Z9] at h5
    have hu:=fun w'=>z1U ht w'
    simp only[] at hu
    have hzr:∀w',(zeroValue t).run P w'= .ok z w':=fun w'=>by simp[zeroValue,typeInfo,h2,hz]
    obtain⟨arr',g1,g2⟩:=fin (place:=fun i=>some (i*ti.size,ti.size)) h5 hcond (fun i=>rfl) hxs
    refine⟨_,g2,fun w'=> ?_⟩
    unfold Instr.build
    simp only[Zc,hzr,hu,Z2,z8u hti,g1,Zg]
 · cases hf
end
section
variable{cs:List T}{sz:Nat}{K:Nat->z0a}{v:Value}{w:World}
theorem zg0{c:z0a}{n:Nat}(h:TRep w K c v (.os sz n cs)):
 (v= .slice none 0 0/\n=0/\cs= [])∨ ∃g cap arr e fz,∃F:Nat->Value,v= .slice (some ⟨g,0,none⟩) n cap/\c≠ []/\K g=c/\w.heap[g]? =some (.cells arr e fz)/\arr.size=cap*sz/\cs.length=n*sz/\0<sz/\n<=cap/\cap<=maxLen/\
   (∀i,i<arr.size->¬(fz.1<=i/\fz.1≠fz.2))/\(∀j,j<cs.length->arr[j]? =some (F j))/\ ∀j t,cs[j]? =some t->TRep w K (c++ [j]) (F j) t:=by
 cases h with
 |nil=>exact .inl ⟨rfl,rfl,rfl⟩
 |own c g n cap size cs arr e fz F hfz hc0 hK hg hs hl hz hn hc hF hh=>exact .inr ⟨g,cap,arr,e,fz,F,rfl,hc0,hK,hg,hs,hl,hz,hn,hc,hfz,hF,hh⟩
theorem zbY{P:Program}{d:Nat}{n m:Nat}{news:List T}{st xt el ty:TypeId}{ti tx:TyI}{xval:Value}{us:List Value}{s1 s2:Nat}{s3:Option (List T)}{zs:List T}(hsz:sz=0∨sz=ti.size)
 (hst:z2w P st=some ⟨.slice el,s1,s2,s3⟩) (hti:z2w P el=some ti) (hzs:ti.zero=some zs) (hzl:zs.length=ti.size) (hpos:0<ti.size) (hxt:z2w P xt=some tx) (hnx:∀k,tx.u≠ .int k)
 (hv:TRep w K (col d) v (.os sz n cs)∨(0<m/\0<n/\(∃p,v= .slice p n n)/\TRep w K [] v (.sl n cs)/\cs.length=n*ti.size))
 (hlen:∀w'',(Builtin.lenOf xval).run P w''= .ok m w'') (hfc:∀w'':World,w''.heap=w.heap->(Builtin.firstCells ti.size m xval).run P w''= .ok us.toArray w'') (hul:us.length=m*ti.size) (hnl:news.length=us.length)
 (h1:∀u∈us,u.oneCell'=true) (hnew:∀(j:Nat) (t:T) (u:Value),news[j]? =some t->us[j]? =some u->TRep w K [] u t)
 (hb:(n+m)*ti.bytes<=140737488355328) (hnm:n+m<=4611686018427387904):
 ∃v' w',(Builtin.append_ #[st,xt] ty #[v,xval]).run P w= .ok v' w'/\TRep w' (fun b=>if b=w.heap.size then col d else K b) (col d) v' (.os ti.size (n+m) (cs++news))/\
  Keep w w' K (fun b=>if b=w.heap.size then col d else K b) (But d)/\Step w K w' (fun b=>if b=w.heap.size then col d else K b)/\
  (cs.length=n*ti.size)/\(∀g,z6O v'=some g->(w'.heap[g]?).isSome)/\(∀j u,us[j]? =some u->zep w' v' (n*ti.size+j)=some u):=by
 have hu:=z1U hst w
 have hux:=z1U hxt w
 simp only[] at hu
 obtain⟨q1,ji,q2,q3,q4,q5⟩:=z3E hti
 rw[hzs] at q5
 cases hz:ji.zero with
 |none=>rw[hz] at q5;cases q5
 |some z=>
 rw[hz] at q5
 simp only[Z9] at q5
 have hzsz:z.cells.size=ti.size:=by rw[←hzl,←q5,z6f];simp
 have htyi:∀w'',(typeInfo el).run P w''= .ok ji w'':=fun w''=>by simp[typeInfo,q2]
 have hzv:∀w'',(zeroValue el).run P w''= .ok z w'':=fun w''=>by simp[zeroValue,typeInfo,q2,hz]
 have hszr:∀w'',(sizeOf el).run P w''= .ok ti.size w'':=fun w''=>z8u hti w''
 have hxm:(match tx.u with| .int _=>true|_=>false)=false:=by
  cases hh:tx.u<;>first|rfl|exact absurd hh (hnx _)
 let K':Nat->z0a:=fun b=>if b=w.heap.size then col d else K b
 have hK':∀b,b<w.heap.size->K' b=K b:=fun b hb=>by show(if b=w.heap.size then col d else K b)=K b;rw[if_neg (by omega)]
 have hK0:K' w.heap.size=col d:=by simp[K']
 have h48:Builtin.nextslicecap (n+m) (n+m)*0=0:=by omega
 have hmx:(n:Nat)+m<=maxLen:=by unfold maxLen;omega
 have grow:∀(b0:Option Addr) (cap:Nat) (olds:List Value) (F:Nat->Value),v= .slice b0 n cap->cap<n+m->olds.length=n*ti.size->(∀w'':World,w''.heap=w.heap->(Builtin.firstCells ti.size n v).run P w''= .ok olds.toArray w'')->
  cs.length=n*ti.size->(∀j,j<cs.length->olds[j]? =some (F j))->(∀j t,cs[j]? =some t->TRep w K (col d++ [j]) (F j) t)->
  ∃v' w',(Builtin.append_ #[st,xt] ty #[v,xval]).run P w= .ok v' w'/\TRep w' K' (col d) v' (.os ti.size (n+m) (cs++news))/\Keep w w' K K' (But d)/\Step w K w' K'/\(cs.length=n*ti.size)/\(∀g,z6O v'=some g->(w'.heap[g]?).isSome)/\(∀j u,us[j]? =some u->zep w' v' (n*ti.size+j)=some u):=by
  intro b0 cap olds F hve hcap hol hofc hcl hoF hoR
  subst hve
  have hfit:¬Builtin.nextslicecap (n+m) cap*ti.bytes>2^48:=by
   have:=growslice_fits hcap hb;omega
  let nc:=grownCap w (n+m) cap el
  have hnc:n+m<=nc:=grownCap_ge w (n+m) cap el
  have hncm:nc<=maxLen:=grownCap_le_maxLen w (n+m) cap el hmx
  let arr:Array Value:=olds.toArray++us.toArray++Builtin.zeroCells z.cells (nc-(n+m))
  have hzc:(Builtin.zeroCells z.cells (nc-(n+m))).size=(nc-(n+m))*ti.size:=by simp[Builtin.zeroCells,hzsz]
  have harr:arr.size=nc*ti.size:=by
   simp only[arr,Xw,XT,hzc,hol,hul]
   rw[←Yi,←Yi];congr 1;omega
  have hrun:(Builtin.append_ #[st,xt] ty #[.slice b0 n cap,xval]).run P w= .ok (.slice (some ⟨w.heap.size,0,none⟩) (n+m) nc) {w with drawn:=w.drawn+1,heap:=w.heap.push (.cells arr el)}:=by
   unfold Builtin.append_
   simp only[X5,X3,ZT,Zc,hu,Z2,hszr,hux,Zg,hxm,ZR,if_false,hlen,XN,if_true]
   rw[if_neg (by omega)]
   simp only[Zc,htyi,Z2,q4]
   rw[if_neg (by
    intro hc
    have:IntKind.i64.max=9223372036854775807:=rfl
    rw[this] at hc
    omega)]
   simp only[Zc,Zg,Z2,htyi,q4]
   rw[if_neg hfit]
   have hch:(choose (.appendCap (n+m) cap el)).run P w= .ok nc {w with drawn:=w.drawn+1}:=by
    simp[choose,Sem.run,Question.forced,nc,grownCap]
   have hroom:∀x w'',(askRoom x).run P w''= .ok () w'':=fun x w''=>by
    unfold askRoom
    split<;>simp[mark,Sem.run]
   simp only[Zc,Zg,Z2,hch,htyi,hroom,hofc {w with drawn:=w.drawn+1} rfl,hfc {w with drawn:=w.drawn+1} rfl,hzv]
   simp[newRow,newObj,Sem.run,arr]
   refine⟨?_,rfl,rfl⟩
   show w.heap.push _=_
   rw[←List.append_toArray,Array.append_assoc]
  have hnew':({w with drawn:=w.drawn+1,heap:=w.heap.push (.cells arr el)}:World).heap[w.heap.size]? =some (.cells arr el (0,0)):=by
   show(w.heap.push _)[w.heap.size]? =_
   rw[Yk,if_pos rfl]
  have hold':∀b,b<w.heap.size->({w with drawn:=w.drawn+1,heap:=w.heap.push (.cells arr el)}:World).heap[b]? =w.heap[b]? :=fun b hb=>by
   show(w.heap.push _)[b]? =_
   rw[Yk,if_neg (by omega)]
  have hk:Keep w {w with drawn:=w.drawn+1,heap:=w.heap.push (.cells arr el)} K K' (fun _=>True):=⟨fun b hb e=>⟨(hK' b hb).trans e,hold' b hb⟩,fun b hb _=>⟨hK' b hb,hold' b hb⟩,by simp⟩
  have hget1:∀j,j<olds.length->arr[j]? =olds[j]? :=fun j hj=>by
   simp only[arr,X8,XT,Xw]
   rw[if_pos (by omega),if_pos hj];simp
  have hget2:∀j,j<us.length->arr[n*ti.size+j]? =us[j]? :=fun j hj=>by
   simp only[arr,X8,XT,Xw]
   rw[if_pos (by omega),if_neg (by omega),show n*ti.size+j-olds.length=j by omega];simp
  refine⟨_,_,hrun,?_,hk.mono fun _ _=>trivial,⟨rfl,rfl,rfl,by simp,fun b hb _=>⟨hK' b hb,hold' b hb⟩,.olds hold'⟩,hcl,fun g hg=>by cases hg;rw[hnew'];rfl,fun j u hj=> ?_⟩
  · refine .own (col d) _ (n+m) nc ti.size _ arr el (0,0) (fun j=>arr.getD j undef) (fun i _=>by omega) (z1D d) hK0 hnew' harr (by rw[Za,hcl,hnl,hul,Yi]) hpos hnc hncm (fun j hj=>z5z _ _ ?_) (fun j t ht=> ?_)
    · rw[Za,hcl,hnl,hul,←Yi] at hj
      rw[harr]
      exact Zx hj (Yc _ hnc)
    · by_cases hj:j<cs.length
      · rw[ZL hj] at ht
        have e1:arr.getD j undef=F j:=by
         rw[Z7,hget1 j (by omega),hoF j hj];rfl
        rw[e1]
        exact(hoR j t ht).keep hk fun _ _=>trivial
      · rw[Y5 (by omega)] at ht
        have hlt:j-cs.length<news.length:=(Z8.1 ht).1
        have hlt':j-cs.length<us.length:=by omega
        have e1:arr.getD j undef=us[j-cs.length]:=by
         have e2:=hget2 (j-cs.length) (by omega)
         rw[show n*ti.size+(j-cs.length)=j by omega] at e2
         rw[Z7,e2,Z1 hlt'];rfl
        rw[e1]
        exact(TRep.fz (hnew _ t _ ht (Z1 hlt')) hk.fro hk.size).any rfl _
  · have hlt:=(Z8.1 hj).1
    simp only[zep]
    rw[z1E hnew',hget2 j hlt];exact hj
 rcases hv with hv|⟨hm0,hn0,⟨p,rfl⟩,hv,hcl⟩
 rotate_left
 · generalize hvv:Value.slice p n n=vv at hv
   generalize htt:T.sl n cs=tt at hv
   cases hv with
   |emp c a cap hc=>
    cases htt
    omega
   |fro c g o n' cap cs' F hK hg hn hc hF hh=>
    cases htt;cases hvv
    refine grow _ n ((List.range (n*ti.size)).map F) F rfl (by omega) (by simp) (fun w'' hw''=> ?_) hcl (fun j hj=> ?_) (fun j t ht=>(hh j t ht).any rfl _)
    · have:=run_loadCells_list (P:=P) w'' ⟨g,o,none⟩ ((List.range (n*ti.size)).map F) (fun j v hv=>by
       simp only[Zd,Z4] at hv
       obtain⟨i,hi,rfl⟩:=hv
       obtain⟨h2,h3⟩:=Z8.1 hi
       simp at h2 h3;subst h3
       rw[z8B,z0Y (show w''.heap[g]? =w.heap[g]? by rw[hw''])]
       exact hF _ (by omega))
      simpa[Builtin.firstCells] using this
    · have hj':j<n*ti.size:=by omega
      simp[hj']
   |_=>cases htt
 rcases zg0 hv with⟨rfl,rfl,rfl⟩|⟨g,cap,arr,e,fz,F,rfl,hc0,hKg,hg,hs,hl,hz',hn,hc,hfz,hF,hh⟩
 ·
  by_cases hm:m=0
  · subst hm
    have hus:us= []:=ZW (by rw[hul];simp)
    subst hus
    have hnews:news= []:=ZW (by simpa using hnl)
    subst hnews
    have hrun:(Builtin.append_ #[st,xt] ty #[.slice none 0 0,xval]).run P w= .ok (.slice none 0 0) w:=by
     unfold Builtin.append_
     simp only[X5,X3,ZT,Zc,hu,Z2,hszr,hux,Zg,hxm,ZR,if_false,hlen,XN,if_true]
     rw[if_pos (by omega)]
     simp only[Zc,hfc w rfl,Z2,Zg]
    exact⟨_,w,hrun,.nil _ _,⟨fun b hb e=>⟨(hK' b hb).trans e,rfl⟩,fun b hb _=>⟨hK' b hb,rfl⟩,Z5 _⟩,⟨rfl,rfl,rfl,Z5 _,fun b hb _=>⟨hK' b hb,rfl⟩,.same rfl⟩,by simp,fun g hg=>(by cases hg),fun j u hj=>(by cases hj)⟩
  · exact grow none 0 [] (fun _=>undef) rfl (by omega) (by simp) (fun w'' _=>by simp[Builtin.firstCells]) (by simp) (fun j hj=>by simp at hj) (fun j t ht=>by cases ht)
 · obtain rfl:sz=ti.size:=by omega
   by_cases hroom:n+m<=cap
   ·
    have hle:(n+m)*ti.size<=cap*ti.size:=Yc _ hroom
    obtain⟨w',arr',r1,k1⟩:=z6s (P:=P) (g:=g) (o:=n*ti.size) us 0 arr w hg (by rw[hs,hul,Yx,←Yi];exact hle) hfz h1
    have hrun:(Builtin.append_ #[st,xt] ty #[.slice (some ⟨g,0,none⟩) n cap,xval]).run P w= .ok (.slice (some ⟨g,0,none⟩) (n+m) cap) w':=by
     unfold Builtin.append_
     simp only[X5,X3,ZT,Zc,hu,Z2,hszr,hux,Zg,hxm,ZR,if_false,hlen,XN,if_true]
     rw[if_pos hroom]
     simp only[Zc,hfc w rfl,Z2,z8B,Zp]
     rw[r1]
     simp
    simp only[Yx] at k1
    have hne:∀b,K b≠col d->b≠g:=fun b hb e=>by subst e;exact hb hKg
    have hsz':w'.heap.size=w.heap.size:=k1.size
    have hkk:Keep w w' K K' (fun c=>c≠col d):=⟨fun b hb e=>⟨(hK' b hb).trans e,k1.oth b (hne b (by rw[e];simp[col]))⟩,fun b hb hc=>⟨hK' b hb,k1.oth b (hne b hc)⟩,by omega⟩
    refine⟨_,w',hrun,?_,hkk.mono fun c ⟨i,s,e,hi⟩=>(by rw[e];intro e2;simp[col] at e2;exact hi e2.1),⟨k1.os,k1.tape,k1.output,by omega,fun b hb hc=>⟨hK' b hb,k1.oth b (hne b (by rcases hc with e|e<;>rw[e]<;>simp[col]))⟩,.one hg k1.new k1.len k1.oth⟩,hl,
     fun g' hg'=>by cases hg';rw[k1.new];rfl,fun j u hj=> ?_⟩
    · refine .own (col d) g (n+m) cap ti.size _ arr' e fz (fun j=>arr'.getD j undef) (by rw[k1.len];exact hfz) (z1D d) ((hK' g (z0P hg)).trans hKg) k1.new (by rw[k1.len,hs]) (by rw[Za,hl,hnl,hul,Yi]) hz' hroom hc (fun j hj=>z5z _ _ ?_) (fun j t ht=> ?_)
      · rw[Za,hl,hnl,hul,←Yi] at hj
        rw[k1.len,hs];omega
      · by_cases hj:j<cs.length
        · rw[ZL hj] at ht
          have e1:arr'.getD j undef=F j:=by
           rw[Z7,k1.cells j,if_neg (by omega),hF j hj];rfl
          rw[e1]
          exact(hh j t ht).keep hkk fun s _=>by simp[col]
        · rw[Y5 (by omega)] at ht
          have hlt:j-cs.length<news.length:=(Z8.1 ht).1
          have hlt':j-cs.length<us.length:=by omega
          have e1:arr'.getD j undef=us[j-cs.length]:=by
           rw[Z7,k1.cells j,if_pos (by omega),show j-n*ti.size=j-cs.length by omega,Z1 hlt'];rfl
          rw[e1]
          exact(TRep.fz (hnew _ t _ ht (Z1 hlt')) hkk.fro hkk.size).any rfl _
    · have hlt:=(Z8.1 hj).1
      simp only[zep]
      rw[z1E k1.new,k1.cells,if_pos (by omega),show n*ti.size+j-n*ti.size=j by omega];exact hj
   ·
    refine grow (some ⟨g,0,none⟩) cap ((List.range (n*ti.size)).map fun j=>arr.getD j undef) F rfl (by omega) (by simp) (fun w'' hw''=> ?_) hl (fun j hj=> ?_) hh
    · have hle:n*ti.size<=cap*ti.size:=Yc _ hn
      have:=run_loadCells_list (P:=P) w'' ⟨g,0,none⟩ ((List.range (n*ti.size)).map fun j=>arr.getD j undef) (fun j v hv=>by
       simp only[Zd,Z4] at hv
       obtain⟨i,hi,rfl⟩:=hv
       obtain⟨h2,h3⟩:=Z8.1 hi
       simp at h2 h3;subst h3
       rw[z8B,Zp,z1E (w:=w'') (by rw[hw''];exact hg)]
       exact z5z _ _ (by rw[hs];omega))
      simpa[Builtin.firstCells] using this
    · rw[hl] at hj
      have hj2:j<arr.size:=by
       rw[hs];exact Zx hj (Yc _ hn)
      have:=hF j (by omega)
      simp[hj,Z7,this]
end
section
def zvb(fr:Fr)(d:Nat)(e:E):Option Fr:=
 match e with
 | .one (.k (.slice none 0 0))=>some {fr with tm:=z6J (kill d) fr.tm,ob:=z6h fr.ob d (.os 0 0 [])}
 | .one (.h id p)=>zdu fr id p d
 |_=>none
def zju(e:E):List Nat:=match e with| .one (.h id _)=> [id]|_=> []
theorem znU{fr fr':Fr}{id d:Nat}{p:List Nat}(hs:zdu fr id p d=some fr'):fr'.nt=fr.nt:=by
 unfold zdu at hs
 split at hs
 · cases hs
 · split at hs
   · cases hs
   · split at hs
     · cases hs;rfl
     · split at hs
       · cases hs
       · cases hs;rfl
theorem zpb{w:World}{K:Nat->z0a}{R G:Nat->Value}{fr fr1:Fr}{a:Act}{d:Nat}{e:E}{v:Value}(h:FRep w K R G fr a)(he:ERep w K R fr.ob e v)(hf:zvb fr d e=some fr1):
 ∃K1 R1,FRep w K1 R1 G fr1 a/\Step w K w K1/\R1 d=v/\fr1.nt=fr.nt/\(∀b i s,K b=(i+2)::s->i∉zju e->K1 b=K b/\i≠d∨K1 b= [1]/\i=d):=by
 unfold zvb at hf
 split at hf
 · cases hf
   obtain rfl:v= .slice none 0 0:=he
   have:=h.replace (d:=d) (w':=w) (K':=fun b=>if(K b).head?=some (d+2) then [1] else K b) (v:=.slice none 0 0) (t:=.os 0 0 []) ⟨fun b hb e=>⟨by simp[e],rfl⟩,fun b hb ⟨i,s,e,hi⟩=>⟨by simp[e,hi],rfl⟩,Z5 _⟩ (.nil _ _)
   refine⟨_,_,this,⟨rfl,rfl,rfl,Z5 _,fun b hb hc=>⟨?_,rfl⟩,.same rfl⟩,by simp[z9P],rfl,fun b i s e _=> ?_⟩
   · rcases hc with e|e<;>simp[e]
   · by_cases hi:i=d
     · right;exact⟨by simp[e,hi],hi⟩
     · left;exact⟨by simp[e,hi],hi⟩
 · rename_i id p
   obtain⟨vp,t,h1,h2,h3⟩:=h.take hf
   obtain⟨n1,_⟩:=he
   rw[n1] at h1;cases h1
   refine⟨_,_,h3,zex id p d,by simp[z9P],znU hf,fun b i s e hi=> ?_⟩
   have hne:i≠id:=by simpa[zju] using hi
   by_cases hd:i=d
   · right
     refine⟨?_,hd⟩
     show reK id p d (K b)= [1]
     rw[e]
     subst hd
     simp[reK,hne]
   · left
     exact⟨by show reK id p d (K b)=K b;rw[e];exact zfU hne hd,hd⟩
 · cases hf
def zF5:T->Bool
 | .sc _=>true
 |_=>false
def zAh(fr:Fr)(e:E):Option (Nat×List T):=
 match rdV e with
 |some (.string s)=>some (s.size,s.data.toList.map fun b=>.sc (.int .u8 b.toNat))
 |_=>
  match e with
  | .one (.h id p)=>(match z2f fr.ob id with
    |none=>none
    |some root=>match sub root p with
     |some (.os _ m cs)=>if cs.all zcs then some (m,cs) else none
     |some (.sl m cs)=>if cs.all zcW then some (m,cs) else none
     |_=>none)
  |e=>match zsy fr e with
   |some (none,m,cs)=>if cs.all zcW then some (m,cs) else none
   |some (some _,m,cs)=>if cs.all zF5 then some (m,cs) else none
   |none=>none
structure Src(P:Program)(w:World)(K:Nat->z0a)(u:Value)(m:Nat)(cs:List T)(us:List Value):Prop where
 len:∀w'',(Builtin.lenOf u).run P w''= .ok m w''
 cells:∀(w'':World) size,w''.heap=w.heap->cs.length=m*size->(Builtin.firstCells size m u).run P w''= .ok us.toArray w''
 n:us.length=cs.length
 one:∀v∈us,v.oneCell'=true
 rep:∀(j:Nat) (t:T) (v:Value),cs[j]? =some t->us[j]? =some v->TRep w K [] v t
variable{a:Act}{fr fr':Fr}{cs:List T}{d m:Nat}{G R:Nat->Value}{K:Nat->z0a}{s x:Operand}{P:Program}{st ty:TypeId}{u:Value}{w:World}
theorem zci(h:(∃a cap,u= .slice a 0 cap/\m=0/\cs= [])∨ ∃g o cap,∃F:Nat->Value,u= .slice (some ⟨g,o,none⟩) m cap/\
 (∀j,j<cs.length->w.cell? ⟨g,o+j,none⟩=some (F j))/\ ∀j t,cs[j]? =some t->(zcW t=true/\ ∀c,TRep w K c (F j) t)):∃us,Src P w K u m cs us:=by
 rcases h with⟨a,cap,rfl,rfl,rfl⟩|⟨g,o,cap,F,rfl,hF,hr⟩
 · refine⟨[],fun w''=>by simp[Builtin.lenOf],fun w'' size _ _=> ?_,rfl,fun v hv=>(by cases hv),fun j t v hj=>(by cases hj)⟩
   cases a with
   |none=>simp[Builtin.firstCells]
   |some a=>simp[Builtin.firstCells,loadCells,loadCellsFrom]
 · refine⟨(List.range cs.length).map F,fun w''=>by simp[Builtin.lenOf],fun w'' size hw hl=> ?_,by simp,fun v hv=> ?_,fun j t v hj hv=> ?_⟩
   · have:=run_loadCells_list (P:=P) w'' ⟨g,o,none⟩ ((List.range cs.length).map F) (fun j v hv=>by
      simp only[Zd,Z4] at hv
      obtain⟨i,hi,rfl⟩:=hv
      obtain⟨h2,h3⟩:=Z8.1 hi
      simp at h2 h3;subst h3
      rw[z8B,z0Y (w:=w) (by rw[hw])]
      exact hF _ h2)
     simp only[Zh,ZD] at this
     simp only[Builtin.firstCells]
     rw[←hl];exact this
   · obtain⟨j,hj,rfl⟩:=Zm.1 hv
     have hj':j<cs.length:=by simpa using hj
     obtain⟨h1,h2⟩:=hr j cs[j] (Z1 hj')
     exact(h2 []).one h1
   · simp only[Zd,Z4] at hv
     obtain⟨i,hi,rfl⟩:=hv
     obtain⟨h2,h3⟩:=Z8.1 hi
     simp at h2 h3;subst h3
     exact(hr _ t hj).2 []
theorem zs4{e:E}(h:FRep w K R G fr a)(he:ERep w K R fr.ob e u)(hs:zAh fr e=some (m,cs)):∃us,Src P w K u m cs us:=by
 unfold zAh at hs
 split at hs
 · rename_i s hv
   cases hs
   obtain⟨rfl,-⟩:=z1o he hv
   refine⟨s.data.toList.map fun b=>.int .u8 b.toNat,fun w''=>by simp[Builtin.lenOf],fun w'' size _ hl=> ?_,by simp,fun v hv=> ?_,fun j t v hj hv=> ?_⟩
   · simp only[Builtin.firstCells,Zg]
     congr 1
     apply Yp
     simp
   · obtain⟨b,_,rfl⟩:=Zm.1 hv;rfl
   · simp only[Zd,Z4] at hj hv
     obtain⟨b,hb,rfl⟩:=hj
     obtain⟨b',hb',rfl⟩:=hv
     rw[hb] at hb';cases hb'
     exact .sc _ _ rfl
 · split at hs
   · rename_i id p hno
     split at hs
     case h_1=>cases hs
     case h_2 root hroot=>
     obtain⟨n1,t0,n2,n3⟩:=he
     split at hs
     · rename_i sz m' cs' hsub
       split at hs
       · rename_i hall
         cases hs
         obtain⟨v',m1,hrep⟩:=(h.ob id root hroot).sub (z1D id) hsub
         rw[n1] at m1;cases m1
         refine zci ?_
         rcases zg0 hrep with⟨rfl,rfl,rfl⟩|⟨g,cap,arr,el,fz,F,rfl,hc0,hKg,hg,hs,hl,hz',hn,hc,hfz,hF,hh⟩
         · exact .inl ⟨none,0,rfl,rfl,rfl⟩
         · refine .inr ⟨g,0,cap,F,rfl,fun j hj=>by rw[Zp,z1E hg];exact hF j hj,fun j t ht=> ?_⟩
           have hp:zcs t=true:=Zn.1 hall t (ZM ht)
           refine⟨(by cases t<;>first|rfl|cases hp),(hh j t ht).free hp⟩
       · cases hs
     · rename_i m' cs' hsub
       split at hs
       · rename_i hall
         cases hs
         obtain⟨d1,d2⟩:=z7o (K:=K) (R:=R) h (e:=.one (.h id p)) (u:=u) (dep:=none) (n:=m) (cs:=cs) ⟨n1,t0,n2,n3⟩ (by simp[zsy,hroot,hsub])
         refine zci ?_
         rcases d2 with⟨a,cap,rfl,hc,rfl,rfl⟩|⟨g,o,cap,F,rfl,hn,hc,hK,hg,hF,hh⟩
         · exact .inl ⟨a,cap,rfl,rfl,rfl⟩
         · exact .inr ⟨g,o,cap,F,rfl,hF,fun j t ht=>⟨Zn.1 hall t (ZM ht),(hh j t ht).any rfl⟩⟩
       · cases hs
     · cases hs
   · split at hs
     · rename_i m' cs' hrd
       split at hs
       · rename_i hall
         cases hs
         obtain⟨d1,d2⟩:=z7o h he hrd
         refine zci ?_
         rcases d2 with⟨a,cap,rfl,hc,rfl,rfl⟩|⟨g,o,cap,F,rfl,hn,hc,hK,hg,hF,hh⟩
         · exact .inl ⟨a,cap,rfl,rfl,rfl⟩
         · exact .inr ⟨g,o,cap,F,rfl,hF,fun j t ht=>⟨Zn.1 hall t (ZM ht),(hh j t ht).any rfl⟩⟩
       · cases hs
     · rename_i i m' cs' hrd
       split at hs
       · rename_i hall
         cases hs
         obtain⟨d1,d2⟩:=z7o h he hrd
         refine zci ?_
         rcases d2 with⟨a,cap,rfl,hc,rfl,rfl⟩|⟨g,o,cap,F,rfl,hn,hc,hK,hg,hF,hh⟩
         · exact .inl ⟨a,cap,rfl,rfl,rfl⟩
         · refine .inr ⟨g,o,cap,F,rfl,hF,fun j t ht=> ?_⟩
           have hp:=Zn.1 hall t (ZM ht)
           cases t with
           |sc v=>
            have:=(hh j _ ht)
            have e1:=this.sc_eq
            exact⟨rfl,fun c=>by rw[e1];exact .sc c _ this.sc_B⟩
           |dead=>cases hp
           |agg=>cases hp
           |tup=>cases hp
           |sl=>cases hp
           |os=>cases hp
           |vr=>cases hp
           |mp=>cases hp
           |mr=>cases hp
           |mt=>cases hp
           |ms=>cases hp
           |vo=>cases hp
           |pr=>cases hp
           |cl=>cases hp
       · cases hs
     · cases hs
def zsJ(fr:Fr)(e:E):Option (Nat×Nat×List A):=
 match e with
 | .one (.h id [])=>match z2f fr.ob id with
   |some (.os _ m cs)=>some (id,m,zbN id [] 0 cs)
   |_=>none
 |_=>none
def zu5:TypeDesc->Bool
 | .int _=>true
 |_=>false
def zgP(P:Program)(fr:Fr)(d:Nat)(st xt:TypeId)(s x:Operand):Option Fr:=
 match z2w P st,z2w P xt with
 |some ⟨.slice el,_,_,_⟩,some tx=>
  if zu5 tx.u then none else
  match z2w P el with
  |some ⟨u,size,bytes,some zs⟩=>
   if zs.length=size/\0<size/\d<fr.nt then
    match zvb fr d (opE fr s) with
    |none=>none
    |some fr1=>
     match z2f fr1.ob d with
     |some (.os sz n cs)=>
      if sz=0∨sz=size then
       match zAh fr1 (opE fr1 x) with
       |some (m,news)=>
        if news.length=m*size/\(n+m)*bytes<=140737488355328/\n+m<=4611686018427387904 then
         some {fr1 with tm:=z7P (z6J (kill d) fr1.tm) d (.one (.h d [])),ob:=z6h fr1.ob d (.os size (n+m) (cs++news))}
        else none
       |none=>match zsJ fr1 (opE fr1 x) with
        |some (e,m,xs)=>
         if e≠d/\xs.length=m*size/\xs.length<=1000/\xs.any zb4=true/\xs.all (zai fr1)=true/\(n+m)*bytes<=140737488355328/\n+m<=4611686018427387904 then
          zvv true {fr1 with tm:=z7P (z6J (kill d) (putR fr1.tm fr1.nt xs)) d (.one (.h d [])),ob:=z6h fr1.ob d (.os size (n+m) (cs++xs.map za8))} d (z8D [] cs.length fr1.nt xs)
         else none
        |none=>none
      else none
     |_=>none
   else none
  |_=>none
 |_,_=>none
def zjw(fr:Fr)(d:Nat)(s x:Operand):Bool:=match zvb fr d (opE fr s) with|some fr1=>(zAh fr1 (opE fr1 x)).isSome|none=>false
theorem zii{xt:TypeId}(h:FRep w K R G fr a)(hf:zgP P fr d st xt s x=some fr'):
 ∃v w',(Builtin.append_ #[st,xt] ty #[a.eval s,a.eval x]).run P w= .ok v w'/\(∃K' R',FRep w' K' R' G fr' (a.put (some d) v)/\Step w K w' K'/\(zjw fr d s x=true->∀M:Nat->Bool,M d=true->(∀i∈zju (opE fr s),M i=true)->∀b,b<w.heap.size->KMc M (K b) (K' b)))/\Stay w w' K (fun i=>(zju (opE fr s)).contains i):=by
 unfold zgP at hf
 split at hf
 case h_2=>cases hf
 case h_1 el s1 s2 s3 tx hst hxt=>
 split at hf
 · cases hf
 rename_i hni
 have hnx:∀k,tx.u≠ .int k:=fun k e=>hni (by rw[e];rfl)
 split at hf
 case h_2=>cases hf
 case h_1 u size bytes zs hti=>
 split at hf
 case isFalse=>cases hf
 case isTrue hc1=>
 obtain⟨hzl,hpos,hd⟩:=hc1
 split at hf
 case h_1=>cases hf
 case h_2 fr1 hb=>
 obtain⟨K1,R1,f1,st1,hv1,hnt,hcol⟩:=zpb h (h.opE s) hb
 split at hf
 case h_2=>cases hf
 case h_1 sz n cs hob=>
 split at hf
 case isFalse=>cases hf
 case isTrue hsz=>
 have hrepd:=f1.ob d _ hob
 rw[hv1] at hrepd
 have hstay:∀ {w':World} {K2:Nat->z0a},Keep w w' K1 K2 (But d)->Step w K1 w' K2->Stay w w' K (fun i=>(zju (opE fr s)).contains i):=fun {w' K2} hk hs b hb hc=>by
  rcases hc with e|⟨i,q,e,hi⟩
  · have:=st1.old b hb (.inl e)
    exact(hk.fro b hb (by rw[this.1];exact e)).2
  · rcases hcol b i q e (by simpa using hi) with⟨e1,hne⟩|⟨e1,-⟩
    · exact(hk.own b hb ⟨i,q,by rw[e1,e],hne⟩).2
    · exact(hs.old b hb (.inr e1)).2
 have fin:∀(G1:Nat->Value) (tm1:List (Nat×E)) (v':Value) (w':World) (news:List T) (m:Nat),FRep w K1 R1 G1 {fr1 with tm:=tm1} a->
  TRep w' (fun b=>if b=w.heap.size then col d else K1 b) (col d) v' (.os size (n+m) (cs++news))->Keep w w' K1 (fun b=>if b=w.heap.size then col d else K1 b) (But d)->
  FRep w' (fun b=>if b=w.heap.size then col d else K1 b) (z9P R1 d v') G1 {fr1 with tm:=z7P (z6J (kill d) tm1) d (.one (.h d [])),ob:=z6h fr1.ob d (.os size (n+m) (cs++news))} (a.put (some d) v'):=fun G1 tm1 v' w' news m hf1 hr hk=>by
  have h3:=hf1.replace (d:=d) hk hr
  exact h3.put (d:=d) (x:=.one (.h d [])) (v:=v') (show d<fr1.nt by omega) ⟨by simp[z9P,nav],.os size (n+m) (cs++news),by simp[z0A],rfl⟩
 split at hf
 · rename_i m news hsrc
   split at hf
   case isFalse=>cases hf
   case isTrue hc2=>
   cases hf
   obtain⟨hnl,hby,hnm⟩:=hc2
   obtain⟨us,us1⟩:=zs4 (P:=P) f1 (f1.opE x) hsrc
   obtain⟨v',w',r1,r2,r3,r4,r5,r6,r7⟩:=zbY (ty:=ty) (ti:=⟨u,size,bytes,some zs⟩) (zs:=zs) hsz hst hti rfl hzl hpos hxt hnx (.inl hrepd) us1.len (fun w'' hw=>us1.cells w'' size hw hnl) (by rw[us1.n];exact hnl) us1.n.symm us1.one us1.rep hby hnm
   refine⟨v',w',r1,⟨_,_,fin G fr1.tm v' w' news m f1 r2 r3,st1.trans r4,fun _ M hMd hMb b hb hc=> ?_⟩,hstay r3 r4⟩
   show(if b=w.heap.size then col d else K1 b)= []∨_
   rw[if_neg (by omega)]
   rcases hc with e|⟨i,q,e,hi⟩
   · exact .inl ((st1.old b hb (.inl e)).1.trans e)
   · rcases hcol b i q e (fun hh=>by rw[hMb i hh] at hi;cases hi) with⟨e1,hne⟩|⟨e1,e2⟩
     · exact .inr ⟨i,q,e1.trans e,hi⟩
     · subst e2;rw[hMd] at hi;cases hi
 · rename_i hnq
   split at hf
   case h_2=>cases hf
   case h_1 e m xs hown=>
   split at hf
   case isFalse=>cases hf
   case isTrue hc2=>
   obtain⟨hed,hxl,hx1000,hany,hall,hby,hnm⟩:=hc2
   obtain⟨us,F1,F2,F3,F4⟩:∃us:List Value,us.length=xs.length/\(∀w'',(Builtin.lenOf (a.eval x)).run P w''= .ok m w'')/\(∀w'':World,w''.heap=w.heap->(Builtin.firstCells size m (a.eval x)).run P w''= .ok us.toArray w'')/\
    ∀j y,xs[j]? =some y->ARep w K1 R1 fr1.ob y (us.getD j undef):=by
    have hex:=f1.opE x
    unfold zsJ at hown
    split at hown
    · rename_i id hop
      split at hown
      · rename_i sz' m' cs' hobi
        cases hown
        rw[hop] at hex
        obtain⟨n1,t0,n2,n3⟩:=hex
        simp only[nav,Z9] at n1
        have hrep:=f1.ob e _ hobi
        rw[n1] at hrep
        have hkid:=fun j t (ht:cs'[j]? =some t)=>zcI (R:=R1) (p:= []) (hv:=a.eval x) hobi (by rfl) (by simp[nav,n1]) (by simpa using hrep) (j:=j) (s:=t) ht
        have hkl:(zbN e [] 0 cs').length=cs'.length:=z7r
        rcases zg0 hrep with⟨hx,rfl,rfl⟩|⟨g,cap,arr,el',fz,F,hx,hc0,hKg,hg,hs,hl,hz',hn,hc,hfz,hF,hh⟩
        · refine⟨[],by simp[zbN],fun w''=>by rw[hx];simp[Builtin.lenOf],fun w'' _=>by rw[hx];simp[Builtin.firstCells],fun j y hy=>by simp[zbN] at hy⟩
        · refine⟨(List.range cs'.length).map F,by rw[hkl];simp,fun w''=>by rw[hx];simp[Builtin.lenOf],fun w'' hw=> ?_,fun j y hy=> ?_⟩
          · have:=run_loadCells_list (P:=P) w'' ⟨g,0,none⟩ ((List.range cs'.length).map F) (fun j v hv=>by
             simp only[Zd,Z4] at hv
             obtain⟨i,hi,rfl⟩:=hv
             obtain⟨h2,h3⟩:=Z8.1 hi
             simp at h2 h3;subst h3
             rw[z8B,z0Y (w:=w) (by rw[hw]),Zp,z1E hg]
             exact hF _ h2)
            rw[hx]
            simp only[Zh,ZD] at this
            simp only[Builtin.firstCells]
            rw[←hxl,hkl];exact this
          · rw[za6] at hy
            cases ht:cs'[j]? with
            |none=>rw[ht] at hy;cases hy
            |some t=>
             rw[ht] at hy
             simp only[ZP,Z9,Zp] at hy
             subst hy
             obtain⟨v,k1,k2⟩:=hkid j t ht
             have hlt:=(Z8.1 ht).1
             have hvF:v=F j:=by
              rw[hx] at k1
              simp only[zep,z1E hg,hF j hlt,Z9] at k1
              exact k1.symm
             rw[hvF] at k2
             simpa[List.getD,hlt] using k2
      · cases hown
    · cases hown
   have hone:∀v∈us,v.oneCell'=true:=fun v hv=>by
    obtain⟨j,hj,rfl⟩:=Zt hv
    have hjx:j<xs.length:=by omega
    have:=f1.one (F4 j xs[j] (Z1 hjx)) (Zn.1 hall _ (Zw hjx))
    simpa[List.getD,hj] using this
   obtain⟨v',w',r1,r2,r3,r4,r5,r6,r7⟩:=zbY (ty:=ty) (ti:=⟨u,size,bytes,some zs⟩) (zs:=zs) (news:=xs.map za8) hsz hst hti rfl hzl hpos hxt hnx (.inl hrepd) F2 F3 (by rw[F1];exact hxl) (by simp[F1]) hone (fun j t v ht hv=>by
    simp only[Zd,Z4] at ht
    obtain⟨y,hy,rfl⟩:=ht
    have:=F4 j y hy
    have e1:us.getD j undef=v:=by simp[List.getD,hv]
    rw[e1] at this
    exact zgl this []) hby hnm
   have h5:=fin (gv G fr1.nt (fun j=>us.getD j undef) xs.length) _ v' w' (xs.map za8) m (f1.putR (Z5 _) F4) r2 r3
   obtain⟨K2,R2,e1,e2,e3,_⟩:=h5.fin (mv:=true) (l:=z8D [] cs.length fr1.nt xs) (fun q r hm=>by
    obtain⟨j,j1,rfl,rfl⟩:=zcr hm
    refine⟨?_,by omega⟩
    have hju:j<us.length:=by omega
    rw[ziF a _ d v' (by rw[h.nt];exact hd),if_neg (by omega)]
    have hreg:z9I a (gv G fr1.nt (fun j=>us.getD j undef) xs.length) (fr1.nt+j)=us[j]:=by
     rw[z9I,if_neg (by rw[h.nt];omega)]
     simp only[gv]
     rw[if_pos (by omega),show fr1.nt+j-fr1.nt=j by omega]
     simp[List.getD,hju]
    rw[hreg]
    have:=r7 j us[j] (Z1 hju)
    rw[r5]
    simp only[Y4,nav,z9P,if_true]
    simp only[] at this
    rw[this]) hf
   refine⟨v',w',r1,⟨K2,R2,e1.reG fun i hi=> ?_,(st1.trans r4).trans e2,fun hq=>by simp[zjw,hb,hnq] at hq⟩,hstay r3 r4⟩
   have e3':fr'.nt=fr1.nt:=e3
   by_cases hlt:i<fr'.nt+1000
   · exact .inl (zgB hf (zey hany) i hi hlt)
   · right;simp only[gv];rw[if_neg (by omega)]
def zjv(P:Program)(fr:Fr)(d:Nat)(st xt:TypeId)(n:Nat)(cs:List T)(x:Operand):Option Fr:=
 match z2w P st,z2w P xt with
 |some ⟨.slice el,_,_,_⟩,some tx=>
  if zu5 tx.u then none else
  match z2w P el with
  |some ⟨u,size,bytes,some zs⟩=>
   if zs.length=size/\0<size/\d<fr.nt then
    match zAh {fr with tm:=z6J (kill d) fr.tm,ob:=z6h fr.ob d (.os 0 0 [])} (opE {fr with tm:=z6J (kill d) fr.tm,ob:=z6h fr.ob d (.os 0 0 [])} x) with
    |some (m,news)=>
     if 0<m/\0<n/\cs.length=n*size/\news.length=m*size/\(n+m)*bytes<=140737488355328/\n+m<=4611686018427387904 then
      some {fr with tm:=z7P (z6J (kill d) (z6J (kill d) fr.tm)) d (.one (.h d [])),ob:=z6h (z6h fr.ob d (.os 0 0 [])) d (.os size (n+m) (cs++news))}
     else none
    |none=>none
   else none
  |_=>none
 |_,_=>none
theorem znw{n:Nat}{xt:TypeId}(h:FRep w K R G fr a)(hs:opE fr s= .one (.tf n cs))(hf:zjv P fr d st xt n cs x=some fr'):
 ∃v w',(Builtin.append_ #[st,xt] ty #[a.eval s,a.eval x]).run P w= .ok v w'/\ ∃K' R',FRep w' K' R' G fr' (a.put (some d) v)/\Step w K w' K':=by
 have hes:=h.opE s
 rw[hs] at hes
 obtain⟨⟨p,hp⟩,hrep⟩:=hes
 unfold zjv at hf
 split at hf
 case h_2=>cases hf
 case h_1 el s1 s2 s3 tx hst hxt=>
 split at hf
 · cases hf
 rename_i hni
 have hnx:∀k,tx.u≠ .int k:=fun k e=>hni (by rw[e];rfl)
 split at hf
 case h_2=>cases hf
 case h_1 u size bytes zs hti=>
 split at hf
 case isFalse=>cases hf
 case isTrue hc1=>
 obtain⟨hzl,hpos,hd⟩:=hc1
 obtain⟨K1,R1,f1,st1,hv1,hnt,hcol⟩:=zpb (d:=d) (e:=.one (.k (.slice none 0 0))) (v:=.slice none 0 0) h rfl rfl
 split at hf
 case h_2=>cases hf
 case h_1 m news hsrc=>
 split at hf
 case isFalse=>cases hf
 case isTrue hc2=>
 cases hf
 obtain⟨hm,hn0,hcl,hnl,hby,hnm⟩:=hc2
 obtain⟨us,us1⟩:=zs4 (P:=P) f1 (f1.opE x) hsrc
 have hr1:TRep w K1 [] (a.eval s) (.sl n cs):=TRep.fz hrep (fun b hb e=>⟨(st1.old b hb (.inl e)).1.trans e,rfl⟩) (Z5 _)
 obtain⟨v',w',r1,r2,r3,r4,r5,r6,r7⟩:=zbY (d:=d) (ty:=ty) (sz:=0) (ti:=⟨u,size,bytes,some zs⟩) (zs:=zs) (.inl rfl) hst hti rfl hzl hpos hxt hnx (.inr ⟨hm,hn0,⟨p,hp⟩,hr1,hcl⟩) us1.len (fun w'' hw=>us1.cells w'' size hw hnl) (by rw[us1.n];exact hnl) us1.n.symm us1.one us1.rep hby hnm
 have h3:=f1.replace (d:=d) r3 r2
 have h4:=h3.put (d:=d) (x:=.one (.h d [])) (v:=v') (show d<fr.nt by omega) ⟨by simp[z9P,nav],.os size (n+m) (cs++news),by simp[z0A],rfl⟩
 exact⟨v',w',r1,_,_,h4,st1.trans r4⟩
end
section
variable{a:Act}{cs:Array Value}{e:E}{fr fr':Fr}{d n:Nat}{G R:Nat->Value}{K:Nat->z0a}{P:Program}{dst el src:TypeId}{u:Value}{w:World}
theorem zn9{g:Nat}(hg:w.heap[g]? =some (.cells cs el (0,0)))(b:Nat):
 (w.freeze ⟨g,n,none⟩ 1).heap[b]? =if b=g then some (.cells cs el (n,n+1)) else w.heap[b]? :=by
 simp only[World.freeze]
 rw[if_neg (by decide)]
 simp only[z9w]
 by_cases h:g=b
 · subst h;simp[hg]
 · rw[if_neg h,if_neg (fun e=>h e.symm)]
def zp6(P:Program)(fr:Fr)(src dst:TypeId)(e:E)(d:Nat):Option Fr:=
 match z2w P src,z2w P dst with
 |some ⟨.string,_,_,_⟩,some ⟨.slice el,_,_,_⟩=>match z2w P el with
  |some ⟨.int .u8,_,_,_⟩=>(match rdV e with
   |some (.string s)=>if s.size<=140737488355328 then zzh fr d (fun _=>.os 1 s.size (s.data.toList.map fun b=>.sc (.int .u8 b.toNat))) (.one (.h d [])) [] else none
   |_=>none)
  |_=>none
 |_,_=>none
theorem zv2(h:FRep w K R G fr a)(he:ERep w K R fr.ob e u)(hf:zp6 P fr src dst e d=some fr'):
 ∃v w',(convert src dst u).run P w= .ok v w'/\(∃K' R',FRep w' K' R' G fr' (a.put (some d) v)/\Step w K w' K')/\ ∀b,b<w.heap.size->w'.heap[b]? =w.heap[b]? :=by
 unfold zp6 at hf
 split at hf
 case h_2=>cases hf
 case h_1 s1 s2 s3 el s4 s5 s6 h1 h2=>
 split at hf
 case h_2=>cases hf
 case h_1 s7 s8 s9 h3=>
 split at hf
 case h_2=>cases hf
 case h_1 s hs=>
 split at hf
 case isFalse=>cases hf
 case isTrue hsz=>
 obtain⟨rfl,-⟩:=z1o he hs
 have hu1:=z1U h1 w
 have hu2:=z1U h2 w
 have hu3:=z1U h3 w
 simp only[] at hu1 hu2 hu3
 let nc:=grownCap w s.size 0 el
 have hnc:s.size<=nc:=grownCap_ge w s.size 0 el
 have hncm:nc<=maxLen:=grownCap_le_maxLen w s.size 0 el (by unfold maxLen;omega)
 let arr:Array Value:=(s.data.map fun b=>Value.int .u8 b.toNat)++Array.replicate (nc-s.size) (.int .u8 0)
 have harr:arr.size=nc:=by
  simp only[arr,Xw,Array.size_map,Array.size_replicate]
  show s.size+(nc-s.size)=nc;omega
 let w0:World:= {w with drawn:=w.drawn+1,heap:=w.heap.push (.cells arr el)}
 let w1:World:=w0.freeze ⟨w.heap.size,nc,none⟩ 1
 have hg0:w0.heap[w.heap.size]? =some (.cells arr el (0,0)):=by
  show(w.heap.push _)[w.heap.size]? =_
  rw[Yk,if_pos rfl]
 have hh:=zn9 (n:=nc) hg0
 have hfz:w1.os=w.os/\w1.tape=w.tape/\w1.output=w.output:=by
  simp only[w1,World.freeze];rw[if_neg (by decide)];exact⟨rfl,rfl,rfl⟩
 have hnew:NewB w w1 (.cells arr el (nc,nc+1)):=by
  refine⟨hfz.1,hfz.2.1,hfz.2.2,?_⟩
  apply Array.ext_getElem?
  intro b
  by_cases e:b=w.heap.size
  · rw[show w1.heap[b]? =_ from hh b,if_pos e,Yk,if_pos e]
  · rw[show w1.heap[b]? =_ from hh b,if_neg e]
    show(w.heap.push _)[b]? =_
    rw[Yk,if_neg e,Yk,if_neg e]
 have hrun:(convert src dst (.string s)).run P w= .ok (.slice (some ⟨w.heap.size,0,none⟩) s.size nc) w1:=by
  have hch:(choose (.appendCap s.size 0 el)).run P w= .ok nc {w with drawn:=w.drawn+1}:=by
   simp[choose,Sem.run,Question.forced,nc,grownCap]
  simp only[convert,Zc,hu1,hu2,hu3,Z2,Conv.stringToBytes,hch]
  have hshape:w0.shape? w.heap.size=some (el,nc):=by simp[World.shape?,hg0,harr]
  have hpush:(newRow el (s.data.map (fun b=>Value.int .u8 b.toNat)++Array.replicate (nc-s.size) (.int .u8 0))).run P {w with drawn:=w.drawn+1}= .ok ⟨w.heap.size,0,none⟩ w0:=by
   simp[newRow,newObj,Sem.run,w0,arr]
   exact And.intro rfl (And.intro rfl rfl)
  rw[hpush]
  simp only[Z2]
  have hmark:(markStringish ⟨w.heap.size,0,none⟩).run P w0= .ok () w1:=by
   simp[markStringish,shape,Sem.run,hshape,freeze,w1]
  rw[hmark]
  rfl
 refine⟨_,w1,hrun,?_,fun b hb=>hnew.old hb⟩
 refine h.newObj hnew (xs:= []) (fun j x hx=>by cases hx) (Yt _) (.inr ⟨_,_,rfl⟩) (fun w' K' cs F hl hK hg hF hk=> ?_) (.inl rfl) (fun e=>by cases e) hf
 refine .own (col d) _ s.size nc 1 _ arr el (nc,nc+1) (fun j=>arr.getD j undef) (fun i hi=>by simp only[];omega) (z1D d) hK hg (by omega) (by simp) (by decide) hnc hncm (fun j hj=>z5z _ _ (by
  rw[harr];simp at hj;exact Zx hj hnc)) (fun j t hj=> ?_)
 simp only[Zd,Z4,Zv] at hj
 obtain⟨b,hb,rfl⟩:=hj
 have hlt:=(ZO.1 hb).1
 have:arr.getD j undef= .int .u8 b.toNat:=by
  rw[Z7]
  simp only[arr,X8,Array.size_map]
  rw[if_pos hlt]
  simp[hb]
 rw[this]
 exact .sc _ _ rfl
theorem zus{g lo hi:Nat}(hg:w.heap[g]? =some (.cells cs el (lo,hi)))(b:Nat):
 (w.freeze ⟨g,n,none⟩ 1).heap[b]? =if b=g then some (.cells cs el (if lo==hi then(n,n+1) else(min lo n,max hi (n+1)))) else w.heap[b]? :=by
 simp only[World.freeze]
 rw[if_neg (by decide)]
 simp only[z9w]
 by_cases h:g=b
 · subst h;simp[hg]
 · rw[if_neg h,if_neg (fun e=>h e.symm)]
def zwt(P:Program)(fr:Fr)(src dst:TypeId)(e:E)(d:Nat):Option Fr:=
 match z2w P src with
 |some ⟨.slice el,_,_,_⟩=>(match z2w P el,e with
  |some ⟨.int .u8,_,_,_⟩,.one (.h id [])=>if src=dst/\d<fr.nt then(match z2f fr.ob id with
   |some (.os sz n cs)=>if n=0 then none else some {fr with tm:=z7P (z6J (kill id) fr.tm) d (.one (.h id [])),ob:=z6h fr.ob id (.os sz n cs)}
   |_=>none) else none
  |_,_=>none)
 |_=>none
theorem zwr(h:FRep w K R G fr a)(he:ERep w K R fr.ob e u)(hf:zwt P fr src dst e d=some fr'):
 src=dst/\ ∃v w',(convert src dst u).run P w= .ok v w'/\(∃K' R',FRep w' K' R' G fr' (a.put (some d) v)/\Step w K w' K'):=by
 unfold zwt at hf
 split at hf
 case h_2=>cases hf
 case h_1 el s1 s2 s3 h1=>
 split at hf
 case h_2=>cases hf
 case h_1 s4 s5 s6 id h2=>
 split at hf
 case isFalse=>cases hf
 case isTrue hsd=>
 obtain⟨rfl,hd⟩:=hsd
 split at hf
 case h_2=>cases hf
 case h_1 sz n cs hob=>
 split at hf
 case isTrue=>cases hf
 case isFalse hn0=>
 cases hf
 obtain⟨hu,-⟩:=he
 simp only[nav,Z9] at hu
 have hr:=h.ob id _ hob
 have hu1:=z1U h1 w
 have hu2:=z1U h2 w
 simp only[] at hu1 hu2
 subst hu
 generalize hT:T.os sz n cs=t at hr
 generalize hV:R id=v at hr
 generalize hC:col id=c at hr
 cases hr with
 |nil c sz=>injection hT;omega
 |own c g n' cap size cs' arr e fz F hfz hc0 hK hg hs hl hz hn hc hF hh=>
  injection hT with t1 t2 t3
  subst t1
  subst t2
  subst t3
  subst hC
  obtain⟨lo,up⟩:=fz
  have hw:=zus (n:=arr.size) hg
  let w':World:=w.freeze ⟨g,arr.size,none⟩ 1
  have hw':∀b,b≠g->w'.heap[b]? =w.heap[b]? :=fun b hb=>by
   show(w.freeze _ 1).heap[b]? =_
   rw[hw b,if_neg hb]
  have hsame:w'.os=w.os/\w'.tape=w.tape/\w'.output=w.output/\w'.heap.size=w.heap.size:=by
   simp only[w',World.freeze];rw[if_neg (by decide)];exact⟨rfl,rfl,rfl,by simp⟩
  have hrun:(convert src src (.slice (some ⟨g,0,none⟩) n cap)).run P w= .ok (.slice (some ⟨g,0,none⟩) n cap) w':=by
   have hshape:w.shape? g=some (e,arr.size):=by simp[World.shape?,hg]
   have hmark:(markStringish ⟨g,0,none⟩).run P w= .ok () w':=by
    simp[markStringish,shape,Sem.run,hshape,freeze,w']
   simp[convert,Zc,hu1,hu2,Z2,hmark]
  refine⟨rfl,_,w',hrun,K,z9P R id (.slice (some ⟨g,0,none⟩) n cap),?_,⟨hsame.1,hsame.2.1,hsame.2.2.1,by omega,fun b hb hcc=>⟨rfl,hw' b (fun eb=> ?_)⟩,.one hg ((hw g).trans (if_pos rfl)) rfl hw'⟩⟩
  · have hT2:TRep w' K (col id) (.slice (some ⟨g,0,none⟩) n cap) (.os sz n cs):=by
     refine .own (col id) g n cap sz cs arr e _ F ?_ hc0 hK ((hw g).trans (if_pos rfl)) hs hl hz hn hc hF (fun j t ht=> ?_)
     · intro i hi5
       have h4:=hfz i hi5
       simp only at h4
       by_cases hlh:lo=up
       · subst hlh;simp;omega
       · rw[if_neg (by simpa using hlh)]
         simp only
         omega
     · refine(hh j t ht).move (fun b s hb _ hKb=>⟨hKb,hw' b (fun eb=> ?_)⟩) (fun b hb hKb=>⟨hKb,hw' b (fun eb=> ?_)⟩) YU (by omega)
       · subst eb
         rw[hK] at hKb
         simp[col] at hKb
       · subst eb
         rw[hK] at hKb
         simp[col] at hKb
    have hk:Keep w w' K K (But id):=⟨fun b hb hKb=>⟨hKb,hw' b (fun eb=>by subst eb;rw[hK] at hKb;simp[col] at hKb)⟩,fun b hb ⟨i,s,hKb,hi⟩=>⟨rfl,hw' b (fun eb=>by subst eb;rw[hK] at hKb;simp[col] at hKb;exact hi hKb.1.symm)⟩,by omega⟩
    have h3:=(h.replace hk hT2).put (d:=d) (x:=.one (.h id [])) (v:=.slice (some ⟨g,0,none⟩) n cap) hd ⟨by simp[z9P,nav],.os sz n cs,by simp[z0A],rfl⟩
    exact h3
  · subst eb
    rw[hK] at hcc
    rcases hcc with hcc|hcc<;>simp[col] at hcc
 |_=>cases hT
def zDo(P:Program)(fr:Fr)(o:Oper):Option Fr:=
 match o.dst with
 |some d=>(match o.op with
  | .alloc t=>zpf P fr t d
  | .box t x=>zDs P fr t (opE fr x) d
  | .buildSlice t n parts=>z6d P fr t n parts.toList d
  | .makeSlice t l c=>(match rdV (opE fr l),rdV (opE fr c) with|some (.int _ l),some (.int _ c)=>z7R P fr t l c d|_,_=>none)
  | .convert s t x=>(match zwt P fr s t (opE fr x) d with|some fr'=>some fr'|none=>if s=t then none else zp6 P fr s t (opE fr x) d)
  | .call {callee:=.builtin .append,args,argTypes}=>(match args.toList,argTypes.toList with| [s,x],[st,xt]=>(match opE fr s with| .one (.tf n cs)=>zjv P fr d st xt n cs x|_=>zgP P fr d st xt s x)|_,_=>none)
  |_=>none)
 |none=>(match o.op with
  | .store t ad x=>zrV P fr t (opE fr ad) (opE fr x)
  |_=>none)
def znr(o:Oper):Bool:=
 match o.op with
 | .store _ _ _=>false
 | .call _=>false
 | .convert s t _=>s !=t
 |_=>true
theorem zzR{o:Oper}(h:FRep w K R G fr a)(hf:zDo P fr o=some fr'):
 ∃r w',(execOp a.eval o).run P w= .ok r w'/\((∃v,r= .value v/\ ∃K' R',FRep w' K' R' G fr' (a.put o.dst v)/\Step w K w' K')∨(r= .skip/\o.dst=none/\ ∃K' R',FRep w' K' R' G fr' a/\Step w K w' K'))/\(znr o=true->∀b,b<w.heap.size->w'.heap[b]? =w.heap[b]?):=by
 have lift:∀ {s:Sem Value} {v:Value} {w'},s.run P w= .ok v w'->(do pure (Next.value (←s)):Sem Next).run P w= .ok (.value v) w':=fun {s v w'} hs=>by
  simp only[Zc,hs,Z2,Zg]
 unfold zDo at hf
 split at hf
 · rename_i d hd
   split at hf
   · rename_i t hop
     obtain⟨v,w',h1,h2,h3⟩:=zvi h hf
     exact⟨_,w',by simp only[execOp,hop];exact lift h1,.inl ⟨v,rfl,by rw[hd];exact h2⟩,fun _=>h3⟩
   · rename_i t x hop
     obtain⟨v,w',h1,h2,h3⟩:=zA7 h (h.opE x) hf
     exact⟨_,w',by simp only[execOp,hop];exact lift h1,.inl ⟨v,rfl,by rw[hd];exact h2⟩,fun _=>h3⟩
   · rename_i t n parts hop
     obtain⟨v,w',h1,h2,h3⟩:=zh5 h hf
     refine⟨_,w',?_,.inl ⟨v,rfl,by rw[hd];exact h2⟩,fun _=>h3⟩
     simp only[execOp,hop]
     refine lift ?_
     have:parts.map (fun(x:Nat×Operand)=>(x.1,a.eval x.2))=(parts.toList.map fun(i,x)=>(i,a.eval x)).toArray:=by
      apply Yp;simp
     rw[this];exact h1
   · rename_i t l c hop
     split at hf
     · rename_i k l' k' c' hl hc
       obtain⟨e1,-⟩:=z1o (h.opE l) hl
       obtain⟨e2,-⟩:=z1o (h.opE c) hc
       obtain⟨v,w',h1,h2,h3⟩:=ziL (k:=k) (k':=k') h hf
       exact⟨_,w',by simp only[execOp,hop,e1,e2];exact lift h1,.inl ⟨v,rfl,by rw[hd];exact h2⟩,fun _=>h3⟩
     · cases hf
   · rename_i s t x hop
     split at hf
     · rename_i fr1 hm
       cases hf
       obtain⟨rfl,v,w',h1,h2⟩:=zwr h (h.opE x) hm
       exact⟨_,w',by simp only[execOp,hop];exact lift h1,.inl ⟨v,rfl,by rw[hd];exact h2⟩,fun hc=>by simp[znr,hop] at hc⟩
     · split at hf
       · cases hf
       · obtain⟨v,w',h1,h2,h3⟩:=zv2 h (h.opE x) hf
         exact⟨_,w',by simp only[execOp,hop];exact lift h1,.inl ⟨v,rfl,by rw[hd];exact h2⟩,fun _=>h3⟩
   · rename_i args ats hop
     split at hf
     · rename_i s x st xt ha ht
       obtain rfl:args= #[s,x]:=by apply Yp;simpa using ha
       obtain rfl:ats= #[st,xt]:=by apply Yp;simpa using ht
       split at hf
       · rename_i n cs htf
         obtain⟨v,w',h1,K',R',i1,i2⟩:=znw (ty:=o.type) h htf hf
         refine⟨_,w',?_,.inl ⟨v,rfl,by rw[hd];exact⟨K',R',i1,i2⟩⟩,fun hc=>by simp[znr,hop] at hc⟩
         simp only[execOp,hop,resolve,Zc,Zg,Z2,invoke,builtin]
         simp[h1]
       · obtain⟨v,w',h1,h2,_⟩:=zii (ty:=o.type) h hf
         refine⟨_,w',?_,.inl ⟨v,rfl,by rw[hd];obtain⟨K',R',i1,i2,_⟩:=h2;exact⟨K',R',i1,i2⟩⟩,fun hc=>by simp[znr,hop] at hc⟩
         simp only[execOp,hop,resolve,Zc,Zg,Z2,invoke,builtin]
         simp[h1]
     · cases hf
   · cases hf
 · rename_i hd
   split at hf
   · rename_i t ad x hop
     obtain⟨w',h1,h2,_⟩:=zrU h (h.opE ad) (h.opE x) hf
     refine⟨.skip,w',?_,.inr ⟨rfl,hd,h2⟩,fun hc=>by simp[znr,hop] at hc⟩
     simp only[execOp,hop,Zc,h1,Z2,Zg]
   · cases hf
theorem FRep.reput(h:FRep w K R G fr a){x:E}(hx:ERep w K R fr.ob x (z9I a G d)):FRep w K R G {fr with tm:=z7P fr.tm d x} a:=by
 refine⟨fun i=> ?_,h.ob,h.nt,h.df⟩
 rw[zj4]
 split
 · rename_i e;subst e;exact hx
 · exact h.tm i
def zzJ(fr:Fr)(d:Nat):Option Fr:=
 match z5Q fr d [] with
 |some fr2=>(match z2J fr2.tm d with| .one (.t none (.sl n cs))=>some {fr2 with tm:=z7P fr2.tm d (.one (.tf n cs))}|_=>none)
 |none=>none
def zaX(P:Program)(fr:Fr)(t:TypeId)(n:Nat)(parts:List (Nat×Operand))(d:Nat):Option Fr:=
 match z6d P fr t n parts d with
 |some fr1=>zzJ fr1 d
 |none=>none
theorem zjp{t:TypeId}{parts:List (Nat×Operand)}(h:FRep w K R G fr a)(hd:d<fr.nt)(hf:zaX P fr t n parts d=some fr'):
 ∃v w',(Instr.buildSlice t n (parts.map fun(i,x)=>(i,a.eval x)).toArray).run P w= .ok v w'/\ ∃K' R',FRep w' K' R' G fr' (a.put (some d) v)/\Step w K w' K':=by
 unfold zaX at hf
 split at hf
 case h_2=>cases hf
 case h_1 fr1 h1=>
 obtain⟨v,w',⟨p,hp⟩,h2,⟨K',R',h3,h4,_⟩,_⟩:=zaj h h1
 unfold zzJ at hf
 split at hf
 case h_2=>cases hf
 case h_1 fr2 hz=>
 split at hf
 case h_2=>cases hf
 case h_1 n' cs hg=>
 cases hf
 have h5:=(h3.freeze hz).1
 have h6:=h5.tm d
 rw[hg] at h6
 have hv:z9I (a.put (some d) v) G d=v:=by rw[ziF a G d v (by rw[h.nt];exact hd),if_pos rfl]
 have h7:=h6.1
 rw[hv,hp] at h7
 have hn:n'=n:=by
  generalize hvv:Value.slice p n n=vv at h7
  generalize htt:T.sl n' cs=tt at h7
  cases h7<;>first|(cases htt;cases hvv;rfl)|cases htt
 subst hn
 have h8:=h5.reput (d:=d) (x:=.one (.tf n' cs)) ⟨⟨p,by rw[hv,hp]⟩,h6.1⟩
 exact⟨v,w',h2,_,_,h8,h4.trans (zaT d [])⟩
def zCU(P:Program)(fr:Fr)(ty:TypeId)(d:Nat):Option Fr:=
 match z2J fr.tm d with
 | .one (.h id p)=>
   if id=d then some fr
   else if p= []||zzx (z2f fr.ob id) then zdu fr id p d
   else some fr
 | .one (.k (.slice none 0 0))=>
   (match z2w P ty with
   |some ⟨.slice el,_,_,_⟩=>(match z2w P el with
    |some ti=>some {fr with tm:=z7P (z6J (kill d) fr.tm) d (.one (.h d [])),ob:=z6h fr.ob d (.os ti.size 0 [])}
    |none=>some fr)
   |_=>some fr)
 |_=>some fr
theorem zve{ty:TypeId}(h:FRep w K R G fr a)(hf:zCU P fr ty d=some fr'):∃K' R',FRep w K' R' G fr' a/\Step w K w K'/\fr'.nt=fr.nt/\(∀b i s,K b=(i+2)::s->K' b=K b∨True):=by
 unfold zCU at hf
 split at hf
 · split at hf
   · cases hf;exact⟨K,R,h,Step.refl _ _,rfl,fun _ _ _ _=>.inr trivial⟩
   · split at hf
     · obtain⟨vp,t,h1,h2,h3⟩:=h.take hf
       exact⟨_,_,h3,zex _ _ _,znU hf,fun _ _ _ _=>.inr trivial⟩
     · cases hf;exact⟨K,R,h,Step.refl _ _,rfl,fun _ _ _ _=>.inr trivial⟩
 · rename_i hg
   split at hf
   · split at hf
     · rename_i ti hti
       cases hf
       have hreg:=h.tm d
       rw[hg] at hreg
       have hreg':z9I a G d= .slice none 0 0:=hreg
       have h3:=h.replace (d:=d) (w':=w) (K':=fun b=>if(K b).head?=some (d+2) then [1] else K b) (v:=.slice none 0 0) (t:=.os ti.size 0 []) ⟨fun b hb e=>⟨by simp[e],rfl⟩,fun b hb ⟨i,s,e,hi⟩=>⟨by simp[e,hi],rfl⟩,Z5 _⟩ (.nil _ _)
       refine⟨_,_,h3.reput ⟨by rw[hreg'];simp[z9P,nav],.os ti.size 0 [],by simp[z0A],rfl⟩,⟨rfl,rfl,rfl,Z5 _,fun b hb hc=>⟨?_,rfl⟩,.same rfl⟩,rfl,fun _ _ _ _=>.inr trivial⟩
       rcases hc with e|e<;>simp[e]
     · cases hf;exact⟨K,R,h,Step.refl _ _,rfl,fun _ _ _ _=>.inr trivial⟩
   · cases hf;exact⟨K,R,h,Step.refl _ _,rfl,fun _ _ _ _=>.inr trivial⟩
 · cases hf;exact⟨K,R,h,Step.refl _ _,rfl,fun _ _ _ _=>.inr trivial⟩
end
end Go.Proofs.YtianakjpgmmflaaGreatDoor
