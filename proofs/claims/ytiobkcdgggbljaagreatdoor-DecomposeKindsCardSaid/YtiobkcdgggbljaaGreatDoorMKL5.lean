/- Proved here: a part of the proof of the law at hand, in one text: no condition. -/
import Derived.Test.YtiobkcdgggbljaaGreatDoorMKL4
import Derived.KernelRfl
set_option linter.unusedVariables false
set_option linter.unusedSimpArgs false
set_option linter.unusedSectionVars false
namespace Go.Proofs.YtiobkcdgggbljaaGreatDoor
section
open Go Go.RowKit Go.Sort
set_option maxRecDepth 100000
set_option maxHeartbeats 4000000
variable{os:Array Obj}{x:List Int}{args outs:List T}{g n:Nat}{K:Nat->z0b}{r:T}{e:TypeId}{v:Value}{w w':World}{I:World->(Nat->z0b)->Prop}{c:z0b}
theorem z8L:∀x y:List Int,z8M y x= -z8M x y
 | [],[]=>by simp[z8M]
 | [],_::_=>by simp[z8M]
 |_::_,[]=>by simp[z8M]
 |a::x,b::y=>by
  have ih:=z8L x y
  simp only[z8M]
  by_cases h1:a<b
  · have h2:¬b<a:=by omega
    simp only[if_neg h2,if_pos h1];omega
  · by_cases h2:b<a
    · simp only[if_pos h2,if_neg h1]
    · simp only[if_neg h2,if_neg h1];exact ih
theorem z8r:∀x y z:List Int,z8M x y<=0->z8M y z<=0->z8M x z<=0/\(z8M x z=0->z8M x y=0/\z8M y z=0)
 | [],[],z,_,h2=>⟨h2,fun e=>⟨by simp[z8M],e⟩⟩
 | [],b::y,[],_,h2=>by simp[z8M] at h2
 | [],b::y,c::z,_,_=>by simp[z8M]
 |a::x,[],_,h1,_=>by simp[z8M] at h1
 |a::x,b::y,[],_,h2=>by simp[z8M] at h2
 |a::x,b::y,c::z,h1,h2=>by
  have ih:=z8r x y z
  simp only[z8M] at h1 h2⊢
  by_cases h3:a<b
  · by_cases h4:b<c
    · rw[if_pos (show a<c by omega)];exact⟨by omega,fun e=>by omega⟩
    · rw[if_neg h4] at h2
      by_cases h5:c<b
      · rw[if_pos h5] at h2;omega
      · rw[if_pos (show a<c by omega)];exact⟨by omega,fun e=>by omega⟩
  · rw[if_neg h3] at h1
    by_cases h4:b<a
    · rw[if_pos h4] at h1;omega
    · rw[if_neg h4] at h1
      have hab:a=b:=by omega
      subst hab
      by_cases h5:a<c
      · simp only[if_pos h5];exact⟨by omega,fun e=>by omega⟩
      · simp only[if_neg h5] at h2
        by_cases h6:c<a
        · simp only[if_pos h6] at h2;omega
        · simp only[if_neg h6] at h2
          simp only[if_neg h5,if_neg h6,if_neg h3,if_neg h4]
          exact ih h1 h2
theorem zga(x:List Int):∀l:List (List Int),(zxW x l).Perm (x::l)
 | []=>.refl _
 |y::l=>by
  unfold zxW
  split
  · exact .refl _
  · exact((zga x l).cons y).trans (.swap x y l)
theorem z9p:∀l:List (List Int),(z9q l).Perm l
 | []=>.refl _
 |x::l=>(zga x (z9q l)).trans ((z9p l).cons x)
abbrev zw9(l:List (List Int)):Prop:=l.Pairwise fun a b=>z8M a b<=0
theorem zg9(x:List Int):∀l:List (List Int),zw9 l->zw9 (zxW x l)
 | [],_=>by simp[zxW]
 |y::l,h=>by
  unfold zxW
  rw[zw9,ZA] at h
  split
  · rename_i hxy
    refine ZA.2 ⟨fun z hz=> ?_,ZA.2 h⟩
    rcases Zw.1 hz with rfl|hz
    · exact hxy
    · exact(z8r _ _ _ hxy (h.1 z hz)).1
  · rename_i hxy
    refine ZA.2 ⟨fun z hz=> ?_,zg9 x l h.2⟩
    rcases Zw.1 ((zga x l).mem_iff.1 hz) with rfl|hz
    · rw[z8L];omega
    · exact h.1 z hz
theorem zan:∀l:List (List Int),zw9 (z9q l)
 | []=>by simp[z9q]
 |x::l=>zg9 x _ (zan l)
theorem zuz{l r:List (List Int)}(h:l.Perm r)(h1:zw9 l)(h2:zw9 r):l=r:=by
 refine Xz (le:=fun a b=>z8M a b<=0) (fun a b _ _ h3 h4=> ?_) h1 h2 h
 rw[z8L] at h4
 exact(zcZ a b).1 (by omega)
def zkG(B:Nat)(K:Nat->z0b)(b:Nat):z0b:=if B<=b then [0] else K b
def rwN(n j:Nat):Nat:=if j<n then j else 0
def cfR(rows:List (List Int))(i j:Nat):Int:=z8M (rows.getD (rwN rows.length i) []) (rows.getD (rwN rows.length j) [])
theorem zBY(rows:List (List Int)):SWO (ltOf (cfR rows)) where
 irrefl x:=by
  unfold ltOf cfR
  rw[(zcZ _ _).2 rfl];simp
 trans x y z h1 h2:=by
  unfold ltOf cfR at*
  simp only[decide_eq_true_eq] at*
  obtain⟨a,b⟩:=z8r _ _ _ (Int.le_of_lt h1) (Int.le_of_lt h2)
  rcases Int.lt_or_eq_of_le a with h|h
  · exact h
  · have:=(b h).1;omega
 ntrans x y z h1 h2:=by
  unfold ltOf cfR at*
  simp only[decide_eq_false_iff_not] at*
  rw[z8L] at h1 h2⊢
  have:=(z8r _ _ _ (show z8M (rows.getD (rwN rows.length z) []) (rows.getD (rwN rows.length y) [])<=0 by omega) (show z8M (rows.getD (rwN rows.length y) []) (rows.getD (rwN rows.length x) [])<=0 by omega)).1
  omega
theorem zlY{rows:List (List Int)}{d':Array Nat}(hp:PermIn 0 (List.range rows.length).toArray.size (List.range rows.length).toArray d')(hs:SortedIn (ltOf (cfR rows)) 0 (List.range rows.length).toArray.size d'):d'.size=rows.length/\(∀x∈d'.toList,x<rows.length)/\d'.toList.map (fun j=>rows.getD j [])=z9q rows:=by
 obtain⟨h1,_,h3⟩:=hp
 have hsz:d'.size=rows.length:=by simpa using h1
 have hp2:d'.toList.Perm (List.range rows.length):=by
  have:(d'.extract 0 (List.range rows.length).toArray.size).toList=d'.toList:=by
   rw[←h1];simp
  rw[this] at h3
  simp at h3
  exact h3
 have hlt:∀x∈d'.toList,x<rows.length:=fun x hx=>Zi.1 (hp2.mem_iff.1 hx)
 have e1:(List.range rows.length).map (fun j=>rows.getD j [])=rows:=by
  refine Ze (by simp) fun i h1 h2=> ?_
  simp[List.getD,h2]
 refine⟨hsz,hlt,zuz ?_ ?_ (zan rows)⟩
 · have:=hp2.map (fun j=>rows.getD j [])
   rw[e1] at this
   exact this.trans (z9p rows).symm
 · rw[zw9,ZH]
   intro i j hi hj hij
   simp only[Zg,Yk] at hi hj
   have:=hs i j (by omega) hij (by simp;omega)
   rw[getElem!_pos d' i hi,getElem!_pos d' j hj] at this
   unfold ltOf cfR rwN at this
   simp only[decide_eq_false_iff_not] at this
   have l1:=hlt d'[i] (by simp)
   have l2:=hlt d'[j] (by simp)
   rw[if_pos l1,if_pos l2,z8L] at this
   simp only[ZF,Xm]
   omega
theorem z9u{α:Type}[Inhabited α]{enc:α->Value}{cur:Array Value}{fr:Nat×Nat}(d:Array α)(hb:w.heap[g]? =some (.cells cur e fr)):(sortWorld enc w g 0 n d os).heap[g]? =some (.cells (putCells enc 0 d cur) e fr):=by
 unfold sortWorld
 rw[heap_grow_old _ _ (by rw[size_putRow];exact z1c hb)]
 simp[putRow,mapBlock,Sort.ahead,Yb,hb,onCells]
theorem z5I{α:Type}[Inhabited α]{enc:α->Value}(d:Array α){b:Nat}(hb:b<w.heap.size)(hne:b≠g):(sortWorld enc w g 0 n d os).heap[b]? =w.heap[b]? :=by
 unfold sortWorld
 rw[heap_grow_old _ _ (by rw[size_putRow];exact hb)]
 simp[putRow,mapBlock,Sort.ahead,Yb,Ne.symm hne]
theorem z6P{α:Type}[Inhabited α]{enc:α->Value}(d:Array α):w.heap.size<=(sortWorld enc w g 0 n d os).heap.size:=by
 unfold sortWorld
 rw[size_grow,size_putRow]
 show w.heap.size<=w.heap.size+_
 omega
theorem zb0{K':Nat->z0b}{c':z0b}(h:TRep w K c v (zeo x))(hk:∀b,b<w.heap.size->K b= []->K' b= []/\w'.heap[b]? =w.heap[b]?)(hs:w.heap.size<=w'.heap.size):TRep w' K' c' v (zeo x)/\IntsAt w' v x:=by
 unfold zeo at*
 generalize hT:T.sl x.length (x.map fun z=>T.sc (.int .i64 z))=t at h
 cases h with
 |emp c a cap hc=>
  injection hT with e1 e2
  have:x= []:=ZX e1
  subst this
  exact⟨.emp c' a cap hc,a,cap,rfl,by simp,hc,fun j hj=>by simp at hj⟩
 |fro c g o n cap cs F hK hg hn hc hF hh=>
  injection hT with e1 e2
  subst e1 e2
  obtain⟨k1,k2⟩:=hk g hg hK
  have hcell:∀j,j<x.length->w'.cell? ⟨g,o+j,none⟩=some (F j):=fun j hj=>by
   rw[z1j k2];exact hF j (by simpa using hj)
  have hv:∀j (hj:j<x.length),F j= .int .i64 (x.getD j 0):=fun j hj=>by
   have:=hh j (.sc (.int .i64 x[j])) (by simp[hj])
   rw[this.sc_eq,List.getD,Z1 hj,Z7]
  refine⟨.fro c' g o _ cap _ F k1 (by omega) hn hc (fun j hj=>hcell j (by simpa using hj)) (fun j t ht=> ?_),some ⟨g,o,none⟩,cap,rfl,hn,hc,fun j hj=>⟨g,o,rfl,by rw[hcell j hj,hv j hj]⟩⟩
  have:=hh j t ht
  simp only[Zc,Z4] at ht
  obtain⟨z,hz,rfl⟩:=ht
  rw[this.sc_eq]
  exact .sc _ _ rfl
 |_=>cases hT
theorem znB(h:TRep w K c v (zeo x)):v.oneCell'=true:=by
 unfold zeo at h
 generalize hT:T.sl x.length (x.map fun z=>T.sc (.int .i64 z))=t at h
 cases h with
 |emp=>rfl
 |fro=>rfl
 |_=>cases hT
theorem zlF(h:zue 101 args=some (r,outs)):CallOk Tryz.prog I 100 args r outs:=by
 unfold zue at h
 split at h
 case h_2=>cases h
 rename_i n cs f fs gs
 split at h
 case isFalse=>cases h
 rename_i hfg
 obtain⟨rfl,hfs,hgs⟩:=hfg
 simp only[X8] at hfs hgs
 subst hfs hgs
 split at h
 case h_2=>cases h
 rename_i xs hxs
 split at h
 case isFalse=>cases h
 rename_i hn
 subst hn
 unfold zjz at h
 split at h
 case isFalse=>cases h
 rename_i hc
 obtain⟨hne,hlen⟩:=hc
 obtain⟨rfl,rfl⟩:T.tup []=r/\ [T.os 1 (z9q xs).length ((z9q xs).map zeo),.dead]=outs:=by simpa using h
 have hcs:=zko hxs
 subst hcs
 clear h hxs
 refine⟨fun vals w=> ?_,fun w K vals hs ha hI=> ?_⟩
 · have hb:∃c,Tryz.f100.body=some c:=⟨_,rfl⟩
   obtain⟨c,hb⟩:=hb
   have hname:Tryz.f100.name≠ "runtime.NumGoroutine" :=by decide
   simp[callFunc,program,Sem.run,Tryz.func100,hname,hb]
 · obtain⟨v,u,rfl⟩:∃v u,vals= #[v,u]:=by
    obtain⟨l⟩:=vals
    match l,hs with
    | [v,u],_=>exact⟨v,u,rfl⟩
   have hv:TRep w K (col 0) v (.os 1 xs.length (xs.map zeo)):=ha 0 _ rfl
   have hu:TRep w K [] u (.sc (.func (.func 101) #[] #[])):=ha 1 _ rfl
   rw[hu.sc_eq]
   clear hu ha
   have hl0:0<xs.length:=ZJ.2 hne
   generalize hT:T.os 1 xs.length (xs.map zeo)=t at hv
   cases hv with
   |nil=>injection hT with _ e _;omega
   |own c g n cap size cs arr e fz F hfz hc0 hK hg hsz hl hz hn hcap hF hh=>
    injection hT with e1 e2 e3
    subst e1 e2 e3
    have hrow:∀j,j<xs.length->TRep w K (col 0++ [j]) (F j) (zeo (xs.getD j [])):=fun j hj=>by
     have:=hh j (zeo xs[j]) (by simp[hj])
     rwa [List.getD,Z1 hj,Z7]
    have hcell:∀j,j<xs.length->arr[j]? =some (F j):=fun j hj=>hF j (by simpa using hj)
    let enc:Nat->Value:=fun j=>F (rwN xs.length j)
    have hdg:∀j,j<xs.length->(List.range xs.length).toArray[j]! =j:=fun j hj=>by
     rw[getElem!_pos _ j (by simpa using hj)];simp
    have hH:Holds enc w g 0 (List.range xs.length).toArray:=fun j hj=>by
     have hj':j<xs.length:=by simpa using hj
     constructor
     · rw[Zs,z3Z hg,hcell j hj',hdg j hj']
       show some (F j)=some (F (rwN xs.length j))
       rw[rwN,if_pos hj']
     · unfold World.frozen?
       rw[Zs]
       simp only[hg]
       have:=hfz j (by omega)
       obtain⟨lo,hi⟩:=fz
       simp only at this⊢
       simp only[Xb,decide_eq_false_iff_not]
       omega
    have eg:∀args w,(callFunc 101 args).run Tryz.prog w= .ok (.enter 101 args) w:=enters_of Tryz.func101 (by kernel_rfl) rfl
    have hlay:∀(d:Array Nat) (m:Nat) (os:Array Obj) (b:Nat),b<w.heap.size->K b= []->K b= []/\(sortWorld enc w g 0 m d os).heap[b]? =w.heap[b]? :=fun d m os b hb hk=>⟨hk,z5I d hb (by rintro rfl;rw[hK] at hk;simp[col] at hk)⟩
    have hrw:∀j,rwN xs.length j<xs.length:=fun j=>by unfold rwN;split<;>omega
    have hcmp:CmpLays1 Tryz.prog 101 #[] enc (cfR xs) g 0 (List.range xs.length).toArray.size w:=fun m os dk _ x y=>by
     refine(zcq (enc x) (enc y) _ _ _ (zb0 (c':= []) (hrow _ (hrw x)) (hlay dk m os) (z6P dk)).2 (zb0 (c':= []) (hrow _ (hrw y)) (hlay dk m os) (z6P dk)).2).mono ?_
     rintro e' w' ⟨he,hw⟩
     exact⟨he,0,#[],by rw[←hw,grow_empty];rfl⟩
    have hcon:=Tryz.slices_SortFunc_f100 enc (fun j=>znB (hrow _ (hrw j))) (cfR xs) (zBY xs) 101 #[] g 0 cap (List.range xs.length).toArray w eg hcmp hH (z1c hg) (by simpa using hlen)
    have hsize:(List.range xs.length).toArray.size=xs.length:=by simp
    rw[hsize] at hcon
    refine hcon.mono fun e' w' ⟨he,d',m,os,hp,hso,hw⟩=> ?_
    subst hw
    obtain⟨hd,hdl,hsort⟩:=zlY (by rw[hsize];exact hp) (by rw[hsize];exact hso)
    have hys:(z9q xs).length=xs.length:=(z9p xs).length_eq
    refine⟨.tuple #[],zkG w.heap.size K,he,?_,fun i t hi hio=> ?_,rfl,rfl,rfl,z6P d',fun b hb hcb=>⟨by unfold zkG;rw[if_neg (by omega)],z5I d' hb ?_⟩,?_⟩
    · exact .tup _ #[] [] (fun _=>undef) rfl (fun j hj=>by simp at hj) (fun j t ht=>by simp at ht)
    · match i,hi with
      |0,hi=>
       refine⟨_,rfl,?_⟩
       show TRep _ _ (col 0) (.slice (some ⟨g,0,none⟩) xs.length cap) _
       rw[←hys]
       refine .own (col 0) g _ cap 1 _ (putCells enc 0 d' arr) e fz (fun j=>F (d'.toList.getD j 0)) (fun i hi=>hfz i (by simpa[putCells] using hi)) (by simp[col]) (by unfold zkG;rw[if_neg (by have:=z1c hg;omega)];exact hK) (z9u d' hg) (by simpa[putCells] using hsz) (by simp) (by omega) (by omega) hcap (fun j hj=> ?_) (fun j t ht=> ?_)
       · have hj':j<xs.length:=by simpa[hys] using hj
         have hja:j<arr.size:=(Y0.1 (hcell j hj')).1
         have hjd:j<d'.size:=by omega
         have hjl:=hdl d'[j] (by simp)
         simp only[putCells,Xd,hcell j hj',ZO]
         rw[if_pos (by omega),YN,getElem!_pos d' j hjd]
         show some (F (rwN xs.length d'[j]))=some (F (d'.toList.getD j 0))
         rw[rwN,if_pos hjl]
         simp[List.getD,hjd]
       · simp only[Zc,Z4] at ht
         obtain⟨x,hx',rfl⟩:=ht
         have hjs:j<(z9q xs).length:=(Z6.1 hx').1
         have hjd:j<d'.toList.length:=by rw[Yk];omega
         have hjl:=hdl d'.toList[j] (Zp hjd)
         have ex:x=xs.getD d'.toList[j] []:=by
          have h1:(d'.toList.map fun j=>xs.getD j [])[j]? =some x:=by rw[hsort];exact hx'
          rw[Zc,Z1 hjd,ZO] at h1
          exact(YK h1).symm
         have e2:d'.toList.getD j 0=d'.toList[j]:=by rw[List.getD,Z1 hjd,Z7]
         rw[e2,ex]
         exact(zb0 (hrow _ hjl) (fun b hb hk=>⟨by unfold zkG;rw[if_neg (by omega)];exact hk,(hlay d' m os b hb hk).2⟩) (z6P d')).1
      |1,hi=>cases hi;cases hio
    · rintro rfl
      rw[hK] at hcb
      simp[col] at hcb
    · intro b arr0 e0 fz0 hb0
      by_cases hbg:b=g
      · subst hbg
        rw[hg] at hb0
        cases hb0
        exact⟨_,_,_,z9u d' hg,by simp[putCells]⟩
      · exact⟨_,_,_,(z5I d' (z1c hb0) hbg).trans hb0,rfl⟩
   |_=>cases hT
theorem zjr(h:zn1 args=some (r,outs)):CallOk Tryz.prog I 237 args r outs:=by
 unfold zn1 at h
 split at h
 case h_2=>cases h
 rename_i n cs
 split at h
 case h_2=>cases h
 rename_i xs hxs
 split at h
 case isFalse=>cases h
 rename_i hn
 subst hn
 unfold z9Z at h
 split at h
 case isFalse=>cases h
 rename_i hc
 obtain⟨hne,hlen⟩:=hc
 have hcs:=z8C hxs
 subst hcs
 clear hxs
 have hys:(xs.mergeSort fun x y=>decide (x<=y)).length=xs.length:=List.length_mergeSort xs
 simp only[ZO,Za,Prod.mk.injEq] at h
 generalize hgen:(xs.mergeSort fun x y=>decide (x<=y))=ys at h hys
 obtain⟨rfl,rfl⟩:=h
 refine⟨fun vals w=> ?_,fun w K vals hs ha hI=> ?_⟩
 · have hb:∃c,Tryz.f237.body=some c:=⟨_,rfl⟩
   obtain⟨c,hb⟩:=hb
   have hname:Tryz.f237.name≠ "runtime.NumGoroutine" :=by decide
   simp[callFunc,program,Sem.run,Tryz.func237,hname,hb]
 · obtain⟨v,rfl⟩:∃v,vals= #[v]:=by
    obtain⟨l⟩:=vals
    match l,hs with
    | [v],_=>exact⟨v,rfl⟩
   have hv:TRep w K (col 0) v (.os 1 xs.length (xs.map fun x=>.sc (.int .i64 x))):=ha 0 _ rfl
   clear ha
   have hl0:0<xs.length:=ZJ.2 hne
   generalize hT:T.os 1 xs.length (xs.map fun x=>T.sc (.int .i64 x))=t at hv
   cases hv with
   |nil=>injection hT with _ e _;omega
   |own c g n cap size cs arr e fz F hfz hc0 hK hg hsz hl hz hn hcap hF hh=>
    injection hT with e1 e2 e3
    subst e1 e2 e3
    have hcell:∀j (hj:j<xs.length),arr[j]? =some (.int .i64 xs[j]):=fun j hj=>by
     rw[hF j (by simpa using hj)]
     have:=hh j (.sc (.int .i64 xs[j])) (by simp[hj])
     rw[this.sc_eq]
    have hH:Holds (Value.int .i64) w g 0 xs.toArray:=fun j hj=>by
     have hj':j<xs.length:=by simpa using hj
     constructor
     · rw[Zs,z3Z hg,hcell j hj',getElem!_pos _ j hj];simp
     · unfold World.frozen?
       rw[Zs]
       simp only[hg]
       have:=hfz j (by omega)
       obtain⟨lo,hi⟩:=fz
       simp only at this⊢
       simp only[Xb,decide_eq_false_iff_not]
       omega
    have hcon:=Tryz.slices_Sort_int g 0 cap xs w hH (z1c hg) hlen
    refine hcon.mono fun e' w' ⟨he,m,os,hw⟩=> ?_
    rw[hgen] at hw
    have hw':w'=sortWorld (Value.int .i64) w g 0 m ys.toArray os:=hw
    clear hw
    subst hw'
    refine⟨.tuple #[],zkG w.heap.size K,he,?_,fun i t hi hio=> ?_,rfl,rfl,rfl,z6P _,fun b hb hcb=>⟨by unfold zkG;rw[if_neg (by omega)],z5I _ hb ?_⟩,?_⟩
    · exact .tup _ #[] [] (fun _=>undef) rfl (fun j hj=>by simp at hj) (fun j t ht=>by simp at ht)
    · match i,hi with
      |0,hi=>
       refine⟨_,rfl,?_⟩
       show TRep _ _ (col 0) (.slice (some ⟨g,0,none⟩) xs.length cap) _
       rw[←hys]
       refine .own (col 0) g _ cap 1 _ (putCells (Value.int .i64) 0 ys.toArray arr) e fz (fun j=>.int .i64 (ys.getD j 0)) (fun i hi=>hfz i (by simpa[putCells] using hi)) (by simp[col]) (by unfold zkG;rw[if_neg (by have:=z1c hg;omega)];exact hK) (z9u _ hg) (by simpa[putCells] using hsz) (by simp) (by omega) (by omega) hcap (fun j hj=> ?_) (fun j t ht=> ?_)
       · have hj':j<xs.length:=by simpa[hys] using hj
         have hjd:j<ys.toArray.size:=by simp;omega
         simp only[putCells,Xd,hcell j hj',ZO]
         rw[if_pos (by omega),YN,getElem!_pos _ j hjd]
         have hjy:j<ys.length:=by omega
         simp[List.getD,hjy]
       · simp only[Zc,Z4] at ht
         obtain⟨x,hx',rfl⟩:=ht
         simp only[List.getD,hx']
         exact .sc _ _ rfl
    · rintro rfl
      rw[hK] at hcb
      simp[col] at hcb
    · intro b arr0 e0 fz0 hb0
      by_cases hbg:b=g
      · subst hbg
        rw[hg] at hb0
        cases hb0
        exact⟨_,_,_,z9u _ hg,by simp[putCells]⟩
      · exact⟨_,_,_,(z5I _ (z1c hb0) hbg).trans hb0,rfl⟩
   |_=>cases hT
theorem zyn(h:Below w.heap.size w w'):Step w K w' (zkG w.heap.size K):=
 ⟨h.os,h.tape,h.output,h.size,fun b hb _=>⟨by unfold zkG;rw[if_neg (by omega)],h.block b hb⟩,.olds fun b hb=>h.block b hb⟩
theorem zA7{B:Nat}{xs:List Int}(hn:xs.length=n)(h:w.ownsRow B e 1 v n (xs.map (Value.int .i64))):TRep w (zkG B K) [0] v (.os 1 xs.length (xs.map fun x=>.sc (.int .i64 x))):=by
 obtain⟨h1,h2⟩:=h
 subst hn
 rcases h2 with⟨rfl,h0⟩|⟨g,cap,cur,rfl,hb,hg,hc1,hc2,hs,ht⟩
 · have:xs= []:=ZX h0
   subst this
   exact .nil _ _
 · refine .own [0] g xs.length cap 1 _ cur e (0,0) (fun j=>.int .i64 (xs.getD j 0)) (fun i _=>by simp) (by simp) (by unfold zkG;rw[if_pos hb]) hg hs (by simp) (by omega) hc1 hc2 (fun j hj=> ?_) (fun j t ht=> ?_)
   · have hj':j<xs.length:=by simpa using hj
     have h3:(cur.toList.take (xs.length*1))[j]? =(xs.map (Value.int .i64))[j]? :=by rw[ht]
     rw[X3 (by omega),Zc,Z1 hj'] at h3
     simp only[ZO,Zx] at h3
     rw[h3,List.getD,Z1 hj']
     rfl
   · simp only[Zc,Z4] at ht
     obtain⟨x,hx,rfl⟩:=ht
     simp only[List.getD,hx]
     exact .sc _ _ rfl
theorem zju(h:zn3 args=some (r,outs)):CallOk Tryz.prog I 104 args r outs:=by
 unfold zn3 at h
 split at h
 case h_2=>cases h
 rename_i n cs
 split at h
 case h_2=>cases h
 rename_i xs hxs
 split at h
 case isFalse=>cases h
 rename_i hn
 subst hn
 unfold zbq at h
 split at h
 case isFalse=>cases h
 rename_i hb
 have hcs:=z8C hxs
 subst hcs
 clear hxs
 simp only[ZO,Za,Prod.mk.injEq] at h
 obtain⟨rfl,rfl⟩:=h
 refine⟨fun vals w=> ?_,fun w K vals hs ha hI=> ?_⟩
 · have hb:∃c,Tryz.f104.body=some c:=⟨_,rfl⟩
   obtain⟨c,hb⟩:=hb
   have hname:Tryz.f104.name≠ "runtime.NumGoroutine" :=by decide
   simp[callFunc,program,Sem.run,Tryz.func104,hname,hb]
 · obtain⟨v,rfl⟩:∃v,vals= #[v]:=by
    obtain⟨l⟩:=vals
    match l,hs with
    | [v],_=>exact⟨v,rfl⟩
   have hv:TRep w K [] v (.sl xs.length (xs.map fun x=>.sc (.int .i64 x))):=ha 0 _ rfl
   have fin:∀e w',(∃v',e=Ending.returned v'/\w'.ownsRow w.heap.size 3 1 v' xs.length (xs.map (Value.int .i64))/\Below w.heap.size w w')->∃v' K',e=Ending.returned v'/\TRep w' K' [0] v' (.os 1 xs.length (xs.map fun x=>.sc (.int .i64 x)))/\(∀i t,[T.sl xs.length (xs.map fun x=>T.sc (.int .i64 x))][i]? =some t->z6N t=true->∃t',[T.dead][i]? =some t'/\TRep w' K' (col i) (#[v].getD i undef) t')/\Step w K w' K':=by
    rintro e w' ⟨v',he,ho,hbl⟩
    refine⟨v',zkG w.heap.size K,he,zA7 rfl ho,fun i t hi hio=> ?_,zyn hbl⟩
    match i,hi with
    |0,hi=>cases hi;cases hio
   generalize hT:T.sl xs.length (xs.map fun x=>T.sc (.int .i64 x))=t at hv
   cases hv with
   |emp c a cap hcap=>
    have:xs= []:=by
     have:xs.length=0:=by injection hT
     exact ZX this
    subst this
    cases a with
    |none=>exact(Tryz.slices_Clone_int_nil 0 cap w).mono fun e w' ⟨he,hw⟩=>fin e w' ⟨_,he,⟨by simp,.inl ⟨rfl,rfl⟩⟩,hw▸Below.refl _ _⟩
    |some a=>exact(Tryz.slices_Clone_int_zero a cap w).mono fun e w' ⟨v',he,ho,_,hb⟩=>fin e w' ⟨v',he,ho,hb⟩
   |fro c g o n cap cs F hK hg hn hcap hF hh=>
    injection hT with e1 e2
    subst e1
    subst e2
    refine(Tryz.slices_Clone_int g o xs.length cap xs w (Z8 _) hb (fun j hj=> ?_)).mono fun e w' ⟨v',he,ho,_,hbl⟩=>fin e w' ⟨v',he,?_,hbl⟩
    · have h1:=hF j (by simpa using hj)
      rw[h1]
      have h2:=hh j (.sc (.int .i64 (xs.getD j 0))) (by simp[List.getD,hj])
      rw[h2.sc_eq]
    · rw[Yq (Z8 _)] at ho
      exact ho
   |_=>cases hT
end
section
open Go
set_option maxRecDepth 100000
theorem z8G{l:List (List Nat)}{i:Nat}(h:i<l.length):l.getD i []∈l:=by grind
def zbz(f g:List Nat):List Nat:=f.map fun y=>g.getD y 0
structure PermL(L:Nat)(p:List Nat):Prop where
 len:p.length=L
 nd:p.Nodup
 lt:∀x∈p,x<L
theorem zpI(L:Nat):PermL L (List.range L):=⟨by simp,YC,fun x hx=>Zi.1 hx⟩
theorem zj6(f g:List Nat):(zbz f g).length=f.length:=by simp[zbz]
theorem ztx{L:Nat}{f g:List Nat}(hf:PermL L f)(hg:PermL L g):PermL L (zbz f g):=by
 refine⟨by rw[zj6,hf.len],z5m hf.nd fun x hx y hy e=> ?_,fun x hx=> ?_⟩
 · exact z5h hg.nd (by have:=hf.lt x hx;have:=hg.len;omega) (by have:=hf.lt y hy;have:=hg.len;omega) e
 · obtain⟨y,hy,rfl⟩:=Zj.1 hx
   exact hg.lt _ (z0g (by have:=hf.lt y hy;have:=hg.len;omega))
theorem zox{L:Nat}{g:List Nat}(hg:PermL L g):zbz (List.range L) g=g:=by
 refine Ze (by rw[zj6,ZC,hg.len]) fun i h1 h2=> ?_
 simp[zbz,List.getD,h2]
theorem zqB{L:Nat}{f g h:List Nat}(hf:PermL L f)(hg:PermL L g):zbz (zbz f g) h=zbz f (zbz g h):=by
 unfold zbz
 rw[Y5]
 refine Zz fun y hy=> ?_
 have:y<g.length:=by have:=hf.lt y hy;have:=hg.len;omega
 simp[List.getD,this]
inductive RchG(L:Nat)(P:List (List Nat)):List Nat->Prop
 |one:RchG L P (List.range L)
 |step (e g) (h:RchG L P e) (hg:g∈P):RchG L P (zbz e g)
theorem z9s{L:Nat}{P:List (List Nat)}(hP:∀g∈P,PermL L g){e:List Nat}(h:RchG L P e):PermL L e:=by
 induction h with
 |one=>exact zpI L
 |step e g _ hg ih=>exact ztx ih (hP g hg)
theorem zrZ{L:Nat}{P:List (List Nat)}(hP:∀g∈P,PermL L g){g:List Nat}(hg:g∈P):RchG L P g:=by
 have:=RchG.step _ g (.one (L:=L) (P:=P)) hg
 rwa [zox (hP g hg)] at this
theorem z8m{L:Nat}{P Q:List (List Nat)}(h:∀g∈Q,g∈P){e:List Nat}(he:RchG L Q e):RchG L P e:=by
 induction he with
 |one=>exact .one
 |step e g _ hg ih=>exact .step _ _ ih (h g hg)
theorem zyk{L:Nat}{e:List Nat}(h:PermL L e):zbz e (List.range L)=e:=by
 refine Ze (zj6 _ _) fun i h1 h2=> ?_
 have:=h.lt e[i] (Zp h2)
 simp[zbz,List.getD,this]
theorem zqo{L:Nat}{U E:List (List Nat)}(hU:∀g∈U,PermL L g)(hE:∀e∈E,PermL L e)(hc:∀e∈E,∀g∈U,zbz e g∈E){x g:List Nat}(hx:x∈E)(hg:RchG L U g):zbz x g∈E:=by
 induction hg with
 |one=>rw[zyk (hE x hx)];exact hx
 |step g' u hg' hu ih=>
  rw[←zqB (hE x hx) (z9s hU hg')]
  exact hc _ ih u hu
theorem zqy{f g:List Nat}(hl:f.length<=1000)(h:∀x∈f,x<g.length):z5Y (toI f) (toI g)=some (toI (zbz f g)):=by
 have e0:toI (zbz f g)=(List.range f.length).map fun k=>((g.getD (f.getD k 0) 0:Nat):Int):=by
  refine Ze (by simp[toI,zbz]) fun i h1 h2=> ?_
  have hi:i<f.length:=by simpa[toI,zbz] using h1
  simp[toI,zbz,List.getD,hi]
 unfold z5Y
 rw[z0c,z0i _ (by unfold z0Q;omega),Z2,e0]
 refine z0q (s:=((0:Int),List.replicate f.length (0:Int))) f.length (fun k=>((k:Int),zb5 f.length (fun k=>((g.getD (f.getD k 0) 0:Nat):Int)) (fun _=>0) k)) (by rw[z9T];congr 1;exact(Ze (by simp) fun i h1 h2=>by simp)) (by simp only[LFm];omega) (fun k hk=> ?_) ?_
 · have hx:=h _ (z0g hk)
   simp only[z6s]
   rw[if_pos (by rw[z0c];omega),z1s hk,Z0,z1s hx,Z0,z6T hk,Z0,z0V (by omega),Z2,z5c (f:=fun k=>((g.getD (f.getD k 0) 0:Nat):Int)) hk]
 · simp only[z6s]
   rw[if_neg (by rw[z0c];omega),z9S]
theorem ziL{p:List Nat}(hl:p.length<=1000)(hp:∀x∈p,x<256):z7q (toI p)=some (z1x (toI p)):=by
 unfold z7q
 rw[z0c,z0i _ (by unfold z0Q;omega),Z2]
 have e0:toI p=(List.range p.length).map fun k=>((p.getD k 0:Nat):Int):=by
  refine Ze (by simp[toI]) fun i h1 h2=> ?_
  have hi:i<p.length:=by simpa[toI] using h1
  simp[toI,List.getD,hi]
 refine z0q (s:=((0:Int),List.replicate p.length (0:Int))) p.length (fun k=>((k:Int),zb5 p.length (fun k=>((p.getD k 0:Nat):Int)) (fun _=>0) k)) (by rw[z9T];congr 1;exact(Ze (by simp) fun i h1 h2=>by simp)) (by simp only[LFm];omega) (fun k hk=> ?_) ?_
 · have hx:=hp _ (z0g hk)
   have hw:IntKind.u8.wrap ((p.getD k 0:Nat):Int)=((p.getD k 0:Nat):Int):=by rw[YM];omega
   simp only[z8f]
   rw[if_pos (by rw[z0c];omega),z1s hk,Z0,z6T hk,Z0,z0V (by omega),Z2,hw,z5c (f:=fun k=>((p.getD k 0:Nat):Int)) hk]
 · simp only[z8f]
   rw[if_neg (by rw[z0c];omega),z9S,←e0]
theorem zgn:∀ {p q:List Nat},(∀x∈p,x<256)->(∀x∈q,x<256)->z1x (toI p)=z1x (toI q)->p=q:=by
 have key:∀ {p q:List Nat},(∀x∈p,x<256)->(∀x∈q,x<256)->(toI p).map (fun z:Int=>UInt8.ofNat z.toNat)=(toI q).map (fun z:Int=>UInt8.ofNat z.toNat)->p=q:=by
  intro p
  induction p with
  |nil=>
   intro q _ _ h
   cases q with
   |nil=>rfl
   |cons b q=>simp[toI] at h
  |cons a p ih=>
   intro q hp hq h
   cases q with
   |nil=>simp[toI] at h
   |cons b q=>
    simp only[toI,Zn,XN] at h
    have ha:=hp a (Zv ..)
    have hb:=hq b (Zv ..)
    have g1:=congrArg UInt8.toNat h.1
    simp only[Z2,XY] at g1
    have:a=b:=by omega
    subst this
    rw[ih (fun k hk=>hp k (Zl _ hk)) (fun k hk=>hq k (Zl _ hk)) h.2]
 intro p q hp hq h
 refine key hp hq ?_
 have:=congrArg ByteArray.data h
 simpa[z1x] using this
theorem zvu{L:Nat}(h1:1<=L)(h2:L<=32):z6k (L:Int)=some (toI (List.range L)):=by
 unfold z6k
 rw[if_neg (by omega),if_neg (by omega),z0i _ (by unfold z0Q;omega),Z2]
 have e0:toI (List.range L)=(List.range L).map fun k:Nat=>(k:Int):=rfl
 refine z0q (s:=((0:Int),List.replicate L (0:Int))) L (fun k=>((k:Int),zb5 L (fun k=>(k:Int)) (fun _=>0) k)) (by rw[z9T];congr 1;exact(Ze (by simp) fun i h1 h2=>by simp)) (by simp only[LFm];omega) (fun k hk=> ?_) ?_
 · simp only[z5P]
   rw[if_pos (by omega),z6T hk,Z0,z0V (by omega),Z2,z5c (f:=fun k=>(k:Int)) hk]
 · simp only[z5P]
   rw[if_neg (by omega),z9S,e0]
theorem zjy{L:Nat}{p:List Nat}(h:PermL L p)(h1:1<=L)(h2:L<=32):z7j (toI p)=some true:=by
 have hl:=h.len
 unfold z7j
 rw[z0c,if_neg (by omega),if_neg (by omega)]
 refine z0q (s:=(0:Int)) p.length (fun k=>(k:Int)) rfl (by simp only[LFm];omega) (fun k hk=> ?_) ?_
 · have:=h.lt _ (z0g hk)
   simp only[z7x]
   rw[z0c,if_pos (by omega),z1s hk,Z0,if_neg (by omega),if_neg (by omega),z0V (by omega)]
 · simp only[z7x]
   rw[z0c,if_neg (by omega)]
theorem zqz{l:List Int}(h:l.Nodup)(hl:l.length<=1000):z2G l=some l:=by
 unfold z2G
 by_cases h0:(l.length:Int)<2
 · rw[if_pos h0]
 · rw[if_neg h0]
   refine z0q (s:=(1:Int)) (l.length-1) (fun k=>((k+1:Nat):Int)) rfl (by simp only[LFm];omega) (fun k hk=> ?_) ?_
   · have w:IntKind.i64.wrap (((k+1:Nat):Int)-1)=(k:Int):=by rw[z3f (by omega) (by omega)];omega
     simp only[z4p]
     rw[if_pos (by omega),z0Y (show k+1<l.length by omega),Z0,w,z0Y (show k<l.length by omega),Z0,if_neg,z0V (by omega)]
     intro e
     have:=(List.getElem_inj h).1 e
     omega
   · grind
theorem zq3{L:Nat}{p:List Nat}(h:PermL L p)(h1:1<=L)(h2:L<=32):z4d (toI p)=some true:=by
 have hl:=h.len
 have hne:toI p≠ []:=fun e=>by have:=congrArg List.length e;rw[z0c,Yg] at this;omega
 have hnd:((toI p).mergeSort fun x y=>decide (x<=y)).Nodup:=(List.mergeSort_perm _ _).nodup_iff.2 (Yz _ (fun a b (hab:a≠b)=>by intro e;exact hab (by omega)) h.nd)
 have hlen:((toI p).mergeSort fun x y=>decide (x<=y)).length=p.length:=by rw[List.length_mergeSort,z0c]
 unfold z4d
 rw[zjy h h1 h2,Z0,if_pos rfl]
 unfold zaH z9G
 rw[zjy h h1 h2,Z0,if_pos rfl]
 unfold zbq z9Z
 rw[z0c,if_pos (by omega),Z0,if_pos ⟨hne,by rw[z0c];omega⟩,Z0,zqz hnd (by omega),Z0,Z0,hlen,Z0]
 simp
theorem zsc{L:Nat}{P:List (List Nat)}(hP:∀g∈P,PermL L g)(h1:1<=L)(h2:L<=32)(hl:P.length<=100000):z4y (P.map toI) (L:Int)=some true:=by
 unfold z4y
 refine z0q (s:=(0:Int)) P.length (fun k=>(k:Int)) rfl (by simp only[LFm];omega) (fun k hk=> ?_) ?_
 · have hk':=hP _ (Zp hk)
   have hat:atI (P.map toI) (k:Int)=some (toI P[k]):=by rw[z0Y (by simpa using hk)];simp
   simp only[z5J]
   rw[if_pos (by rw[Zg];omega),hat,Z0,z0c,if_pos (by rw[hk'.len]),zq3 hk' h1 h2,Z0,if_pos rfl,z0V (by omega)]
 · grind
def z9b:List (List Nat)->List (ByteArray×Bool):=List.foldl (fun mp q=>z8k (z1x (toI q)) true mp) []
theorem zhD(Q:List (List Nat))(p:List Nat):z9b (Q++ [p])=z8k (z1x (toI p)) true (z9b Q):=by
 unfold z9b;rw[Yt];rfl
theorem zfH{p:List Nat}(hb:∀k∈p,k<256){Q:List (List Nat)}(hQ:∀q∈Q,∀k∈q,k<256):((z7T (z1x (toI p)) (z9b Q)).getD false)=true↔p∈Q:=by
 have key:∀(Q:List (List Nat)) (mp:List (ByteArray×Bool)),(∀q∈Q,∀k∈q,k<256)->(((z7T (z1x (toI p)) (Q.foldl (fun mp q=>z8k (z1x (toI q)) true mp) mp)).getD false)=true↔(p∈Q∨((z7T (z1x (toI p)) mp).getD false)=true)):=by
  intro Q
  induction Q with
  |nil=>intro mp _;simp
  |cons q Q ih=>
   intro mp hQ
   rw[YL,ih _ (fun x hx=>hQ x (Zl _ hx)),zcS,Zw]
   have hq:=hQ q (Zv ..)
   by_cases e:q=p
   · grind
   · have:¬z1x (toI q)=z1x (toI p):=fun h=>e (zgn hq hb h)
     rw[if_neg this]
     constructor
     · grind
     · grind
 have:=key Q [] hQ
 rw[show z9b Q=Q.foldl (fun mp q=>z8k (z1x (toI q)) true mp) [] from rfl,this]
 simp[z7T]
structure GInv(L:Nat)(P E:List (List Nat)):Prop where
 nd:E.Nodup
 rc:∀e∈E,RchG L P e
 on:List.range L∈E
section
variable {L:Nat} {P:List (List Nat)} (hP:∀g∈P,PermL L g) (h1:1<=L) (h2:L<=32) (hB:∀l:List (List Nat),l.Nodup->(∀e∈l,RchG L P e)->l.length<=2000)
include hP h1 h2 hB
theorem zcw{e:List Nat}(h:RchG L P e):∀k∈e,k<256:=fun k hk=>by
 have _u:=h1
 have _v:=hB
 have:=(z9s hP h).lt k hk;omega
theorem zzt{E U:List (List Nat)}{f:List Nat}(hE:GInv L (U++ [f]) E)(hU:∀g∈U++ [f],g∈P)(hUl:U.length<=100000){i:Nat}(hi:i<E.length):
 ∃X,GInv L (U++ [f]) (E++X)/\(∀g∈U++ [f],zbz (E.getD i []) g∈E++X)/\z0h (z4z (U.map toI) (toI f) (i:Int)) LFm (0,E.map toI,z9b E)=z0d (((i+1:Nat):Int),(E++X).map toI,z9b (E++X)):=by
 refine Exists.elim (z2e (b:=z4z (U.map toI) (toI f) (i:Int)) (fun z=>∃(k:Nat) (X:List (List Nat)),k<=U.length+1/\z=((k:Int),(E++X).map toI,z9b (E++X))/\GInv L (U++ [f]) (E++X)/\ ∀j,j<k->zbz (E.getD i []) ((U++ [f]).getD j [])∈E++X) (fun z=>U.length+1-z.1.toNat)
  (fun r=>∃X,r= .inl (((i+1:Nat):Int),(E++X).map toI,z9b (E++X))/\GInv L (U++ [f]) (E++X)/\ ∀j,j<U.length+1->zbz (E.getD i []) ((U++ [f]).getD j [])∈E++X) ?_ LFm (0,E.map toI,z9b E) ⟨0,[],by omega,by simp,by rw[Y8];exact hE,fun j hj=>by omega⟩ (by simp only[LFm];omega)) fun r h=> ?_
 · rintro z ⟨k,X,hk,rfl,hX,hc⟩
   have hrp:∀e∈E++X,RchG L P e:=fun e he=>z8m hU (hX.rc e he)
   have hsz:=hB _ hX.nd hrp
   rw[Zb] at hsz
   have hlen:((E++X).map toI).length=E.length+X.length:=by grind
   simp only[z4z]
   rw[Zg]
   by_cases hk1:k<U.length+1
   · left
     have hg:(U++ [f]).getD k []∈U++ [f]:=z8G (by rw[Zb,ZD];exact hk1)
     have hgp:=hP _ (hU _ hg)
     have hat1:atI (U.map toI++ [toI f]) (k:Int)=some (toI ((U++ [f]).getD k [])):=by
      have e:U.map toI++ [toI f]=(U++ [f]).map toI:=by simp
      rw[e,z0Y (by simp;omega)]
      simp only[ZF]
      rw[List.getD,Z1 (by simp;omega),Z7]
     have hei:E.getD i []∈E++X:=Zf.2 (.inl (z8G hi))
     have hep:=z9s hP (hrp _ hei)
     have hat2:atI ((E++X).map toI) (i:Int)=some (toI (E.getD i [])):=by
      rw[z0Y (by simp;omega)]
      simp only[ZF]
      rw[List.getElem_append_left hi,List.getD,Z1 hi,Z7]
     have hcu:RchG L (U++ [f]) (zbz (E.getD i []) ((U++ [f]).getD k [])):=.step _ _ (hX.rc _ hei) hg
     have hcr:=z8m hU hcu
     have hcp:=z9s hP hcr
     have hc256:=zcw hP h1 h2 hB hcr
     have hcomp:z5Y (toI (E.getD i [])) (toI ((U++ [f]).getD k []))=some (toI (zbz (E.getD i []) ((U++ [f]).getD k []))):=zqy (by rw[hep.len];omega) (fun x hx=>by have:=hep.lt x hx;rw[hgp.len];exact this)
     rw[if_pos (by omega),hat1,Z0,hat2,Z0,hcomp,Z0,ziL (by rw[hcp.len];omega) hc256,Z0]
     have hsg:=zfH hc256 (Q:=E++X) (fun q hq=>zcw hP h1 h2 hB (hrp q hq))
     generalize hcE:zbz (E.getD i []) ((U++ [f]).getD k [])=c at*
     by_cases hin:c∈E++X
     · rw[if_pos (hsg.2 hin),z0V (by omega)]
       refine⟨_,rfl,⟨k+1,X,by omega,rfl,hX,fun j hj=> ?_⟩,by simp only;omega⟩
       by_cases e:j=k
       · subst e;rw[hcE];exact hin
       · exact hc j (by omega)
     · have hX':GInv L (U++ [f]) (E++(X++ [c])):=by
        rw[←Zu]
        refine⟨Ym.2 ⟨hX.nd,by simp,fun a ha b hb=> ?_⟩,fun e he=> ?_,Zf.2 (.inl hX.on)⟩
        · grind
        · rcases Zf.1 he with he|he
          · exact hX.rc e he
          · grind
       rw[if_neg (fun e=>hin (hsg.1 e)),z0i _ (by unfold z1V;rw[hlen];omega),z0V (by omega)]
       refine⟨_,rfl,⟨k+1,X++ [c],by omega,?_,hX',fun j hj=> ?_⟩,by simp only;omega⟩
       · rw[←Zu,zhD,Y3 (f:=toI) (l₁:=E++X)];rfl
       · grind
   · right
     have hk2:k=U.length+1:=by omega
     rw[if_neg (by omega),if_neg (by rw[hlen];omega),z0V (by omega)]
     exact⟨_,rfl,X,rfl,hX,fun j hj=>hc j (by omega)⟩
 · obtain⟨h3,X,rfl,hX,hc⟩:=h
   refine⟨X,hX,fun g hg=> ?_,h3⟩
   obtain⟨j,hj,rfl⟩:=Zq hg
   have:=hc j (by simpa using hj)
   have e:(U++ [f]).getD j []=(U++ [f])[j]:=by grind
   rwa [e] at this
theorem zAe{E U:List (List Nat)}{f:List Nat}{w:Nat}(hw:w<100000)(hE:GInv L (U++ [f]) E)(hU:∀g∈U++ [f],g∈P)(hUl:U.length<=100000):
 ∃X,GInv L (U++ [f]) (E++X)/\(∀e∈E++X,∀g∈U++ [f],zbz e g∈E++X)/\z0h (z4A (w:Int) (U.map toI) (toI f)) LFm (0,E.map toI,z9b E)=z0d (((w+1:Nat):Int),(E++X).map toI,z9b (E++X),(U++ [f]).map toI):=by
 refine Exists.elim (z2e (b:=z4A (w:Int) (U.map toI) (toI f)) (fun z=>∃(i:Nat) (X:List (List Nat)),i<=(E++X).length/\z=((i:Int),(E++X).map toI,z9b (E++X))/\GInv L (U++ [f]) (E++X)/\ ∀j,j<i->∀g∈U++ [f],zbz ((E++X).getD j []) g∈E++X) (fun z=>2001-z.1.toNat)
  (fun r=>∃X,r= .inl (((w+1:Nat):Int),(E++X).map toI,z9b (E++X),(U++ [f]).map toI)/\GInv L (U++ [f]) (E++X)/\ ∀j,j<(E++X).length->∀g∈U++ [f],zbz ((E++X).getD j []) g∈E++X) ?_ LFm (0,E.map toI,z9b E) ⟨0,[],by simp,by simp,by rw[Y8];exact hE,fun j hj=>by omega⟩ (by simp only[LFm];omega)) fun r h=> ?_
 · rintro z ⟨i,X,hi,rfl,hX,hc⟩
   have hsz:=hB _ hX.nd (fun e he=>z8m hU (hX.rc e he))
   simp only[z4A]
   rw[Zg]
   by_cases hi1:i<(E++X).length
   · left
     obtain⟨Y,y1,y2,y3⟩:=zzt hP h1 h2 hB hX hU hUl hi1
     rw[if_pos (by omega),y3]
     have e:E++X++Y=E++(X++Y):=Zu ..
     rw[e] at y1 y2
     have hsz2:=hB _ y1.nd (fun e he=>z8m hU (y1.rc e he))
     refine⟨_,rfl,⟨i+1,X++Y,by rw[←e,Zb];omega,by rw[e],y1,fun j hj g hg=> ?_⟩,by simp only;omega⟩
     by_cases ej:j=i
     · grind
     · have:=hc j (by omega) g hg
       rw[show(E++(X++Y)).getD j []=(E++X).getD j [] by rw[←e,List.getD,List.getD,ZN (by omega)],←e]
       exact Zf.2 (.inl this)
   · right
     have hi2:i=(E++X).length:=by omega
     rw[if_neg (by omega),z0V (by omega)]
     refine⟨_,rfl,X,by simp,hX,fun j hj=>hc j (by omega)⟩
 · obtain⟨h3,X,rfl,hX,hc⟩:=h
   refine⟨X,hX,fun e he g hg=> ?_,h3⟩
   obtain⟨j,hj,rfl⟩:=Zq he
   have:=hc j hj g hg
   have e:(E++X).getD j []=(E++X)[j]:=by grind
   rwa [e] at this
theorem zy2(hne:P≠ [])(hl:P.length<=10000):∃E:List (List Nat),z5v (P.map toI)=some (E.map toI,0)/\zw9 (E.map toI)/\E.Nodup/\ ∀e,e∈E↔RchG L P e:=by
 have hpos:=ZJ.2 hne
 have hP0:=hP _ (Zp hpos)
 have hat0:atI (P.map toI) 0=some (toI P[0]):=by
  have:=z0Y (xs:=P.map toI) (k:=0) (by simpa using hpos)
  simpa using this
 have h256:∀k∈List.range L,k<256:=fun k hk=>by have:=Zi.1 hk;omega
 unfold z5v
 rw[if_neg (by rw[Zg];omega),hat0,Z0,z0c,hP0.len,zsc hP h1 h2 (by omega),Z0,if_pos rfl,zvu h1 h2,Z0,ziL (by simp;omega) h256,Z0]
 refine Exists.elim (z2e (b:=z5x (P.map toI)) (fun z=>∃(k:Nat) (E U:List (List Nat)),k<=P.length/\z=((k:Int),E.map toI,z9b E,U.map toI)/\GInv L U E/\U.length<=k/\(∀g∈U,g∈P)/\(∀e∈E,∀g∈U,zbz e g∈E)/\ ∀j,j<k->P.getD j []∈E) (fun z=>P.length+1-z.1.toNat)
  (fun r=>∃E:List (List Nat),r=(E.map toI,0)/\zw9 (E.map toI)/\E.Nodup/\ ∀e,e∈E↔RchG L P e) ?_ LFm (0,[toI (List.range L)],z8k (z1x (toI (List.range L))) true ([]:List (ByteArray×Bool)),[]) ⟨0,[List.range L],[],by omega,rfl,⟨by simp,fun e he=>by obtain rfl:=Zh.1 he;exact .one,by simp⟩,by simp,by simp,by simp,fun j hj=>by omega⟩ (by simp only[LFm];omega)) fun r h=> ?_
 · rintro z ⟨k,E,U,hk,rfl,hE,hUl,hU,hcl,hin⟩
   have hrp:∀e∈E,RchG L P e:=fun e he=>z8m hU (hE.rc e he)
   have hsz:=hB _ hE.nd hrp
   simp only[z5x]
   rw[Zg]
   by_cases hk1:k<P.length
   · left
     have hg:=z8G hk1
     have hgp:=hP _ hg
     have hat1:atI (P.map toI) (k:Int)=some (toI (P.getD k [])):=by
      rw[z0Y (by simpa using hk1)]
      simp[List.getD,hk1]
     have hg256:=zcw hP h1 h2 hB (zrZ hP hg)
     have hsg:=zfH hg256 (Q:=E) (fun q hq=>zcw hP h1 h2 hB (hrp q hq))
     rw[if_pos (by omega),hat1,Z0,ziL (by rw[hgp.len];omega) hg256,Z0]
     by_cases hm:P.getD k []∈E
     · rw[if_pos (hsg.2 hm),z0V (by omega)]
       refine⟨_,rfl,⟨k+1,E,U,by omega,rfl,hE,by omega,hU,hcl,fun j hj=> ?_⟩,by simp only;omega⟩
       by_cases e:j=k
       · rw[e];exact hm
       · exact hin j (by omega)
     · rw[if_neg (fun e=>hm (hsg.1 e)),z0i _ (by unfold z1V;rw[Zg];omega)]
       have hUf:∀g∈U++ [P.getD k []],g∈P:=fun g h=>by grind
       have hE2:GInv L (U++ [P.getD k []]) E:=⟨hE.nd,fun e he=>z8m (fun g hg=>Zf.2 (.inl hg)) (hE.rc e he),hE.on⟩
       obtain⟨X,x1,x2,x3⟩:=zAe hP h1 h2 hB (w:=k) (by omega) hE2 hUf (by omega)
       rw[x3]
       refine⟨_,rfl,⟨k+1,E++X,U++ [P.getD k []],by omega,rfl,x1,by simp;omega,hUf,x2,fun j hj=> ?_⟩,by simp only;omega⟩
       · by_cases e:j=k
         · rw[e]
           have:=x2 _ x1.on (P.getD k []) (by simp)
           rwa [zox hgp] at this
         · grind
   · right
     have hk2:k=P.length:=by omega
     rw[if_neg (by omega)]
     have hne2:E.map toI≠ []:=fun e=>by
      have:=hE.on
      rw[XU] at e
      rw[e] at this;simp at this
     unfold zjz
     rw[if_pos ⟨hne2,by rw[Zg];omega⟩,Z0]
     have hp:=z9p (E.map toI)
     have hback:∀e:List Nat,(toI e).map Int.toNat=e:=fun e=>by
      unfold toI;rw[Y5]
      have:(Int.toNat∘fun x:Nat=>(x:Int))=id:=by funext x;simp
      rw[this,YW]
     have hp2:((z9q (E.map toI)).map fun x=>x.map Int.toNat).Perm E:=by
      have:=hp.map fun x=>x.map Int.toNat
      rw[Y5] at this
      have e:((fun x:List Int=>x.map Int.toNat)∘toI)=id:=by funext x;exact hback x
      rwa [e,YW] at this
     have hPU:∀g∈U,PermL L g:=fun g hg=>hP g (hU g hg)
     have heq:((z9q (E.map toI)).map fun x=>x.map Int.toNat).map toI=z9q (E.map toI):=by
      rw[Y5]
      refine(Zz fun x hx=> ?_).trans (W5 _)
      obtain⟨e,he,rfl⟩:=Zj.1 (hp.mem_iff.1 hx)
      show toI ((toI e).map Int.toNat)=toI e
      rw[hback]
     refine⟨_,rfl,(z9q (E.map toI)).map fun x=>x.map Int.toNat,by rw[heq],by rw[heq];exact zan _,hp2.nodup_iff.2 hE.nd,fun e=> ?_⟩
     · rw[hp2.mem_iff]
       refine⟨hrp e,fun h=> ?_⟩
       induction h with
       |one=>exact hE.on
       |step e g _ hg ih=>
        obtain⟨j,hj,rfl⟩:=Zq hg
        have hm:=hin j (by omega)
        rw[List.getD,Z1 hj,Z7] at hm
        exact zqo hPU (fun x hx=>z9s hP (hrp x hx)) hcl ih (hE.rc _ hm)
 · grind
end
end
section
open Go
set_option maxRecDepth 100000
variable{x:List Nat}
theorem zsL{p:List Nat}(hl:p.length<=1000)(hp:∀x∈p,x<256):z3W (toI p)=some (z1x (toI p)):=by
 unfold z3W
 rw[z0c,z0i _ (by unfold z0Q;omega),Z2]
 have e0:toI p=(List.range p.length).map fun k=>((p.getD k 0:Nat):Int):=by
  refine Ze (by simp[toI]) fun i h1 h2=> ?_
  have hi:i<p.length:=by simpa[toI] using h1
  simp[toI,List.getD,hi]
 refine z0q (s:=((0:Int),List.replicate p.length (0:Int))) p.length (fun k=>((k:Int),zb5 p.length (fun k=>((p.getD k 0:Nat):Int)) (fun _=>0) k)) (by rw[z9T];congr 1;exact(Ze (by simp) fun i h1 h2=>by simp)) (by simp only[LFm];omega) (fun k hk=> ?_) ?_
 · have hx:=hp _ (z0g hk)
   have hw:IntKind.u8.wrap ((p.getD k 0:Nat):Int)=((p.getD k 0:Nat):Int):=by rw[YM];omega
   simp only[z6u]
   rw[if_pos (by rw[z0c];omega),z1s hk,Z0,z6T hk,Z0,z0V (by omega),Z2,hw,z5c (f:=fun k=>((p.getD k 0:Nat):Int)) hk]
 · simp only[z6u]
   rw[if_neg (by rw[z0c];omega),z9S,←e0]
section
variable {d:DFA} {m n:Nat} {S:List Nat} {O:List Nat}
theorem zwk(c:Nat):szO d m n S O c<=S.length:=by
 unfold szO z7c
 split
 · simp
 · exact ZR (ZE _ _) (ZR (ZE _ _) (by simp))
theorem zn5(hSl:S.length<=255)(hx:zd8 d m n S O x):∀k∈x,k<256:=fun k hk=>by
 obtain⟨j,hj,rfl⟩:=Zq hk
 have:=hx.2 j (by rw[←hx.1];exact hj)
 rw[List.getD,Z1 hj,Z7] at this
 have:=zwk (d:=d) (m:=m) (n:=n) (S:=S) (O:=O) j
 omega
end
def zmW(y:Nat->List Nat):Nat->Nat->List (List Nat)->Option (List (List Nat))
 |0,_,T=>some T
 |k+1,a,T=>if y a∈T then zmW y k (a+1) T else if T.length=2000 then none else zmW y k (a+1) (T++ [y a])
def zlB(st:Nat->List Nat->List Nat)(m:Nat):Nat->Nat->List (List Nat)->Option (List (List Nat))
 |0,_,T=>some T
 |f+1,i,T=>if i<T.length then(zmW (fun a=>st a (T.getD i [])) m 0 T).bind (zlB st m f (i+1)) else some T
theorem zeU{y:Nat->List Nat}{P:List Nat->Prop}:∀(k a:Nat) (T T':List (List Nat)),(∀b,a<=b->b<a+k->P (y b))->(∀t∈T,P t)->T.Nodup->T.length<=2000->zmW y k a T=some T'->
 (∃X,T'=T++X)/\(∀t∈T',P t)/\T'.Nodup/\T'.length<=2000/\ ∀b,a<=b->b<a+k->y b∈T'
 |0,a,T,T',hy,hP,hn,hl,h=>by
  simp only[zmW,Za] at h
  subst h
  exact⟨⟨[],by simp⟩,hP,hn,hl,fun b h1 h2=>by omega⟩
 |k+1,a,T,T',hy,hP,hn,hl,h=>by
  simp only[zmW] at h
  split at h
  · rename_i hin
    obtain⟨⟨X,e⟩,h2,h3,h4,h5⟩:=zeU k (a+1) T T' (fun b h1 h2=>hy b (by omega) (by omega)) hP hn hl h
    refine⟨⟨X,e⟩,h2,h3,h4,fun b h6 h7=> ?_⟩
    by_cases e2:b=a
    · rw[e2,e];exact Zf.2 (.inl hin)
    · exact h5 b (by omega) (by omega)
  · rename_i hin
    split at h
    · cases h
    · rename_i hlt
      obtain⟨⟨X,e⟩,h2,h3,h4,h5⟩:=zeU k (a+1) (T++ [y a]) T' (fun b h1 h2=>hy b (by omega) (by omega)) (fun t ht=>by
       rcases Zf.1 ht with ht|ht
       · exact hP t ht
       · rw[Zh.1 ht];exact hy a (by omega) (by omega)) (Ym.2 ⟨hn,by simp,fun a ha b hb=>by obtain rfl:=Zh.1 hb;rintro rfl;exact hin ha⟩) (by rw[Zb,ZD];omega) h
      refine⟨⟨[y a]++X,by rw[e,Zu]⟩,h2,h3,h4,fun b h6 h7=> ?_⟩
      by_cases e2:b=a
      · rw[e2,e];simp
      · exact h5 b (by omega) (by omega)
def zBL(i:Nat):Option (List (List Nat))->(Int×List (List Int)×List (ByteArray×Bool))⊕(List (List Int)×Int)
 |none=>.inr ([],3)
 |some T=>.inl (((i+1:Nat):Int),T.map toI,z9b T)
def zAk:Option (List (List Nat))->List (List Int)×Int
 |none=>([],3)
 |some T=>(z9q (T.map toI),0)
section
variable {d:DFA} {m n:Nat} {S:List Nat} (hd:DfaOk d m n) (hn:n<=7) (hS:SetsP d m n S) {O:List Nat} (hH:zgQ d m n S) (hO:OrdC d m n S O) (hpos:∀x∈S,x≠0)
include hd hn hS hH hO hpos
theorem zuy(hSl:S.length<=1000)(h0:0<S.length)(hx:zd8 d m n S O x):z3A (z8O d m n S O) (toI x)=some ((tzN (S.getD (z8P d m n S O 0 0 x) 0):Nat):Int):=by
 have h128:2^n<=128:=Zm (n:=2) (by omega) hn
 have hOl:O.length<=S.length:=by
  rw[hO.prm.length_eq]
  unfold zas
  exact ZR (ZE _ _) (by rw[ZC];exact z5K (z2u d m n S) S.length)
 have he:=(zi2 hd hn hS hH hO hpos hx h0 x.length (Z8 _)).1
 rw[Yc] at he
 have hcl:∀(y:List Nat) (c i:Nat),(za3 d m n S O c i y).length<=y.length:=fun y=>by
  induction y with
  |nil=>intro c i;simp[za3]
  |cons s y ih=>
   intro c i
   have:=ih (c+1) (dnN d m n S O c i s)
   simp only[za3,Zb,Zr]
   split<;>simp<;>omega
 have hcx:=hcl x 0 0
 have hxl:=hx.1
 have hlast:=zoB (d:=d) (m:=m) (n:=n) (S:=S) (O:=O) x 0 0
 unfold z3A
 rw[zvT hd hn hS hH hO hpos hSl h0 hx,Z0,z0c]
 generalize hl:(0::za3 d m n S O 0 0 x)=l at*
 have hll:l.length=(za3 d m n S O 0 0 x).length+1:=by rw[←hl,Zr]
 have w:IntKind.i64.wrap ((l.length:Int)-1)=((l.length-1:Nat):Int):=by rw[z3f (by omega) (by omega)];omega
 have hg:l.getD (l.length-1) 0=z8P d m n S O 0 0 x:=by grind
 rw[w,z1s (by omega),Z0,hg,zmC he,Z0]
 have hm:=z0g he
 have hlt:=hS.lt _ hm
 have hp:=hpos _ hm
 generalize S.getD (z8P d m n S O 0 0 x) 0=s at*
 have hw:IntKind.u64.wrap (s:Int)=(s:Int):=by rw[XC];omega
 unfold vTz
 rw[hw,if_pos (by omega),Z0,Z2]
theorem zyS(hSl:S.length<=255)(h0:0<S.length){T:List (List Nat)}(hT:∀t∈T,zd8 d m n S O t)(hTl:T.length<=2000){i:Nat}(hi:i<T.length):
 z0h (z2s (z8O d m n S O) (i:Int)) LFm (0,T.map toI,z9b T)=some (zBL i (zmW (fun a=>z7G d m n S O a (T.getD i [])) m 0 T)):=by
 have hm6:=hd.m6
 have hlt:(z8O d m n S O).d.letters=m:=hd.lt
 have hx:zd8 d m n S O (T.getD i []):=hT _ (z8G hi)
 have h256:∀t,zd8 d m n S O t->∀k∈t,k<256:=fun t ht=>zn5 hSl ht
 have hOl:O.length<=S.length:=by
  rw[hO.prm.length_eq]
  unfold zas
  exact ZR (ZE _ _) (by rw[ZC];exact z5K (z2u d m n S) S.length)
 generalize hX:T.getD i []=x at*
 generalize hR:zmW (fun a=>z7G d m n S O a x) m 0 T=R
 refine Exists.elim (z2e (b:=z2s (z8O d m n S O) (i:Int)) (fun z=>∃(a:Nat) (U:List (List Nat)),a<=m/\z=((a:Int),U.map toI,z9b U)/\zmW (fun a=>z7G d m n S O a x) (m-a) a U=R/\(∀t∈U,zd8 d m n S O t)/\U.length<=2000/\i<U.length/\U.getD i []=x) (fun z=>m+1-z.1.toNat)
  (fun r=>r=zBL i R) ?_ LFm (0,T.map toI,z9b T) ⟨0,T,by omega,rfl,hR,hT,hTl,hi,hX⟩ (by simp only[LFm];omega)) fun r h=> ?_
 · rintro z ⟨a,U,ha,rfl,hU,hUt,hUl,hUi,hUx⟩
   simp only[z2s]
   rw[hlt]
   by_cases ha1:a<m
   · have hat:atI (U.map toI) (i:Int)=some (toI x):=by
      rw[z0Y (by simpa using hUi)]
      rw[←hUx]
      simp[List.getD,hUi]
     obtain⟨y1,y2⟩:=zaX hd hn hS hH hO hpos (a:=a) hx h0
     have hy256:=h256 _ y1
     have hyl:(z7G d m n S O a x).length<=1000:=by rw[y1.1];omega
     have hsg:=zfH hy256 (Q:=U) (fun q hq=>h256 q (hUt q hq))
     have hma:m-a=(m-(a+1))+1:=by omega
     rw[hma] at hU
     simp only[zmW] at hU
     rw[if_pos (by omega),hat,Z0,zrl hd hn hS hH hO hpos (by omega) h0 ha1 hx,Z0]
     simp only
     rw[zsL hyl hy256,Z0,z0V (by omega)]
     by_cases hin:z7G d m n S O a x∈U
     · left
       rw[if_pos hin] at hU
       rw[if_pos (hsg.2 hin)]
       exact⟨_,rfl,⟨a+1,U,by omega,rfl,hU,hUt,hUl,hUi,hUx⟩,by simp only;omega⟩
     · rw[if_neg hin] at hU
       rw[if_neg (fun e=>hin (hsg.1 e)),Zg]
       by_cases hfull:U.length=2000
       · right
         rw[if_pos hfull] at hU
         rw[if_pos (by omega)]
         exact⟨_,rfl,by rw[←hU];rfl⟩
       · left
         rw[if_neg hfull] at hU
         rw[if_neg (by omega),Z0,z0i _ (by unfold z1V;omega)]
         refine⟨_,rfl,⟨a+1,U++ [z7G d m n S O a x],by omega,by rw[zhD,Y3];rfl,hU,fun t ht=> ?_,by rw[Zb,ZD];omega,by rw[Zb];omega,?_⟩,by simp only;omega⟩
         · grind
         · grind
   · right
     have:a=m:=by omega
     subst this
     rw[Nat.sub_self] at hU
     simp only[zmW] at hU
     rw[if_neg (by omega),z0V (by omega)]
     exact⟨_,rfl,by rw[←hU];rfl⟩
 · obtain⟨h3,rfl⟩:=h
   exact h3
theorem zr1(hSl:S.length<=255)(h0:0<S.length):z1Q (z8O d m n S O)=some (zAk (zlB (z7G d m n S O) m 2001 0 [z4E d m n S O])):=by
 have hst:=zaY hd hn hS hH hO hpos h0
 have hOl:O.length<=S.length:=by
  rw[hO.prm.length_eq]
  unfold zas
  exact ZR (ZE _ _) (by rw[ZC];exact z5K (z2u d m n S) S.length)
 generalize hR:zlB (z7G d m n S O) m 2001 0 [z4E d m n S O]=R
 unfold z1Q
 rw[znq hd hn hS hH hO hpos (by omega) h0,Z0,zsL (by rw[hst.1];omega) (zn5 hSl hst),Z0]
 refine Exists.elim (z2e (b:=z3p (z8O d m n S O)) (fun z=>∃(i:Nat) (T:List (List Nat)),i<=T.length/\z=((i:Int),T.map toI,z9b T)/\zlB (z7G d m n S O) m (2001-i) i T=R/\(∀t∈T,zd8 d m n S O t)/\T.Nodup/\T.length<=2000/\T≠ []) (fun z=>2001-z.1.toNat)
  (fun r=>r=zAk R) ?_ LFm (0,[toI (z4E d m n S O)],z8k (z1x (toI (z4E d m n S O))) true ([]:List (ByteArray×Bool))) ⟨0,[z4E d m n S O],by simp,rfl,hR,fun t ht=>by rw[Zh.1 ht];exact hst,by simp,by simp,by simp⟩ (by simp only[LFm];omega)) fun r h=> ?_
 · rintro z ⟨i,T,hi,rfl,hT,hTt,hTn,hTl,hTe⟩
   simp only[z3p]
   rw[Zg]
   have hf:2001-i=(2001-(i+1))+1:=by omega
   rw[hf] at hT
   simp only[zlB] at hT
   by_cases hi1:i<T.length
   · rw[if_pos hi1] at hT
     rw[if_pos (by omega),zyS hd hn hS hH hO hpos hSl h0 hTt hTl hi1]
     cases hb:zmW (fun a=>z7G d m n S O a (T.getD i [])) m 0 T with
     |none=>
      right
      rw[hb,Option.bind_none] at hT
      exact⟨_,rfl,by rw[←hT];rfl⟩
     |some T'=>
      left
      rw[hb,Z0] at hT
      have hx:zd8 d m n S O (T.getD i []):=hTt _ (z8G hi1)
      obtain⟨⟨X,e⟩,h2,h3,h4,_⟩:=zeU m 0 T T' (fun b h1 h2=>(zaX hd hn hS hH hO hpos (a:=b) hx h0).1) hTt hTn hTl hb
      refine⟨_,rfl,⟨i+1,T',by rw[e,Zb];omega,rfl,hT,h2,h3,h4,fun h=>hTe ?_⟩,by simp only;omega⟩
      rw[h] at e
      exact(List.append_eq_nil_iff.1 e.symm).1
   · right
     rw[if_neg hi1] at hT
     have hne:T.map toI≠ []:=fun e=>hTe (XU.1 e)
     rw[if_neg (by omega)]
     unfold zjz
     rw[if_pos ⟨hne,by rw[Zg];omega⟩,Z0]
     exact⟨_,rfl,by rw[←hT];rfl⟩
 · obtain⟨h3,rfl⟩:=h
   exact h3
end
end
section
theorem zBJ(a b:Nat):(a+1+b=a+(b+1))=True:=by simp only[eq_iff_iff,iff_true];omega
end
section
open Go Go.IntKind
noncomputable section
set_option maxRecDepth 100000
set_option maxHeartbeats 6000000
end
end
section
open Go
set_option maxRecDepth 100000
section
variable {d:DFA} {m n:Nat} {S:List Nat} (hd:DfaOk d m n) (hn:n<=7) (hS:SetsP d m n S) {O:List Nat} (hH:zgQ d m n S) (hO:OrdC d m n S O)
include hd hn hS hH hO
theorem zxr{c:Nat}(hc:c<O.length):O.getD c 0<(z6M d m n S).length/\z2b d m n S (O.getD c 0)<S.length:=by
 have _u:=hH
 have hmem:O.getD c 0∈O:=z0g hc
 have hout:=hO.prm.mem_iff.1 hmem
 unfold zas at hout
 have h1:=Zi.1 (ZW.1 hout).1
 exact⟨h1,(z2D hd hn hS h1).2⟩
theorem zfW:O.length<=S.length:=by
 have _u:=hH
 rw[hO.prm.length_eq]
 unfold zas
 exact ZR (ZE _ _) (by rw[ZC];exact z5K (z2u d m n S) S.length)
omit hd hn hS hH hO
include hd hn hS hH hO
end
end
section
open Go
set_option maxRecDepth 100000
section
variable {d:DFA} {m n:Nat} {S:List Nat} (hd:DfaOk d m n) (hn:n<=7) (hS:SetsP d m n S) {O:List Nat} (hH:zgQ d m n S) (hO:OrdC d m n S O) (hpos:∀x∈S,x≠0) (hbot:∀i k,i<S.length->k<S.length->ze1 S k=true->z7M d m n S i k=true->ze1 S i=true)
include hd hn hS hH hO hbot
include hpos
end
end
section
open Go
set_option maxRecDepth 100000
section
variable {d:DFA} {m n:Nat} {S:List Nat} (hd:DfaOk d m n) (hn:n<=7) (hS:SetsP d m n S) {O:List Nat} (hH:zgQ d m n S) (hO:OrdC d m n S O) (hpos:∀x∈S,x≠0)
include hd hn hS hH hO hpos
end
end
section
open Go Go.IntKind
noncomputable section
set_option maxRecDepth 100000
set_option maxHeartbeats 6000000
attribute [local simp] zBJ
end
end
section
open Go
noncomputable section
set_option maxRecDepth 100000
set_option maxHeartbeats 6000000
abbrev GIn:=Int⊕(List (List Int)×Int×List (List Int))
abbrev zCH:=Unit⊕(Unit⊕(List (List Int)×Int×List (List Int)))
@[simp] def outH(a0:List (List Int))(d:List Int):zCH->Fr
  | .inl _=>⟨60,[(0,.one (.t none (.sl a0.length (a0.map fun x0=>.sl x0.length (x0.map fun x1=>.sc (.int .i64 x1)))))),(5,.one (.tf 1 [.sl d.length (d.map fun x1=>.sc (.int .i64 x1))])),(6,.one (.t none (.sl 1 [.sl d.length (d.map fun x1=>.sc (.int .i64 x1))]))),(7,xI 0)],[]⟩
  | .inr (.inl _)=>⟨60,[(0,.one (.t none (.sl a0.length (a0.map fun x0=>.sl x0.length (x0.map fun x1=>.sc (.int .i64 x1)))))),(5,.one (.tf 1 [.sl d.length (d.map fun x1=>.sc (.int .i64 x1))])),(6,.one (.t none (.sl 1 [.sl d.length (d.map fun x1=>.sc (.int .i64 x1))]))),(7,xI 1)],[]⟩
  | .inr (.inr (s,i,l))=>⟨60,[(0,.one (.t none (.sl a0.length (a0.map fun x0=>.sl x0.length (x0.map fun x1=>.sc (.int .i64 x1)))))),(5,.one (.h 5 [])),(6,.one (.t none (.sl s.length (s.map fun x0=>.sl x0.length (x0.map fun x1=>.sc (.int .i64 x1)))))),(7,xI i)],[(5,.os 1 l.length (l.map fun x0=>.sl x0.length (x0.map fun x1=>.sc (.int .i64 x1))))]⟩
@[simp] def zCl(a0:List (List Int))(i:Int):List (List Int)×Int×List (List Int)->Fr
  |(s,j,l)=>⟨60,[(0,.one (.t none (.sl a0.length (a0.map fun x0=>.sl x0.length (x0.map fun x1=>.sc (.int .i64 x1)))))),(5,.one (.h 5 [])),(6,.one (.t none (.sl s.length (s.map fun x0=>.sl x0.length (x0.map fun x1=>.sc (.int .i64 x1)))))),(7,xI i),(30,.one (.t none (.sl a0.length (a0.map fun x0=>.sl x0.length (x0.map fun x1=>.sc (.int .i64 x1)))))),(31,xI (a0.length:Int)),(32,xI j)],[(5,.os 1 l.length (l.map fun x0=>.sl x0.length (x0.map fun x1=>.sc (.int .i64 x1))))]⟩
@[simp] def inA(a0:List (List Int))(d:List Int):GIn->Fr
  | .inl j=>⟨60,[(0,.one (.t none (.sl a0.length (a0.map fun x0=>.sl x0.length (x0.map fun x1=>.sc (.int .i64 x1)))))),(5,.one (.tf 1 [.sl d.length (d.map fun x1=>.sc (.int .i64 x1))])),(6,.one (.t none (.sl 1 [.sl d.length (d.map fun x1=>.sc (.int .i64 x1))]))),(7,xI 0),(30,.one (.t none (.sl a0.length (a0.map fun x0=>.sl x0.length (x0.map fun x1=>.sc (.int .i64 x1)))))),(31,xI (a0.length:Int)),(32,xI j)],[]⟩
  | .inr s=>zCl a0 0 s
set_option maxHeartbeats 0
end
end
section
theorem zCb(a:Nat):1+a=a+1:=Nat.add_comm 1 a
end
section
open Go Go.IntKind
noncomputable section
set_option maxRecDepth 100000
set_option maxHeartbeats 6000000
attribute [local simp] zCb zBJ
end
end
section
open Go
end
section
open Go
theorem ztc{α β:Type}(a b:α->β):∀(xs:List α) (i:Nat) (v:α),(xs.set i v).flatMap (fun x=> [a x,b x])=((xs.flatMap fun x=> [a x,b x]).set (i*2) (a v)).set (i*2+1) (b v)
 | [],i,v=>by simp
 |x::xs,0,v=>by simp
 |x::xs,i+1,v=>by
  have ih:=ztc a b xs i v
  have e1:(i+1)*2=i*2+1+1:=by omega
  have e2:(i+1)*2+1=i*2+1+1+1:=by omega
  rw[List.set_cons_succ,ZG,ZG,ih,e2,e1]
  simp
end
section
open Go Go.IntKind
noncomputable section
set_option maxRecDepth 100000
set_option maxHeartbeats 6000000
attribute [-simp] Nat.mul_lt_mul_right
attribute [local simp] ztc
instance:IsS CRow:=⟨⟩
instance:IsS Casc:=⟨⟩
end
end
section
open Go
set_option maxRecDepth 100000
theorem zrd{a b:List Nat}(h:toI a=toI b):a=b:=by
 have:=congrArg (List.map Int.toNat) h
 unfold toI at this
 rw[Y5,Y5] at this
 have e:(Int.toNat∘fun x:Nat=>(x:Int))=id:=by funext x;simp
 rwa [e,YW,YW] at this
abbrev zaf:=List Nat×List (List Nat)
def zc6(r:zaf):CRow:=⟨toI r.1,r.2.map toI⟩
def z7w(x:List Nat)(f:Nat->List (List Nat))(k:Nat)(R:List zaf):List zaf:=(List.range k).foldl (fun R i=>if ∀r∈R,r.1≠x.take i then R++ [(x.take i,f i)] else R) R
theorem z9D(x:List Nat)(f:Nat->List (List Nat))(k:Nat)(R:List zaf):z7w x f (k+1) R=if ∀r∈z7w x f k R,r.1≠x.take k then z7w x f k R++ [(x.take k,f k)] else z7w x f k R:=by
 unfold z7w
 rw[YA,Yt]
 rfl
structure RowsOk(f:List Nat->Nat->List (List Nat))(L:Nat)(M:List (List Nat))(R:List zaf):Prop where
 nd:R.Pairwise fun r q=>r.1≠q.1
 of:∀r∈R,∃x∈M,∃i,i<L/\r=(x.take i,f x i)
 al:∀x∈M,∀i,i<L->∃r∈R,r.1=x.take i
theorem zoQ{f:List Nat->Nat->List (List Nat)}{L:Nat}{M:List (List Nat)}{R:List zaf}(h:RowsOk f L M R)(x:List Nat):∀k,k<=L->
 (z7w x (f x) k R).Pairwise (fun r q=>r.1≠q.1)/\(∀r∈z7w x (f x) k R,∃y∈M++ [x],∃i,i<L/\r=(y.take i,f y i))/\(∀r∈R,r∈z7w x (f x) k R)/\ ∀i,i<k->∃r∈z7w x (f x) k R,r.1=x.take i
 |0,_=>⟨h.nd,fun r hr=>by
    obtain⟨y,hy,i,hi,e⟩:=h.of r hr
    exact⟨y,Zf.2 (.inl hy),i,hi,e⟩,fun r hr=>hr,fun i hi=>by omega⟩
 |k+1,hk=>by
  obtain⟨h1,h2,h3,h4⟩:=zoQ h x k (by omega)
  rw[z9D]
  split
  · rename_i hnew
    refine⟨YF.2 ⟨h1,by simp,fun a ha b hb=>by rw[Zh.1 hb];exact hnew a ha⟩,fun r hr=> ?_,fun r hr=>Zf.2 (.inl (h3 r hr)),fun i hi=> ?_⟩
    · rcases Zf.1 hr with hr|hr
      · exact h2 r hr
      · exact⟨x,by simp,k,by omega,Zh.1 hr⟩
    · by_cases e:i=k
      · subst e;exact⟨_,Zf.2 (.inr (Zh.2 rfl)),rfl⟩
      · obtain⟨r,hr,e2⟩:=h4 i (by omega)
        exact⟨r,Zf.2 (.inl hr),e2⟩
  · rename_i hold
    refine⟨h1,h2,h3,fun i hi=> ?_⟩
    by_cases e:i=k
    · subst e
      obtain⟨r,hr⟩:=Classical.not_forall.1 hold
      obtain⟨hr,e2⟩:=Classical.not_imp.1 hr
      exact⟨r,hr,Classical.not_not.1 e2⟩
    · exact h4 i (by omega)
theorem zqG{f:List Nat->Nat->List (List Nat)}{L:Nat}{M:List (List Nat)}{R:List zaf}(h:RowsOk f L M R)(x:List Nat):RowsOk f L (M++ [x]) (z7w x (f x) L R):=by
 obtain⟨h1,h2,h3,h4⟩:=zoQ h x L (Z8 _)
 refine⟨h1,h2,fun y hy i hi=> ?_⟩
 rcases Zf.1 hy with hy|hy
 · obtain⟨r,hr,e⟩:=h.al y hy i hi
   exact⟨r,h3 r hr,e⟩
 · rw[Zh.1 hy];exact h4 i hi
end
section
open Go
set_option maxRecDepth 100000
variable{x:List Nat}{i:Nat}
def zyJ:Cover:=⟨⟨0,[],[]⟩,[],[],[],[]⟩
section
variable (d:DFA) (m n:Nat) (S O:List Nat)
def z4t(x:List Nat)(i:Nat):List (List Nat):=(List.range m).map fun a=>(z7X d m n S O a x).getD i []
def wC(x:List Nat)(a i:Nat):List (List Int):=(List.range a).map fun b=>toI ((z7X d m n S O b x).getD i [])
end
section
variable {d:DFA} {m n:Nat} {S:List Nat} (hd:DfaOk d m n) (hn:n<=7) (hS:SetsP d m n S) {O:List Nat} (hH:zgQ d m n S) (hO:OrdC d m n S O) (hpos:∀x∈S,x≠0) (hbot:∀i k,i<S.length->k<S.length->ze1 S k=true->z7M d m n S i k=true->ze1 S i=true)
theorem zwS:wC d m n S O x m i=(z4t d m n S O x i).map toI:=by
 unfold wC z4t
 rw[Y5];rfl
theorem zwR{a:Nat}:wC d m n S O x (a+1) i=wC d m n S O x a i++ [toI ((z7X d m n S O a x).getD i [])]:=by
 unfold wC
 rw[YA,Y3];rfl
theorem zyN{a:Nat}:(wC d m n S O x a i).length=a:=by simp[wC]
include hd hn hS hH hO hpos
include hbot
end
end
section
open Go
set_option maxRecDepth 100000
theorem ztw(x y:List Int):za2 y x= -za2 x y:=by
 have:=z8L x y
 unfold za2
 split
 · split
   · omega
   · rfl
 · split
   · rfl
   · exact this
theorem zqA{x y z:List Int}(h1:za2 x y<0)(h2:za2 y z<0):za2 x z<0:=by
 unfold za2 at*
 have l1:x.length<=y.length:=by
  rcases Yu y.length x.length with hh|hh
  · rw[if_neg (by omega),if_pos hh] at h1;omega
  · exact hh
 have l2:y.length<=z.length:=by
  rcases Yu z.length y.length with hh|hh
  · rw[if_neg (by omega),if_pos hh] at h2;omega
  · exact hh
 by_cases b1:x.length<z.length
 · rw[if_pos b1];omega
 · rw[if_neg b1,if_neg (by omega)]
   rw[if_neg (by omega),if_neg (by omega)] at h1 h2
   have h3:=z8r x y z (by omega) (by omega)
   by_cases e:z8M x z=0
   · have:=h3.2 e;omega
   · omega
def ltR(r q:zaf):Prop:=za2 (toI r.1) (toI q.1)<0
instance(r q:zaf):Decidable (ltR r q):=by unfold ltR;exact inferInstance
theorem zsB{a b c:zaf}(h1:ltR a b)(h2:ltR b c):ltR a c:=zqA h1 h2
theorem zzK{a b:zaf}(hne:a.1≠b.1)(h:¬ltR a b):ltR b a:=by
 unfold ltR at*
 rw[ztw]
 have:za2 (toI a.1) (toI b.1)≠0:=fun e=>hne (zrd ((zgD _ _).1 e))
 omega
section
variable {d:DFA} {z1:List Int} {z2:List Hol×Int} {z3:List Int}
end
end
section
open Go
set_option maxRecDepth 100000
theorem znh(e:List Nat):(toI e).map Int.toNat=e:=by
 unfold toI;rw[Y5]
 have:(Int.toNat∘fun x:Nat=>(x:Int))=id:=by funext x;simp
 rw[this,YW]
section
variable {d:DFA} {m n:Nat} {S:List Nat} (hd:DfaOk d m n) (hn:n<=7) (hS:SetsP d m n S) {O:List Nat} (hH:zgQ d m n S) (hO:OrdC d m n S O) (hpos:∀x∈S,x≠0) (hbot:∀i k,i<S.length->k<S.length->ze1 S k=true->z7M d m n S i k=true->ze1 S i=true)
def zyw(d:DFA)(m n:Nat)(S O:List Nat)(x:List Nat):Nat:=tzN (S.getD (z8P d m n S O 0 0 x) 0)
include hd hn hS hH hO hpos
structure CovOk(d:DFA)(m n:Nat)(S O:List Nat)(z1:List Int)(G:List Hol)(c:Cover):Prop where
 ex:∃T Y:List (List Nat),∃W:List zaf,zlB (z7G d m n S O) m 2001 0 [z4E d m n S O]=some T/\Y.map toI=z9q (T.map toI)/\Y.Perm T/\W.Pairwise ltR/\RowsOk (z4t d m n S O) O.length T W/\
  c=⟨⟨d.letters,z1,W.map zc6⟩,toI (z4E d m n S O),Y.map toI,toI (Y.map (zyw d m n S O)),G⟩
theorem zm3{f:List Nat->Nat->List (List Nat)}{L:Nat}{M:List (List Nat)}{R W:List zaf}(h:RowsOk f L M R)(hp:W.Perm R):RowsOk f L M W:=by
 have _u:=hd;have _v:=hn;have _w:=hS;have _x:=hH;have _y:=hO;have _z:=hpos
 exact⟨(hp.pairwise_iff fun {a b} h e=>h e.symm).2 h.nd,fun r hr=>h.of r (hp.mem_iff.1 hr),fun x hx i hi=>by obtain⟨r,hr,e⟩:=h.al x hx i hi;exact⟨r,hp.mem_iff.2 hr,e⟩⟩
include hbot
end
end
section
open Go
set_option maxRecDepth 100000
variable{l p:List Int}{N:Nat}
def zg1(N:Nat)(X:List Int):List Bool:=(List.range N).map fun x:Nat=>decide ((x:Int)∈X)
theorem zv9{X:List Int}:(zg1 N X).length=N:=by simp[zg1]
theorem zzI:zg1 N []=List.replicate N false:=by
 unfold zg1;exact Ze (by simp) fun i h1 h2=>by simp
theorem zxG{v:Nat}{X:List Int}(h:v<N):atI (zg1 N X) (v:Int)=some (decide ((v:Int)∈X)):=by
 rw[z0Y (by rw[zv9];exact h)];simp[zg1]
theorem zv7{v:Nat}{X:List Int}(h:v<N):(zg1 N X).set v true=zg1 N (X++ [(v:Int)]):=by
 refine Ze (by simp[zg1]) fun i h1 h2=> ?_
 rw[Y6]
 simp only[zg1,ZF,ZP,Zf,Zh]
 by_cases e:v=i
 · subst e;simp
 · rw[if_neg e]
   exact decide_eq_decide.2 ⟨fun h=>.inl h,fun h=>h.elim id fun h=>absurd h (by omega)⟩
theorem zup{k:Nat}(h:k<l.length):l.take (k+1)=l.take k++ [l[k]]:=by rw[ZB h]
theorem zhN:l.Nodup↔ ∀k (h:k<l.length),l[k]∉l.take k:=by
 rw[List.nodup_iff_pairwise_ne,ZH]
 constructor
 · intro h k hk hm
   obtain⟨i,hi,e⟩:=Zq hm
   rw[Zo] at hi
   rw[Xu] at e
   exact h i k (by omega) hk (by omega) e
 · intro h i j hi hj hij e
   refine h j hj ?_
   have:i<(l.take j).length:=by rw[Zo];omega
   have h2:=Zp this
   rw[Xu,e] at h2
   exact h2
def zfS(N:Nat)(p:List Int):Bool:=decide (p.length=N)&&(p.all (fun x=>decide (0<=x/\x<(N:Int)))&&decide p.Nodup)
theorem zir:zfS N p=true↔p.length=N/\(∀x∈p,0<=x/\x<(N:Int))/\p.Nodup:=by
 simp[zfS]
def zyI(N:Nat)(p:List Int)(k:Nat):Bool:= !decide (0<=p.getD k 0/\p.getD k 0<(N:Int))||decide (p.getD k 0∈p.take k)
theorem zyq(hl:p.length=N):((List.range N).all fun k=> !zyI N p k)=zfS N p:=by
 rw[Y9,zir,Zt]
 have hg:∀k (h:k<p.length),p.getD k 0=p[k]:=fun k h=>by rw[List.getD,Z1 h,Z7]
 constructor
 · intro h
   refine⟨hl,fun x hx=> ?_,zhN.2 fun k hk=> ?_⟩
   · obtain⟨k,hk,rfl⟩:=Zq hx
     have:=h k (Zi.2 (by omega))
     simp only[zyI,hg k hk] at this
     simp at this
     exact this.1
   · have:=h k (Zi.2 (by omega))
     simp only[zyI,hg k hk] at this
     simp at this
     exact this.2
 · rintro⟨_,h1,h2⟩ k hk
   have hk:=Zi.1 hk
   have a:=h1 _ (Zp (show k<p.length by omega))
   have b:=zhN.1 h2 k (by omega)
   simp only[zyI,hg k (by omega)]
   simp[a,b]
theorem zuV{Q:List (List Int)}(hN:N<=1000)(hQ:Q.length<4611686018427387904):z3y Q (N:Int)=some (Q.all (zfS N)):=by
 unfold z3y
 rw[zg5 (b:=z2A Q (N:Int)) (l:=Q) [] (zfS N) (A:=some false) (B:=some true) hQ ?_ ?_]
 · cases Q.all (zfS N)<;>rfl
 · intro k hk
   have hg:Q.getD k []=Q[k]:=by rw[List.getD,Z1 hk,Z7]
   simp only[z2A]
   rw[if_pos (by omega),z0Y hk,Z0,hg]
   generalize Q[k]=p
   by_cases hl:p.length=N
   · rw[if_pos (by omega),z0i _ (by unfold z0Q;omega),Z2,←zyq hl,
      z6m (s:=((0:Int),List.replicate N false)) N (fun t=>((t:Int),zg1 N (p.take t))) (zyI N p) (fun _=>z0f (some false)) (x:=z0d ((k+1:Nat):Int)) (by rw[X7,zzI];rfl) (by simp only[LFm];omega) ?_ ?_]
     · rw[zeK]
     · intro t ht
       have ht':t<p.length:=by omega
       have hgt:p.getD t 0=p[t]:=by rw[List.getD,Z1 ht',Z7]
       simp only[z3E,zyI,hgt]
       rw[if_pos (by omega),z0Y ht',Z0,zup ht']
       generalize p[t]=v
       by_cases c1:v<0
       · rw[if_pos c1,if_pos (by simp;omega)]
       · rw[if_neg c1]
         by_cases c2:(N:Int)<=v
         · rw[if_pos c2,if_pos (by simp;omega)]
         · obtain⟨u,rfl⟩:=ZI (show 0<=v by omega)
           rw[if_neg c2,zxG (by omega),Z0]
           by_cases c3:(u:Int)∈p.take t
           · rw[if_pos (by simpa using c3),if_pos (by simp[c3])]
           · rw[if_neg (by simpa using c3),if_neg (by simp[c3];omega),z0V (by omega),Z2,zv7 (by omega)]
     · simp only[z3E]
       rw[if_neg (by omega),z0V (by omega)]
   · have:zfS N p=false:=by unfold zfS;rw[decide_eq_false hl];rfl
     rw[if_neg (by omega),this,if_neg (by simp)]
 · simp only[z2A]
   rw[if_neg (by omega)]
end
section
open Go
set_option maxRecDepth 100000
def zwr(n:Nat)(s:Int):Bool:=decide (0<=s/\s<((2^n:Nat):Int))
theorem zny{n:Nat}{s:Int}:zwr n s=true↔0<=s/\s.toNat<2^n:=by
 unfold zwr;rw[decide_eq_true_eq];omega
def zxR(d:DFA)(h:Hol)(k:Nat):Bool:=decide (((z4r d h.set.toNat (h.words.getD k ByteArray.empty).data.toList:Nat):Int)=h.set)&&(List.range h.tiles.length).all fun i=>decide (((z4r d (h.tiles.getD i 0).toNat (h.words.getD k ByteArray.empty).data.toList:Nat):Int)=h.tiles.getD ((h.perms.getD k []).getD i 0).toNat 0)
def zBC(d:DFA)(m n:Nat)(h:Hol):Bool:=zwr n h.set&&(decide (h.words.length=h.perms.length)&&(decide (1<=h.tiles.length/\h.tiles.length<=32)&&(h.tiles.all (zwr n)&&((List.range h.words.length).all fun k=>decide (zuh m (h.words.getD k ByteArray.empty))&&(zfS h.tiles.length (h.perms.getD k [])&&zxR d h k)))))
section
variable {d:DFA} {m n:Nat} (hd:DfaOk d m n) (hn:n<=12) {h:Hol} (hs:zwr n h.set=true) (hT:h.tiles.all (zwr n)=true) (hl:h.tiles.length<=32)
include hd hn hs hT hl
end
end
section
open Go
set_option maxRecDepth 100000
theorem ztF{d:DFA}{m n:Nat}{h:Hol}:zBC d m n h=true↔zwr n h.set=true/\h.words.length=h.perms.length/\(1<=h.tiles.length/\h.tiles.length<=32)/\h.tiles.all (zwr n)=true/\ ∀k,k<h.words.length->zuh m (h.words.getD k ByteArray.empty)/\zfS h.tiles.length (h.perms.getD k [])=true/\zxR d h k=true:=by
 unfold zBC
 simp only[Z5,decide_eq_true_eq,Zt,Zi]
section
variable {d:DFA} {m n:Nat} (hd:DfaOk d m n) (hn:n<=12) {h:Hol} (hw:h.words.length<2^61) (hp:h.perms.length<2^61)
include hd hn hw hp
end
end
section
open Go
set_option maxRecDepth 100000
end
section
open Go
set_option maxRecDepth 100000
def defT:List (List Int):= [[1,2],[3,4],[5,6],[3,4],[5,6],[3,4],[5,6]]
theorem zz6{d:DFA}{m n:Nat}(hd:DfaOk d m n)(hn:n<=5):(z2x d m n).length<=32:=by
 have hS:=z7O hd
 have:=z2k hS.nd hS.lt
 have h32:2^n<=32:=Zm (n:=2) (by omega) hn
 omega
end
section
open Go
set_option maxRecDepth 100000
structure HolOk(m n:Nat)(h:Hol):Prop where
 t1:1<=h.tiles.length
 t2:h.tiles.length<=32
 wp:h.words.length=h.perms.length
 wl:h.words.length<=1000
 wb:∀w∈h.words,w.size<=257
 pl:∀p∈h.perms,p.length=h.tiles.length
section
variable {d:DFA} {m n:Nat} {S:List Nat} (hd:DfaOk d m n) (hn:n<=7) (hS:SetsP d m n S)
include hd hn hS
theorem zsV{c:Nat}(hc:c<(z6M d m n S).length)(hz:szN (S.getD (z2b d m n S c) 0)≠1)(hpos:∀x∈S,x≠0)(h32:S.length<=32):HolOk m n (zbW d m n S c)/\zBC d m n (zbW d m n S c)=true:=by
 have h128:2^n<=128:=Zm (n:=2) (by omega) hn
 have h6:=hd.m6
 have hk:=(z2D hd hn hS hc).2
 have hI:=ztZ hd hn hS (c:=c) S.length (Z8 _)
 obtain⟨t1,t2⟩:=z8y hd hn hS hk
 have tl32:(z3a S (z2b d m n S c)).length<=S.length:=z7n t1 fun t ht=>(t2 t ht).1
 have hkl:=hS.lt _ (z0g hk)
 have tpos:1<=(z3a S (z2b d m n S c)).length:=by
  have hne:=hpos _ (z0g hk)
  obtain⟨q,hq⟩:∃q,(S.getD (z2b d m n S c) 0).testBit q=true:=by
   refine Ys fun h=>hne (ZQ fun q=> ?_)
   rw[Xf]
   cases hh:(S.getD (z2b d m n S c) 0).testBit q with
   |false=>rfl
   |true=>exact absurd ⟨q,hh⟩ h
  obtain⟨t,ht,_⟩:=zk5 hd hn hS hk hz hq
  have:=YT ht
  rw[zdy];omega
 have hB:S.length*m<=32*6:=XQ h32 h6
 have hbd:=hI.bd
 have hln:=hI.len
 have htI:(toI (z3a S (z2b d m n S c))).length=(z3a S (z2b d m n S c)).length:=z0c _
 refine⟨⟨by simp only[zbW];omega,by simp only[zbW];omega,by simp only[zbW,Zg];omega,by simp only[zbW];omega,fun w hw=> ?_,fun p hp=> ?_⟩,ztF.2 ⟨?_,by simp only[zbW,Zg];omega,by simp only[zbW];omega,?_,fun j hj=> ?_⟩⟩
 · simp only[zbW] at hw
   obtain⟨j,hj,rfl⟩:=Zq hw
   obtain⟨_,e,_⟩:=zcR hI hj
   rw[List.getD,Z1 hj,Z7] at e
   omega
 · simp only[zbW] at hp⊢
   obtain⟨y,hy,rfl⟩:=Zj.1 hp
   rw[z0c,z0c,zo5 hI y hy]
 · simp only[zbW];exact zny.2 ⟨by omega,by rw[Z2];exact hkl⟩
 · simp only[zbW]
   refine Zt.2 fun x hx=> ?_
   obtain⟨t,ht,rfl⟩:=Zj.1 hx
   exact zny.2 ⟨by omega,by rw[Z2];exact(t2 t ht).2.2⟩
 · simp only[zbW] at hj⊢
   obtain⟨l1,l2,l3⟩:=zcR hI hj
   have hj2:j<(zjm d m n S (z3a S (z2b d m n S c)) c S.length).2.length:=by omega
   have ep:((zjm d m n S (z3a S (z2b d m n S c)) c S.length).2.map toI).getD j []=toI ((zjm d m n S (z3a S (z2b d m n S c)) c S.length).2.getD j []):=by
    simp[List.getD,hj2]
   rw[l3] at ep
   obtain⟨p1,p2,p3⟩:=zb3 hd hn hS hk l1
   generalize hw:(zjm d m n S (z3a S (z2b d m n S c)) c S.length).1.getD j ByteArray.empty=w at*
   refine⟨⟨by omega,l1.hw⟩,?_,?_⟩
   · rw[ep,htI]
     refine zir.2 ⟨by rw[z0c,zcE],fun x hx=> ?_,?_⟩
     · obtain⟨y,hy,rfl⟩:=Zj.1 hx
       have:=p2 y hy
       omega
     · exact Yz _ (fun a b (hab:a≠b)=>by intro e;exact hab (by omega)) p1
   · unfold zxR
     simp only[zbW]
     rw[hw,ep,htI,Z5,decide_eq_true_eq,Z2]
     refine⟨by rw[l1.run],Zt.2 fun i hi=> ?_⟩
     have hi:=Zi.1 hi
     have hpi:i<(z3M d w.data.toList (z3a S (z2b d m n S c))).length:=by rw[zcE];exact hi
     have g1:(toI (z3a S (z2b d m n S c))).getD i 0=(((z3a S (z2b d m n S c)).getD i 0:Nat):Int):=by simp[toI,List.getD,hi]
     have g2:(toI (z3M d w.data.toList (z3a S (z2b d m n S c)))).getD i 0=(((z3M d w.data.toList (z3a S (z2b d m n S c))).getD i 0:Nat):Int):=by simp[toI,List.getD,hpi]
     have hlt:=p2 _ (z0g hpi)
     have g3:(toI (z3a S (z2b d m n S c))).getD ((z3M d w.data.toList (z3a S (z2b d m n S c))).getD i 0) 0=(((z3a S (z2b d m n S c)).getD ((z3M d w.data.toList (z3a S (z2b d m n S c))).getD i 0) 0:Nat):Int):=by
      generalize (z3M d w.data.toList (z3a S (z2b d m n S c))).getD i 0=q at*
      simp[toI,List.getD,hlt]
     rw[g1,g2,Z2,Z2,g3,p3 i hi,decide_eq_true_eq]
end
end
section
open Go
set_option maxRecDepth 100000
variable{v w:List UInt8}{c k:Nat}
theorem zy0{d:DFA}{m n:Nat}{S:List Nat}(h:0<z8e d m n S k):szN (S.getD k 0)≠1:=fun e=>by
 have hz:ze1 S k=true:=by unfold ze1;rw[decide_eq_true e]
 unfold z8e zo7 at h
 cases hN:S.length with
 |zero=>rw[hN] at h;simp[zvx] at h
 |succ N=>rw[hN] at h;simp only[zvx] at h;rw[if_pos hz] at h;omega
def zqs(n:Nat):List Nat->Nat
 | []=>0
 |x::l=>x+n*zqs n l
theorem zmH{n:Nat}:∀ {l:List Nat},(∀x∈l,x<n)->zqs n l<n^l.length
 | [],_=>by simp[zqs]
 |x::l,h=>by
  have h1:=h x (Zv ..)
  have h2:=zmH (l:=l) (fun y hy=>h y (Zl _ hy))
  rw[zqs,Zr,Nat.pow_succ]
  have:n*zqs n l+n<=n^l.length*n:=by
   have:=Nat.mul_le_mul_left n h2
   rw[Nat.mul_succ] at this
   rwa [Nat.mul_comm (n^l.length)]
  omega
theorem zj1{n:Nat}:∀ {l r:List Nat},(∀x∈l,x<n)->(∀x∈r,x<n)->l.length=r.length->zqs n l=zqs n r->l=r
 | [],[],_,_,_,_=>rfl
 | [],_::_,_,_,h,_=>by simp at h
 |_::_,[],_,_,h,_=>by simp at h
 |x::l,y::r,hl,hr,hlen,h=>by
  have h1:=hl x (Zv ..)
  have h2:=hr y (Zv ..)
  rw[zqs,zqs] at h
  have e1:x=y:=by
   have:=congrArg (·%n) h
   simpa[Nat.add_mul_mod_self_left,YZ h1,YZ h2] using this
  subst e1
  have e2:zqs n l=zqs n r:=Nat.eq_of_mul_eq_mul_left (show 0<n by omega) (by omega)
  rw[zj1 (fun z hz=>hl z (Zl _ hz)) (fun z hz=>hr z (Zl _ hz)) (by simpa using hlen) e2]
section
variable {d:DFA} {m n:Nat} {S:List Nat} (hd:DfaOk d m n) (hn:n<=7) (hS:SetsP d m n S)
include hd hn hS
theorem zvg(hk:k<S.length):Lead d m n (S.getD k 0) (S.getD k 0) []:=by
 have _u:=hd
 have _v:=hn
 exact⟨fun c hc=>by simp at hc,hS.lt _ (z0g hk),hS.lt _ (z0g hk),rfl,rfl⟩
theorem zuW(hk:k<S.length):z3M d [] (z3a S k)=List.range (z3a S k).length:=by
 obtain⟨h1,h2⟩:=z8y hd hn hS hk
 refine Ze (by simp[z3M]) fun i i1 i2=> ?_
 have hi:i<(z3a S k).length:=by simpa[z3M] using i1
 simp only[z3M,ZF,ZP,z4r]
 have hm:(z3a S k)[i]∈z3a S k:=Zp hi
 have e:=z3z hm
 have e2:(z3a S k).getD i 0=(z3a S k)[i]:=by grind
 exact z5h h1 (z6o hm) hi (by rw[e,e2])
theorem zuX(hk:k<S.length)(h1:Lead d m n (S.getD k 0) (S.getD k 0) w):zbz (z3M d w (z3a S k)) (z3M d v (z3a S k))=z3M d (w++v) (z3a S k):=by
 have hr:=zlT hd hn hS hk h1
 unfold zbz
 rw[show z3M d w (z3a S k)=(z3a S k).map fun t=>(z3a S k).idxOf (z4r d t w) from rfl,Y5]
 refine Zz fun t ht=> ?_
 have hm:=hr t ht
 show(z3M d v (z3a S k)).getD ((z3a S k).idxOf (z4r d t w)) 0=(z3a S k).idxOf (z4r d t (w++v))
 rw[zsd (z6o hm),z3z hm,←z7m]
def zgr(d:DFA)(m n:Nat)(S:List Nat)(c:Nat):List (List Nat):=(zjm d m n S (z3a S (z2b d m n S c)) c S.length).2
theorem zkY{g:List Nat}(hg:g∈zgr d m n S c):∃w,Lead d m n (S.getD (z2b d m n S c) 0) (S.getD (z2b d m n S c) 0) w/\g=z3M d w (z3a S (z2b d m n S c)):=by
 have hI:=ztZ hd hn hS (c:=c) S.length (Z8 _)
 obtain⟨j,hj,rfl⟩:=Zq hg
 obtain⟨l1,l2,l3⟩:=zcR hI (j:=j) (by rw[hI.len];exact hj)
 have hj':j<(zjm d m n S (z3a S (z2b d m n S c)) c S.length).2.length:=hj
 rw[List.getD,Z1 hj',Z7] at l3
 exact⟨_,l1,l3⟩
theorem zsH(hk:k<S.length)(h:Lead d m n (S.getD k 0) (S.getD k 0) w):PermL (z3a S k).length (z3M d w (z3a S k)):=by
 obtain⟨p1,p2,_⟩:=zb3 hd hn hS hk h
 exact⟨zcE _ _ _,p1,p2⟩
theorem zt3(hcl:c<(z6M d m n S).length):∀g∈zgr d m n S c,PermL (z3a S (z2b d m n S c)).length g:=fun g hg=>by
 obtain⟨w,h,rfl⟩:=zkY hd hn hS hg
 exact zsH hd hn hS (z2D hd hn hS hcl).2 h
theorem zhI(hcl:c<(z6M d m n S).length){e:List Nat}(h:RchG (z3a S (z2b d m n S c)).length (zgr d m n S c) e):∃w,Lead d m n (S.getD (z2b d m n S c) 0) (S.getD (z2b d m n S c) 0) w/\e=z3M d w (z3a S (z2b d m n S c)):=by
 have hk:=(z2D hd hn hS hcl).2
 induction h with
 |one=>exact⟨[],zvg hd hn hS hk,(zuW hd hn hS hk).symm⟩
 |step e g _ hg ih=>
  obtain⟨w,h1,rfl⟩:=ih
  obtain⟨v,h2,rfl⟩:=zkY hd hn hS hg
  exact⟨w++v,z8p h1 h2,zuX hd hn hS hk h1⟩
theorem zmc(hk:k<S.length)(hw:zhO m w)(hv:zhO m v)(h:zh5 d n w=zh5 d n v):z3M d w (z3a S k)=z3M d v (z3a S k):=by
 obtain⟨_,h2⟩:=z8y hd hn hS hk
 refine Zz fun t ht=> ?_
 have ha:∀i,i<n->z7V d i w=z7V d i v:=fun i hi=>by
  have:=congrArg (fun l=>l.getD i 0) h
  simpa[zh5,List.getD,hi] using this
 have e:z4r d t w=z4r d t v:=ZQ fun p=>by
  rw[Y9,z8z hd hw (h2 t ht).2.2,z8z hd hv (h2 t ht).2.2]
  refine exists_congr fun i=>and_congr_right fun hi=>and_congr_right fun _=> ?_
  rw[ha i hi]
 rw[e]
theorem zs0(hcl:c<(z6M d m n S).length)(hn4:n<=4):∀l:List (List Nat),l.Nodup->(∀e∈l,RchG (z3a S (z2b d m n S c)).length (zgr d m n S c) e)->l.length<=2000:=fun l hnd hl=>by
 have hk:=(z2D hd hn hS hcl).2
 have hex:∀e∈l,∃w,zhO m w/\e=z3M d w (z3a S (z2b d m n S c)):=fun e he=>by
  obtain⟨w,h1,h2⟩:=zhI hd hn hS hcl (hl e he)
  exact⟨w,h1.hw,h2⟩
 obtain⟨wd,hwd⟩:∃wd:List Nat->List UInt8,∀e∈l,zhO m (wd e)/\e=z3M d (wd e) (z3a S (z2b d m n S c)):=by
  classical
  exact⟨fun e=>if h:∃w,zhO m w/\e=z3M d w (z3a S (z2b d m n S c)) then h.choose else [],fun e he=>by
   simp only
   rw[dif_pos (hex e he)];exact(hex e he).choose_spec⟩
 have hlt:∀e∈l,∀x∈zh5 d n (wd e),x<n:=fun e he x hx=>by
  obtain⟨q,hq,rfl⟩:=Zj.1 hx
  exact zi7 hd (Zi.1 hq) (hwd e he).1
 have hlen:∀e,(zh5 d n (wd e)).length=n:=fun e=>by simp[zh5]
 have h1:(l.map fun e=>zqs n (zh5 d n (wd e))).Nodup:=z5m hnd fun x hx y hy e=>by
  have:=zj1 (hlt x hx) (hlt y hy) (by rw[hlen x,hlen y]) e
  rw[(hwd x hx).2,(hwd y hy).2,zmc hd hn hS hk (hwd x hx).1 (hwd y hy).1 this]
 have h2:=z2k h1 (N:=n^n) fun x hx=>by
  obtain⟨e,he,rfl⟩:=Zj.1 hx
  have:=zmH (hlt e he)
  rwa [hlen] at this
 rw[Zg] at h2
 have h3:n^n<=4^4:=ZR (Nat.pow_le_pow_left hn4 n) (Zm (by omega) hn4)
 omega
end
theorem ztr:∀a,a<2->∀b,b<2->∀q,q<7->((defT.getD (((defT.getD q []).getD a 0).toNat) []).getD b 0)=((defT.getD (((defT.getD 0 []).getD a 0).toNat) []).getD b 0):=by decide
theorem zyZ:∀p,p<7->szN (2^p)=1:=by decide
section
variable {d:DFA} (hd:DfaOk d 2 7) (hT:d.next=defT)
include hd hT
omit hd in
theorem zts{a b:UInt8}(h:zhO 2 (a::b::w)){q:Nat}(hq:q<7):z7V d q (a::b::w)=z7V d 0 (a::b::w):=by
 have ha:=(z9e h).2
 have hb:=(z9e (z9e h).1).2
 have:=ztr _ ha _ hb q hq
 have e:nxN d (nxN d q (a.toNat-97)) (b.toNat-97)=nxN d (nxN d 0 (a.toNat-97)) (b.toNat-97):=by
  unfold nxN;rw[hT,this]
 rw[z7V,z7V,z7V,z7V,e]
theorem zye{K:Nat}(h:Lead d 2 7 K K w)(hw:w≠ [])(hK:K≠0):szN K=1:=by
 have h2:=z8p h h
 have hone:∀p q,K.testBit p=true->K.testBit q=true->p=q:=fun p q hp hq=>by
  have hr:∀p,K.testBit p=true->∃i,i<7/\z7V d i (w++w)=p:=fun p hp=>by
   have:(z4r d K (w++w)).testBit p=true:=by rw[h2.run];exact hp
   obtain⟨i,i1,_,i3⟩:=(z8z hd h2.hw h.hK).1 this
   exact⟨i,i1,i3⟩
  obtain⟨i,i1,i2⟩:=hr p hp
  obtain⟨j,j1,j2⟩:=hr q hq
  have hl:=h2.hw
  revert i2 j2 hl
  cases w with
  |nil=>exact absurd rfl hw
  |cons a w=>
   obtain⟨b,v,e⟩:∃b v,(a::w)++(a::w)=a::b::v:=by
    cases w with
    |nil=>exact⟨a,[],rfl⟩
    |cons b w=>exact⟨b,w++(a::b::w),rfl⟩
   rw[e]
   intro i2 j2 hl
   rw[←i2,←j2,zts hT hl i1,zts hT hl j1]
 obtain⟨p,hp⟩:∃p,K.testBit p=true:=by
  refine Ys fun hh=>hK (ZQ fun q=> ?_)
  rw[Xf]
  cases hb:K.testBit q with
  |false=>rfl
  |true=>exact absurd ⟨q,hb⟩ hh
 have hp7:=zlp h.hK hp
 have e:K=2^p:=ZQ fun q=>by grind
 rw[e];exact zyZ p hp7
end
theorem zvM{d:DFA}{m n:Nat}{S:List Nat}(hd:DfaOk d m n)(hn:n<=7)(hS:SetsP d m n S)(h7:n=7/\m=2/\d.next=defT)(hcl:c<(z6M d m n S).length)(hz:szN (S.getD (z2b d m n S c) 0)≠1)(hpos:∀x∈S,x≠0):zgr d m n S c= []:=by
 obtain⟨rfl,rfl,hT⟩:=h7
 have hk:=(z2D hd hn hS hcl).2
 have hstep:∀i a,i<S.length->a<2->clN d 2 7 S i=c->zgU d 2 7 S (z3a S (z2b d 2 7 S c)) i ([],[]) a=([],[]):=fun i a hi ha hc=>by
  unfold zgU
  split
  · rename_i hj
    obtain⟨l1,l2⟩:=zmx hd hn hS hi ha hj
    have hf:z2b d 2 7 S c=z5L d 2 7 S i:=by unfold z2b;rw[←hc];rfl
    rw[←hf] at l1
    refine absurd (zye hd hT l1 (fun e=> ?_) (hpos _ (z0g hk))) hz
    have:=congrArg List.length e
    unfold hwN at this
    rw[zd0,zd0,z8A] at this
    simp at this
  · rfl
 have hrow:∀i,i<S.length->clN d 2 7 S i=c->∀a,a<=2->zly d 2 7 S (z3a S (z2b d 2 7 S c)) i ([],[]) a=([],[]):=fun i hi hc a=>by
  induction a with
  |zero=>intro _;rfl
  |succ a ih=>intro ha;rw[zim,ih (by omega),hstep i a hi (by omega) hc]
 have hall:∀k,k<=S.length->zjm d 2 7 S (z3a S (z2b d 2 7 S c)) c k=([],[]):=fun k=>by
  induction k with
  |zero=>intro _;rfl
  |succ k ih=>
   intro hk
   rw[zoP,ih (by omega)]
   split
   · grind
   · rfl
 unfold zgr
 rw[hall _ (Z8 _)]
theorem zy8{d:DFA}{m n:Nat}{S:List Nat}(hd:DfaOk d m n)(hn:n<=7)(hS:SetsP d m n S)(hs:n<=4∨(n=7/\m=2/\d.next=defT))(hcl:c<(z6M d m n S).length)(hz:szN (S.getD (z2b d m n S c) 0)≠1)(hpos:∀x∈S,x≠0):∀l:List (List Nat),l.Nodup->(∀e∈l,RchG (z3a S (z2b d m n S c)).length (zgr d m n S c) e)->l.length<=2000:=by
 rcases hs with h4|h7
 · exact zs0 hd hn hS hcl h4
 · intro l hnd hl
   have hg:=zvM hd hn hS h7 hcl hz hpos
   have hone:∀e∈l,e∈ [List.range (z3a S (z2b d m n S c)).length]:=fun e he=>by
    have:=hl e he
    rw[hg] at this
    rw[Zh]
    induction this with
    |one=>rfl
    |step e g _ hg _=>simp at hg
   have:=z7n hnd hone
   simp at this
   omega
end
section
open Go
set_option maxRecDepth 100000
variable{v w:List UInt8}{K c q:Nat}
def zec(n K:Nat):List Nat:=(List.range n).filter fun q=>K.testBit q
theorem zdE{n:Nat}:q∈zec n K↔q<n/\K.testBit q=true:=by
 unfold zec;rw[ZW,Zi]
theorem zs8(n K:Nat):(zec n K).Nodup:=YG _ YC
theorem zxj(n K:Nat):(zec n K).length<=n:=ZR (ZE _ _) (by simp)
section
variable {d:DFA} {m n:Nat} (hd:DfaOk d m n) (hn:n<=7)
include hd hn
theorem zrQ(hq:q<n)(hw:zhO m w):z4r d (2^q) w=2^z7V d q w:=ZQ fun p=>by
 have _u:=hn
 rw[Y9,z8z hd hw (Yn (by omega) hq),Yi,decide_eq_true_eq]
 constructor
 · rintro⟨i,hi,h1,h2⟩
   rw[Yi,decide_eq_true_eq] at h1
   rw[h1,h2]
 · intro h
   exact⟨q,hq,by rw[Nat.testBit_two_pow_self],h⟩
theorem zoR(h:Lead d m n K K w):((zec n K).map fun q=>z7V d q w).Nodup/\ ∀x∈(zec n K).map fun q=>z7V d q w,x∈zec n K:=by
 have hsub:∀q,K.testBit q=true->z7N (2^q) K:=fun q hq=>z1Z.2 fun p hp=>by
  rw[Yi,decide_eq_true_eq] at hp
  rw[←hp];exact hq
 refine⟨z5m (zs8 n K) fun x hx y hy e=> ?_,fun x hx=> ?_⟩
 · obtain⟨x1,x2⟩:=zdE.1 hx
   obtain⟨y1,y2⟩:=zdE.1 hy
   have:=zb8 hd hn h (hsub x x2) (hsub y y2) (by rw[zrQ hd hn x1 h.hw,zrQ hd hn y1 h.hw,e])
   exact(Nat.pow_right_inj (show 1<2 by omega)).1 this
 · obtain⟨q,hq,rfl⟩:=Zj.1 hx
   obtain⟨q1,q2⟩:=zdE.1 hq
   have hb:(z4r d K w).testBit (z7V d q w)=true:=(z8z hd h.hw h.hK).2 ⟨q,q1,q2,rfl⟩
   rw[h.run] at hb
   exact zdE.2 ⟨zi7 hd q1 h.hw,hb⟩
theorem zu1(hw:Lead d m n K K w)(hv:Lead d m n K K v)(h5:n<=5)(h:((zec n K).take 4).map (fun q=>z7V d q w)=((zec n K).take 4).map fun q=>z7V d q v):∀q∈zec n K,z7V d q w=z7V d q v:=by
 obtain⟨w1,w2⟩:=zoR hd hn hw
 obtain⟨v1,v2⟩:=zoR hd hn hv
 have hl:=zxj n K
 intro q hq
 obtain⟨j,hj,rfl⟩:=Zq hq
 by_cases h4:j<4
 · have:=congrArg (fun l=>l.getD j 0) h
   simpa[List.getD,h4,hj] using this
 · have hj4:j=4:=by omega
   subst hj4
   have hl5:(zec n K).length=5:=by omega
   have hsplit:zec n K=(zec n K).take 4++ [(zec n K)[4]]:=by
    rw[←ZB hj]
    exact(Yq (by omega)).symm
   apply Ys
   intro hne
   have ew:(zec n K).map (fun q=>z7V d q w)=((zec n K).take 4).map (fun q=>z7V d q w)++ [z7V d (zec n K)[4] w]:=by
    have:=congrArg (List.map fun q=>z7V d q w) hsplit
    rw[Y3,Zn,Yy] at this
    exact this
   have ev:(zec n K).map (fun q=>z7V d q v)=((zec n K).take 4).map (fun q=>z7V d q w)++ [z7V d (zec n K)[4] v]:=by
    have:=congrArg (List.map fun q=>z7V d q v) hsplit
    rw[Y3,Zn,Yy] at this
    rw[h];exact this
   rw[ew] at w1 w2
   rw[ev] at v1 v2
   have hnd:(((zec n K).take 4).map (fun q=>z7V d q w)++ [z7V d (zec n K)[4] w,z7V d (zec n K)[4] v]).Nodup:=by
    have a1:=Ym.1 w1
    have a2:=Ym.1 v1
    refine Ym.2 ⟨a1.1,by simpa using hne,fun a ha b hb=> ?_⟩
    rcases Zw.1 hb with rfl|hb
    · exact a1.2.2 a ha _ (by simp)
    · obtain rfl:=Zh.1 hb
      exact a2.2.2 a ha _ (by simp)
   have:=z7n hnd (r:=zec n K) fun x hx=>by
    rcases Zf.1 hx with hx|hx
    · exact w2 x (Zf.2 (.inl hx))
    · rcases Zw.1 hx with rfl|hx
      · exact w2 _ (by simp)
      · obtain rfl:=Zh.1 hx
        exact v2 _ (by simp)
   simp only[Zb,Zg,Zo,Zr,Yg] at this
   omega
variable {S:List Nat} (hS:SetsP d m n S)
include hS
theorem zmb{k:Nat}(hk:k<S.length)(hw:zhO m w)(hv:zhO m v)(h:∀q∈zec n (S.getD k 0),z7V d q w=z7V d q v):z3M d w (z3a S k)=z3M d v (z3a S k):=by
 obtain⟨_,h2⟩:=z8y hd hn hS hk
 refine Zz fun t ht=> ?_
 have e:z4r d t w=z4r d t v:=ZQ fun p=>by
  rw[Y9,z8z hd hw (h2 t ht).2.2,z8z hd hv (h2 t ht).2.2]
  refine exists_congr fun i=>and_congr_right fun hi=>and_congr_right fun hb=> ?_
  rw[h i (zdE.2 ⟨hi,z1Z.1 (h2 t ht).2.1 i hb⟩)]
 rw[e]
theorem zpH(hcl:c<(z6M d m n S).length)(h5:n<=5):∀l:List (List Nat),l.Nodup->(∀e∈l,RchG (z3a S (z2b d m n S c)).length (zgr d m n S c) e)->l.length<=2000:=fun l hnd hl=>by
 have hk:=(z2D hd hn hS hcl).2
 have hex:∀e∈l,∃w,Lead d m n (S.getD (z2b d m n S c) 0) (S.getD (z2b d m n S c) 0) w/\e=z3M d w (z3a S (z2b d m n S c)):=fun e he=>zhI hd hn hS hcl (hl e he)
 obtain⟨wd,hwd⟩:∃wd:List Nat->List UInt8,∀e∈l,Lead d m n (S.getD (z2b d m n S c) 0) (S.getD (z2b d m n S c) 0) (wd e)/\e=z3M d (wd e) (z3a S (z2b d m n S c)):=by
  classical
  exact⟨fun e=>if h:∃w,Lead d m n (S.getD (z2b d m n S c) 0) (S.getD (z2b d m n S c) 0) w/\e=z3M d w (z3a S (z2b d m n S c)) then h.choose else [],fun e he=>by
   simp only
   rw[dif_pos (hex e he)];exact(hex e he).choose_spec⟩
 let cd:=fun e=>((zec n (S.getD (z2b d m n S c) 0)).take 4).map fun q=>z7V d q (wd e)
 have hlt:∀e∈l,∀x∈cd e,x<5:=fun e he x hx=>by
  obtain⟨q,hq,rfl⟩:=Zj.1 hx
  have:=zi7 hd (zdE.1 (ZK hq)).1 (hwd e he).1.hw
  omega
 have hlen:∀e f,(cd e).length=(cd f).length:=fun e f=>by simp[cd]
 have hlen4:∀e,(cd e).length<=4:=fun e=>by simp[cd];omega
 have h1:(l.map fun e=>zqs 5 (cd e)).Nodup:=z5m hnd fun x hx y hy e=>by
  have:=zj1 (hlt x hx) (hlt y hy) (hlen x y) e
  rw[(hwd x hx).2,(hwd y hy).2,zmb hd hn hS hk (hwd x hx).1.hw (hwd y hy).1.hw (zu1 hd hn (hwd x hx).1 (hwd y hy).1 h5 this)]
 have h2:=z2k h1 (N:=5^4) fun x hx=>by
  obtain⟨e,he,rfl⟩:=Zj.1 hx
  exact Zy (zmH (hlt e he)) (Zm (by omega) (hlen4 e))
 rw[Zg] at h2
 omega
theorem zvD(hs:n<=5∨(n=7/\m=2/\d.next=defT))(hcl:c<(z6M d m n S).length)(hz:szN (S.getD (z2b d m n S c) 0)≠1)(hpos:∀x∈S,x≠0):∀l:List (List Nat),l.Nodup->(∀e∈l,RchG (z3a S (z2b d m n S c)).length (zgr d m n S c) e)->l.length<=2000:=by
 rcases hs with h5|h7
 · exact zpH hd hn hS hcl h5
 · exact zy8 hd hn hS (.inr h7) hcl hz hpos
end
end
section
open Go
set_option maxRecDepth 100000
section
variable {L:Nat} {P:List (List Nat)} (hP:∀g∈P,PermL L g) (h1:1<=L) (h2:L<=32) (hB:∀l:List (List Nat),l.Nodup->(∀e∈l,RchG L P e)->l.length<=2000)
include hP h1 h2 hB
end
end
section
open Go
set_option maxRecDepth 100000
section
variable {L:Nat} {P:List (List Nat)} (hP:∀g∈P,PermL L g) (h1:1<=L) (h2:L<=32) (hB:∀l:List (List Nat),l.Nodup->(∀e∈l,RchG L P e)->l.length<=2000)
include hP h1 h2 hB
end
end
section
open Go
set_option maxRecDepth 100000
section
variable {L:Nat} {P:List (List Nat)} (hP:∀g∈P,PermL L g) (h1:1<=L) (h2:L<=32) (hB:∀l:List (List Nat),l.Nodup->(∀e∈l,RchG L P e)->l.length<=2000)
include hP h1 h2 hB
end
end
section
open Go
set_option maxRecDepth 100000
section
variable {d:DFA} {m n:Nat} {S:List Nat} (hd:DfaOk d m n) (hn:n<=7) (hS:SetsP d m n S)
include hd hn hS
end
end
section
open Go
set_option maxRecDepth 100000
def zrz(d:DFA)(m n:Nat)(S O:List Nat):List Int:=toI ((List.range O.length).map (szO d m n S O))
section
variable {d:DFA} {m n:Nat} {S:List Nat} (hd:DfaOk d m n) (hn:n<=7) (hS:SetsP d m n S) {O:List Nat} (hH:zgQ d m n S) (hO:OrdC d m n S O) (hpos:∀x∈S,x≠0) (hbot:∀i k,i<S.length->k<S.length->ze1 S k=true->z7M d m n S i k=true->ze1 S i=true)
include hd hn hS hH hO hpos hbot
end
end
section
open Go
set_option maxRecDepth 100000
section
variable {d:DFA} {m n:Nat} {S O:List Nat}
end
section
variable {d:DFA} {m n:Nat} {S:List Nat} (hd:DfaOk d m n) (hn:n<=7) (hS:SetsP d m n S) {O:List Nat} (hH:zgQ d m n S) (hO:OrdC d m n S O) (hpos:∀x∈S,x≠0)
include hd hn hS hH hO hpos
theorem zjd(h0:0<S.length):∀(f i:Nat) (T T':List (List Nat)),(∀t∈T,zd8 d m n S O t)->T.Nodup->T.length<=2000->zlB (z7G d m n S O) m f i T=some T'->(∀t∈T',zd8 d m n S O t)/\T'.Nodup/\T'.length<=2000/\ ∃X,T'=T++X
 |0,i,T,T',h1,h2,h3,h=>by
  simp only[zlB,Za] at h
  subst h;exact⟨h1,h2,h3,[],by simp⟩
 |f+1,i,T,T',h1,h2,h3,h=>by
  simp only[zlB] at h
  split at h
  · rename_i hi
    cases hb:zmW (fun a=>z7G d m n S O a (T.getD i [])) m 0 T with
    |none=>rw[hb,Option.bind_none] at h;cases h
    |some U=>
     rw[hb,Z0] at h
     obtain⟨⟨X,e⟩,u2,u3,u4,_⟩:=zeU m 0 T U (fun b _ _=>(zaX hd hn hS hH hO hpos (a:=b) (h1 _ (z8G hi)) h0).1) h1 h2 h3 hb
     obtain⟨v1,v2,v3,Z,v4⟩:=zjd h0 f (i+1) U T' u2 u3 u4 h
     exact⟨v1,v2,v3,X++Z,by rw[v4,e,Zu]⟩
  · simp only[Za] at h
    subst h;exact⟨h1,h2,h3,[],by simp⟩
end
end
section
open Go
set_option maxRecDepth 100000
section
variable (d:DFA) (m n:Nat) (S O:List Nat)
end
section
variable {d:DFA} {m n:Nat} {S:List Nat} (hd:DfaOk d m n) (hn:n<=7) (hS:SetsP d m n S) {O:List Nat} (hH:zgQ d m n S) (hO:OrdC d m n S O) (hpos:∀x∈S,x≠0)
include hd hn hS hH hO hpos
end
end
section
open Go
set_option maxRecDepth 100000
section
variable {d:DFA} {m n:Nat} {S:List Nat} (hd:DfaOk d m n) (hn:n<=7) (hS:SetsP d m n S) {O:List Nat} (hH:zgQ d m n S) (hO:OrdC d m n S O) (hpos:∀x∈S,x≠0)
include hd hn hS hH hO hpos
end
end
section
open Go
set_option maxRecDepth 100000
theorem zto{L:Nat}{h:Hol}{Q:List (List Nat)}(et:h.tiles.length=L)(ep:h.perms=Q.map toI)(hQ:∀g∈Q,PermL L g)(h1:1<=L)(h2:L<=32)(hl:Q.length<=1000)
 (hB:∀l:List (List Nat),l.Nodup->(∀e∈l,RchG L Q e)->l.length<=2000):∃S,z3c h=some (S,0):=by
 have e0:toI (List.range L)=(List.range L).map fun k:Nat=>(k:Int):=rfl
 have hpm:(Q.map toI).all (zfS L)=true:=Zt.2 fun x hx=>by
  obtain⟨g,hg,rfl⟩:=Zj.1 hx
  have:=hQ g hg
  refine zir.2 ⟨by rw[z0c,this.len],fun y hy=> ?_,?_⟩
  · obtain⟨z,hz,rfl⟩:=Zj.1 hy
    have:=this.lt z hz
    omega
  · exact Yz _ (fun a b (hab:a≠b)=>by intro e;exact hab (by omega)) this.nd
 have hH:z3c h=if Q= [] then some ([toI (List.range L)],0) else(z5v (Q.map toI)).bind fun v=>some (v.1,v.2):=by
  unfold z3c
  rw[et,ep,if_neg (by omega),if_neg (by omega),zuV (by omega) (by rw[Zg];omega),Z0,hpm,if_pos rfl,z0i _ (by unfold z0Q;omega),Z2]
  refine z0q (s:=((0:Int),List.replicate L (0:Int))) L (fun k=>((k:Int),zb5 L (fun k=>(k:Int)) (fun _=>0) k)) (by rw[z9T];congr 1;exact(Ze (by simp) fun i h1 h2=>by simp)) (by simp only[LFm];omega) (fun k hk=> ?_) ?_
  · simp only[z4M]
    rw[et,if_pos (by omega),z6T hk,Z0,z0V (by omega),Z2,z5c (f:=fun k=>(k:Int)) hk]
  · simp only[z4M]
    rw[et,ep,if_neg (by omega),z9S,←e0,Zg]
    by_cases hq:Q= []
    · subst hq
      rw[if_pos (by simp),if_pos rfl]
    · rw[if_neg (by have:=ZJ.2 hq;omega),if_neg hq]
 rw[hH]
 by_cases hq:Q= []
 · rw[if_pos hq];exact⟨_,rfl⟩
 · obtain⟨S,s1,_⟩:=zy2 hQ h1 h2 hB hq (by omega)
   rw[if_neg hq,s1]
   exact⟨_,rfl⟩
section
variable {d:DFA} {m n:Nat} {S:List Nat} (hd:DfaOk d m n) (hn:n<=7) (hS:SetsP d m n S)
include hd hn hS
theorem zvJ(hs:n<=5∨(n=7/\m=2/\d.next=defT)){c:Nat}(hcl:c<(z6M d m n S).length)(hz:szN (S.getD (z2b d m n S c) 0)≠1)(hpos:∀x∈S,x≠0)(h32:S.length<=32):
 ∃E,z3c (zbW d m n S c)=some (E,0):=by
 have hP:=zt3 hd hn hS hcl
 obtain⟨ho,_⟩:=zsV hd hn hS hcl hz hpos h32
 have et:(zbW d m n S c).tiles.length=(z3a S (z2b d m n S c)).length:=z0c _
 have t1:=ho.t1
 have t2:=ho.t2
 have hpl:(zgr d m n S c).length<=1000:=by
  have h1:=ho.wp
  have h2:=ho.wl
  have:(zbW d m n S c).perms.length=(zgr d m n S c).length:=Zg _
  omega
 exact zto et rfl hP (by omega) (by omega) hpl (zvD hd hn hS hs hcl hz hpos)
end
end
section
open Go
noncomputable section
set_option maxRecDepth 100000
set_option maxHeartbeats 6000000
variable{a0:Frm}{mp:List (ByteArray×CRow)}{a1:List (List Int)}
attribute [local simp] cfRw
abbrev RMs:=Option (List (List (List Int)))
abbrev zaZ(v:List (List (List Int)))(w28:Int)(k:ByteArray)(c:List Int)(mp:List (ByteArray×CRow)):Int×List (List Int)->Option ((Int×List (List Int))⊕((Int×List (ByteArray×CRow)×RMs)⊕((Int×List (ByteArray×CRow))⊕List (ByteArray×CRow))))
 |(w54,acc)=>
 if w54<(v.length:Int) then
  (atI v w54).bind fun m=>
  (atI m w28).bind fun e=>
  chk (z1V 24 (acc.length+1))<|
  z0d (IntKind.i64.wrap (w54+1),acc++ [e])
 else
  z0f<|
  z0d (IntKind.i64.wrap (w28+1),z8k k ⟨c,acc⟩ mp,some v)
abbrev zbN(a0:Frm)(x:List Int)(w22:Int):Int×List (ByteArray×CRow)×RMs->Option ((Int×List (ByteArray×CRow)×RMs)⊕((Int×List (ByteArray×CRow))⊕List (ByteArray×CRow)))
 |(w28,mp,ms)=>
 if w28<(x.length:Int) then
  (z6G x 0 w28).bind fun p=>
  (z3W p).bind fun k=>
  (z7T k mp).elim
    (match ms with
    |some v=>
     chk (¬v.length=0)<|
     (zbq p).bind fun c=>
     z0h (zaZ v w28 k c mp) LFm (0,[])
    |none=>
     (z2L a0 x).bind fun v=>
     (zbq p).bind fun c=>
     z0h (zaZ v w28 k c mp) LFm (0,[]))
    fun _=>z0d (IntKind.i64.wrap (w28+1),mp,ms)
 else
  z0f<|
  z0d (IntKind.i64.wrap (w22+1),mp)
abbrev zil(a0:Frm)(a1:List (List Int)):Int×List (ByteArray×CRow)->Option ((Int×List (ByteArray×CRow))⊕List (ByteArray×CRow))
 |(w22,mp)=>
 if w22<(a1.length:Int) then
  (atI a1 w22).bind fun x=>
  z0h (zbN a0 x w22) LFm (0,mp,none)
 else
  z0f<|
  chk (z0Q 48 (mp.length:Int))<|
  some mp
abbrev zAo(mp:List (ByteArray×CRow)):T:=.mt none (mp.map fun x0=>.string x0.1) (mp.map fun x0=>.agg [.sl x0.2.pre.length (x0.2.pre.map fun x1=>.sc (.int .i64 x1)),.sl x0.2.maps.length (x0.2.maps.map fun x1=>.sl x1.length (x1.map fun x2=>.sc (.int .i64 x2)))])
theorem zrM(k:ByteArray)(c:List Int)(ms:List (List Int))(mp:List (ByteArray×CRow)):za7 (.string k) (.agg [.sl c.length (c.map fun x1=>.sc (.int .i64 x1)),.sl ms.length (ms.map fun x1=>.sl x1.length (x1.map fun x2=>.sc (.int .i64 x2)))]) (mp.map fun x0=>.string x0.1) (mp.map fun x0=>.agg [.sl x0.2.pre.length (x0.2.pre.map fun x1=>.sc (.int .i64 x1)),.sl x0.2.maps.length (x0.2.maps.map fun x1=>.sl x1.length (x1.map fun x2=>.sc (.int .i64 x2)))])=((z8k k ⟨c,ms⟩ mp).map (fun x0=>.string x0.1),(z8k k ⟨c,ms⟩ mp).map fun x0=>.agg [.sl x0.2.pre.length (x0.2.pre.map fun x1=>.sc (.int .i64 x1)),.sl x0.2.maps.length (x0.2.maps.map fun x1=>.sl x1.length (x1.map fun x2=>.sc (.int .i64 x2)))]):=
 zrL k ⟨c,ms⟩ (fun x0:ByteArray×CRow=>.agg [.sl x0.2.pre.length (x0.2.pre.map fun x1=>.sc (.int .i64 x1)),.sl x0.2.maps.length (x0.2.maps.map fun x1=>.sl x1.length (x1.map fun x2=>.sc (.int .i64 x2)))]) mp
attribute [local simp] zrM zmD
instance{v:List (List (List Int))}{w28:Int}{k:ByteArray}{c:List Int}:Hd (zaZ v w28 k c mp):=⟨fun(w54,acc)=>([(54,xI w54)],[(13,.vr [.os 1 c.length (c.map fun x1=>.sc (.int .i64 x1)),.os 1 acc.length (acc.map fun x1=>.sl x1.length (x1.map fun x2=>.sc (.int .i64 x2)))])])⟩
instance{x:List Int}{w22:Int}:Hd (zbN a0 x w22):=⟨fun(w28,mp,ms)=>([(28,xI w28),(8,match ms with|none=>.one (.k (.slice none 0 0))|some v=>.one (.t none (.sl v.length (v.map fun x0=>.sl x0.length (x0.map fun x1=>.sl x1.length (x1.map fun x2=>.sc (.int .i64 x2)))))))],[(5,zAo mp)])⟩
instance:Hd (zil a0 a1):=⟨fun(w22,mp)=>([(22,xI w22)],[(5,zAo mp)])⟩
def zrS(a0:Frm)(a1:List (List Int)):Option (List (ByteArray×CRow)):=z0h (zil a0 a1) LFm (0,[])
theorem zuK(h:zrS a0 a1=some mp):wpC Tryz.prog L cfRw LFm (zuY zh3) (z6J 89 [.pr [.sc (.int .i64 a0.d.letters),.sc (.int .i64 a0.d.start),(tB a0.d.final),(tR a0.d.next),(tI a0.x.sets),(tI a0.x.class_),(tI a0.x.height),(tR a0.x.tiles),(tS a0.x.words),(tS a0.x.back),(tI a0.comp),(tI a0.sizes),(tR a0.tiles),(tR a0.next)],.sl a1.length (a1.map fun x0=>.sl x0.length (x0.map fun x1=>.sc (.int .i64 x1)))]) (fun x fr=>x= .n/\z2X fr.tm 5= .one (.t none (z1U (zAo mp)))/\z2X fr.tm 16= .one (.h 16 [])/\z2d fr.ob 16=some (.os 2 0 [])/\fr.nt=89):=by
 have h:=z4s h
 unfold zrS at h
 simp only[z6J,z7b,z6I,z8K,z6N]
 exact zlH
def zwB(r:CRow):List CRow->List CRow
 | []=> [r]
 |q::l=>if za2 r.pre q.pre<0 then r::q::l else q::zwB r l
def zpA(l:List CRow):List CRow:=l.foldr zwB []
def zeX(a0:Frm)(a1:List (List Int)):Option (List CRow):=
 (zrS a0 a1).bind fun mp=>if(mp.map fun e=>e.2.pre).Nodup/\mp.length*48<=140737488355328 then some (zpA (mp.map (·.2))) else none
abbrev zu5(r:CRow):List Int×T:=(r.pre,.sl r.maps.length (r.maps.map fun x1=>.sl x1.length (x1.map fun x2=>.sc (.int .i64 x2))))
theorem zsR(r:CRow):∀l:List CRow,zu7 (zu5 r) (l.map zu5)=(zwB r l).map zu5
 | []=>rfl
 |q::l=>by
  simp only[Zn,zu7,zwB]
  split
  · rfl
  · rw[zsR r l];rfl
theorem zns:∀l:List CRow,z4X (l.map zu5)=(zpA l).map zu5
 | []=>rfl
 |r::l=>by
  show zu7 (zu5 r) (z4X (l.map zu5))=(zwB r (zpA l)).map zu5
  rw[zns l,zsR]
theorem zkp:∀l:List CRow,zfM (l.map fun x0=>.agg [.sl x0.pre.length (x0.pre.map fun x1=>.sc (.int .i64 x1)),.sl x0.maps.length (x0.maps.map fun x1=>.sl x1.length (x1.map fun x2=>.sc (.int .i64 x2)))])=some (l.map zu5)
 | []=>rfl
 |r::l=>by
  rw[Zn,zfM,zkp l]
  simp only[zuN,z8B,if_true]
  rfl
instance vRowsC_okI:Ok (zeX a0 a1) (fun r=>L 50 [.pr [.sc (.int .i64 a0.d.letters),.sc (.int .i64 a0.d.start),(tB a0.d.final),(tR a0.d.next),(tI a0.x.sets),(tI a0.x.class_),(tI a0.x.height),(tR a0.x.tiles),(tS a0.x.words),(tS a0.x.back),(tI a0.comp),(tI a0.sizes),(tR a0.tiles),(tR a0.next)],.sl a1.length (a1.map fun x0=>.sl x0.length (x0.map fun x1=>.sc (.int .i64 x1)))]=some (.sl r.length (r.flatMap fun x0=> [.sl x0.pre.length (x0.pre.map fun x1=>.sc (.int .i64 x1)),.sl x0.maps.length (x0.maps.map fun x1=>.sl x1.length (x1.map fun x2=>.sc (.int .i64 x2)))]),[.dead,.dead])):=⟨fun r h=>by
 unfold zeX at h
 obtain⟨mp,h1,h2⟩:=z1n h
 split at h2
 case isFalse=>cases h2
 rename_i hc
 obtain⟨hnd,hby⟩:=hc
 have hr:zpA (mp.map (·.2))=r:=YK h2
 have hA:=zuK h1
 unfold wpC at hA
 obtain⟨x,fr,hco,hx,h5,h16,ho,hnt⟩:=hA
 subst hx
 obtain⟨n,hn⟩:=zgC _ hco
 refine znV rfl ⟨n,fun m hm=> ?_⟩
 show xtF (z5U Tryz.prog xt zlh m) _ _=_
 unfold xtF
 rw[if_neg (by decide),if_pos rfl]
 unfold zjt
 rw[hn m hm]
 have e5:z1U (zAo mp)= .ms none (mp.map fun x0=>.string x0.1) ((mp.map (·.2)).map fun x0=>.agg [.sl x0.pre.length (x0.pre.map fun x1=>.sc (.int .i64 x1)),.sl x0.maps.length (x0.maps.map fun x1=>.sl x1.length (x1.map fun x2=>.sc (.int .i64 x2)))]):=by
  simp
 rw[e5] at h5
 simp only[h5,h16,ho,zkp]
 rw[if_pos ⟨by rw[Y5,Y5];exact hnd,by simpa using hby,by simp,by simp[z6N],hnt,fun q hq=>by
  obtain⟨z,hz,rfl⟩:=Zj.1 hq
  simp[zu5]⟩]
 rw[zns,hr,Zg,List.flatMap_map]
 rfl⟩
end
end
section
open Go Go.IntKind
noncomputable section
set_option maxRecDepth 100000
set_option maxHeartbeats 6000000
variable{v25:Frm×Int}{v24:List Hol×Int}{a0:List Int}
def z7D(a0:Int):Option (Bool):=
 some (decide (32<a0))
instance decompose_Of_1_ok{a0:Int}:Ok (z7D a0) (fun r=>L 46 [.sc (.int .i64 a0)]=some (.sc (.bool r),[.dead])):=⟨fun r h=>by have h:=z4s h;unfold z7D at h;exact z5l rfl Tryz.func46 (bdy Tryz.f46 rfl)⟩
abbrev z1i(a0:List Int):Int->Option (Int⊕Int)
 |w10=>
 if w10<(a0.length:Int) then
 (atI a0 w10).bind fun v13=>
 (z7D v13).bind fun v14=>
 if v14=true then
 z0f<|
 some w10
 else
 z0d (i64.wrap (w10+1))
 else
 z0f<|
 some (-1)
instance:Hd (z1i a0):=⟨fun w10=>([(8,xI w10)],[])⟩
def z0W(a0:List Int):Option (Int):=
 z0h (z1i a0) LFm 0
instance slices_IndexFunc_Lint_int_decompose_Of_1_ok:Ok (z0W a0) (fun r=>L 96 [(tI a0),.sc (.func (.func 46) #[] #[])]=some (.sc (.int .i64 r),[.dead,.dead])):=⟨fun r h=>by have h:=z4s h;unfold z0W at h;exact z5l rfl Tryz.func96 (bdy Tryz.f96 rfl)⟩
def z0O(a0:List Int):Option (Bool):=
 (z0W a0).bind fun v2=>
 some (decide (0<=v2))
instance slices_ContainsFunc_Lint_int_decompose_Of_1_ok:Ok (z0O a0) (fun r=>L 45 [(tI a0),.sc (.func (.func 46) #[] #[])]=some (.sc (.bool r),[.dead,.dead])):=⟨fun r h=>by have h:=z4s h;unfold z0O at h;exact z5l rfl Tryz.func45 (bdy Tryz.f45 rfl)⟩
abbrev z5q(a0:DFA)(v24:List Hol×Int)(v25:Frm×Int)(v34:List (List Int)×Int):Int×List Int->Option ((Int×List Int)⊕(Cover×Int))
 |(w37,w38)=>
 if w37<(v34.1.length:Int) then
 (atI v34.1 w37).bind fun v42=>
 (z3A v25.1 v42).bind fun v43=>
 (atI w38 w37).bind fun v44=>
 z0d (i64.wrap (w37+1),(w38.set w37.toNat v43))
 else
 z0f<|
 (zeX v25.1 v34.1).bind fun v45=>
 (z2B v25.1).bind fun v46=>
 some ((⟨⟨a0.letters,v25.1.sizes,v45⟩,v46,v34.1,w38,v24.1⟩:Cover),0)
instance{a0:DFA}{v34:List (List Int)×Int}:Hd (z5q a0 v24 v25 v34):=⟨fun(w37,w38)=>([(72,xI w37)],[(12,(tO w38))])⟩
abbrev z3L(a0:DFA)(v24:List Hol×Int)(v25:Frm×Int):Int->Option (Int⊕(Cover×Int))
 |w29=>
 if w29<(v24.1.length:Int) then
 (atI v24.1 w29).bind fun v32=>
 (z3c v32).bind fun v33=>
 if v33.2=0 then
 z0d (i64.wrap (w29+1))
 else
 z0f<|
 some ((⟨⟨0,[],[]⟩,[],[],[],[]⟩:Cover),3)
 else
 z0f<|
 (z1Q v25.1).bind fun v34=>
 if v34.2=0 then
 chk (z0Q 8 (v34.1.length:Int))<|
 z0h (z5q a0 v24 v25 v34) LFm (0,List.replicate (v34.1.length:Int).toNat (0:Int))
 else
 some ((⟨⟨0,[],[]⟩,[],[],[],[]⟩:Cover),v34.2)
instance{a0:DFA}:Hd (z3L a0 v24 v25):=⟨fun w29=>([(46,xI w29)],[])⟩
def z4C(a0:DFA):Option (Cover×Int):=
 (z6y a0).bind fun v24=>
 if v24.2=0 then
 (z3F a0).bind fun v25=>
 if v25.2=0 then
 if 24<(v25.1.sizes.length:Int) then
 some ((⟨⟨0,[],[]⟩,[],[],[],[]⟩:Cover),3)
 else
 (z0O v25.1.sizes).bind fun v26=>
 if v26=true then
 some ((⟨⟨0,[],[]⟩,[],[],[],[]⟩:Cover),3)
 else
 z0h (z3L a0 v24 v25) LFm 0
 else
 some ((⟨⟨0,[],[]⟩,[],[],[],[]⟩:Cover),v25.2)
 else
 some ((⟨⟨0,[],[]⟩,[],[],[],[]⟩:Cover),v24.2)
instance decompose_Of_ok{a0:DFA}:Ok (z4C a0) (fun r=>L 15 [.agg [.sc (.int .i64 a0.letters),.sc (.int .i64 a0.start),(tB a0.final),(tR a0.next)]]=some (.tup [.agg [.sc (.int .i64 r.1.casc.letters),(tI r.1.casc.sizes),.sl r.1.casc.rows.length (r.1.casc.rows.flatMap fun x0=> [(tI x0.pre),(tR x0.maps)]),(tI r.1.start),(tR r.1.tuples),(tI r.1.states),.sl r.1.groups.length (r.1.groups.flatMap fun x0=> [.sc (.int .i64 x0.set),(tI x0.tiles),(tS x0.words),(tR x0.perms)])],.sc (.int .i64 r.2)],[.dead])):=⟨fun r h=>by have h:=z4s h;unfold z4C at h;exact zh6 rfl Tryz.func15 (bdy Tryz.f15 rfl)⟩
end
end
section
open Go
set_option maxRecDepth 100000
theorem zuA(T:List (List Nat)):∃Y:List (List Nat),Y.map toI=z9q (T.map toI)/\Y.Perm T:=by
 have hp:=z9p (T.map toI)
 refine⟨(z9q (T.map toI)).map fun x=>x.map Int.toNat,?_,?_⟩
 · rw[Y5]
   refine(Zz fun x hx=> ?_).trans (W5 _)
   obtain⟨e,he,rfl⟩:=Zj.1 (hp.mem_iff.1 hx)
   show toI ((toI e).map Int.toNat)=toI e
   rw[znh]
 · have:=hp.map fun x:List Int=>x.map Int.toNat
   rw[Y5] at this
   have e:((fun x:List Int=>x.map Int.toNat)∘toI)=id:=by funext x;exact znh x
   rwa [e,YW] at this
theorem zm4{f:List Nat->Nat->List (List Nat)}{L:Nat}{M N:List (List Nat)}{R:List zaf}(h:RowsOk f L M R)(hp:M.Perm N):RowsOk f L N R:=
 ⟨h.nd,fun r hr=>by obtain⟨x,hx,e⟩:=h.of r hr;exact⟨x,hp.mem_iff.1 hx,e⟩,fun x hx=>h.al x (hp.mem_iff.2 hx)⟩
section
variable {d:DFA} {m n:Nat} {S:List Nat} (hd:DfaOk d m n) (hn:n<=7) (hS:SetsP d m n S) {O:List Nat} (hH:zgQ d m n S) (hO:OrdC d m n S O) (hpos:∀x∈S,x≠0)
def zu2(d:DFA)(m n:Nat)(S O:List Nat):Prop:=∀T Y:List (List Nat),zlB (z7G d m n S O) m 2001 0 [z4E d m n S O]=some T->Y.map toI=z9q (T.map toI)->Y.Perm T->∃W:List zaf,zeX (z8O d m n S O) (Y.map toI)=some (W.map zc6)/\W.Pairwise ltR/\RowsOk (z4t d m n S O) O.length Y W
include hd hn hS hH hO hpos
theorem zrx(hSl:S.length<=32):z0O (z8O d m n S O).sizes=some false:=by
 have hOl:=zfW hd hn hS hH hO
 have hlen:((z8O d m n S O).sizes.length:Int)=(O.length:Int):=by simp[z8O,z0c]
 have:z0W (z8O d m n S O).sizes=some (-1):=by
  unfold z0W
  refine z0q (s:=(0:Int)) O.length (fun k=>(k:Int)) rfl (by simp only[LFm];omega) (fun k hk=> ?_) ?_
  · have:=zwk (d:=d) (m:=m) (n:=n) (S:=S) (O:=O) k
    simp only[z1i]
    rw[hlen,if_pos (by omega),zta hk,Z0]
    unfold z7D
    rw[Z0,if_neg (by simp;omega),z0V (by omega)]
  · simp only[z1i]
    rw[hlen,if_neg (by omega)]
 unfold z0O
 rw[this,Z0]
 rfl
theorem zyf(hR:zu2 d m n S O)(hs:n<=5∨(n=7/\m=2/\d.next=defT))(hSl:S.length<=32)(h0:0<S.length)(hF:z3F d=some (z8O d m n S O,0))(hG:z6y d=some (O.map (zbW d m n S),0)):
 ∃r,z4C d=some r/\((24<O.length/\r=(zyJ,3))∨(O.length<=24/\((zlB (z7G d m n S O) m 2001 0 [z4E d m n S O]=none/\r=(zyJ,3))∨(r.2=0/\CovOk d m n S O (zrz d m n S O) (O.map (zbW d m n S)) r.1)))):=by
 have hOl:=zfW hd hn hS hH hO
 have hst:=zaY hd hn hS hH hO hpos h0
 have hlen:((z8O d m n S O).sizes.length:Int)=(O.length:Int):=by simp[z8O,z0c]
 unfold z4C
 rw[hG,Z0]
 simp only[if_true]
 rw[hF,Z0]
 simp only[if_true]
 rw[hlen]
 by_cases h24:24<O.length
 · rw[if_pos (by omega)]
   exact⟨_,rfl,.inl ⟨h24,rfl⟩⟩
 · rw[if_neg (by omega),zrx hd hn hS hH hO hpos hSl,Z0,if_neg (by simp)]
   have hloop:∀ {R:Cover×Int},z3L d (O.map (zbW d m n S),0) (z8O d m n S O,0) (O.length:Int)=z0f (some R)->z0h (z3L d (O.map (zbW d m n S),0) (z8O d m n S O,0)) LFm 0=some R:=fun {R} hlast=>by
    refine z0q (s:=(0:Int)) O.length (fun k=>(k:Int)) rfl (by simp only[LFm];omega) (fun k hk=> ?_) hlast
    obtain⟨c1,c2⟩:=zxr hd hn hS hH hO hk
    have hout:=hO.prm.mem_iff.1 (z0g hk:O.getD k 0∈O)
    unfold zas at hout
    have hh:=(ZW.1 hout).2
    simp only[decide_eq_true_eq] at hh
    obtain⟨E,e1⟩:=zvJ hd hn hS hs c1 (zy0 hh) hpos hSl
    have hat:atI (O.map (zbW d m n S)) (k:Int)=some (zbW d m n S (O.getD k 0)):=by
     rw[z0Y (by simpa using hk)];simp[List.getD,hk]
    simp only[z3L]
    rw[Zg,if_pos (by omega),hat,Z0,e1,Z0]
    simp only[if_true]
    rw[z0V (by omega)]
   have hlast:z3L d (O.map (zbW d m n S),0) (z8O d m n S O,0) (O.length:Int)=z0f ((z1Q (z8O d m n S O)).bind fun v34=>if v34.2=0 then chk (z0Q 8 (v34.1.length:Int))<|z0h (z5q d (O.map (zbW d m n S),0) (z8O d m n S O,0) v34) LFm (0,List.replicate (v34.1.length:Int).toNat (0:Int)) else some (zyJ,v34.2)):=by
    simp only[z3L]
    rw[Zg,if_neg (by omega)]
    rfl
   have ht:=zr1 hd hn hS hH hO hpos (by omega) h0
   cases hb:zlB (z7G d m n S O) m 2001 0 [z4E d m n S O] with
   |none=>
    rw[hb] at ht
    refine⟨(zyJ,3),hloop ?_,.inr ⟨by omega,.inl ⟨rfl,rfl⟩⟩⟩
    rw[hlast,ht,Z0]
    exact congrArg z0f (if_neg (show ¬(zAk none).2=0 by simp[zAk]))
   |some T=>
    rw[hb] at ht
    obtain⟨t1,t2,t3,_⟩:=zjd hd hn hS hH hO hpos h0 _ _ _ _ (fun t h=>by rw[Zh.1 h];exact hst) (by simp) (by simp) hb
    obtain⟨Y,y1,y2⟩:=zuA T
    obtain⟨W,w1,w2,w3⟩:=hR T Y hb y1 y2
    have hYl:Y.length<=2000:=by rw[y2.length_eq];exact t3
    refine⟨(⟨⟨d.letters,zrz d m n S O,W.map zc6⟩,toI (z4E d m n S O),Y.map toI,toI (Y.map (zyw d m n S O)),O.map (zbW d m n S)⟩,0),hloop ?_,.inr ⟨by omega,.inr ⟨rfl,⟨T,Y,W,hb,y1,y2,w2,zm4 w3 y2,rfl⟩⟩⟩⟩
    have ht2:z1Q (z8O d m n S O)=some (Y.map toI,0):=by rw[ht,y1];rfl
    rw[hlast,ht2,Z0]
    simp only[if_true]
    rw[Zg,z0i _ (by unfold z0Q;omega),Z2]
    congr 1
    refine z0q (s:=((0:Int),List.replicate Y.length (0:Int))) Y.length (fun k=>((k:Int),zb5 Y.length (fun k=>((zyw d m n S O (Y.getD k []):Nat):Int)) (fun _=>0) k)) (by rw[z9T];congr 1;exact(Ze (by simp) fun i h1 h2=>by simp)) (by simp only[LFm];omega) (fun k hk=> ?_) ?_
    · have hat:atI (Y.map toI) (k:Int)=some (toI (Y.getD k [])):=by
       rw[z0Y (by simpa using hk)];simp[List.getD,hk]
      have hx:zd8 d m n S O (Y.getD k []):=t1 _ (y2.mem_iff.1 (z8G hk))
      simp only[z5q]
      rw[Zg,if_pos (by omega),hat,Z0,zuy hd hn hS hH hO hpos (by omega) h0 hx,Z0,z6T hk,Z0,z0V (by omega),Z2]
      exact congrArg (fun x=>z0d (((k+1:Nat):Int),x)) (z5c (f:=fun k=>((zyw d m n S O (Y.getD k []):Nat):Int)) hk)
    · have hfin:(List.range Y.length).map (fun k=>((zyw d m n S O (Y.getD k []):Nat):Int))=toI (Y.map (zyw d m n S O)):=by
       refine Ze (by simp[toI]) fun k h1 h2=> ?_
       have hk:k<Y.length:=by simpa using h1
       simp[toI,List.getD,hk]
      simp only[z5q]
      rw[Zg,if_neg (by omega),z9S,hfin,w1,Z0,znq hd hn hS hH hO hpos (by omega) h0,Z0]
      rfl
end
end
section
open Go
set_option maxRecDepth 100000
variable{x:List Nat}
def zu8(r:zaf):List zaf->List zaf
 | []=> [r]
 |q::l=>if ltR r q then r::q::l else q::zu8 r l
theorem zo1(r:zaf):∀l:List zaf,zwB (zc6 r) (l.map zc6)=(zu8 r l).map zc6
 | []=>rfl
 |q::l=>by
  simp only[Zn,zwB,zu8]
  by_cases h:ltR r q
  · rw[if_pos h,if_pos (show za2 (zc6 r).pre (zc6 q).pre<0 from h)];rfl
  · rw[if_neg h,if_neg (show ¬za2 (zc6 r).pre (zc6 q).pre<0 from h),zo1 r l];rfl
def zx5(l:List zaf):List zaf:=l.foldr zu8 []
theorem zke:∀l:List zaf,zpA (l.map zc6)=(zx5 l).map zc6
 | []=>rfl
 |r::l=>by
  show zwB (zc6 r) (zpA (l.map zc6))=(zu8 r (zx5 l)).map zc6
  rw[zke l,zo1]
theorem zgk(r:zaf):∀l:List zaf,(zu8 r l).Perm (r::l)
 | []=>.refl _
 |q::l=>by
  simp only[zu8]
  split
  · exact .refl _
  · exact((zgk r l).cons q).trans (.swap r q l)
theorem zfC:∀l:List zaf,(zx5 l).Perm l
 | []=>.refl _
 |r::l=>(zgk r (zx5 l)).trans ((zfC l).cons r)
theorem zgj{r:zaf}:∀ {l:List zaf},(∀q∈l,r.1≠q.1)->l.Pairwise ltR->(zu8 r l).Pairwise ltR
 | [],_,_=>by simp[zu8]
 |q::l,hne,hs=>by
  obtain⟨h1,h2⟩:=ZA.1 hs
  simp only[zu8]
  split
  · rename_i h
    exact ZA.2 ⟨fun a ha=>by
     rcases Zw.1 ha with rfl|ha
     · exact h
     · exact zsB h (h1 a ha),hs⟩
  · rename_i h
    refine ZA.2 ⟨fun a ha=> ?_,zgj (fun q hq=>hne q (Zl _ hq)) h2⟩
    rcases Zw.1 ((zgk r l).mem_iff.1 ha) with rfl|ha
    · exact zzK (hne q (by simp)) h
    · exact h1 a ha
theorem zfB:∀ {l:List zaf},l.Pairwise (fun r q=>r.1≠q.1)->(zx5 l).Pairwise ltR
 | [],_=>by simp[zx5]
 |r::l,h=>by
  obtain⟨h1,h2⟩:=ZA.1 h
  exact zgj (fun q hq=>h1 q ((zfC l).mem_iff.1 hq)) (zfB h2)
def zeN(R:List zaf):List (ByteArray×CRow):=R.map fun r=>(z1x (toI r.1),zc6 r)
theorem znx{k:ByteArray}{v:CRow}:∀ {mp:List (ByteArray×CRow)},(∀e∈mp,e.1≠k)->z8k k v mp=mp++ [(k,v)]
 | [],_=>rfl
 |(a,u)::mp,h=>by
  have h1:¬a=k:=h (a,u) (by simp)
  simp only[z8k]
  rw[if_neg h1,znx fun e he=>h e (Zl _ he)]
  rfl
theorem zoc{p:List Nat}(hp:∀x∈p,x<256):∀ {R:List zaf},(∀r∈R,∀x∈r.1,x<256)->((z7T (z1x (toI p)) (zeN R)).isSome=true↔ ∃r∈R,r.1=p)
 | [],_=>by simp[zeN,z7T]
 |r::R,h=>by
  have ih:=zoc hp (R:=R) fun q hq=>h q (Zl _ hq)
  have hr:=h r (by simp)
  show(z7T (z1x (toI p)) ((z1x (toI r.1),zc6 r)::zeN R)).isSome=true↔_
  simp only[z7T]
  by_cases e:r.1=p
  · rw[if_pos (by rw[e])]
    exact iff_of_true rfl ⟨r,by simp,e⟩
  · rw[if_neg (fun q=>e (zgn hr hp q)),ih]
    constructor
    · rintro⟨q,hq,e2⟩;exact⟨q,Zl _ hq,e2⟩
    · rintro⟨q,hq,e2⟩
      rcases Zw.1 hq with rfl|hq
      · exact absurd e2 e
      · exact⟨q,hq,e2⟩
theorem zqH(x:List Nat)(f:Nat->List (List Nat))(k:Nat)(R:List zaf):(z7w x f k R).length<=R.length+k:=by
 induction k with
 |zero=>exact Z8 _
 |succ k ih=>
  rw[z9D]
  split
  · rw[Zb];simp;omega
  · omega
section
variable {d:DFA} {m n:Nat} {S:List Nat} (hd:DfaOk d m n) (hn:n<=7) (hS:SetsP d m n S) {O:List Nat} (hH:zgQ d m n S) (hO:OrdC d m n S O) (hpos:∀x∈S,x≠0)
def zgY(d:DFA)(m n:Nat)(S O:List Nat)(x:List Nat):List (List (List Int)):=(List.range m).map fun a=>(z7X d m n S O a x).map toI
include hd hn hS hH hO hpos
theorem zws(hSl:S.length<=255)(h0:0<S.length)(hx:zd8 d m n S O x){i:Nat}(hi:i<O.length)(k:ByteArray)(c:List Int)(mp:List (ByteArray×CRow)):z0h (zaZ (zgY d m n S O x) (i:Int) k c mp) LFm (0,[])=some (.inl (((i+1:Nat):Int),z8k k ⟨c,(z4t d m n S O x i).map toI⟩ mp,some (zgY d m n S O x))):=by
 have hm6:=hd.m6
 have hOl:=zfW hd hn hS hH hO
 have hvl:(zgY d m n S O x).length=m:=by simp[zgY]
 rw[←zwS]
 refine z0q (s:=((0:Int),([]:List (List Int)))) m (fun a=>((a:Int),wC d m n S O x a i)) rfl (by simp only[LFm];omega) (fun a ha=> ?_) ?_
 · have y2:=(zaX hd hn hS hH hO hpos (a:=a) hx h0).2
   have hat:atI (zgY d m n S O x) (a:Int)=some ((z7X d m n S O a x).map toI):=by
    rw[z0Y (by rw[hvl];exact ha)];simp[zgY]
   have hat2:atI ((z7X d m n S O a x).map toI) (i:Int)=some (toI ((z7X d m n S O a x).getD i [])):=by
    rw[z0Y (by simpa[y2] using hi)]
    simp[List.getD,y2,hi]
   simp only[zaZ]
   rw[hvl,if_pos (by omega),hat,Z0,hat2,Z0,zyN,z0i _ (by unfold z1V;omega),z0V (by omega),←zwR]
 · simp only[zaZ]
   rw[hvl,if_neg (by omega),z0V (by omega)]
   rfl
theorem zAW(hSl:S.length<=255)(h0:0<S.length)(hx:zd8 d m n S O x)(w:Nat)(hw:w<100000){R:List zaf}(hR:∀r∈R,∀k∈r.1,k<256):
 z0h (zbN (z8O d m n S O) (toI x) (w:Int)) LFm (0,zeN R,none)=some (.inl (((w+1:Nat):Int),zeN (z7w x (z4t d m n S O x) O.length R))):=by
 have hOl:=zfW hd hn hS hH hO
 have hxl:=hx.1
 have h256:=zn5 hSl hx
 have hm1:=hd.m1
 have hpre:∀k,∀r∈z7w x (z4t d m n S O x) k R,∀j∈r.1,j<256:=fun k=>by
  induction k with
  |zero=>exact hR
  |succ k ih=>
   intro r hr
   rw[z9D] at hr
   split at hr
   · rcases Zf.1 hr with hr|hr
     · exact ih r hr
     · rw[Zh.1 hr]
       exact fun j hj=>h256 j (ZK hj)
   · exact ih r hr
 have hone:∀k,k<O.length->(∀r∈z7w x (z4t d m n S O x) k R,r.1≠x.take k)->z8k (z1x (toI (x.take k))) (⟨toI (x.take k),(z4t d m n S O x k).map toI⟩:CRow) (zeN (z7w x (z4t d m n S O x) k R))=zeN (z7w x (z4t d m n S O x) (k+1) R):=fun k hk hnew=>by
  rw[z9D,if_pos hnew,znx fun e he=>by
   obtain⟨r,hr,rfl⟩:=Zj.1 he
   exact fun q=>hnew r hr (zgn (hpre k r hr) (fun j hj=>h256 j (ZK hj)) q)]
  unfold zeN
  rw[Y3];rfl
 refine Exists.elim (z2e (b:=zbN (z8O d m n S O) (toI x) (w:Int)) (fun z=>∃(k:Nat) (ms:RMs),k<=O.length/\z=((k:Int),zeN (z7w x (z4t d m n S O x) k R),ms)/\(ms=none∨ms=some (zgY d m n S O x))) (fun z=>O.length+1-z.1.toNat)
  (fun r=>r= .inl (((w+1:Nat):Int),zeN (z7w x (z4t d m n S O x) O.length R))) ?_ LFm (0,zeN R,none) ⟨0,none,by omega,rfl,.inl rfl⟩ (by simp only[LFm];omega)) fun r h=> ?_
 · rintro z ⟨k,ms,hk,rfl,hms⟩
   by_cases hk1:k<O.length
   · left
     have hpc:z6G (toI x) 0 (k:Int)=some (toI (x.take k)):=by
      have:=zcC (xs:=toI x) (k:=k) (by rw[z0c];omega)
      rw[this];unfold toI;rw[List.map_take]
     have hkey:z3W (toI (x.take k))=some (z1x (toI (x.take k))):=zsL (by rw[Zo];omega) fun j hj=>h256 j (ZK hj)
     have hg:=zoc (p:=x.take k) (fun j hj=>h256 j (ZK hj)) (hpre k)
     have hbody:zbN (z8O d m n S O) (toI x) (w:Int) ((k:Int),zeN (z7w x (z4t d m n S O x) k R),ms)=z0d (((k+1:Nat):Int),zeN (z7w x (z4t d m n S O x) (k+1) R),(if ∀r∈z7w x (z4t d m n S O x) k R,r.1≠x.take k then some (zgY d m n S O x) else ms)):=by
      simp only[zbN]
      rw[z0c,if_pos (by omega),hpc,Z0,hkey,Z0,z0V (by omega)]
      by_cases hnew:∀r∈z7w x (z4t d m n S O x) k R,r.1≠x.take k
      · have hno:z7T (z1x (toI (x.take k))) (zeN (z7w x (z4t d m n S O x) k R))=none:=by
         cases he:z7T (z1x (toI (x.take k))) (zeN (z7w x (z4t d m n S O x) k R)) with
         |none=>rfl
         |some v=>obtain⟨r,hr,e⟩:=hg.1 (by rw[he];rfl);exact absurd e (hnew r hr)
        have hvc:zbq (toI (x.take k))=some (toI (x.take k)):=by
         unfold zbq;rw[if_pos (by rw[z0c,Zo];omega)]
        rw[hno,if_pos hnew]
        rcases hms with rfl|rfl
        · simp only[Option.elim]
          have hmp:z2L (z8O d m n S O) (toI x)=some (zgY d m n S O x):=zxH hd hn hS hH hO hpos (by omega) h0 hx
          rw[hmp,Z0,hvc,Z0,zws hd hn hS hH hO hpos hSl h0 hx hk1,hone k hk1 hnew];rfl
        · simp only[Option.elim]
          rw[z0i _ (by simp[zgY];omega),hvc,Z0,zws hd hn hS hH hO hpos hSl h0 hx hk1,hone k hk1 hnew];rfl
      · have hex:∃r∈z7w x (z4t d m n S O x) k R,r.1=x.take k:=by
         obtain⟨r,hr⟩:=Classical.not_forall.1 hnew
         obtain⟨hr,e2⟩:=Classical.not_imp.1 hr
         exact⟨r,hr,Classical.not_not.1 e2⟩
        obtain⟨v,hv⟩:=ZY.1 (hg.2 hex)
        rw[hv,if_neg hnew,z9D,if_neg hnew];rfl
     refine⟨_,hbody,⟨k+1,_,by omega,rfl,?_⟩,by simp only;omega⟩
     split
     · exact .inr rfl
     · exact hms
   · right
     have:k=O.length:=by omega
     subst this
     refine⟨_,?_,rfl⟩
     simp only[zbN]
     rw[z0c,if_neg (by omega),z0V (by omega)]
     rfl
 · obtain⟨h3,rfl⟩:=h
   exact h3
theorem zxb(hSl:S.length<=255)(h0:0<S.length){Y:List (List Nat)}(hY:∀x∈Y,zd8 d m n S O x)(hYl:Y.length<=2000):∃W:List zaf,zeX (z8O d m n S O) (Y.map toI)=some (W.map zc6)/\W.Pairwise ltR/\RowsOk (z4t d m n S O) O.length Y W:=by
 let Rk:=fun k=>(Y.take k).foldl (fun R x=>z7w x (z4t d m n S O x) O.length R) ([]:List zaf)
 have hRs:∀k,(hk:k<Y.length)->Rk (k+1)=z7w Y[k] (z4t d m n S O Y[k]) O.length (Rk k):=fun k hk=>by
  simp only[Rk]
  rw[ZB hk,Yt];rfl
 have hRo:∀k,k<=Y.length->RowsOk (z4t d m n S O) O.length (Y.take k) (Rk k):=fun k=>by
  induction k with
  |zero=>intro _;exact⟨by simp[Rk],by simp[Rk],by simp⟩
  |succ k ih=>
   intro hk
   rw[hRs k (by omega),ZB (show k<Y.length by omega)]
   exact zqG (ih (by omega)) _
 have hRl:∀k,k<=Y.length->∀r∈Rk k,∀j∈r.1,j<256:=fun k hk r hr j hj=>by
  obtain⟨x,hx,i,hi,rfl⟩:=(hRo k hk).of r hr
  exact zn5 hSl (hY x (ZK hx)) j (ZK hj)
 have hOl:=zfW hd hn hS hH hO
 have hRn:∀k,k<=Y.length->(Rk k).length<=k*O.length:=fun k=>by
  induction k with
  |zero=>intro _;simp[Rk]
  |succ k ih=>
   intro hk
   rw[hRs k (by omega),Yf,Nat.one_mul]
   have:=zqH Y[k] (z4t d m n S O Y[k]) O.length (Rk k)
   have:=ih (by omega)
   omega
 have hel:(zeN (Rk Y.length)).length=(Rk Y.length).length:=by simp[zeN]
 have hbd:(Rk Y.length).length<=2000*255:=ZR (hRn _ (Z8 _)) (XQ hYl (by omega))
 have hA:zrS (z8O d m n S O) (Y.map toI)=some (zeN (Rk Y.length)):=by
  unfold zrS
  refine z0q (s:=((0:Int),([]:List (ByteArray×CRow)))) Y.length (fun k=>((k:Int),zeN (Rk k))) (by simp[Rk,zeN]) (by simp only[LFm];omega) (fun k hk=> ?_) ?_
  · have hat:atI (Y.map toI) (k:Int)=some (toI Y[k]):=by
     rw[z0Y (by simpa using hk)];simp
    simp only[zil]
    rw[Zg,if_pos (by omega),hat,Z0,zAW hd hn hS hH hO hpos hSl h0 (hY _ (Zp hk)) k (by omega) (hRl k (by omega)),←hRs k hk];rfl
  · simp only[zil]
    rw[Zg,if_neg (by omega),z0i _ (by unfold z0Q;rw[hel];omega)]
 have hok:=hRo Y.length (Z8 _)
 rw[Yc] at hok
 have hnd:((zeN (Rk Y.length)).map fun e=>e.2.pre).Nodup:=by
  unfold zeN
  rw[Y5]
  exact Yz _ (fun a b (h:a.1≠b.1)=>fun e=>h (zrd e)) hok.nd
 have hmap:(zeN (Rk Y.length)).map (·.2)=(Rk Y.length).map zc6:=by
  unfold zeN;rw[Y5];rfl
 refine⟨zx5 (Rk Y.length),?_,zfB hok.nd,zm3 hd hn hS hH hO hpos hok (zfC _)⟩
 unfold zeX
 rw[hA,Z0,if_pos ⟨hnd,by rw[hel];omega⟩,hmap,zke]
end
end
section
open Go
set_option maxRecDepth 100000
theorem zxc{d:DFA}{m n:Nat}(hd:DfaOk d m n)(hn:n<=7)(h32:(z2x d m n).length<=32){O:List Nat}(hO:OrdC d m n (z2x d m n) O):zu2 d m n (z2x d m n) O:=fun T Y hT y1 y2=>by
 have hS:=z7O hd
 have hH:=zgm hd hn
 have hpos:∀x∈z2x d m n,x≠0:=fun x hx=>zcr hd hx
 obtain⟨h0,hfull⟩:=zbe hd hn
 have hst:=zaY hd hn hS hH hO hpos h0
 obtain⟨t1,t2,t3,_⟩:=zjd hd hn hS hH hO hpos h0 _ _ _ _ (fun t h=>by rw[Zh.1 h];exact hst) (by simp) (by simp) hT
 exact zxb hd hn hS hH hO hpos (by omega) h0 (fun x hx=>t1 x (y2.mem_iff.1 hx)) (by rw[y2.length_eq];exact t3)
theorem zA3{d:DFA}{m n:Nat}(hd:DfaOk d m n)(hn:n<=7)(hs:n<=5∨(n=7/\m=2/\d.next=defT))(h32:(z2x d m n).length<=32):
 ∃O,OrdC d m n (z2x d m n) O/\O.Perm (zas d m n (z2x d m n) (z2x d m n).length)/\z6y d=some (O.map (zbW d m n (z2x d m n)),0)/\ ∃r,z4C d=some r/\
  ((24<O.length/\r=(zyJ,3))∨(O.length<=24/\((zlB (z7G d m n (z2x d m n) O) m 2001 0 [z4E d m n (z2x d m n) O]=none/\r=(zyJ,3))∨(r.2=0/\CovOk d m n (z2x d m n) O (zrz d m n (z2x d m n) O) (O.map (zbW d m n (z2x d m n))) r.1)))):=by
 have hS:=z7O hd
 have hH:=zgm hd hn
 have hpos:∀x∈z2x d m n,x≠0:=fun x hx=>zcr hd hx
 obtain⟨h0,hfull⟩:=zbe hd hn
 obtain⟨O,hG1,o1,o2⟩:=zzV hd hn
 have hO:OrdC d m n (z2x d m n) O:=⟨o1,o2⟩
 have hF1:=zkH hd hn hS hH hO (by omega) (zAg hd hn)
 obtain⟨r,r1,r2⟩:=zyf hd hn hS hH hO hpos (zxc hd hn h32 hO) hs h32 h0 hF1 hG1
 exact⟨O,hO,o2,hG1,r,r1,r2⟩
end
section
open Go Go.IntKind
noncomputable section
set_option maxRecDepth 100000
set_option maxHeartbeats 6000000
variable{a0 a1:List Int}
attribute [-simp] Nat.mul_lt_mul_right
instance:IsS CRow:=⟨⟩
instance:IsS Casc:=⟨⟩
abbrev z8i(a0:List Int):Int->Option (Int⊕Int)
 |w6=>
 if w6<(a0.length:Int) then
 (atI a0 w6).bind fun v8=>
 if v8=0 then
 z0d (i64.wrap (w6+1))
 else
 z0f<|
 some v8
 else
 z0f<|
 some 0
instance:Hd (z8i a0):=⟨fun w6=>([(8,xI w6)],[])⟩
def z9A(a0:List Int):Option (Int):=
 z0h (z8i a0) LFm 0
instance cmp_Or_int_ok:Ok (z9A a0) (fun r=>L 107 [(tI a0)]=some (.sc (.int .i64 r),[.dead])):=⟨fun r h=>by have h:=z4s h;unfold z9A at h;exact z5l rfl Tryz.func107 (bdy Tryz.f107 rfl)⟩
abbrev z2M(a0:List Int)(a1:List Int):Int->Option (Int⊕Int)
 |w14=>
 if w14<(a0.length:Int) then
 (atI a0 w14).bind fun v18=>
 if(a1.length:Int)<=w14 then
 z0f<|
 some 1
 else
 (atI a1 w14).bind fun v19=>
 (cmp_Compare_int v18 v19).bind fun v20=>
 if v20=0 then
 z0d (i64.wrap (w14+1))
 else
 z0f<|
 some v20
 else
 z0f<|
 if a0.length<a1.length then
 some (-1)
 else
 some 0
instance:Hd (z2M a0 a1):=⟨fun w14=>([(11,xI w14)],[])⟩
def z2F(a0:List Int)(a1:List Int):Option (Int):=
 z0h (z2M a0 a1) LFm 0
instance slices_Compare_Lint_int_ok:Ok (z2F a0 a1) (fun r=>L 101 [(tI a0),(tI a1)]=some (.sc (.int .i64 r),[.dead,.dead])):=⟨fun r h=>by have h:=z4s h;unfold z2F at h;exact z5l rfl Tryz.func101 (bdy Tryz.f101 rfl)⟩
abbrev z5B(a0:List Int)(a1:List Int):Int->Option (Int⊕Bool)
 |w10=>
 if w10<(a1.length:Int) then
 (atI a1 w10).bind fun v13=>
 if v13<0 then
 z0f<|
 some false
 else
 (atI a0 w10).bind fun v14=>
 if v14<=v13 then
 z0f<|
 some false
 else
 z0d (i64.wrap (w10+1))
 else
 z0f<|
 some true
instance:Hd (z5B a0 a1):=⟨fun w10=>([(14,xI w10)],[])⟩
def z5N(a0:List Int)(a1:List Int):Option (Bool):=
 if(a1.length:Int)=(a0.length:Int) then
 z0h (z5B a0 a1) LFm 0
 else
 some false
instance cascade_isTuple_ok:Ok (z5N a0 a1) (fun r=>L 121 [(tI a0),(tI a1)]=some (.sc (.bool r),[.dead,.dead])):=⟨fun r h=>by have h:=z4s h;unfold z5N at h;exact z5l rfl Tryz.func121 (bdy Tryz.f121 rfl)⟩
abbrev z4O(a0:Casc)(a1:CRow)(w42:Int)(v52:List Int):Int->Option (Int⊕(Int⊕Bool))
 |w56=>
 if w56<(v52.length:Int) then
 (atI v52 w56).bind fun v59=>
 if v59<0 then
 z0f<|
 z0f<|
 some false
 else
 (atI a0.sizes (a1.pre.length:Int)).bind fun v60=>
 if v60<=v59 then
 z0f<|
 z0f<|
 some false
 else
 z0d (i64.wrap (w56+1))
 else
 z0f<|
 z0d (i64.wrap (w42+1))
instance{a0:Casc}{a1:CRow}{w42:Int}{v52:List Int}:Hd (z4O a0 a1 w42 v52):=⟨fun w56=>([(53,xI w56)],[])⟩
abbrev z5i(a0:Casc)(a1:CRow):Int->Option (Int⊕Bool)
 |w42=>
 if w42<(a1.maps.length:Int) then
 (atI a1.maps w42).bind fun v52=>
 (atI a0.sizes (a1.pre.length:Int)).bind fun v53=>
 if(v52.length:Int)=v53 then
 z0h (z4O a0 a1 w42 v52) LFm 0
 else
 z0f<|
 some false
 else
 z0f<|
 some true
instance{a0:Casc}{a1:CRow}:Hd (z5i a0 a1):=⟨fun w42=>([(39,xI w42)],[])⟩
def z5r(a0:Casc)(a1:CRow):Option (Bool):=
 if a0.sizes.length<=a1.pre.length then
 some false
 else
 (z6G a0.sizes 0 (a1.pre.length:Int)).bind fun v31=>
 (z5N v31 a1.pre).bind fun v32=>
 if v32=true then
 if(a1.maps.length:Int)=a0.letters then
 z0h (z5i a0 a1) LFm 0
 else
 some false
 else
 some false
instance cascade_validRow_ok{a0:Casc}{a1:CRow}:Ok (z5r a0 a1) (fun r=>L 125 [.agg [.sc (.int .i64 a0.letters),(tI a0.sizes),.sl a0.rows.length (a0.rows.flatMap fun x0=> [(tI x0.pre),(tR x0.maps)])],.agg [(tI a1.pre),(tR a1.maps)]]=some (.sc (.bool r),[.dead,.dead])):=⟨fun r h=>by have h:=z4s h;unfold z5r at h;exact z5l rfl Tryz.func125 (bdy Tryz.f125 rfl)⟩
def z4i(a0:List Int)(a1:List Int):Option (Int):=
 (cmp_Compare_int (a0.length:Int) (a1.length:Int)).bind fun v4=>
 (z2F a0 a1).bind fun v5=>
 (z9A [v4,v5]).bind fun v6=>
 some v6
instance cascade_compareRows_ok:Ok (z4i a0 a1) (fun r=>L 126 [(tI a0),(tI a1)]=some (.sc (.int .i64 r),[.dead,.dead])):=⟨fun r h=>by have h:=z4s h;unfold z4i at h;exact z5l rfl Tryz.func126 (bdy Tryz.f126 rfl)⟩
abbrev z4P(a0:Casc):Int->Option (Int⊕Int)
 |w26=>
 if w26<(a0.rows.length:Int) then
 (atI a0.rows w26).bind fun v31=>
 (z5r a0 v31).bind fun v32=>
 if v32=true then
 if 0<w26 then
 (atI a0.rows (i64.wrap (w26-1))).bind fun v33=>
 (z4i v33.pre v31.pre).bind fun v34=>
 if 0<=v34 then
 z0f<|
 some 23
 else
 z0d (i64.wrap (w26+1))
 else
 z0d (i64.wrap (w26+1))
 else
 z0f<|
 some 23
 else
 z0f<|
 some 0
instance{a0:Casc}:Hd (z4P a0):=⟨fun w26=>([(42,xI w26)],[])⟩
abbrev z5k(a0:Casc):Int->Option (Int⊕Int)
 |w19=>
 if w19<(a0.sizes.length:Int) then
 (atI a0.sizes w19).bind fun v21=>
 if v21<1 then
 z0f<|
 some 23
 else
 if 32<v21 then
 z0f<|
 some 23
 else
 z0d (i64.wrap (w19+1))
 else
 z0f<|
 z0h (z4P a0) LFm 0
instance{a0:Casc}:Hd (z5k a0):=⟨fun w19=>([(28,xI w19)],[])⟩
def z5s(a0:Casc):Option (Int):=
 if a0.letters<1 then
 some 1
 else
 if 6<a0.letters then
 some 1
 else
 if 24<(a0.sizes.length:Int) then
 some 3
 else
 if 48000<(a0.rows.length:Int) then
 some 3
 else
 z0h (z5k a0) LFm 0
instance cascade_Validate_ok{a0:Casc}:Ok (z5s a0) (fun r=>L 74 [.agg [.sc (.int .i64 a0.letters),(tI a0.sizes),.sl a0.rows.length (a0.rows.flatMap fun x0=> [(tI x0.pre),(tR x0.maps)])]]=some (.sc (.int .i64 r),[.dead])):=⟨fun r h=>by have h:=z4s h;unfold z5s at h;exact z5l rfl Tryz.func74 (bdy Tryz.f74 rfl)⟩
end
end
section
open Go Go.IntKind
noncomputable section
set_option maxRecDepth 100000
set_option maxHeartbeats 6000000
attribute [-simp] Nat.mul_lt_mul_right
instance:IsS CRow:=⟨⟩
instance:IsS Casc:=⟨⟩
end
end
section
open Go Go.IntKind
noncomputable section
set_option maxRecDepth 100000
set_option maxHeartbeats 2000000
variable{a0:Traits}
def z3t(a0:Traits)(a1:List Int):Bool×Bool×Bool×Int×List Bool->Option ((Bool×Bool×Bool×Int×List Bool)⊕Traits)
 |(w44,w45,w46,w47,w48)=>
 if w47<(a1.length:Int) then
 (atI a1 w47).bind fun v64=>
 if w44=true then
 if w45=true then
 (atI a1 0).bind fun v65=>
 if w46=true then
 chk (0<=v64/\v64<32)<|
 (atI w48 v64).bind fun v66=>
 z0d (decide (w47=v64),decide (v64=v65),!v66,i64.wrap (w47+1),(w48.set v64.toNat true))
 else
 chk (0<=v64/\v64<32)<|
 (atI w48 v64).bind fun v68=>
 z0d (decide (w47=v64),decide (v64=v65),false,i64.wrap (w47+1),(w48.set v64.toNat true))
 else
 if w46=true then
 chk (0<=v64/\v64<32)<|
 (atI w48 v64).bind fun v69=>
 z0d (decide (w47=v64),false,!v69,i64.wrap (w47+1),(w48.set v64.toNat true))
 else
 chk (0<=v64/\v64<32)<|
 (atI w48 v64).bind fun v71=>
 z0d (decide (w47=v64),false,false,i64.wrap (w47+1),(w48.set v64.toNat true))
 else
 if w45=true then
 (atI a1 0).bind fun v72=>
 if w46=true then
 chk (0<=v64/\v64<32)<|
 (atI w48 v64).bind fun v73=>
 z0d (false,decide (v64=v72),!v73,i64.wrap (w47+1),(w48.set v64.toNat true))
 else
 chk (0<=v64/\v64<32)<|
 (atI w48 v64).bind fun v75=>
 z0d (false,decide (v64=v72),false,i64.wrap (w47+1),(w48.set v64.toNat true))
 else
 if w46=true then
 chk (0<=v64/\v64<32)<|
 (atI w48 v64).bind fun v76=>
 z0d (false,false,!v76,i64.wrap (w47+1),(w48.set v64.toNat true))
 else
 chk (0<=v64/\v64<32)<|
 (atI w48 v64).bind fun v78=>
 z0d (false,false,false,i64.wrap (w47+1),(w48.set v64.toNat true))
 else
 z0f<|
 if a0.perms=true then
 if a0.resets=true then
 if w45=true then
 if a0.mixed=true then
 if w46=true then
 some (⟨true,w46,true,true⟩:Traits)
 else
 some (⟨true,w46,true,w45⟩:Traits)
 else
 some (⟨true,w46,true,false⟩:Traits)
 else
 if a0.mixed=true then
 if w46=true then
 some (⟨true,w46,w44,true⟩:Traits)
 else
 some (⟨true,w46,w44,w45⟩:Traits)
 else
 some (⟨true,w46,w44,false⟩:Traits)
 else
 if a0.mixed=true then
 if w46=true then
 some (⟨true,w46,false,true⟩:Traits)
 else
 some (⟨true,w46,false,w45⟩:Traits)
 else
 some (⟨true,w46,false,false⟩:Traits)
 else
 if a0.resets=true then
 if w45=true then
 if a0.mixed=true then
 if w46=true then
 some (⟨true,false,true,true⟩:Traits)
 else
 some (⟨true,false,true,w45⟩:Traits)
 else
 some (⟨true,false,true,false⟩:Traits)
 else
 if a0.mixed=true then
 if w46=true then
 some (⟨true,false,w44,true⟩:Traits)
 else
 some (⟨true,false,w44,w45⟩:Traits)
 else
 some (⟨true,false,w44,false⟩:Traits)
 else
 if a0.mixed=true then
 if w46=true then
 some (⟨true,false,false,true⟩:Traits)
 else
 some (⟨true,false,false,w45⟩:Traits)
 else
 some (⟨true,false,false,false⟩:Traits)
def z0C(a0:Traits)(a1:List Int)(p0:List T)(q0:List T):Bool×Bool×Bool×Int×List Bool->Fr
 |(w44,w45,w46,w47,w48)=>⟨80,[(0,.one (.a 0 [] (p0.length))),(1,.one (.t none ((tI a1)))),(4,.one (.t none (.sc (.bool w44)))),(5,.one (.t none (.sc (.bool w45)))),(6,.one (.t none (.sc (.bool w46)))),(7,.one (.a 7 [] (0))),(10,.one (.t none ((tI a1)))),(11,.one (.t none (.sc (.int .i64 (a1.length:Int))))),(12,.one (.t none (.sc (.int .i64 w47)))),(1080,.one (.a 0 [] (p0.length)))],[(0,.vr (p0++(.sc (.bool a0.some_))::(.sc (.bool a0.perms))::(.sc (.bool a0.resets))::(.sc (.bool a0.mixed))::q0)),(7,.vr (w48.map fun x0=>.sc (.bool x0)))]⟩
def z2Z(a0:Traits)(a1:List Int):Option (Traits):=
 z0h (z3t a0 a1) LFm (true,true,true,0,(List.replicate 32 false))
theorem z9g{a1:List Int}{p0 q0:List T}{r:Traits}(h0:z2Z a0 a1=some r):L 75 [.vo p0.length (p0++(.sc (.bool a0.some_))::(.sc (.bool a0.perms))::(.sc (.bool a0.resets))::(.sc (.bool a0.mixed))::q0),(tI a1)]=some (.tup [],[.vo p0.length (p0++(.sc (.bool r.some_))::(.sc (.bool r.perms))::(.sc (.bool r.resets))::(.sc (.bool r.mixed))::q0),.dead]):=by
 simp only[z2Z] at h0
 refine zlx rfl Tryz.func75 (zik (bdy Tryz.f75 rfl) ⟨of_decide_eq_true rfl,of_decide_eq_true rfl⟩ ?_)
 simp only[z6J,z7b,z6I,z8K,z6N]
 refine zp (zs ?_)
 refine z0a (zp (zs ?_))
 refine z0a (zp (zp (zs ?_)))
 refine z0a (zb rfl (z6x h0 (z0C a0 a1 p0 q0) rfl rfl (by simp[z0C]) fun s o1 h1 hr1=> ?_))
 obtain⟨w44,w45,w46,w47,w48⟩:=s
 simp only[z3t] at h1
 simp only[z0C]
 refine zp (zs ?_)
 refine z0a (zp ?_)
 by_cases c107:w47<(a1.length:Int)
 ·rw[if_pos c107] at h1
  refine z7P rfl (by simp[c107]) (z5E rfl (z0a (zp (zb rfl (zp ?_)))))
  obtain⟨v64,f108,h2⟩:=z6B h1
  refine zr rfl rfl rfl (by simp[f108];rfl) ?_
  refine z0a (zp ?_)
  by_cases c109:w44=true
  ·rw[if_pos c109] at h2
   refine zr rfl rfl rfl (by simp[c109];rfl) ?_
   refine z0a (zp ?_)
   by_cases c110:w45=true
   ·rw[if_pos c110] at h2
    obtain⟨v65,f111,h3⟩:=z1n h2
    obtain⟨f111a,f111b,f111c,f111d,f111e⟩:=z7E f111
    simp only[Int.reduceToNat,Z2] at f111c f111d f111e
    have f111j:a1≠ []:=by intro hh;rw[hh] at f111c;simp at f111c
    have f111l:0<a1.length:=by omega
    refine zr rfl rfl rfl (by simp[c110,f111a,f111b,f111c,f111d,f111e,f111j,f111l];rfl) ?_
    refine z0a (zp ?_)
    by_cases c112:w46=true
    ·rw[if_pos c112] at h3
     obtain⟨f113,h4⟩:=z4N h3
     obtain⟨f113a,f113b⟩:=f113
     have f113c:v64.toNat<32:=by omega
     have f113d:v64.toNat+1<=32:=by omega
     obtain⟨v66,f114,h5⟩:=z6B h4
     refine zr rfl rfl rfl (by simp[c112,f113a,f113b,f113c,f113d,f114];rfl) ?_
     refine z0a (zr rfl rfl rfl (by simp[f113a,f113b,f113c,f113d,f114];rfl) ?_)
     refine z2f (z0a (zs ?_))
     have ho:=z1K h5
     refine z2t ho ?_
     simp[z0C,c109,c110,c112]
    ·rw[if_neg c112] at h3
     refine zr rfl rfl rfl (by simp[c112];rfl) ?_
     refine z0a ?_
     obtain⟨f115,h4⟩:=z4N h3
     obtain⟨f115a,f115b⟩:=f115
     have f115c:v64.toNat<32:=by omega
     have f115d:v64.toNat+1<=32:=by omega
     obtain⟨v68,f116,h5⟩:=z6B h4
     refine zr rfl rfl rfl (by simp[f115a,f115b,f115c,f115d,f116];rfl) ?_
     refine z2f (z0a (zs ?_))
     have ho:=z1K h5
     refine z2t ho ?_
     simp[z0C,c109,c110,c112]
   ·rw[if_neg c110] at h2
    refine zr rfl rfl rfl (by simp[c110];rfl) ?_
    refine z0a (zp ?_)
    by_cases c117:w46=true
    ·rw[if_pos c117] at h2
     obtain⟨f118,h3⟩:=z4N h2
     obtain⟨f118a,f118b⟩:=f118
     have f118c:v64.toNat<32:=by omega
     have f118d:v64.toNat+1<=32:=by omega
     obtain⟨v69,f119,h4⟩:=z6B h3
     refine zr rfl rfl rfl (by simp[c117,f118a,f118b,f118c,f118d,f119];rfl) ?_
     refine z0a (zr rfl rfl rfl (by simp[f118a,f118b,f118c,f118d,f119];rfl) ?_)
     refine z2f (z0a (zs ?_))
     have ho:=z1K h4
     refine z2t ho ?_
     simp[z0C,c109,c110,c117]
    ·rw[if_neg c117] at h2
     refine zr rfl rfl rfl (by simp[c117];rfl) ?_
     refine z0a ?_
     obtain⟨f120,h3⟩:=z4N h2
     obtain⟨f120a,f120b⟩:=f120
     have f120c:v64.toNat<32:=by omega
     have f120d:v64.toNat+1<=32:=by omega
     obtain⟨v71,f121,h4⟩:=z6B h3
     refine zr rfl rfl rfl (by simp[f120a,f120b,f120c,f120d,f121];rfl) ?_
     refine z2f (z0a (zs ?_))
     have ho:=z1K h4
     refine z2t ho ?_
     simp[z0C,c109,c110,c117]
  ·rw[if_neg c109] at h2
   refine zr rfl rfl rfl (by simp[c109];rfl) ?_
   refine z0a (zp ?_)
   by_cases c122:w45=true
   ·rw[if_pos c122] at h2
    obtain⟨v72,f123,h3⟩:=z1n h2
    obtain⟨f123a,f123b,f123c,f123d,f123e⟩:=z7E f123
    simp only[Int.reduceToNat,Z2] at f123c f123d f123e
    have f123j:a1≠ []:=by intro hh;rw[hh] at f123c;simp at f123c
    have f123l:0<a1.length:=by omega
    refine zr rfl rfl rfl (by simp[c122,f123a,f123b,f123c,f123d,f123e,f123j,f123l];rfl) ?_
    refine z0a (zp ?_)
    by_cases c124:w46=true
    ·rw[if_pos c124] at h3
     obtain⟨f125,h4⟩:=z4N h3
     obtain⟨f125a,f125b⟩:=f125
     have f125c:v64.toNat<32:=by omega
     have f125d:v64.toNat+1<=32:=by omega
     obtain⟨v73,f126,h5⟩:=z6B h4
     refine zr rfl rfl rfl (by simp[c124,f125a,f125b,f125c,f125d,f126];rfl) ?_
     refine z0a (zr rfl rfl rfl (by simp[f125a,f125b,f125c,f125d,f126];rfl) ?_)
     refine z2f (z0a (zs ?_))
     have ho:=z1K h5
     refine z2t ho ?_
     simp[z0C,c109,c122,c124]
    ·rw[if_neg c124] at h3
     refine zr rfl rfl rfl (by simp[c124];rfl) ?_
     refine z0a ?_
     obtain⟨f127,h4⟩:=z4N h3
     obtain⟨f127a,f127b⟩:=f127
     have f127c:v64.toNat<32:=by omega
     have f127d:v64.toNat+1<=32:=by omega
     obtain⟨v75,f128,h5⟩:=z6B h4
     refine zr rfl rfl rfl (by simp[f127a,f127b,f127c,f127d,f128];rfl) ?_
     refine z2f (z0a (zs ?_))
     have ho:=z1K h5
     refine z2t ho ?_
     simp[z0C,c109,c122,c124]
   ·rw[if_neg c122] at h2
    refine zr rfl rfl rfl (by simp[c122];rfl) ?_
    refine z0a (zp ?_)
    by_cases c129:w46=true
    ·rw[if_pos c129] at h2
     obtain⟨f130,h3⟩:=z4N h2
     obtain⟨f130a,f130b⟩:=f130
     have f130c:v64.toNat<32:=by omega
     have f130d:v64.toNat+1<=32:=by omega
     obtain⟨v76,f131,h4⟩:=z6B h3
     refine zr rfl rfl rfl (by simp[c129,f130a,f130b,f130c,f130d,f131];rfl) ?_
     refine z0a (zr rfl rfl rfl (by simp[f130a,f130b,f130c,f130d,f131];rfl) ?_)
     refine z2f (z0a (zs ?_))
     have ho:=z1K h4
     refine z2t ho ?_
     simp[z0C,c109,c122,c129]
    ·rw[if_neg c129] at h2
     refine zr rfl rfl rfl (by simp[c129];rfl) ?_
     refine z0a ?_
     obtain⟨f132,h3⟩:=z4N h2
     obtain⟨f132a,f132b⟩:=f132
     have f132c:v64.toNat<32:=by omega
     have f132d:v64.toNat+1<=32:=by omega
     obtain⟨v78,f133,h4⟩:=z6B h3
     refine zr rfl rfl rfl (by simp[f132a,f132b,f132c,f132d,f133];rfl) ?_
     refine z2f (z0a (zs ?_))
     have ho:=z1K h4
     refine z2t ho ?_
     simp[z0C,c109,c122,c129]
 ·rw[if_neg c107] at h1
  refine z7Q rfl (by simp[c107]) (z7S rfl (z6g ?_))
  obtain⟨rr1,h2,ho1⟩:=z3R h1
  have hs1:=hr1 _ ho1
  subst hs1
  refine z5a ho1 (z2n rfl (z0a (zp (zs ?_))))
  refine z0a (zp ?_)
  by_cases c134:a0.perms=true
  ·rw[if_pos c134] at h2
   refine zr rfl rfl rfl (by simp[c134];rfl) ?_
   refine z0a (zp ?_)
   by_cases c135:a0.resets=true
   ·rw[if_pos c135] at h2
    by_cases c136:w45=true
    ·rw[if_pos c136] at h2
     refine zr rfl rfl rfl (by simp[c135,c136];rfl) ?_
     refine z0a ?_
     by_cases c137:a0.mixed=true
     ·rw[if_pos c137] at h2
      by_cases c138:w46=true
      ·rw[if_pos c138] at h2
       refine zr rfl rfl rfl (by simp[c137,c138];rfl) ?_
       cases h2
       simp[c134,c135,c136,c137,c138]
      ·rw[if_neg c138] at h2
       refine zr rfl rfl rfl (by simp[c137,c138];rfl) ?_
       cases h2
       simp[c134,c135,c136,c137,c138]
     ·rw[if_neg c137] at h2
      refine zr rfl rfl rfl (by simp[c137];rfl) ?_
      cases h2
      simp[c134,c135,c136,c137]
    ·rw[if_neg c136] at h2
     refine zr rfl rfl rfl (by simp[c135,c136];rfl) ?_
     refine z0a ?_
     by_cases c139:a0.mixed=true
     ·rw[if_pos c139] at h2
      by_cases c140:w46=true
      ·rw[if_pos c140] at h2
       refine zr rfl rfl rfl (by simp[c139,c140];rfl) ?_
       cases h2
       simp[c134,c135,c136,c139,c140]
      ·rw[if_neg c140] at h2
       refine zr rfl rfl rfl (by simp[c139,c140];rfl) ?_
       cases h2
       simp[c134,c135,c136,c139,c140]
     ·rw[if_neg c139] at h2
      refine zr rfl rfl rfl (by simp[c139];rfl) ?_
      cases h2
      simp[c134,c135,c136,c139]
   ·rw[if_neg c135] at h2
    refine zr rfl rfl rfl (by simp[c135];rfl) ?_
    refine z0a ?_
    by_cases c141:a0.mixed=true
    ·rw[if_pos c141] at h2
     by_cases c142:w46=true
     ·rw[if_pos c142] at h2
      refine zr rfl rfl rfl (by simp[c141,c142];rfl) ?_
      cases h2
      simp[c134,c135,c141,c142]
     ·rw[if_neg c142] at h2
      refine zr rfl rfl rfl (by simp[c141,c142];rfl) ?_
      cases h2
      simp[c134,c135,c141,c142]
    ·rw[if_neg c141] at h2
     refine zr rfl rfl rfl (by simp[c141];rfl) ?_
     cases h2
     simp[c134,c135,c141]
  ·rw[if_neg c134] at h2
   refine zr rfl rfl rfl (by simp[c134];rfl) ?_
   refine z0a (zp ?_)
   by_cases c143:a0.resets=true
   ·rw[if_pos c143] at h2
    by_cases c144:w45=true
    ·rw[if_pos c144] at h2
     refine zr rfl rfl rfl (by simp[c143,c144];rfl) ?_
     refine z0a ?_
     by_cases c145:a0.mixed=true
     ·rw[if_pos c145] at h2
      by_cases c146:w46=true
      ·rw[if_pos c146] at h2
       refine zr rfl rfl rfl (by simp[c145,c146];rfl) ?_
       cases h2
       simp[c134,c143,c144,c145,c146]
      ·rw[if_neg c146] at h2
       refine zr rfl rfl rfl (by simp[c145,c146];rfl) ?_
       cases h2
       simp[c134,c143,c144,c145,c146]
     ·rw[if_neg c145] at h2
      refine zr rfl rfl rfl (by simp[c145];rfl) ?_
      cases h2
      simp[c134,c143,c144,c145]
    ·rw[if_neg c144] at h2
     refine zr rfl rfl rfl (by simp[c143,c144];rfl) ?_
     refine z0a ?_
     by_cases c147:a0.mixed=true
     ·rw[if_pos c147] at h2
      by_cases c148:w46=true
      ·rw[if_pos c148] at h2
       refine zr rfl rfl rfl (by simp[c147,c148];rfl) ?_
       cases h2
       simp[c134,c143,c144,c147,c148]
      ·rw[if_neg c148] at h2
       refine zr rfl rfl rfl (by simp[c147,c148];rfl) ?_
       cases h2
       simp[c134,c143,c144,c147,c148]
     ·rw[if_neg c147] at h2
      refine zr rfl rfl rfl (by simp[c147];rfl) ?_
      cases h2
      simp[c134,c143,c144,c147]
   ·rw[if_neg c143] at h2
    refine zr rfl rfl rfl (by simp[c143];rfl) ?_
    refine z0a ?_
    by_cases c149:a0.mixed=true
    ·rw[if_pos c149] at h2
     by_cases c150:w46=true
     ·rw[if_pos c150] at h2
      refine zr rfl rfl rfl (by simp[c149,c150];rfl) ?_
      cases h2
      simp[c134,c143,c149,c150]
     ·rw[if_neg c150] at h2
      refine zr rfl rfl rfl (by simp[c149,c150];rfl) ?_
      cases h2
      simp[c134,c143,c149,c150]
    ·rw[if_neg c149] at h2
     refine zr rfl rfl rfl (by simp[c149];rfl) ?_
     cases h2
     simp[c134,c143,c149]
def z5j(a0:Traits):Option (Int):=
 if a0.some_=true then
 if a0.perms=true then
 some 1
 else
 if a0.resets=true then
 some 2
 else
 if a0.mixed=true then
 some 3
 else
 some 4
 else
 some 0
theorem zac{r:Int}(h0:z5j a0=some r):L 76 [.agg [.sc (.bool a0.some_),.sc (.bool a0.perms),.sc (.bool a0.resets),.sc (.bool a0.mixed)]]=some (.sc (.int .i64 r),[.dead]):=by
 simp only[z5j] at h0
 refine zlx rfl Tryz.func76 (zik (bdy Tryz.f76 rfl) ⟨of_decide_eq_true rfl,of_decide_eq_true rfl⟩ ?_)
 simp only[z6J,z7b,z6I,z8K,z6N]
 refine zp (zs ?_)
 refine z0a (zp (zb rfl (zp (zs ?_))))
 refine z0a ?_
 by_cases c5:a0.some_=true
 ·rw[if_pos c5] at h0
  refine z7Q rfl (by simp[c5]) (zp (zs ?_))
  refine z0a ?_
  by_cases c6:a0.perms=true
  ·rw[if_pos c6] at h0
   refine z7P rfl (by simp[c6]) (zp (zs ?_))
   refine z0a (zcx rfl (zbi (z9N ?_)))
   cases h0
   simp[c5,c6]
  ·rw[if_neg c6] at h0
   refine z7Q rfl (by simp[c6]) (zp (zs ?_))
   refine z0a ?_
   by_cases c7:a0.resets=true
   ·rw[if_pos c7] at h0
    refine z7P rfl (by simp[c7]) (zp (zs ?_))
    refine z0a (zcx rfl (zbi (z9N ?_)))
    cases h0
    simp[c5,c6,c7]
   ·rw[if_neg c7] at h0
    refine z7Q rfl (by simp[c7]) (zp (zs ?_))
    refine z0a ?_
    by_cases c8:a0.mixed=true
    ·rw[if_pos c8] at h0
     refine z7P rfl (by simp[c8]) (zp (zs ?_))
     refine z0a (zcx rfl (zbi (z9N ?_)))
     cases h0
     simp[c5,c6,c7,c8]
    ·rw[if_neg c8] at h0
     refine z7Q rfl (by simp[c8]) (z5E rfl (z2f (z0a (zp (zs ?_)))))
     refine z0a (zcx rfl ?_)
     cases h0
     simp[c5,c6,c7,c8]
 ·rw[if_neg c5] at h0
  refine z7P rfl (by simp[c5]) (zp (zs ?_))
  refine z0a (zcx rfl (zbi (z9N ?_)))
  cases h0
  simp[c5]
def z6e(w73:Int)(v87:CRow):Int×List Traits->Option ((Int×List Traits)⊕((Int×List Traits)⊕List Int))
 |(w91,w92)=>
 if w91<(v87.maps.length:Int) then
 (atI v87.maps w91).bind fun v96=>
 (atI w92 (v87.pre.length:Int)).bind fun v97=>
 (z2Z v97 v96).bind fun v98=>
 z0d (i64.wrap (w91+1),(w92.set (v87.pre.length:Int).toNat v98))
 else
 z0f<|
 z0d (i64.wrap (w73+1),w92)
def z6b(a0:Casc)(w73:Int)(v87:CRow):Int×List Traits->Fr
 |(w91,w92)=>⟨69,[(3,.one (.h 3 [])),(6,.one (.a 6 [] (0))),(30,.one (.t none (.sl a0.rows.length (a0.rows.flatMap fun x0=> [(tI x0.pre),(tR x0.maps)])))),(31,.one (.t none (.sc (.int .i64 (a0.rows.length:Int))))),(32,.one (.t none (.sc (.int .i64 w73)))),(37,.one (.t none ((tR v87.maps)))),(38,.one (.t none (.sc (.int .i64 (v87.maps.length:Int))))),(39,.one (.t none (.sc (.int .i64 w91))))],[(3,.os 4 w92.length (w92.flatMap fun x0=> [.sc (.bool x0.some_),.sc (.bool x0.perms),.sc (.bool x0.resets),.sc (.bool x0.mixed)])),(6,.vr [(tI v87.pre),(tR v87.maps)])]⟩
def z6d(w74:List Traits):Int×List Int->Option ((Int×List Int)⊕List Int)
 |(w101,w102)=>
 if w101<(w74.length:Int) then
 (atI w74 w101).bind fun v106=>
 (z5j v106).bind fun v107=>
 (atI w102 w101).bind fun v108=>
 z0d (i64.wrap (w101+1),(w102.set w101.toNat v107))
 else
 z0f<|
 some w102
def z6a(w74:List Traits):Int×List Int->Fr
 |(w101,w102)=>⟨69,[(9,.one (.h 9 [])),(55,.one (.h 3 [])),(56,.one (.t none (.sc (.int .i64 (w74.length:Int))))),(57,.one (.t none (.sc (.int .i64 w101))))],[(9,(tO w102)),(3,.os 4 w74.length (w74.flatMap fun x0=> [.sc (.bool x0.some_),.sc (.bool x0.perms),.sc (.bool x0.resets),.sc (.bool x0.mixed)]))]⟩
def z6f(a0:Casc):Int×List Traits->Option ((Int×List Traits)⊕List Int)
 |(w73,w74)=>
 if w73<(a0.rows.length:Int) then
 (atI a0.rows w73).bind fun v87=>
 z0h (z6e w73 v87) LFm (0,w74)
 else
 z0f<|
 chk (z0Q 8 (w74.length:Int))<|
 z0h (z6d w74) LFm (0,List.replicate (w74.length:Int).toNat (0:Int))
def z6c(a0:Casc):Int×List Traits->Fr
 |(w73,w74)=>⟨69,[(3,.one (.h 3 [])),(30,.one (.t none (.sl a0.rows.length (a0.rows.flatMap fun x0=> [(tI x0.pre),(tR x0.maps)])))),(31,.one (.t none (.sc (.int .i64 (a0.rows.length:Int))))),(32,.one (.t none (.sc (.int .i64 w73))))],[(3,.os 4 w74.length (w74.flatMap fun x0=> [.sc (.bool x0.some_),.sc (.bool x0.perms),.sc (.bool x0.resets),.sc (.bool x0.mixed)]))]⟩
def z6w(a0:Casc):Int×List Traits->Option ((Int×List Traits)⊕List Int)
 |(w57,w58)=>
 if w57<(a0.sizes.length:Int) then
 (atI w58 w57).bind fun v60=>
 z0d (i64.wrap (w57+1),(w58.set w57.toNat (⟨false,true,true,true⟩:Traits)))
 else
 z0f<|
 z0h (z6f a0) LFm (0,w58)
def z6v(a0:Casc):Int×List Traits->Fr
 |(w57,w58)=>⟨69,[(1,.one (.a 1 [] (0))),(3,.one (.h 3 [])),(20,.one (.t none (.sc (.int .i64 (a0.sizes.length:Int))))),(21,.one (.t none (.sc (.int .i64 w57))))],[(1,.vr [.sc (.int .i64 a0.letters),(tI a0.sizes),.sl a0.rows.length (a0.rows.flatMap fun x0=> [(tI x0.pre),(tR x0.maps)])]),(3,.os 4 w58.length (w58.flatMap fun x0=> [.sc (.bool x0.some_),.sc (.bool x0.perms),.sc (.bool x0.resets),.sc (.bool x0.mixed)]))]⟩
def z3u(a0:Casc):Option (List Int):=
 (z5s a0).bind fun v55=>
 if v55=0 then
 chk (z0Q 4 (a0.sizes.length:Int))<|
 z0h (z6w a0) LFm (0,List.replicate (a0.sizes.length:Int).toNat ((⟨false,false,false,false⟩:Traits):Traits))
 else
 some []
theorem zet{a0:Casc}{r:List Int}(h0:z3u a0=some r):L 34 [.agg [.sc (.int .i64 a0.letters),(tI a0.sizes),.sl a0.rows.length (a0.rows.flatMap fun x0=> [(tI x0.pre),(tR x0.maps)])]]=some ((tO r),[.dead]):=by
 simp only[z3u] at h0
 refine zlx rfl Tryz.func34 (zik (bdy Tryz.f34 rfl) ⟨of_decide_eq_true rfl,of_decide_eq_true rfl⟩ ?_)
 simp only[z6J,z7b,z6I,z8K,z6N]
 refine zp (zs ?_)
 refine z0a (zp (zp ?_))
 obtain⟨v55,f66,h1⟩:=z1n h0
 have f66k:=cascade_Validate_ok.ok _ f66
 try simp at f66k
 refine zr rfl rfl rfl (by simp[f66k];rfl) ?_
 refine z0a ?_
 by_cases c67:v55=0
 ·rw[if_pos c67] at h1
  have c67e:=eq_true c67
  refine z7Q rfl (by simp[c67e]) (z5E rfl (z0a (zp ?_)))
  obtain⟨f68,h2⟩:=zzD h1
  have f69:=zh7 (g:=fun x:Traits=>([.sc (.bool x.some_),.sc (.bool x.perms),.sc (.bool x.resets),.sc (.bool x.mixed)]:List T)) (⟨false,false,false,false⟩:Traits) (a0.sizes.length:Int).toNat
  try simp at f69
  refine zr rfl rfl rfl (by simp[f68,f69];rfl) ?_
  refine z0a (zp (zp (zs ?_)))
  refine z0a (zb rfl (z6x h2 (z6v a0) rfl rfl (by simp[z6v]) fun s o1 h3 hr1=> ?_))
  obtain⟨w57,w58⟩:=s
  simp only[z6w] at h3
  simp only[z6v]
  refine zp (zs ?_)
  refine z0a (zp ?_)
  by_cases c74:w57<(a0.sizes.length:Int)
  ·rw[if_pos c74] at h3
   refine z7P rfl (by simp[c74]) (z5E rfl (z0a (zp (zb rfl (zp (zs ?_))))))
   refine z0a ?_
   obtain⟨v60,f75,h4⟩:=z1n h3
   obtain⟨f75a,f75b,f75c,f75d,f75e⟩:=z7E f75
   have f75g:=z8H (g:=fun x:Traits=>([.sc (.bool x.some_),.sc (.bool x.perms),.sc (.bool x.resets),.sc (.bool x.mixed)]:List T)) (m:=4) (fun _=>rfl) f75d
   have f75h:=z8Y (g:=fun x:Traits=>([.sc (.bool x.some_),.sc (.bool x.perms),.sc (.bool x.resets),.sc (.bool x.mixed)]:List T)) (m:=4) (fun _=>rfl) w58
   have f75k0:=f75g.2.2.1 0 (by decide)
   have f75m0:=f75g.2.2.2 0 _ rfl
   have f75k1:=f75g.2.2.1 1 (by decide)
   have f75m1:=f75g.2.2.2 1 _ rfl
   have f75k2:=f75g.2.2.1 2 (by decide)
   have f75m2:=f75g.2.2.2 2 _ rfl
   have f75k3:=f75g.2.2.1 3 (by decide)
   have f75m3:=f75g.2.2.2 3 _ rfl
   obtain⟨f75g,f75i,-⟩:=f75g
   try simp at f75i f75h f75k0 f75m0 f75k1 f75m1 f75k2 f75m2 f75k3 f75m3
   have f76:=zoh (g:=fun x0:Traits=>([.sc (.bool x0.some_),.sc (.bool x0.perms),.sc (.bool x0.resets),.sc (.bool x0.mixed)]:List T)) (m:=4) (fun _=>rfl) ((⟨false,true,true,true⟩:Traits)) w57.toNat w58
   try simp at f76
   refine zr rfl rfl rfl (by simp[f75a,f75b,f75c,f75d,f75e,f75g,f75i,f75h,f75k0,f75k1,f75k2,f75k3,f75m0,f75m1,f75m2,f75m3,f76];rfl) ?_
   refine z2f (z0a (zs ?_))
   have ho:=z1K h4
   refine z2t ho ?_
   simp[z6v]
  ·rw[if_neg c74] at h3
   refine z7Q rfl (by simp[c74]) (z7S rfl (z6g ?_))
   obtain⟨rr1,h4,ho1⟩:=z3R h3
   have hs1:=hr1 _ ho1
   subst hs1
   refine z5a ho1 (z2n rfl (z0a (zp (zp (zs ?_)))))
   refine z0a (zb rfl (z6x h4 (z6c a0) rfl rfl (by simp[z6c]) fun s o2 h5 hr2=> ?_))
   obtain⟨w73,w74⟩:=s
   simp only[z6f] at h5
   simp only[z6c]
   refine zp (zs ?_)
   refine z0a (zp ?_)
   by_cases c105:w73<(a0.rows.length:Int)
   ·rw[if_pos c105] at h5
    refine z7P rfl (by simp[c105]) (z5E rfl (z0a (zp (zb rfl (zp ?_)))))
    obtain⟨v87,f106,h6⟩:=z1n h5
    obtain⟨f106a,f106b,f106c,f106d,f106e⟩:=z7E f106
    have f106g:=z8H (g:=fun x:CRow=>([(tI x.pre),(tR x.maps)]:List T)) (m:=2) (fun _=>rfl) f106d
    have f106h:=z8Y (g:=fun x:CRow=>([(tI x.pre),(tR x.maps)]:List T)) (m:=2) (fun _=>rfl) a0.rows
    have f106k0:=f106g.2.2.1 0 (by decide)
    have f106m0:=f106g.2.2.2 0 _ rfl
    have f106k1:=f106g.2.2.1 1 (by decide)
    have f106m1:=f106g.2.2.2 1 _ rfl
    obtain⟨f106g,f106i,-⟩:=f106g
    try simp at f106i f106h f106k0 f106m0 f106k1 f106m1
    refine zr rfl rfl rfl (by simp[f106a,f106b,f106c,f106d,f106e,f106g,f106i,f106h,f106k0,f106k1,f106m0,f106m1];rfl) ?_
    refine z0a (zp (zs ?_))
    refine z0a (zb rfl (z6x h6 (z6b a0 w73 v87) rfl rfl (by simp[z6b]) fun s o3 h7 hr3=> ?_))
    obtain⟨w91,w92⟩:=s
    simp only[z6e] at h7
    simp only[z6b]
    refine zp (zs ?_)
    refine z0a (zp ?_)
    by_cases c115:w91<(v87.maps.length:Int)
    ·rw[if_pos c115] at h7
     refine z7P rfl (by simp[c115]) (z5E rfl (z0a (zp (zb rfl (zp ?_)))))
     obtain⟨v96,f116,h8⟩:=z6B h7
     refine zr rfl rfl rfl (by simp[f116];rfl) ?_
     refine z0a ?_
     obtain⟨v97,f117,h9⟩:=z1n h8
     obtain⟨f117a,f117b,f117c,f117d,f117e⟩:=z7E f117
     simp only[Z2] at f117c f117d f117e
     have f117l:v87.pre.length<w92.length:=by omega
     have f117g:=z8H (g:=fun x:Traits=>([.sc (.bool x.some_),.sc (.bool x.perms),.sc (.bool x.resets),.sc (.bool x.mixed)]:List T)) (m:=4) (fun _=>rfl) f117d
     have f117h:=z8Y (g:=fun x:Traits=>([.sc (.bool x.some_),.sc (.bool x.perms),.sc (.bool x.resets),.sc (.bool x.mixed)]:List T)) (m:=4) (fun _=>rfl) w92
     have f117k0:=f117g.2.2.1 0 (by decide)
     have f117m0:=f117g.2.2.2 0 _ rfl
     have f117k1:=f117g.2.2.1 1 (by decide)
     have f117m1:=f117g.2.2.2 1 _ rfl
     have f117k2:=f117g.2.2.1 2 (by decide)
     have f117m2:=f117g.2.2.2 2 _ rfl
     have f117k3:=f117g.2.2.1 3 (by decide)
     have f117m3:=f117g.2.2.2 3 _ rfl
     obtain⟨f117g,f117i,-⟩:=f117g
     try simp at f117i f117h f117k0 f117m0 f117k1 f117m1 f117k2 f117m2 f117k3 f117m3
     obtain⟨v98,f118,h10⟩:=z1n h9
     have f118k:L 75 [.vo ((v87.pre.length:Int).toNat*4) (w92.flatMap (fun x0:Traits=>([.sc (.bool x0.some_),.sc (.bool x0.perms),.sc (.bool x0.resets),.sc (.bool x0.mixed)]:List T))),(tI v96)]=some (.tup [],[.vo ((v87.pre.length:Int).toNat*4) ((w92.set (v87.pre.length:Int).toNat v98).flatMap (fun x0:Traits=>([.sc (.bool x0.some_),.sc (.bool x0.perms),.sc (.bool x0.resets),.sc (.bool x0.mixed)]:List T))),.dead]):=by obtain⟨q1,q2,q3⟩:=zAM (g:=(fun x0:Traits=>([.sc (.bool x0.some_),.sc (.bool x0.perms),.sc (.bool x0.resets),.sc (.bool x0.mixed)]:List T))) (m:=4) (fun _=>rfl) (v98) (k:=(v87.pre.length:Int).toNat) (by simpa using f117d);rw[q1,q2,←q3];exact z9g f118
     try simp at f118k
     have f118kl:=z8Y (g:=(fun x0:Traits=>([.sc (.bool x0.some_),.sc (.bool x0.perms),.sc (.bool x0.resets),.sc (.bool x0.mixed)]:List T))) (m:=4) (fun _=>rfl) (w92.set (v87.pre.length:Int).toNat v98)
     try simp at f118kl
     refine zr rfl rfl rfl (by simp[f117a,f117b,f117c,f117d,f117e,f117l,f117g,f117i,f117h,f117k0,f117k1,f117k2,f117k3,f117m0,f117m1,f117m2,f117m3,f118k,f118kl];rfl) ?_
     refine z2f (z0a (zs ?_))
     have ho:=z1K h10
     refine z2t ho ?_
     simp[z6b]
    ·rw[if_neg c115] at h7
     refine z7Q rfl (by simp[c115]) (z7S rfl (z6g ?_))
     obtain⟨rr3,h8,ho3⟩:=z3R h7
     have hs3:=hr3 _ ho3
     subst hs3
     refine z5a ho3 (z2n rfl (z2f (z0a (zs ?_))))
     have ho:=z1K h8
     refine z2t ho ?_
     simp[z6c]
   ·rw[if_neg c105] at h5
    refine z7Q rfl (by simp[c105]) (z7S rfl (z6g ?_))
    obtain⟨rr2,h6,ho2⟩:=z3R h5
    have hs2:=hr2 _ ho2
    subst hs2
    refine z5a ho2 (z2n rfl (z0a (zp ?_)))
    obtain⟨f119,h7⟩:=zzD h6
    refine zr rfl rfl rfl (by simp[f119];rfl) ?_
    refine z0a (zp (zp (zs ?_)))
    refine z0a (zb rfl (z6x h7 (z6a w74) rfl rfl (by simp[z6a]) fun s o4 h8 hr4=> ?_))
    obtain⟨w101,w102⟩:=s
    simp only[z6d] at h8
    simp only[z6a]
    refine zp (zs ?_)
    refine z0a (zp ?_)
    by_cases c128:w101<(w74.length:Int)
    ·rw[if_pos c128] at h8
     refine z7P rfl (by simp[c128]) (z5E rfl (z0a (zp (zb rfl (zp ?_)))))
     obtain⟨v106,f129,h9⟩:=z1n h8
     obtain⟨f129a,f129b,f129c,f129d,f129e⟩:=z7E f129
     have f129g:=z8H (g:=fun x:Traits=>([.sc (.bool x.some_),.sc (.bool x.perms),.sc (.bool x.resets),.sc (.bool x.mixed)]:List T)) (m:=4) (fun _=>rfl) f129d
     have f129h:=z8Y (g:=fun x:Traits=>([.sc (.bool x.some_),.sc (.bool x.perms),.sc (.bool x.resets),.sc (.bool x.mixed)]:List T)) (m:=4) (fun _=>rfl) w74
     have f129k0:=f129g.2.2.1 0 (by decide)
     have f129m0:=f129g.2.2.2 0 _ rfl
     have f129k1:=f129g.2.2.1 1 (by decide)
     have f129m1:=f129g.2.2.2 1 _ rfl
     have f129k2:=f129g.2.2.1 2 (by decide)
     have f129m2:=f129g.2.2.2 2 _ rfl
     have f129k3:=f129g.2.2.1 3 (by decide)
     have f129m3:=f129g.2.2.2 3 _ rfl
     obtain⟨f129g,f129i,-⟩:=f129g
     try simp at f129i f129h f129k0 f129m0 f129k1 f129m1 f129k2 f129m2 f129k3 f129m3
     refine zr rfl rfl rfl (by simp[f129a,f129b,f129c,f129d,f129e,f129g,f129i,f129h,f129k0,f129k1,f129k2,f129k3,f129m0,f129m1,f129m2,f129m3];rfl) ?_
     refine z0a ?_
     obtain⟨v107,f130,h10⟩:=z1n h9
     have f130k:=zac f130
     try simp at f130k
     obtain⟨v108,f131,h11⟩:=z6B h10
     refine zr rfl rfl rfl (by simp[f130k,f131];rfl) ?_
     refine z2f (z0a (zs ?_))
     have ho:=z1K h11
     refine z2t ho ?_
     simp[z6a]
    ·rw[if_neg c128] at h8
     refine z7Q rfl (by simp[c128]) (z7S rfl (z6g ?_))
     obtain⟨rr4,h9,ho4⟩:=z3R h8
     have hs4:=hr4 _ ho4
     subst hs4
     refine z5a ho4 (z2n rfl (z0a (zp (zs ?_))))
     refine z0a (zcx rfl ?_)
     cases h9
     simp
 ·rw[if_neg c67] at h1
  have c67e:=eq_false c67
  refine z7P rfl (by simp[c67e]) (zp (zs ?_))
  refine z0a (zcx rfl (z9N ?_))
  cases h1
  simp
instance{a0:Casc}:Ok (z3u a0) (fun r=>L 34 [.agg [.sc (.int .i64 a0.letters),(tI a0.sizes),.sl a0.rows.length (a0.rows.flatMap fun x0=> [(tI x0.pre),(tR x0.maps)])]]=some ((tO r),[.dead])):=⟨fun r h=>zet h⟩
end
end
section
open Go
set_option maxRecDepth 100000
theorem za4{α:Type}{xs:List α}{k:Nat}(d:α)(h:k<xs.length):atI xs (k:Int)=some (xs.getD k d):=by
 rw[z0Y h,List.getD,Z1 h,Z7]
theorem ztv(a b:Int):cmp_Compare_int a b=some (if a<b then-1 else if b<a then 1 else 0):=by
 simp[cmp_Compare_int,cmp_isNaN_int]
 split<;>(try split)<;>simp_all
theorem zzr(a b:Int):z9A [a,b]=some (if a≠0 then a else b):=by
 unfold z9A
 rw[z6m (s:=(0:Int)) 2 (fun k=>(k:Int)) (fun k=>decide (([a,b].getD k 0)≠0)) (fun k=>some ([a,b].getD k 0)) (x:=some 0) rfl (by simp only[LFm];omega)]
 · by_cases ha:a=0<;>by_cases hb:b=0<;>simp[List.range,List.range.loop,ha,hb]
 · intro k hk
   simp only[z8i]
   rw[if_pos (by simp;omega),za4 0 (by simpa using hk),z0V (by omega)]
   simp only[Z0]
   by_cases h: [a,b].getD k 0=0<;>simp[h]
 · simp[z8i]
theorem zdX:∀ {a b:List Int},a.length=b.length->z8M a b<0->∃k,k<a.length/\(∀j,j<k->a.getD j 0=b.getD j 0)/\a.getD k 0<b.getD k 0
 | [],[],_,h=>by simp[z8M] at h
 | [],_::_,h,_=>by simp at h
 |_::_,[],h,_=>by simp at h
 |x::a,y::b,hl,h=>by
  simp only[z8M] at h
  by_cases h1:x<y
  · exact⟨0,by simp,fun j hj=>by omega,by simpa using h1⟩
  · rw[if_neg h1] at h
    by_cases h2:y<x
    · rw[if_pos h2] at h;omega
    · rw[if_neg h2] at h
      obtain⟨k,k1,k2,k3⟩:=zdX (by simpa using hl) h
      refine⟨k+1,by simpa using k1,fun j hj=> ?_,by simpa using k3⟩
      match j,hj with
      |0,_=>simp only[X2];omega
      |j+1,hj=>simpa using k2 j (by omega)
theorem zpB(a b:List Int)(hl:a.length<=1000):∃v,z2F a b=some v/\(a.length=b.length->z8M a b<0->v= -1):=by
 unfold z2F
 rw[z6m (s:=(0:Int)) a.length (fun k=>(k:Int)) (fun k=>decide (b.length<=k)|| !decide (a.getD k 0=b.getD k 0)) (fun k=>some (if b.length<=k then 1 else if a.getD k 0<b.getD k 0 then-1 else 1)) (x:=some (if a.length<b.length then-1 else 0)) rfl (by simp only[LFm];omega) (fun k hk=> ?_) ?_]
 · cases hf:(List.range a.length).find? (fun k=>decide (b.length<=k)|| !decide (a.getD k 0=b.getD k 0)) with
   |none=>
    refine⟨_,rfl,fun he hlt=> ?_⟩
    obtain⟨k,k1,k2,k3⟩:=zdX he hlt
    have:=(List.find?_eq_none.1 hf) k (Zi.2 k1)
    simp only[Y2,decide_eq_true_eq,ZS,decide_eq_false_iff_not,not_or,Decidable.not_not] at this
    omega
   |some q=>
    refine⟨_,rfl,fun he hlt=> ?_⟩
    obtain⟨k,k1,k2,k3⟩:=zdX he hlt
    obtain⟨q1,q2,q3⟩:=YP.1 hf
    have q2:=Zi.1 q2
    simp only[Y2,decide_eq_true_eq,ZS,decide_eq_false_iff_not] at q1
    have e:q=k:=by
     rcases X6 q k with h|h|h
     · have:=k2 q h;omega
     · exact h
     · have:=q3 k h
       simp only[Bool.not_or,Z5,ZS,decide_eq_false_iff_not,XI,decide_eq_true_eq] at this
       omega
    subst e
    rw[if_neg (by omega),if_pos k3]
 · simp only[z2M]
   rw[if_neg (by omega)]
   by_cases h:a.length<b.length
   · rw[if_pos (by omega),if_pos h]
   · rw[if_neg (by omega),if_neg h]
 · simp only[z2M]
   rw[if_pos (by omega),za4 0 hk,Z0]
   by_cases hb:b.length<=k
   · rw[if_pos (by omega),if_pos (by simp[hb]),if_pos hb]
   · rw[if_neg (by omega),za4 0 (by omega),Z0,ztv,Z0]
     by_cases he:a.getD k 0=b.getD k 0
     · rw[if_neg (c:=a.getD k 0<b.getD k 0) (by omega),if_neg (c:=b.getD k 0<a.getD k 0) (by omega),if_pos rfl,z0V (by omega),if_neg (by simp only[Y2,decide_eq_true_eq,ZS,decide_eq_false_iff_not];omega)]
     · rw[if_pos (c:=(decide (b.length<=k)|| !decide (a.getD k 0=b.getD k 0))=true) (by simp only[Y2,decide_eq_true_eq,ZS,decide_eq_false_iff_not];omega),if_neg hb]
       by_cases h1:a.getD k 0<b.getD k 0
       · rw[if_pos h1,if_neg (by omega),if_pos h1]
       · rw[if_neg h1,if_pos (c:=b.getD k 0<a.getD k 0) (by omega),if_neg (by omega),if_neg h1]
theorem zuJ{a b:List Int}(hl:a.length<=1000)(h:za2 a b<0):∃v,z4i a b=some v/\v<0:=by
 obtain⟨v,v1,v2⟩:=zpB a b hl
 unfold z4i
 simp only[ztv,v1,Z0,zzr]
 refine⟨_,rfl,?_⟩
 unfold za2 at h
 by_cases h1:a.length<b.length
 · rw[if_pos (c:=(a.length:Int)<(b.length:Int)) (by omega),if_pos (by omega)];omega
 · rw[if_neg h1] at h
   by_cases h2:b.length<a.length
   · rw[if_pos h2] at h;omega
   · rw[if_neg h2] at h
     rw[if_neg (c:=(a.length:Int)<(b.length:Int)) (by omega),if_neg (c:=(b.length:Int)<(a.length:Int)) (by omega),if_neg (by simp),v2 (by omega) h]
     omega
structure CascG(c:Casc):Prop where
 l1:1<=c.letters
 l6:c.letters<=6
 s24:c.sizes.length<=24
 r48:c.rows.length<=48000
 sz:∀i,i<c.sizes.length->1<=c.sizes.getD i 0/\c.sizes.getD i 0<=32
 pre:∀r∈c.rows,r.pre.length<c.sizes.length/\ ∀j,j<r.pre.length->0<=r.pre.getD j 0/\r.pre.getD j 0<c.sizes.getD j 0
 maps:∀r∈c.rows,(r.maps.length:Int)=c.letters/\ ∀f∈r.maps,(f.length:Int)=c.sizes.getD r.pre.length 0/\ ∀x∈f,0<=x/\x<c.sizes.getD r.pre.length 0
 up:∀i,i+1<c.rows.length->za2 (c.rows.getD i ⟨[],[]⟩).pre (c.rows.getD (i+1) ⟨[],[]⟩).pre<0
variable{r:CRow}{c:Casc}{rs:List CRow}{i k:Nat}{α:Type}
theorem zx2{l:List Int}{j:Nat}(h:j<k):(l.take k).getD j 0=l.getD j 0:=by
 rw[List.getD,List.getD,X3 h]
theorem zuM(h:CascG c)(hr:r∈c.rows):z5r c r=some true:=by
 obtain⟨p1,p2⟩:=h.pre r hr
 obtain⟨m1,m2⟩:=h.maps r hr
 have s24:=h.s24
 have l6:=h.l6
 have⟨z1,z2⟩:=h.sz _ p1
 unfold z5r
 rw[if_neg (by omega),zcC (by omega),Z0]
 have e:z5N (c.sizes.take r.pre.length) r.pre=some true:=by
  unfold z5N
  rw[if_pos (by rw[Zo];omega)]
  refine z0q (s:=(0:Int)) r.pre.length (fun k=>(k:Int)) rfl (by simp only[LFm];omega) (fun k hk=> ?_) ?_
  · simp only[z5B]
    obtain⟨a1,a2⟩:=p2 k hk
    rw[if_pos (by omega),za4 0 hk,Z0,if_neg (by omega),za4 0 (by rw[Zo];omega),Z0,zx2 hk,if_neg (by omega),z0V (by omega)]
  · simp only[z5B]
    rw[if_neg (by omega)]
 rw[e,Z0,if_pos rfl,if_pos m1]
 refine z0q (s:=(0:Int)) r.maps.length (fun k=>(k:Int)) rfl (by simp only[LFm];omega) (fun k hk=> ?_) ?_
 · obtain⟨f1,f2⟩:=m2 _ (Zp hk)
   simp only[z5i]
   rw[if_pos (by omega),z0Y hk,Z0,za4 0 p1,Z0,if_pos f1]
   generalize r.maps[k]=f at f1 f2
   refine z0q (s:=(0:Int)) f.length (fun j=>(j:Int)) rfl (by simp only[LFm];omega) (fun j hj=> ?_) ?_
   · obtain⟨x1,x2⟩:=f2 _ (Zp hj)
     simp only[z4O]
     rw[if_pos (by omega),z0Y hj,Z0,if_neg (by omega),za4 0 p1,Z0,if_neg (by omega),z0V (by omega)]
   · simp only[z4O]
     rw[if_neg (by omega),z0V (by omega)]
 · simp only[z5i]
   rw[if_neg (by omega)]
theorem zuk(h:CascG c):z5s c=some 0:=by
 have l1:=h.l1
 have l6:=h.l6
 have s24:=h.s24
 have r48:=h.r48
 unfold z5s
 rw[if_neg (by omega),if_neg (by omega),if_neg (by omega),if_neg (by omega)]
 refine z0q (s:=(0:Int)) c.sizes.length (fun k=>(k:Int)) rfl (by simp only[LFm];omega) (fun k hk=> ?_) ?_
 · obtain⟨a1,a2⟩:=h.sz k hk
   simp only[z5k]
   rw[if_pos (by omega),za4 0 hk,Z0,if_neg (by omega),if_neg (by omega),z0V (by omega)]
 simp only[z5k]
 rw[if_neg (by omega)]
 congr 1
 refine z0q (s:=(0:Int)) c.rows.length (fun k=>(k:Int)) rfl (by simp only[LFm];omega) (fun k hk=> ?_) ?_
 · simp only[z4P]
   rw[if_pos (by omega),z0Y hk,Z0,zuM h (Zp hk),Z0,if_pos rfl]
   match k,hk with
   |0,_=>rw[if_neg (by simp)];rfl
   |k+1,hk=>
    have hp:=(h.pre _ (Zp (show k<c.rows.length by omega))).1
    have hu:=h.up k hk
    rw[List.getD,Z1 (show k<c.rows.length by omega),List.getD,Z1 hk,Z7,Z7] at hu
    obtain⟨v,v1,v2⟩:=zuJ (by omega) hu
    rw[if_pos (by omega),show IntKind.i64.wrap (((k+1:Nat):Int)-1)=(k:Int) by rw[z3f (by omega) (by omega)];omega,z0Y (show k<c.rows.length by omega),Z0,v1,Z0,if_neg (by omega),z0V (by omega)]
 · simp only[z4P]
   rw[if_neg (by omega)]
def idF:Nat->List Int->Bool
 |_,[]=>true
 |k,x::l=>decide ((k:Int)=x)&&idF (k+1) l
theorem zo4:∀(l:List Int) (k:Nat) (x:Int),idF k (l++ [x])=(idF k l&&decide (((k+l.length:Nat):Int)=x))
 | [],k,x=>by simp[idF]
 |y::l,k,x=>by
  simp only[ZM,idF,zo4 l (k+1) x,Zr,Bool.and_assoc]
  rw[show k+1+l.length=k+(l.length+1) by omega]
def eqF(h:Int)(l:List Int):Bool:=l.all fun x=>decide (x=h)
def ndF(l:List Int):Bool:=decide l.Nodup
theorem zvH(h:Int)(l:List Int)(x:Int):eqF h (l++ [x])=(eqF h l&&decide (x=h)):=by simp[eqF]
theorem zv3(l:List Int)(x:Int):ndF (l++ [x])=(ndF l&& !decide (x∈l)):=by
 unfold ndF
 rw[Y9]
 simp only[decide_eq_true_eq,Z5,ZS,decide_eq_false_iff_not,Ym]
 simp only[YB,List.not_mem_nil,not_false_eq_true,List.nodup_nil,and_self,true_and,Zh,forall_eq]
 constructor
 · rintro⟨h1,h2⟩;exact⟨h1,fun h=>h2 x h rfl⟩
 · rintro⟨h1,h2⟩;exact⟨h1,fun a ha e=>h2 (e▸ha)⟩
def mkT(t:Traits)(p c i:Bool):Traits:=⟨true,t.perms&&p,t.resets&&(c||i),t.mixed&&(p||c)⟩
def zkV(t:Traits)(m:List Int):Traits:=mkT t (ndF m) (eqF (m.getD 0 0) m) (idF 0 m)
theorem zyW{m:List α}(h:k<m.length):m.take (k+1)=m.take k++ [m[k]]:=ZB h
theorem zqh(t:Traits)(m:List Int)(hl:m.length<=32)(hm:∀x∈m,0<=x/\x<32):z2Z t m=some (zkV t m):=by
 unfold z2Z
 refine z0q m.length (fun k=>(idF 0 (m.take k),eqF (m.getD 0 0) (m.take k),ndF (m.take k),(k:Int),(List.range 32).map fun(v:Nat)=>decide ((v:Int)∈m.take k))) (by simp[idF,eqF,ndF];rfl) (by simp only[LFm];omega) (fun k hlt=> ?_) ?_
 · simp only[z3t]
   have hx:=hm m[k] (Zp hlt)
   have h0:atI m 0=some (m.getD 0 0):=za4 (k:=0) 0 (by omega)
   rw[zyW hlt,zo4,zvH,zv3,if_pos (by omega),z0Y hlt,Z0,z0V (by omega),h0,Zo,XL (by omega)]
   obtain⟨v,hv⟩:∃v:Nat,m[k]=v:=⟨m[k].toNat,by omega⟩
   rw[hv] at hx⊢
   have hmet:atI ((List.range 32).map fun(v:Nat)=>decide ((v:Int)∈m.take k)) (v:Int)=some (decide ((v:Int)∈m.take k)):=by
    rw[z0Y (by simp;omega)];simp
   have hset:((List.range 32).map fun(v:Nat)=>decide ((v:Int)∈m.take k)).set v true=(List.range 32).map fun(u:Nat)=>decide ((u:Int)∈m.take k++ [(v:Int)]):=by
    apply Ze (by simp)
    intro j h1 h2
    rw[Y6]
    by_cases e:v=j
    · subst e;simp
    · rw[if_neg e]
      have:¬(j:Int)=v:=by omega
      simp[this]
   simp only[Z2,hmet,Z0,hset,Zs]
   generalize idF 0 (m.take k)=bi
   generalize eqF (m.getD 0 0) (m.take k)=bc
   generalize ndF (m.take k)=bp
   cases bi<;>cases bc<;>cases bp<;>simp[chk,hx]
 · simp only[z3t]
   rw[if_neg (by omega),Yc]
   unfold zkV
   generalize idF 0 m=bi
   generalize eqF (m.getD 0 0) m=bc
   generalize ndF m=bp
   rcases t with⟨a,b,c,d⟩
   cases b<;>cases c<;>cases d<;>cases bi<;>cases bc<;>cases bp<;>rfl
def tr0:Traits:=⟨false,true,true,true⟩
def zoZ(i:Nat)(t:Traits)(r:CRow):Traits:=if r.pre.length=i then r.maps.foldl zkV t else t
def zic(rs:List CRow)(i:Nat):Traits:=rs.foldl (zoZ i) tr0
def zgZ(t:Traits):Int:=if t.some_=true then(if t.perms=true then 1 else if t.resets=true then 2 else if t.mixed=true then 3 else 4) else 0
def zkR(c:Casc):List Int:=(List.range c.sizes.length).map fun i=>zgZ (zic c.rows i)
theorem zxS(t:Traits):z5j t=some (zgZ t):=by
 rcases t with⟨a,b,c,d⟩
 cases a<;>cases b<;>cases c<;>cases d<;>rfl
theorem zfD(f:Nat->α)(n p:Nat)(v:α):((List.range n).map f).set p v=(List.range n).map fun i=>if i=p then v else f i:=by
 apply Ze (by simp)
 intro j h1 h2
 rw[Y6]
 by_cases e:p=j
 · subst e;simp
 · rw[if_neg e]
   have:¬j=p:=fun e'=>e e'.symm
   simp[this]
theorem zeV(f:Nat->α){n p:Nat}(h:p<n):atI ((List.range n).map f) (p:Int)=some (f p):=by
 rw[z0Y (by simpa using h)];simp
theorem zvl(h:CascG c)(hr:r∈c.rows):r.pre.length<c.sizes.length/\r.maps.length<=6/\ ∀m∈r.maps,m.length<=32/\ ∀x∈m,0<=x/\x<32:=by
 obtain⟨p1,_⟩:=h.pre r hr
 obtain⟨m1,m2⟩:=h.maps r hr
 have⟨z1,z2⟩:=h.sz _ p1
 have:=h.l6
 refine⟨p1,by omega,fun f hf=> ?_⟩
 obtain⟨f1,f2⟩:=m2 f hf
 exact⟨by omega,fun x hx=>by have:=f2 x hx;omega⟩
theorem zhX{β:Type}(f:β->α->β)(b:β)(l:List α)(h:k<l.length):(l.take (k+1)).foldl f b=f ((l.take k).foldl f b) l[k]:=by
 rw[zyW h,Yt];rfl
theorem zwb(h:CascG c):z3u c=some (zkR c):=by
 unfold z3u zkR
 rw[zuk h,Z0,if_pos rfl]
 have s1:=h.s24
 have r1:=h.r48
 rw[z0i _ (by unfold z0Q;omega)]
 have e0:(List.replicate (c.sizes.length:Int).toNat ((⟨false,false,false,false⟩:Traits):Traits))=(List.range c.sizes.length).map fun i=>if i<0 then tr0 else⟨false,false,false,false⟩:=by
  apply Ze (by simp)
  intro j h1 h2
  simp
 rw[e0]
 refine z0q c.sizes.length (fun k=>((k:Int),(List.range c.sizes.length).map fun i=>if i<k then tr0 else⟨false,false,false,false⟩)) rfl (by simp only[LFm];omega) (fun k hk=> ?_) ?_
 · simp only[z6w]
   rw[if_pos (by omega),zeV _ hk,Z0,z0V (by omega),Z2,zfD]
   congr 4
   funext i
   by_cases e:i=k
   · subst e;simp[tr0]
   · rw[if_neg e]
     by_cases e2:i<k
     · rw[if_pos e2,if_pos (by omega)]
     · rw[if_neg e2,if_neg (by omega)]
 simp only[z6w]
 rw[if_neg (by omega)]
 congr 1
 have e1:((List.range c.sizes.length).map fun i=>if i<c.sizes.length then tr0 else⟨false,false,false,false⟩)=(List.range c.sizes.length).map fun i=>zic (c.rows.take 0) i:=by
  apply Ze (by simp)
  intro j h1 h2
  have:j<c.sizes.length:=by simpa using h1
  simp[this,zic]
 rw[e1]
 refine z0q c.rows.length (fun k=>((k:Int),(List.range c.sizes.length).map fun i=>zic (c.rows.take k) i)) rfl (by simp only[LFm];omega) (fun k hk=> ?_) ?_
 · simp only[z6f]
   rw[if_pos (by omega),z0Y hk,Z0]
   obtain⟨q1,q2,q3⟩:=zvl h (Zp hk)
   obtain⟨f,hf⟩:∃f:Nat->Traits,∀i,zic (c.rows.take k) i=f i:=⟨_,fun _=>rfl⟩
   have hf':(fun i=>zic (c.rows.take k) i)=f:=funext hf
   have e2:(fun i=>zic (c.rows.take (k+1)) i)=fun i=>zoZ i (f i) c.rows[k]:=by
    funext i
    rw[←hf]
    unfold zic
    exact zhX _ _ _ hk
   rw[e2,hf']
   generalize c.rows[k]=r at q1 q2 q3⊢
   refine z0q r.maps.length (fun j=>((j:Int),(List.range c.sizes.length).map fun i=>if i=r.pre.length then(r.maps.take j).foldl zkV (f r.pre.length) else f i)) ?_ (by simp only[LFm];omega) (fun j hj=> ?_) ?_
   · simp only[X7,List.foldl_nil]
     congr 2
     funext i
     split
     · rename_i e;rw[e]
     · rfl
   · simp only[z6e]
     obtain⟨p1,p2⟩:=q3 _ (Zp hj)
     rw[if_pos (by omega),z0Y hj,Z0,zeV _ q1,Z0,if_pos rfl,zqh _ _ p1 p2,Z0,z0V (by omega),Z2,zfD,zhX _ _ _ hj]
     congr 4
     funext i
     by_cases e:i=r.pre.length
     · rw[if_pos e,if_pos e]
     · rw[if_neg e,if_neg e,if_neg e]
   · simp only[z6e]
     rw[if_neg (by omega),z0V (by omega),Yc]
     congr 4
     funext i
     unfold zoZ
     by_cases e:i=r.pre.length
     · subst e;simp
     · rw[if_neg e,if_neg (fun e'=>e e'.symm)]
 simp only[z6f]
 rw[if_neg (by omega),z0i _ (by unfold z0Q;simp;omega),Yc]
 congr 1
 obtain⟨f,hf⟩:∃f:Nat->Traits,∀i,zic c.rows i=f i:=⟨_,fun _=>rfl⟩
 simp only[hf]
 have e3:(List.replicate (((List.range c.sizes.length).map f).length:Int).toNat (0:Int))=(List.range c.sizes.length).map fun i=>if i<0 then zgZ (f i) else 0:=by
  apply Ze (by simp)
  intro j h1 h2
  simp
 rw[e3]
 refine z0q c.sizes.length (fun k=>((k:Int),(List.range c.sizes.length).map fun i=>if i<k then zgZ (f i) else 0)) rfl (by simp only[LFm];omega) (fun k hk=> ?_) ?_
 · simp only[z6d]
   rw[if_pos (by simp;omega),zeV _ hk,Z0,zxS,Z0,zeV _ hk,Z0,z0V (by omega),Z2,zfD]
   congr 4
   funext i
   by_cases e:i=k
   · subst e;simp
   · rw[if_neg e]
     by_cases e2:i<k
     · rw[if_pos e2,if_pos (by omega)]
     · rw[if_neg e2,if_neg (by omega)]
 simp only[z6d]
 rw[if_neg (by simp)]
 congr 2
 apply Ze (by simp)
 intro j h1 h2
 have:j<c.sizes.length:=by simpa using h1
 simp[this]
theorem zc9{P:Traits->Prop}(hs:∀t,P t->∀r∈rs,r.pre.length=i->∀f∈r.maps,P (zkV t f)){t:Traits}(h:P t):P (rs.foldl (zoZ i) t):=by
 induction rs generalizing t with
 |nil=>exact h
 |cons r rs ih=>
  rw[YL]
  refine ih (fun t ht q hq=>hs t ht q (Zl _ hq)) ?_
  unfold zoZ
  split
  · rename_i e
    have hm:=fun t ht=>hs t ht r (Zv ..) e
    generalize r.maps=l at hm
    induction l generalizing t with
    |nil=>exact h
    |cons f l ih2=>
     rw[YL]
     exact ih2 (hm t h f (Zv ..)) fun t ht g hg=>hm t ht g (Zl _ hg)
  · exact h
theorem zwY(hr:r∈rs)(e:r.pre.length=i)(hm:r.maps≠ []):(zic rs i).some_=true:=by
 obtain⟨a,b,rfl⟩:=List.append_of_mem hr
 unfold zic
 rw[Yt,YL]
 refine zc9 (P:=fun t=>t.some_=true) (fun t ht r _ _ f _=>rfl) ?_
 unfold zoZ
 rw[if_pos e]
 obtain⟨l,f,hl⟩:∃l f,r.maps=l++ [f]:=⟨_,_,(List.dropLast_concat_getLast hm).symm⟩
 rw[hl,Yt]
 rfl
theorem zvk(hr:r∈c.rows)(e:r.pre.length=i)(hm:r.maps≠ [])(hk:∀r∈c.rows,r.pre.length=i->∀f∈r.maps,ndF f=true∨eqF (f.getD 0 0) f=true):
 (1<=zgZ (zic c.rows i)/\zgZ (zic c.rows i)<=3)/\((∀r∈c.rows,r.pre.length=i->∀f∈r.maps,ndF f=true)->zgZ (zic c.rows i)=1)/\((∀r∈c.rows,r.pre.length=i->∀f∈r.maps,idF 0 f=true∨eqF (f.getD 0 0) f=true)->zgZ (zic c.rows i)≠3):=by
 have h1:=zwY hr e hm
 have h2:(zic c.rows i).mixed=true:=zc9 (P:=fun t=>t.mixed=true) (fun t ht r hr e f hf=>by
  rcases hk r hr e f hf with h|h<;>simp only[zkV,mkT,ht,h,YE,XG,XH]) rfl
 have h3:(∀r∈c.rows,r.pre.length=i->∀f∈r.maps,ndF f=true)->(zic c.rows i).perms=true:=fun ha=>zc9 (P:=fun t=>t.perms=true) (fun t ht r hr e f hf=>by simp only[zkV,mkT,ht,ha r hr e f hf,YE]) rfl
 have h4:(∀r∈c.rows,r.pre.length=i->∀f∈r.maps,idF 0 f=true∨eqF (f.getD 0 0) f=true)->(zic c.rows i).resets=true:=fun ha=>zc9 (P:=fun t=>t.resets=true) (fun t ht r hr e f hf=>by
  rcases ha r hr e f hf with h|h<;>simp only[zkV,mkT,ht,h,YE,XG,XH]) rfl
 unfold zgZ
 rw[if_pos h1,h2]
 refine⟨by split<;>(try split)<;>simp,fun ha=>by rw[if_pos (h3 ha)],fun ha=> ?_⟩
 rw[h4 ha]
 split<;>simp
end
section
open Go
set_option maxRecDepth 100000
def zu3(k:Nat)(rs:List (List Int)):Prop:=∀p,p<k->∀x∈rs.getD p [],(p:Int)<=x
theorem zcT{α:Type}{l:List α}{i p:Nat}{v z:α}(h:i<l.length):(l.set i v).getD p z=if p=i then v else l.getD p z:=by
 rw[List.getD,List.getD,Xv]
 by_cases e:i=p
 · subst e;rw[if_pos rfl,if_pos rfl,if_pos h];rfl
 · rw[if_neg e,if_neg (fun h=>e h.symm)]
theorem zmd{t:Tape}(ht:TapeOk t)(m most:Nat)(hm:1<=m/\m<=6)(hk:1<=most/\most<=1000):∃d t' n,z4b t m most=some (d,t')/\DfaOk d m n/\n<=most/\TapeOk t'/\zu3 n d.next:=by
 unfold z4b
 obtain⟨d,t1,n,e1,hd,hn,ht1⟩:=zwH ht m most hm hk
 simp only[e1,Z0]
 refine Exists.elim (z2e (b:=z4H (d,t1)) (fun z=>0<=z.1/\z.1<=n/\z.2.length=n/\(∀r∈z.2,z9Y m n r)/\zu3 z.1.toNat z.2) (fun z=>n+1-z.1.toNat) (fun r=>DfaOk r.1 m n/\TapeOk r.2/\zu3 n r.1.next) ?_ LFm (0,d.next) ⟨by simp,by simp,hd.nl,hd.row,fun p hp=>by simp at hp⟩ (by simp only[LFm];omega)) fun r h=>⟨r.1,r.2,n,h.1,h.2.1,hn,h.2.2.1,h.2.2.2⟩
 rintro⟨i,rs⟩ ⟨i0,i1,i2,i3,i4⟩
 simp only at i0 i1 i2 i3 i4⊢
 simp only[z4H,hd.nl]
 obtain⟨i,rfl⟩:=ZI i0
 rw[Z2] at i4
 by_cases hi:(i:Int)<n
 · left
   rw[if_pos hi,z0Y (by omega)]
   simp only[Z0]
   have hri:=zrU i3 (show i<rs.length by omega)
   refine Exists.elim (ziy (b:=z4G (i:Int) rs[i] _) (fun z=>0<=z.1/\z.1<=m/\z.2.length=n/\(∀r∈z.2,z9Y m n r)/\zu3 i z.2/\ ∀b:Nat,(b:Int)<z.1->(i:Int)<=(z.2.getD i []).getD b 0) (fun z=>m+1-z.1.toNat) (fun z=>z.1=(i:Int)+1/\z.2.length=n/\(∀r∈z.2,z9Y m n r)/\zu3 (i+1) z.2) (s:=(0,rs)) ⟨by simp,by simp,i2,i3,i4,fun b hb=>by simp only at hb;omega⟩ (by simp only[LFm];omega) ?_) fun r h=>⟨_,h.1,⟨by have:=h.2.1;omega,by have:=h.2.1;omega,h.2.2.1,h.2.2.2.1,by have:=h.2.1;rw[this,show((i:Int)+1).toNat=i+1 by omega];exact h.2.2.2.2⟩,by have:=h.2.1;omega⟩
   rintro⟨j,us⟩ ⟨j0,j1,j2,j3,j4,j5⟩
   simp only at j0 j1 j2 j3 j4 j5⊢
   obtain⟨j,rfl⟩:=ZI j0
   simp only[z4G,hri.1]
   rw[z0Y (by omega)]
   simp only[Z0]
   have hui:=zrU j3 (show i<us.length by omega)
   have hgi:us.getD i []=us[i]:=by rw[List.getD,Z1,Z7]
   by_cases hj:(j:Int)<m
   · left
     rw[if_pos hj,z0Y (by rw[hui.1];omega),z3f (by omega) (by omega)]
     simp only[Z0]
     refine⟨_,rfl,⟨by simp only;omega,by simp only;omega,by simp only[Xn];exact j2,znz j3 (zrT hui ?_ _) _,fun p hp x hx=> ?_,fun b hb=> ?_⟩,by simp only;omega⟩
     · have:=hui.2 _ (Zp (show j<us[i].length by rw[hui.1];omega))
       split<;>omega
     · simp only at hx
       rw[Z2,zcT (by omega),if_neg (by omega)] at hx
       exact j4 p hp x hx
     · simp only at hb⊢
       rw[Z2,zcT (by omega),if_pos rfl,Z2,zcT (by rw[hui.1];omega)]
       by_cases e:b=j
       · rw[if_pos e];split<;>omega
       · rw[if_neg e,←hgi];exact j5 b (by omega)
   · right
     rw[if_neg hj,z3f (by omega) (by omega)]
     refine⟨_,rfl,rfl,j2,j3,fun p hp x hx=> ?_⟩
     by_cases e:p=i
     · subst e
       simp only at hx
       rw[hgi] at hx j5
       obtain⟨b,hb,rfl⟩:=Zq hx
       have:=j5 b (by rw[hui.1] at hb;omega)
       rwa [List.getD,Z1 hb,Z7] at this
     · exact j4 p (by omega) x hx
 · right
   rw[if_neg hi]
   have e:n=i:=by omega
   exact⟨_,rfl,⟨hd.lt,hd.m1,hd.m6,hd.n1,hd.fin,by simp only;omega,by simp,by simp only;have:=hd.n1;omega,i3⟩,ht1,by rw[e];exact i4⟩
section
variable {d:DFA} {m n:Nat} (hd:DfaOk d m n) (hO:zu3 n d.next)
include hd hO
theorem zwu{q a:Nat}(hq:q<n)(ha:a<m):q<=nxN d q a:=by
 obtain⟨h1,h2,h3,h4,h5⟩:=z9O hd hq ha
 have:=hO q hq (d.next[q][a]) (by rw[List.getD,Z1 h1,Z7];exact Zp h2)
 unfold nxN
 have e:d.next.getD q []=d.next[q]:=by rw[List.getD,Z1 h1,Z7]
 rw[e,List.getD,Z1 h2,Z7]
 omega
theorem zme:∀ {w:List UInt8} {q:Nat},q<n->zhO m w->q<=z7V d q w
 | [],q,_,_=>Z8 _
 |c::w,q,hq,hw=>by
  have h1:=zwu hd hO hq (z9e hw).2
  obtain⟨_,_,_,h2⟩:=zsm hd hq (z9e hw).2
  have:=zme (w:=w) h2 (z9e hw).1
  rw[z7V];omega
theorem zxs{K:Nat}{w:List UInt8}(h:Lead d m n K K w):∀p,K.testBit p=true->z7V d p w=p:=by
 intro p
 induction p using Nat.strongRecOn with
 |_ p ih=>
  intro hp
  have hr:(z4r d K w).testBit p=true:=by rw[h.run];exact hp
  obtain⟨i,i1,i2,i3⟩:=(z8z hd h.hw h.hK).1 hr
  have hle:=zme hd hO i1 h.hw
  rcases Yu i p with hlt|hge
  · have:=ih i hlt i2;omega
  · have:i=p:=by omega
    rw[←this];rw[this] at i3⊢;exact i3
end
theorem zvt:∀ {T:List Nat},T.Nodup->T.map (fun t=>T.idxOf t)=List.range T.length:=fun {T} h=>by
 refine Ze (by simp) fun i h1 h2=> ?_
 have hi:i<T.length:=by simpa using h1
 rw[ZF,ZP]
 have hm:T[i]∈T:=Zp hi
 have e:=z3z hm
 have e2:T.getD i 0=T[i]:=by rw[List.getD,Z1 hi,Z7]
 exact z5h h (z6o hm) hi (by rw[e,e2])
section
variable {d:DFA} {m n:Nat} {S:List Nat} (hd:DfaOk d m n) (hn:n<=7) (hS:SetsP d m n S) (hO:zu3 n d.next)
include hd hn hS hO
end
end
section
open Go
set_option maxRecDepth 100000
variable{a i o:Nat}
section
variable {d:DFA} {m n:Nat} {S O:List Nat} (hd:DfaOk d m n) (hn:n<=7) (hS:SetsP d m n S)
include hd hn hS
theorem zwZ{t:Nat}(hi:i<S.length)(ht:t∈z7c S i):t∈tlR d m n S i:=by
 have:=znl (l:=tlR d m n S i) (r:=z7c S i) (f:=id) (by simpa using zcm hd hn hS hi) (fun x hx=>zfv hd hn hS hi (by simpa using hx)) (by rw[zev hd hn hS hi];exact Z8 _) ht
 simpa using this
theorem zmQ(ho:o<S.length)(hi:i<S.length)(h:clN d m n S o=clN d m n S i):∃v,Lead d m n (S.getD o 0) (S.getD i 0) v:=by
 have e:z5L d m n S o=z5L d m n S i:=by
  rw[←(zlg hd hn hS ho).2,←(zlg hd hn hS hi).2,h]
 have h1:=(zbj hd hn hS ho).1
 rw[e] at h1
 exact⟨_,z8p h1 (z8S hd hn hS hi).1⟩
theorem zou(ho:o<S.length)(ha:a<m)(h:clN d m n S (z8R d S o a)=clN d m n S o):Lead d m n (S.getD o 0) (S.getD (z8R d S o a) 0) [UInt8.ofNat (97+a)]:=by
 have:=hd.m6
 have e:(UInt8.ofNat (97+a)).toNat=97+a:=z7Z (by omega)
 obtain⟨h1,h2⟩:=zby hd hn hS ho ha
 obtain⟨v,hv⟩:=zmQ hd hn hS h1 ho h
 refine⟨fun c hc=> ?_,hS.lt _ (z0g ho),hS.lt _ (z0g h1),?_,hv.sz.symm⟩
 · rw[Zh.1 hc,e];omega
 · simp only[z4r,e,Y1]
   exact h2.symm
theorem zij{x:Nat}(ha:a<m):z4r d x [UInt8.ofNat (97+a)]=mvN d x a:=by
 have:=hd.m6
 have e:(UInt8.ofNat (97+a)).toNat=97+a:=z7Z (by omega)
 simp only[z4r,e,Y1]
theorem znN(ho:o<S.length)(ha:a<m)(h:clN d m n S (z8R d S o a)=clN d m n S o):((tlR d m n S o).map fun t=>ix0 (tlR d m n S (z8R d S o a)) (z8R d S t a)).Nodup:=by
 obtain⟨h1,h2⟩:=zby hd hn hS ho ha
 have l1:=zou hd hn hS ho ha h
 obtain⟨v,l2⟩:=zmQ hd hn hS h1 ho h
 have hin:∀t∈tlR d m n S o,z8R d S t a∈tlR d m n S (z8R d S o a):=fun t ht=>by
  have:=zid hd hn hS ho h1 l1 l2 (zfv hd hn hS ho ht)
  rw[zij hd hn hS ha] at this
  exact zwZ hd hn hS h1 this
 refine z5m (zcm hd hn hS ho) fun x hx y hy e=> ?_
 have mx:=hin x hx
 have my:=hin y hy
 unfold ix0 at e
 rw[if_pos mx,if_pos my] at e
 have e2:z8R d S x a=z8R d S y a:=by
  have a1:=z3z mx
  have a2:=z3z my
  rw[e,a2] at a1
  exact a1.symm
 obtain⟨x1,_,x3⟩:=z4e.1 (z4R (zfv hd hn hS ho hx)).1
 obtain⟨y1,_,y3⟩:=z4e.1 (z4R (zfv hd hn hS ho hy)).1
 have e3:mvN d (S.getD x 0) a=mvN d (S.getD y 0) a:=by
  rw[←(zby hd hn hS x1 ha).2,←(zby hd hn hS y1 ha).2,e2]
 exact z5h hS.nd x1 y1 (zb8 hd hn l1 x3 y3 (by rw[zij hd hn hS ha,zij hd hn hS ha];exact e3))
theorem zvo:∀ {l:List Nat},l.Nodup->l.map (fun t=>ix0 l t)=List.range l.length:=fun {l} h=>by
 rw[←zvt h]
 exact Zz fun t ht=>by unfold ix0;rw[if_pos ht]
theorem zvb(hR:zu3 n d.next)(ho:o<S.length)(ha:a<m)(h:clN d m n S (z8R d S o a)=clN d m n S o):((tlR d m n S o).map fun t=>ix0 (tlR d m n S (z8R d S o a)) (z8R d S t a))=List.range (tlR d m n S o).length:=by
 have:=hd.m6
 have el:(UInt8.ofNat (97+a)).toNat=97+a:=z7Z (by omega)
 obtain⟨h1,h2⟩:=zby hd hn hS ho ha
 have l1:=zou hd hn hS ho ha h
 obtain⟨v,l2⟩:=zmQ hd hn hS h1 ho h
 have l3:=z8p l1 l2
 have hlt:=hS.lt _ (z0g ho)
 have fx:∀p,(S.getD o 0).testBit p=true->nxN d p a=p:=fun p hp=>by
  have hpn:=zlp hlt hp
  have e:=zxs hd hR l3 p hp
  have b1:=zwu hd hR hpn ha
  obtain⟨_,_,_,b2⟩:=zsm hd hpn ha
  have b3:=zme hd hR b2 l2.hw
  simp only[X9,z7V,el,Y1] at e
  omega
 have mv:∀t,z7N t (S.getD o 0)->mvN d t a=t:=fun t ht=>by
  have htl:t<2^n:=YS (znn ht) hlt
  rw[←zij hd hn hS ha]
  refine ZQ fun p=> ?_
  rw[Y9,z8z hd l1.hw htl]
  simp only[z7V,el,Y1]
  constructor
  · rintro⟨i,i1,i2,i3⟩
    rw[fx i (z1Z.1 ht i i2)] at i3
    rw[←i3];exact i2
  · intro hp
    exact⟨p,zlp htl hp,hp,fx p (z1Z.1 ht p hp)⟩
 have ds:∀t,t<S.length->z7N (S.getD t 0) (S.getD o 0)->z8R d S t a=t:=fun t ht hs=>by
  obtain⟨d1,d2⟩:=zby hd hn hS ht ha
  rw[mv _ hs] at d2
  exact z5h hS.nd d1 ht d2
 rw[ds o ho (zaW _),←zvo hd hn hS (zcm hd hn hS ho)]
 refine Zz fun t ht=> ?_
 obtain⟨x1,_,x3⟩:=z4e.1 (z4R (zfv hd hn hS ho ht)).1
 rw[ds t x1 x3]
variable (hH:zgQ d m n S) (hO:OrdC d m n S O) (hpos:∀x∈S,x≠0)
include hH hO hpos
theorem zBw{c:Nat}(ho:o<S.length)(hi:i<S.length)(hc:c<O.length)(e1:cpN d m n S O i=c)(e2:cpN d m n S O o=c):clN d m n S i=clN d m n S o:=by
 rw[(zA8 hd hn hS hH hO hi hc).2 e1,(zA8 hd hn hS hH hO ho hc).2 e2]
theorem znO{c:Nat}(hc:c<O.length)(ho:o<S.length)(hi:i<S.length)(ha:a<m):((zeh d m n S O a c o i).Nodup/\(zu3 n d.next->zeh d m n S O a c o i=List.range (szO d m n S O c)))∨ ∃v,zeh d m n S O a c o i=List.replicate (szO d m n S O c) v:=by
 unfold zeh
 split
 · rename_i e
   split
   · rename_i e2
     obtain⟨e2,rfl⟩:=e2
     have hcl:=zBw hd hn hS hH hO hpos ho hi hc e e2
     have hz:=zfy hd hn hS hH hO ho (by omega)
     rw[e2] at hz
     exact .inl ⟨znN hd hn hS ho ha hcl,fun hR=>by rw[zvb hd hn hS hR ho ha hcl,hz]⟩
   · exact .inr ⟨_,rfl⟩
 · exact .inr ⟨_,rfl⟩
theorem zrs{a:Nat}:∀(x:List Nat) (c o i:Nat),o<S.length->i<S.length->c<=cpN d m n S O o->c<=cpN d m n S O i->c+x.length<=O.length->(∀j,j<x.length->x.getD j 0<szO d m n S O (c+j))->
 ∀j,j<x.length->∃o' i',o'<S.length/\i'<S.length/\((stN d m n S O a c o i x).map (·.2)).getD j []=zeh d m n S O a (c+j) o' i'
 | [],c,o,i,ho,hi,hco,hci,hl,hx,j,hj=>by simp at hj
 |s::x,c,o,i,ho,hi,hco,hci,hl,hx,j,hj=>by
  simp only[Zr] at hl
  have hcO:c<O.length:=by omega
  have hs:s<szO d m n S O c:=by simpa using hx 0 (by simp)
  have hy:=znQ hd hn hS hH hO hpos (a:=a) (s:=s) hcO ho hi
  obtain⟨o1,o2⟩:=zj2 hd hn hS hH hO hpos hcO ho hco hs
  obtain⟨i1,i2⟩:=zj2 hd hn hS hH hO hpos hcO hi hci hy
  match j,hj with
  |0,_=>exact⟨o,i,ho,hi,rfl⟩
  |j+1,hj=>
   obtain⟨o',i',p1,p2,p3⟩:=zrs (a:=a) x (c+1) _ _ o1 i1 o2 i2 (by omega) (fun j hj=>by have:=hx (j+1) (by simp;omega);simp only[Yj] at this;rwa [show c+1+j=c+(j+1) by omega]) j (by simpa using hj)
   refine⟨o',i',p1,p2,?_⟩
   rw[show c+(j+1)=c+1+j by omega,←p3]
   simp only[stN,Zn,Yj]
end
end
section
open Go
set_option maxRecDepth 100000
theorem zwg(l:List Nat)(k:Nat):(toI l).getD k 0=((l.getD k 0:Nat):Int):=by
 unfold toI
 rw[List.getD,Zc,List.getD]
 cases l[k]? <;>rfl
theorem zuI{f:List Nat->Nat->List (List Nat)}{L:Nat}{T:List (List Nat)}{W:List zaf}(h:RowsOk f L T W):W.length<=T.length*L:=by
 have h1:(W.map (·.1)).Nodup:=W4.2 h.nd
 have h2:=z7n (r:=T.flatMap fun x=>(List.range L).map fun i=>x.take i) h1 fun p hp=>by
  obtain⟨r,hr,rfl⟩:=Zj.1 hp
  obtain⟨x,hx,i,hi,rfl⟩:=h.of r hr
  exact List.mem_flatMap.2 ⟨x,hx,Zj.2 ⟨i,Zi.2 hi,rfl⟩⟩
 have h3:∀T:List (List Nat),(T.flatMap fun x=>(List.range L).map fun i=>x.take i).length=T.length*L:=fun T=>by
  induction T with
  |nil=>simp
  |cons x T ih=>rw[ZG,Zb,ih,Zg,ZC,Zr,Nat.succ_mul];omega
 rw[Zg,h3] at h2
 exact h2
theorem zsr{l:List Nat}(h:l.Nodup):ndF (toI l)=true:=by
 unfold ndF toI
 rw[decide_eq_true_eq]
 exact Yz _ (fun a b (hab:a≠b)=>by intro e;exact hab (by omega)) h
theorem ztm(k v:Nat):eqF ((toI (List.replicate k v)).getD 0 0) (toI (List.replicate k v))=true:=by
 unfold eqF toI
 rw[List.map_replicate,Zt]
 intro x hx
 obtain⟨h0,rfl⟩:=List.mem_replicate.1 hx
 rw[decide_eq_true_eq,List.getD,List.getElem?_replicate,if_pos (by omega)];rfl
theorem zsU:∀(k a:Nat),idF a (toI ((List.range' a k)))=true
 |0,_=>rfl
 |k+1,a=>by
  rw[List.range'_succ]
  show(decide ((a:Int)=(a:Int))&&idF (a+1) (toI (List.range' (a+1) k)))=true
  rw[zsU k (a+1)];simp
section
variable {d:DFA} {m n:Nat} {S O:List Nat} (hd:DfaOk d m n) (hn:n<=7) (hS:SetsP d m n S) (hH:zgQ d m n S) (hO:OrdC d m n S O) (hpos:∀x∈S,x≠0)
include hd hn hS hH hO hpos
theorem zut(h32:S.length<=32){c:Nat}(hc:c<O.length):szO d m n S O c<=32:=by
 have _u:=hH;have _w:=hpos
 unfold szO
 refine ZR (z7n (r:=List.range S.length) (zcn S _) fun x hx=>Zi.2 (z4e.1 (z4R hx).1).1) ?_
 rw[ZC];exact h32
theorem zxd(h0:0<S.length){x:List Nat}(hx:zd8 d m n S O x){i:Nat}(hi:i<O.length)(a:Nat):∃o' i',o'<S.length/\i'<S.length/\(z7X d m n S O a x).getD i []=zeh d m n S O a i o' i':=by
 obtain⟨x1,x2⟩:=hx
 obtain⟨o',i',p1,p2,p3⟩:=zrs hd hn hS hH hO hpos (a:=a) x 0 0 0 h0 h0 (Yw _) (Yw _) (by omega) (fun j hj=>by rw[Zs];exact x2 j (by omega)) i (by omega)
 rw[Zs] at p3
 exact⟨o',i',p1,p2,p3⟩
theorem zsK(h24:O.length<=24)(h32:S.length<=32)(h0:0<S.length){G:List Hol}{c:Cover}(h:CovOk d m n S O (zrz d m n S O) G c):
 ∃K,z3u c.casc=some K/\c.casc.sizes.length=O.length/\K.length=O.length/\ ∀i,i<O.length->(1<=K.getD i 0/\K.getD i 0<=3)/\(zu3 n d.next->K.getD i 0≠3)/\
  ((∀a x,a<m->zd8 d m n S O x->((z7X d m n S O a x).getD i []).Nodup)->K.getD i 0=1):=by
 obtain⟨T,Y,W,hT,_,_,hW,hR,rfl⟩:=h.ex
 have hst:=zaY hd hn hS hH hO hpos h0
 obtain⟨t1,t2,t3,t4⟩:=zjd hd hn hS hH hO hpos h0 _ _ _ _ (fun t h=>by rw[Zh.1 h];exact hst) (by simp) (by simp) hT
 have hm:=hd.m1
 have hne:z4E d m n S O∈T:=by
  obtain⟨X,hX⟩:=t4
  rw[hX];simp
 have hsz:∀i,(zrz d m n S O).getD i 0=if i<O.length then((szO d m n S O i:Nat):Int) else 0:=fun i=>by
  unfold zrz
  rw[zwg,List.getD,Zc]
  by_cases h:i<O.length
  · rw[if_pos h,XV h];rfl
  · rw[if_neg h,YJ (by simpa using h)];rfl
 have hsl:(zrz d m n S O).length=O.length:=by unfold zrz;simp[toI]
 have hmp:∀r∈W,r.1.length<O.length/\(∀j,j<r.1.length->r.1.getD j 0<szO d m n S O j)/\ ∃x∈T,r.2=z4t d m n S O x r.1.length:=fun r hr=>by
  obtain⟨x,hx,i,hi,rfl⟩:=hR.of r hr
  obtain⟨x1,x2⟩:=t1 x hx
  have hl:(x.take i).length=i:=by rw[Zo];omega
  refine⟨by simp only[hl];exact hi,fun j hj=> ?_,x,hx,by simp only[hl]⟩
  simp only[hl] at hj
  have e:(x.take i).getD j 0=x.getD j 0:=by rw[List.getD,List.getD,X3 hj]
  simp only[e]
  exact x2 j (by omega)
 have hmaps:∀r∈W,∀f∈r.2,∃a x,a<m/\zd8 d m n S O x/\f=(z7X d m n S O a x).getD r.1.length []/\ ∃o' i',o'<S.length/\i'<S.length/\f=zeh d m n S O a r.1.length o' i':=fun r hr f hf=>by
  obtain⟨h1,h2,x,hx,e⟩:=hmp r hr
  rw[e] at hf
  unfold z4t at hf
  obtain⟨a,ha,rfl⟩:=Zj.1 hf
  obtain⟨o',i',p1,p2,p3⟩:=zxd hd hn hS hH hO hpos h0 (t1 x hx) h1 a
  exact⟨a,x,Zi.1 ha,t1 x hx,rfl,o',i',p1,p2,p3⟩
 have hrl:=zuI hR
 have hgood:CascG ⟨d.letters,zrz d m n S O,W.map zc6⟩:=by
  refine⟨by show 1<=d.letters;rw[hd.lt];omega,by show d.letters<=6;rw[hd.lt];have:=hd.m6;omega,by simp only[hsl];exact h24,?_,fun i hi=> ?_,fun r0 hr0=> ?_,fun r0 hr0=> ?_,fun i hi=> ?_⟩
  · rw[Zg]
    have:=XQ t3 h24
    omega
  · simp only[hsl] at hi
    have:=zfz hd hn hS hH hO hpos hi
    have:=zut hd hn hS hH hO hpos h32 hi
    simp only[hsz,if_pos hi];omega
  · obtain⟨r,hr,rfl⟩:=Zj.1 hr0
    obtain⟨h1,h2,_⟩:=hmp r hr
    simp only[zc6,z0c,hsl]
    refine⟨h1,fun j hj=> ?_⟩
    have:=h2 j hj
    rw[zwg,hsz,if_pos (by omega)];omega
  · obtain⟨r,hr,rfl⟩:=Zj.1 hr0
    obtain⟨h1,_,x,_,e⟩:=hmp r hr
    simp only[zc6,z0c,hsz,if_pos h1,Zg]
    refine⟨by rw[e,hd.lt];simp[z4t],fun f hf=> ?_⟩
    obtain⟨g,hg,rfl⟩:=Zj.1 hf
    obtain⟨a,x,_,_,_,o',i',p1,p2,p3⟩:=hmaps r hr g hg
    obtain⟨q1,q2⟩:=zsz hd hn hS hH hO hpos (a:=a) h1 p1 p2
    rw[←p3] at q1 q2
    refine⟨by rw[z0c,q1],fun y hy=> ?_⟩
    obtain⟨z,hz,rfl⟩:=Zj.1 hy
    have:=q2 z hz
    omega
  · simp only[Zg] at hi
    have:=(ZH.1 hW) i (i+1) (by omega) hi (by omega)
    simp only[List.getD,Zc,Z1 hi,Z1 (show i<W.length by omega),ZO,Z7]
    exact this
 have hK:∀i,(zkR ⟨d.letters,zrz d m n S O,W.map zc6⟩).getD i 0=if i<O.length then zgZ (zic (W.map zc6) i) else 0:=fun i=>by
  unfold zkR
  simp only[hsl]
  rw[List.getD,Zc]
  by_cases h:i<O.length
  · rw[if_pos h,XV h];rfl
  · rw[if_neg h,YJ (by simpa using h)];rfl
 refine⟨_,zwb hgood,hsl,by unfold zkR;simp[hsl],fun i hi=> ?_⟩
 rw[hK,if_pos hi]
 obtain⟨r,hr,re⟩:=hR.al _ hne i hi
 have hsl2:=hst.1
 have rl:r.1.length=i:=by rw[re,Zo];omega
 have hrm:(zc6 r).maps≠ []:=by
  obtain⟨_,_,x,_,e⟩:=hmp r hr
  simp only[zc6,e,z4t,ne_eq,XU,List.range_eq_nil];omega
 have hall:∀P:List Int->Prop,(∀a x,a<m->zd8 d m n S O x->∀o' i',o'<S.length->i'<S.length->(z7X d m n S O a x).getD i []=zeh d m n S O a i o' i'->P (toI ((z7X d m n S O a x).getD i [])))->∀r∈W.map zc6,r.pre.length=i->∀f∈r.maps,P f:=fun P hP r0 hr0 e f hf=>by
  obtain⟨r,hr,rfl⟩:=Zj.1 hr0
  simp only[zc6,z0c] at e hf
  obtain⟨g,hg,rfl⟩:=Zj.1 hf
  obtain⟨a,x,ha,hx,e1,o',i',p1,p2,p3⟩:=hmaps r hr g hg
  rw[e] at e1 p3
  rw[e1]
  exact hP a x ha hx o' i' p1 p2 (by rw[←e1,p3])
 obtain⟨k1,k2,k3⟩:=zvk (c:=⟨d.letters,zrz d m n S O,W.map zc6⟩) (i:=i) (Zj.2 ⟨r,hr,rfl⟩) (by simp only[zc6,z0c];exact rl) hrm (hall _ fun a x ha hx o' i' p1 p2 e=>by
  rw[e]
  rcases znO hd hn hS hH hO hpos hi p1 p2 ha with h|⟨v,h⟩
  · exact .inl (zsr h.1)
  · rw[h];exact .inr (ztm _ _))
 refine⟨k1,fun hR=>k3 (hall _ fun a x ha hx o' i' p1 p2 e=> ?_),fun hP=>k2 (hall _ fun a x ha hx o' i' p1 p2 e=>zsr (hP a x ha hx))⟩
 rw[e]
 rcases znO hd hn hS hH hO hpos hi p1 p2 ha with h|⟨v,h⟩
 · rw[h.2 hR,List.range_eq_range'];exact .inl (zsU _ _)
 · rw[h];exact .inr (ztm _ _)
end
end
section
open Go
set_option maxRecDepth 100000
variable{p:List Nat}{c:Nat}
theorem zvw{d:DFA}{m n:Nat}{S:List Nat}{k:Nat}(h:0<z8e d m n S k):szN (S.getD k 0)≠1:=fun e=>by
 have hz:ze1 S k=true:=by unfold ze1;rw[decide_eq_true e]
 unfold z8e zo7 at h
 cases hN:S.length with
 |zero=>rw[hN] at h;simp[zvx] at h
 |succ N=>rw[hN] at h;simp only[zvx] at h;rw[if_pos hz] at h;omega
def mvL(p:List Nat)(s:Nat):Nat->Nat
 |0=>0
 |q+1=>if s.testBit q=true then mvL p s q|||2^p.getD q 0 else mvL p s q
def itL(p:List Nat):Nat->Nat->Nat
 |0,s=>s
 |k+1,s=>itL p k (mvL p s 5)
def zu6(x:Nat):Bool:=decide (szN x≠1)&&decide (x≠0)
def manL:List Nat:=(List.range 32).filter zu6
def gdB(p:List Nat)(A:Nat):Bool:=zu6 A&&zu6 (mvL p A 5)&&decide (mvL p A 5<32)&& !decide (mvL p A 5=A)&&(List.range 6).any fun k=>decide (itL p k (mvL p A 5)=A)
def okB(p:List Nat):Bool:= !decide (mvL p 31 5=31)||((List.range 5).all fun q=>decide (p.getD q 0=q))||(List.range 32).any fun A=>gdB p A&&(List.range 32).any fun B=>gdB p B&& !decide (A=B)&& !decide (A=mvL p B 5)&& !decide (mvL p A 5=B)&& !decide (mvL p A 5=mvL p B 5)
theorem zzu:((List.range 5).all fun a=>(List.range 5).all fun b=>(List.range 5).all fun c=>(List.range 5).all fun d=>(List.range 5).all fun e=>okB [a,b,c,d,e])=true:=by kernel_rfl
theorem zxI:manL.length=26:=by kernel_rfl
theorem zwV:((List.range 31).all fun u=>(List.range 31).all fun v=>decide ((manL.filter fun x=>decide (x=31)||decide (x&&&u=x)||decide (x&&&v=x)).length<=24))=true:=by kernel_rfl
theorem zCj:((List.range 5).all fun n=>decide (((List.range (2^n)).filter zu6).length<=11))=true:=by kernel_rfl
theorem zzU:((List.range 32).all fun x=>decide (mvL [0,1,2,3,4] x 5=x))=true:=by kernel_rfl
theorem zxy:((List.range 5).all fun q=> !zu6 (2^q))=true:=by kernel_rfl
theorem z7u{N:Nat}{p:Nat->Bool}(h:(List.range N).all p=true){x:Nat}(hx:x<N):p x=true:=Zt.1 h x (Zi.2 hx)
theorem zBl(h:p.length=5):p= [p.getD 0 0,p.getD 1 0,p.getD 2 0,p.getD 3 0,p.getD 4 0]:=by
 match p,h with
 | [_,_,_,_,_],_=>rfl
theorem zxz(h:p.length=5)(h5:∀q,q<5->p.getD q 0<5):okB p=true:=by
 rw[zBl h]
 exact z7u (z7u (z7u (z7u (z7u zzu (h5 0 (by omega))) (h5 1 (by omega))) (h5 2 (by omega))) (h5 3 (by omega))) (h5 4 (by omega))
section
variable {d:DFA} {m n:Nat} (hd:DfaOk d m n)
include hd
theorem zrR{P:Nat->Prop}(hs:∀x a,x<2^n->a<m->P x->P (mvN d x a)):∀(w:List UInt8) (s:Nat),s<2^n->(∀c∈w,97<=c.toNat/\c.toNat<97+m)->P s->P (z4r d s w)
 | [],s,_,_,h=>h
 |c::w,s,hl,hw,h=>by
  have hc:=hw c (Zv ..)
  exact zrR hs w _ (zbt hd (by omega)) (fun c' h'=>hw c' (Zl _ h')) (hs _ _ hl (by omega) h)
theorem znv{P:Nat->Prop}(h0:P (2^n-1))(h1:∀q,q<n->P (2^q))(hs:∀x a,x<2^n->a<m->P x->P (mvN d x a)):∀x∈z2x d m n,P x:=fun x hx=>by
 have hp:=Yp n
 have hr:=z6R hd (s:=2^n-1) (by omega)
 have hx:=(z9r _).mem_iff.1 hx
 rcases((z7v hr.nd n).2.1 x).1 hx with h|⟨i,hi,rfl⟩
 · obtain⟨k,hk,rfl⟩:=Zq h
   obtain⟨_,o2,o3⟩:=hr.ok k hk
   have e:(z1y d m n (2^n-1)).1[k]=(z1y d m n (2^n-1)).1.getD k 0:=by grind
   rw[e,←o3]
   exact zrR hd hs _ _ (by omega) o2 h0
 · exact h1 i hi
theorem zwL{a s:Nat}(ha:a<m):zqN d m (mvN d s a) s:=by
 have:=hd.m6
 have e:(UInt8.ofNat (97+a)).toNat=97+a:=z7Z (by omega)
 refine⟨[UInt8.ofNat (97+a)],fun c hc=> ?_,?_⟩
 · rw[Zh.1 hc,e];omega
 · simp only[z4r,e,Y1]
   exact zaW _
variable {S O:List Nat} (hS:SetsP d m n S) (hO:OrdC d m n S O)
include hS hO
theorem zcu(hc:c∈O):c<(z6M d m n S).length/\z2b d m n S c<S.length/\szN (S.getD (z2b d m n S c) 0)≠1:=by
 have h:=hO.prm.mem_iff.1 hc
 unfold zas at h
 obtain⟨h1,h2⟩:=ZW.1 h
 have h1:=Zi.1 h1
 exact⟨h1,zbw _ _ _ (z0g h1),zvw (of_decide_eq_true h2)⟩
theorem zrX{c':Nat}(hc:c∈O)(hc':c'∈O)(h1:zqN d m (S.getD (z2b d m n S c) 0) (S.getD (z2b d m n S c') 0))(h2:zqN d m (S.getD (z2b d m n S c') 0) (S.getD (z2b d m n S c) 0)):c=c':=by
 obtain⟨a1,a2,_⟩:=zcu hd hS hO hc
 obtain⟨b1,b2,_⟩:=zcu hd hS hO hc'
 have he:=z9x hd hS
 refine ziU he (zax he _ (Z8 _)) (zbw _ _) a2 a1 b1 (he.refl _ a2) ?_
 show z2u d m n S (z2b d m n S c) (z2b d m n S c')=true
 simp only[z2u,Z5]
 exact⟨(z4m hd hS b2).2 h1,(z4m hd hS a2).2 h2⟩
end
theorem zst{d:DFA}{a s:Nat}{p:List Nat}(hp:∀q,q<5->p.getD q 0=((d.next.getD q []).getD a 0).toNat):∀q,q<=5->zis d.next s a q=mvL p s q
 |0,_=>rfl
 |q+1,h=>by rw[zis,mvL,zst hp q (by omega),hp q (by omega)]
theorem zwM{d:DFA}{m a:Nat}(hd:DfaOk d m 5)(ha:a<m){p:List Nat}(hp:∀s,mvN d s a=mvL p s 5):∀(k s:Nat),zqN d m (itL p k s) s
 |0,s=>zd6 d m s
 |k+1,s=>by
  have h:=zwL hd (s:=s) ha
  rw[hp] at h
  exact zd5 hd (zwM hd ha hp k _) h
theorem zCt{d:DFA}{m:Nat}(hd:DfaOk d m 5)(hm:m<=2){R:List Nat}(hn:R.Nodup)(hR:∀x∈R,x∈z2x d m 5/\zu6 x=true)(h1:∀x∈R,∀y∈R,zqN d m x y->zqN d m y x->x=y):R.length<=24:=by
 have hS:=z7O hd
 have hml:∀x,x<32->zu6 x=true->x∈manL:=fun x hx h=>ZW.2 ⟨Zi.2 hx,h⟩
 have hlt:∀x∈R,x<32:=fun x hx=>hS.lt x (hR x hx).1
 by_cases hp:∃a,a<m/\mvN d 31 a=31/\ ∃q,q<5/\((d.next.getD q []).getD a 0).toNat≠q
 · obtain⟨a,ha,h31,q,hq,hne⟩:=hp
   obtain⟨p,hpd⟩:∃p,p=(List.range 5).map fun q=>((d.next.getD q []).getD a 0).toNat:=⟨_,rfl⟩
   have hpl:p.length=5:=by rw[hpd];rfl
   have hpq:∀q,q<5->p.getD q 0=((d.next.getD q []).getD a 0).toNat:=fun q hq=>by
    rw[hpd,List.getD,Zc,XV hq];rfl
   have hmv:∀s,mvN d s a=mvL p s 5:=fun s=>by
    unfold mvN
    rw[hd.nl]
    exact zst hpq 5 (by omega)
   have hok:=zxz hpl fun q hq=>by
    obtain⟨_,_,e,r0,r1⟩:=z9O hd hq ha
    rw[hpq q hq,e];omega
   unfold okB at hok
   rw[←hmv,h31] at hok
   have hnid:((List.range 5).all fun q=>decide (p.getD q 0=q))=false:=by
    rw[Bool.eq_false_iff]
    intro h
    have:=z7u h hq
    rw[decide_eq_true_eq,hpq q hq] at this
    exact hne this
   rw[hnid] at hok
   simp only[decide_true,Xh,Xi,Yh,Zi,Z5,ZS,decide_eq_false_iff_not] at hok
   obtain⟨A,hA,gA,B,hB,⟨⟨⟨gB,e1⟩,e2⟩,e3⟩,e4⟩:=hok
   have pick:∀A,A<32->gdB p A=true->∃x,(x=A∨x=mvL p A 5)/\x∉R/\x∈manL:=fun A hA g=>by
    unfold gdB at g
    simp only[Z5,Yh,Zi,decide_eq_true_eq,ZS,decide_eq_false_iff_not] at g
    obtain⟨⟨⟨⟨g1,g2⟩,g3⟩,g4⟩,k,hk,g5⟩:=g
    by_cases hr:A∈R
    · refine⟨_,.inr rfl,fun h=>g4 (h1 _ h _ hr ?_ ?_),hml _ g3 g2⟩
      · rw[←hmv];exact zwL hd ha
      · have:=zwM hd ha hmv k (mvL p A 5)
        rwa [g5] at this
    · exact⟨A,.inl rfl,hr,hml A hA g1⟩
   obtain⟨x,x1,x2,x3⟩:=pick A hA gA
   obtain⟨y,y1,y2,y3⟩:=pick B hB gB
   have hxy:x≠y:=by
    rcases x1 with rfl|rfl<;>rcases y1 with rfl|rfl<;>assumption
   have:=z7n (l:=x::y::R) (r:=manL) (by simp only[YB,Zw,not_or];exact⟨⟨hxy,x2⟩,y2,hn⟩) fun z hz=>by
    simp only[Zw] at hz
    rcases hz with rfl|rfl|hz
    · exact x3
    · exact y3
    · exact hml z (hlt z hz) (hR z hz).2
   rw[zxI] at this
   simp only[Zr] at this
   omega
 · have hid:∀a,a<m->mvN d 31 a=31->∀x,x<32->mvN d x a=x:=fun a ha h x hx=>by
    have hq:∀q,q<5->((d.next.getD q []).getD a 0).toNat=q:=fun q hq=>Decidable.byContradiction fun e=>hp ⟨a,ha,h,q,hq,e⟩
    have:=z7u zzU hx
    rw[decide_eq_true_eq] at this
    unfold mvN
    rw[hd.nl,zst (p:= [0,1,2,3,4]) (fun q h=> ?_) 5 (by omega),this]
    rw[hq q h]
    rcases(by omega:q=0∨q=1∨q=2∨q=3∨q=4) with rfl|rfl|rfl|rfl|rfl<;>rfl
   have hU:∀a,∃u,u<31/\(a<m->mvN d 31 a≠31->u=mvN d 31 a):=fun a=>by
    by_cases h:a<m/\mvN d 31 a≠31
    · have:=zbt hd (s:=31) h.1
      exact⟨mvN d 31 a,by have:=h.2;omega,fun _ _=>rfl⟩
    · exact⟨0,by omega,fun h1 h2=>absurd ⟨h1,h2⟩ h⟩
   obtain⟨u,u1,u2⟩:=hU 0
   obtain⟨v,v1,v2⟩:=hU 1
   have sub31:∀x,x<32->z7N x 31:=fun x hx=>by
    have:=Nat.and_two_pow_sub_one_eq_mod x 5
    unfold z7N
    rw[show(31:Nat)=2^5-1 from rfl,this,YZ hx]
   have hP:=znv hd (P:=fun x=>x=31∨(∃q,q<5/\x=2^q)∨x&&&u=x∨x&&&v=x) (.inl rfl) (fun q hq=>.inr (.inl ⟨q,hq,rfl⟩)) fun x a hx ha h=>by
    by_cases h31:mvN d 31 a=31
    · rw[hid a ha h31 x hx];exact h
    · have hs:=zss hd ha (sub31 x hx)
      unfold z7N at hs
      rcases(by omega:a=0∨a=1) with rfl|rfl
      · rw[u2 ha h31];exact .inr (.inr (.inl hs))
      · rw[v2 ha h31];exact .inr (.inr (.inr hs))
   have:=z7n (l:=R) (r:=manL.filter fun x=>decide (x=31)||decide (x&&&u=x)||decide (x&&&v=x)) hn fun x hx=>by
    obtain⟨r1,r2⟩:=hR x hx
    refine ZW.2 ⟨hml x (hlt x hx) r2,?_⟩
    rcases hP x r1 with h|⟨q,hq,rfl⟩|h|h
    · simp[h]
    · have:=z7u zxy hq
      rw[r2] at this
      simp at this
    · simp[h]
    · simp[h]
   have h24:=z7u (z7u zwV u1) v1
   rw[decide_eq_true_eq] at h24
   omega
theorem zxp{d:DFA}{m n:Nat}(hd:DfaOk d m n)(hn:n<=5)(hm:m<=2){O:List Nat}(hO:OrdC d m n (z2x d m n) O):O.length<=24:=by
 have hS:=z7O hd
 have hOn:O.Nodup:=hO.prm.nodup_iff.2 (YC.filter _)
 obtain⟨R,hRd⟩:∃R,R=O.map fun c=>(z2x d m n).getD (z2b d m n (z2x d m n) c) 0:=⟨_,rfl⟩
 have hl:R.length=O.length:=by rw[hRd,Zg]
 have hR:∀x∈R,x∈z2x d m n/\zu6 x=true:=fun x hx=>by
  rw[hRd] at hx
  obtain⟨c,hc,rfl⟩:=Zj.1 hx
  obtain⟨_,f2,f3⟩:=zcu hd hS hO hc
  have:=z0g f2
  exact⟨this,by unfold zu6;rw[decide_eq_true f3,decide_eq_true (zcr hd this)];rfl⟩
 have hRn:R.Nodup:=by
  rw[hRd]
  exact z5m hOn fun x hx y hy e=>zrX hd hS hO hx hy (by rw[e];exact zd6 ..) (by rw[e];exact zd6 ..)
 rw[←hl]
 by_cases h5:n=5
 · subst h5
   refine zCt hd hm hRn hR fun x hx y hy h1 h2=> ?_
   rw[hRd] at hx hy
   obtain⟨c,hc,rfl⟩:=Zj.1 hx
   obtain⟨c',hc',rfl⟩:=Zj.1 hy
   rw[zrX hd hS hO hc hc' h1 h2]
 · have:=z7n (r:=(List.range (2^n)).filter zu6) hRn fun x hx=>ZW.2 ⟨Zi.2 (hS.lt x (hR x hx).1),(hR x hx).2⟩
   have h4:=z7u zCj (show n<5 by omega)
   rw[decide_eq_true_eq] at h4
   omega
end
section
open Go
set_option maxRecDepth 100000
variable{U:List Nat}
theorem zkF{α:Type}[DecidableEq α]:∀ {l p:List α},l.Nodup->(∀a∈l,a∈p)->l.length<=p.length
 | [],_,_,_=>Yw _
 |a::l,p,h,hs=>by
  rw[YB] at h
  have ha:=hs a (by simp)
  have:=zkF (p:=p.erase a) h.2 fun b hb=>(List.mem_erase_of_ne (by rintro rfl;exact h.1 hb)).2 (hs b (Zl _ hb))
  have hl:=List.length_erase_of_mem ha
  have:=YT ha
  simp only[Zr]
  omega
def zvN(U:List Nat):Nat->Nat->List (List Nat)
 |0,_=> [[]]
 |f+1,x=> []::(U.filter fun y=>decide (y&&&x=y)&& !decide (y=x)).flatMap fun y=>(zvN U f y).map (y:: ·)
def zAh(U:List Nat):Nat->List Nat->Prop
 |_,[]=>True
 |x,y::l=>y∈U/\y&&&x=y/\y≠x/\zAh U y l
theorem ztt{U:List Nat}:∀ {f x:Nat} {l:List Nat},zAh U x l->l.length<=f->l∈zvN U f x
 |0,x,[],_,_=>by simp[zvN]
 |0,x,y::l,_,h=>by simp at h
 |f+1,x,[],_,_=>by simp[zvN]
 |f+1,x,y::l,h,hl=>by
  obtain⟨h1,h2,h3,h4⟩:=h
  simp only[zvN,Zw,List.mem_flatMap,ZW,Zj]
  refine .inr ⟨y,⟨h1,by simp[h2,h3]⟩,l,ztt h4 (by simpa using hl),rfl⟩
theorem zle{U V:List Nat}(hU:∀x∈U,x∈V):∀ {x:Nat} {l:List Nat},zAh U x l->zAh V x l
 |_,[],_=>trivial
 |_,_::_,⟨h1,h2,h3,h4⟩=>⟨hU _ h1,h2,h3,zle hU h4⟩
theorem znP{f:Nat->Nat}:∀ {X Y:List Nat},(∀a b,a∈X->b∈Y->f a=f b->a=b)->X.map f=Y.map f->X=Y
 | [],[],_,_=>rfl
 | [],_::_,_,h=>by simp at h
 |_::_,[],_,h=>by simp at h
 |x::X,y::Y,hf,h=>by
  simp only[Zn,XN] at h
  rw[hf x y (by simp) (by simp) h.1,znP (fun a b ha hb=>hf a b (Zl _ ha) (Zl _ hb)) h.2]
theorem zgK{y:Nat->List Nat}{P:List Nat->Prop}(hB:∀l:List (List Nat),l.Nodup->(∀t∈l,P t)->l.length<2000):∀(k a:Nat) (T:List (List Nat)),(∀b,a<=b->b<a+k->P (y b))->(∀t∈T,P t)->T.Nodup->∃T',zmW y k a T=some T'/\(∀t∈T',P t)/\T'.Nodup
 |0,a,T,_,hP,hn=>⟨T,rfl,hP,hn⟩
 |k+1,a,T,hy,hP,hn=>by
  simp only[zmW]
  by_cases h:y a∈T
  · rw[if_pos h]
    exact zgK hB k (a+1) T (fun b h1 h2=>hy b (by omega) (by omega)) hP hn
  · have:=hB T hn hP
    rw[if_neg h,if_neg (by omega)]
    refine zgK hB k (a+1) _ (fun b h1 h2=>hy b (by omega) (by omega)) (fun t ht=> ?_) (Ym.2 ⟨hn,by simp,fun u hu v hv=>by rw[Zh] at hv;subst hv;rintro rfl;exact h hu⟩)
    rcases Zf.1 ht with ht|ht
    · exact hP t ht
    · rw[Zh.1 ht];exact hy a (by omega) (by omega)
theorem zlq{st:Nat->List Nat->List Nat}{m:Nat}{P:List Nat->Prop}(hst:∀a x,a<m->P x->P (st a x))(hB:∀l:List (List Nat),l.Nodup->(∀t∈l,P t)->l.length<2000):∀(f i:Nat) (T:List (List Nat)),(∀t∈T,P t)->T.Nodup->∃T',zlB st m f i T=some T'
 |0,i,T,_,_=>⟨T,rfl⟩
 |f+1,i,T,hP,hn=>by
  simp only[zlB]
  by_cases h:i<T.length
  · rw[if_pos h]
    have hx:P (T.getD i []):=hP _ (by rw[List.getD,Z1 h];exact Zp h)
    obtain⟨T',e,h1,h2⟩:=zgK hB m 0 T (y:=fun a=>st a (T.getD i [])) (fun b _ hb=>hst b _ (by omega) hx) hP hn
    rw[e,Z0]
    exact zlq hst hB f (i+1) T' h1 h2
  · rw[if_neg h];exact⟨T,rfl⟩
def zw8(d:DFA)(m n:Nat)(S O:List Nat):Nat->Nat->List Nat->Prop
 |_,_,[]=>True
 |c,i,s::x=>(cpN d m n S O i≠c->s=0)/\zw8 d m n S O (c+1) (dnN d m n S O c i s) x
theorem zwl{d:DFA}{m n:Nat}{S O:List Nat}(a:Nat):∀(x:List Nat) (c o i:Nat),zw8 d m n S O c i ((stN d m n S O a c o i x).map (·.1))
 | [],_,_,_=>trivial
 |s::x,c,o,i=>by
  simp only[stN,Zn,zw8]
  refine⟨fun h=> ?_,zwl a x _ _ _⟩
  unfold zeh
  rw[if_neg h]
  simp only[List.getD,List.getElem?_replicate]
  split<;>rfl
theorem zwp{d:DFA}{m n:Nat}{S O:List Nat}(q:Nat):∀(k c i:Nat),zw8 d m n S O c i (srN d m n S O q k c i)
 |0,_,_=>trivial
 |k+1,c,i=>by
  simp only[srN,zw8]
  exact⟨fun h=>if_neg h,zwp q k _ _⟩
theorem zoA(d:DFA)(m n:Nat)(S O:List Nat):∀(y:List Nat) (c i:Nat),(za3 d m n S O c i y).length<=y.length
 | [],_,_=>by simp[za3]
 |s::y,c,i=>by
  have:=zoA d m n S O y (c+1) (dnN d m n S O c i s)
  simp only[za3,Zb,Zr]
  split<;>simp<;>omega
section
variable {d:DFA} {m n:Nat} {S O:List Nat} (hd:DfaOk d m n) (hn:n<=7) (hS:SetsP d m n S) (hH:zgQ d m n S) (hO:OrdC d m n S O) (hpos:∀x∈S,x≠0)
include hd hn hS hH hO hpos
theorem ztD:∀(y:List Nat) (c i:Nat),i<S.length->c<=cpN d m n S O i->c+y.length<=O.length->(∀j,j<y.length->y.getD j 0<szO d m n S O (c+j))->∀k∈za3 d m n S O c i y,k<S.length
 | [],c,i,_,_,_,_,k,hk=>by simp[za3] at hk
 |s::y,c,i,hi,hc,hl,hx,k,hk=>by
  simp only[Zr] at hl
  have hcO:c<O.length:=by omega
  have hs:s<szO d m n S O c:=by simpa using hx 0 (by simp)
  obtain⟨i1,i2⟩:=zj2 hd hn hS hH hO hpos hcO hi hc hs
  simp only[za3] at hk
  rcases Zf.1 hk with hk|hk
  · split at hk
    · rw[Zh.1 hk];exact i1
    · simp at hk
  · exact ztD y (c+1) _ i1 i2 (by omega) (fun j hj=>by have:=hx (j+1) (by simp;omega);simp only[Yj] at this;rwa [show c+1+j=c+(j+1) by omega]) k hk
theorem zrn:∀(x y:List Nat) (c i:Nat),x.length=y.length->i<S.length->c<=cpN d m n S O i->c+x.length<=O.length->(∀j,j<x.length->x.getD j 0<szO d m n S O (c+j))->(∀j,j<y.length->y.getD j 0<szO d m n S O (c+j))->
 zw8 d m n S O c i x->zw8 d m n S O c i y->za3 d m n S O c i x=za3 d m n S O c i y->x=y
 | [],[],_,_,_,_,_,_,_,_,_,_,_=>rfl
 | [],t::y,_,_,h,_,_,_,_,_,_,_,_=>by simp at h
 |s::x,[],_,_,h,_,_,_,_,_,_,_,_=>by simp at h
 |s::x,t::y,c,i,hl,hi,hc,hcl,hx,hy,h1,h2,he=>by
  simp only[Zr] at hl hcl
  have hcO:c<O.length:=by omega
  have hs:s<szO d m n S O c:=by simpa using hx 0 (by simp)
  have ht:t<szO d m n S O c:=by simpa using hy 0 (by simp)
  obtain⟨a1,a2⟩:=h1
  obtain⟨b1,b2⟩:=h2
  have hst:s=t:=by
   by_cases e:cpN d m n S O i=c
   · simp only[za3,if_pos e,X9,XN] at he
     have hz:=zfy hd hn hS hH hO hi (by omega)
     rw[e] at hz
     have he1:=he.1
     unfold dnN at he1
     rw[if_pos e,if_pos e] at he1
     exact z5h (zcm hd hn hS hi) (by omega) (by omega) he1
   · rw[a1 e,b1 e]
  subst hst
  obtain⟨i1,i2⟩:=zj2 hd hn hS hH hO hpos hcO hi hc hs
  have he2:za3 d m n S O (c+1) (dnN d m n S O c i s) x=za3 d m n S O (c+1) (dnN d m n S O c i s) y:=by
   simp only[za3] at he
   exact YQ he
  have sh:∀z:List Nat,(∀j,j<(s::z).length->(s::z).getD j 0<szO d m n S O (c+j))->∀j,j<z.length->z.getD j 0<szO d m n S O (c+1+j):=fun z hz j hj=>by
   have:=hz (j+1) (by simp;omega)
   simp only[Yj] at this
   rwa [show c+1+j=c+(j+1) by omega]
  rw[zrn x y (c+1) _ (by omega) i1 i2 (by omega) (sh x hx) (sh y hy) a2 b2 he2]
theorem ztE:∀(x:List Nat) (c i:Nat),i<S.length->c<=cpN d m n S O i->c+x.length<=O.length->(∀j,j<x.length->x.getD j 0<szO d m n S O (c+j))->zAh S (S.getD i 0) ((za3 d m n S O c i x).map fun k=>S.getD k 0)
 | [],_,_,_,_,_,_=>trivial
 |s::x,c,i,hi,hc,hcl,hx=>by
  simp only[Zr] at hcl
  have hcO:c<O.length:=by omega
  have hs:s<szO d m n S O c:=by simpa using hx 0 (by simp)
  obtain⟨i1,i2⟩:=zj2 hd hn hS hH hO hpos hcO hi hc hs
  have ih:=ztE x (c+1) _ i1 i2 (by omega) (fun j hj=>by
   have:=hx (j+1) (by simp;omega)
   simp only[Yj] at this
   rwa [show c+1+j=c+(j+1) by omega])
  by_cases e:cpN d m n S O i=c
  · have hz:=zfy hd hn hS hH hO hi (by omega)
    rw[e] at hz
    have hd1:dnN d m n S O c i s=(tlR d m n S i).getD s 0:=by unfold dnN;rw[if_pos e]
    have ht:=(zk4 hd hn hS hi (s:=s) (by omega)).1
    obtain⟨t1,t2,t3⟩:=z4e.1 (z4R ht).1
    simp only[za3,if_pos e,X9,Zn]
    refine⟨z0g i1,?_,fun h=> ?_,ih⟩
    · rw[hd1];exact t3
    · rw[hd1] at h;exact t2 (z5h hS.nd t1 hi h)
  · have hd1:dnN d m n S O c i s=i:=by unfold dnN;rw[if_neg e]
    simp only[za3,if_neg e,Y7]
    rw[hd1] at ih⊢
    exact ih
theorem zoX(h0:0<S.length)(h24:O.length<=24){N:Nat}(hU:∀x∈S,x∈U)(hN:(zvN U 24 (S.getD 0 0)).length<=N){l:List (List Nat)}(hl:l.Nodup)(hT:∀t∈l,zd8 d m n S O t/\zw8 d m n S O 0 0 t):l.length<=N:=by
 have h1:(l.map fun x=>(za3 d m n S O 0 0 x).map fun k=>S.getD k 0).Nodup:=by
  refine z5m hl fun x hx y hy e=> ?_
  obtain⟨⟨x1,x2⟩,x3⟩:=hT x hx
  obtain⟨⟨y1,y2⟩,y3⟩:=hT y hy
  have hx2:∀j,j<x.length->x.getD j 0<szO d m n S O (0+j):=fun j hj=>by rw[Zs];exact x2 j (by omega)
  have hy2:∀j,j<y.length->y.getD j 0<szO d m n S O (0+j):=fun j hj=>by rw[Zs];exact y2 j (by omega)
  refine zrn hd hn hS hH hO hpos x y 0 0 (by omega) h0 (Yw _) (by omega) hx2 hy2 x3 y3 ?_
  have lt:∀z:List Nat,z.length=O.length->(∀j,j<z.length->z.getD j 0<szO d m n S O (0+j))->∀k∈za3 d m n S O 0 0 z,k<S.length:=fun z hz h=>ztD hd hn hS hH hO hpos z 0 0 h0 (Yw _) (by omega) h
  have lx:=lt x x1 hx2
  have ly:=lt y y1 hy2
  generalize za3 d m n S O 0 0 x=X at e lx
  generalize za3 d m n S O 0 0 y=Y at e ly
  exact znP (fun a b ha hb e=>z5h hS.nd (lx a ha) (ly b hb) e) e
 have h2:=zkF (p:=zvN U 24 (S.getD 0 0)) h1 fun z hz=>by
  obtain⟨x,hx,rfl⟩:=Zj.1 hz
  obtain⟨⟨x1,x2⟩,x3⟩:=hT x hx
  refine ztt (zle hU (ztE hd hn hS hH hO hpos x 0 0 h0 (Yw _) (by omega) fun j hj=>by rw[Zs];exact x2 j (by omega))) ?_
  rw[Zg]
  have:=zoA d m n S O x 0 0
  omega
 rw[Zg] at h2
 omega
theorem zw0(h0:0<S.length)(h24:O.length<=24)(hU:∀x∈S,x∈U)(hN:(zvN U 24 (S.getD 0 0)).length<2000):∃T,zlB (z7G d m n S O) m 2001 0 [z4E d m n S O]=some T:=by
 refine zlq (P:=fun t=>zd8 d m n S O t/\zw8 d m n S O 0 0 t) (fun a x _ h=>⟨(zaX hd hn hS hH hO hpos h.1 h0).1,zwl a x 0 0 0⟩) (fun l hl hT=> ?_) 2001 0 _ (fun t ht=> ?_) (by simp)
 · exact YS (zoX hd hn hS hH hO hpos h0 h24 hU (Z8 _) hl hT) hN
 · rw[Zh.1 ht]
   exact⟨zaY hd hn hS hH hO hpos h0,zwp _ _ _ _⟩
end
theorem zyg:((List.range 6).all fun n=>decide ((zvN ((List.range (2^n)).filter fun x=> !decide (x=0)) 24 (2^n-1)).length<2000))=true:=by kernel_rfl
end
section
open Go
set_option maxRecDepth 100000
def zwc(n b:Nat)(rs:List (List Int)):Prop:=∀v:Nat,v<n->∃q:Nat,q<n/\(rs.getD q []).getD b 0=(v:Int)
theorem zrE{xs:List (List Int)}{p a:Nat}{v:Int}(hp:p<xs.length)(ha:a<xs[p].length)(q b:Nat):((xs.set p (xs[p].set a v)).getD q []).getD b 0=if p=q/\a=b then v else(xs.getD q []).getD b 0:=by
 rw[zcT hp]
 by_cases e:q=p
 · subst e
   rw[if_pos rfl,zcT ha]
   by_cases e2:b=a
   · rw[if_pos e2,if_pos ⟨rfl,e2.symm⟩]
   · rw[if_neg e2,if_neg (fun h=>e2 h.2.symm),show xs.getD q []=xs[q] by rw[List.getD,Z1 hp,Z7]]
 · rw[if_neg e,if_neg (fun h=>e h.1.symm)]
theorem zxF{l:List Int}{k:Nat}{v:Int}(hk:k<l.length)(h:v∈l):v∈l.take k++l.drop (k+1)∨l[k]=v:=by
 obtain⟨j,hj,rfl⟩:=Zq h
 by_cases e:j=k
 · subst e;exact .inr rfl
 · refine .inl (Zf.2 ?_)
   by_cases e2:j<k
   · exact .inl (List.mem_take_iff_getElem.2 ⟨j,by omega,rfl⟩)
   · exact .inr (List.mem_drop_iff_getElem.2 ⟨j-(k+1),by omega,by congr 1;omega⟩)
theorem zsb{t:Tape}(ht:TapeOk t)(m most:Nat)(hm:1<=m/\m<=6)(hk:1<=most/\most<=1000):∃d t' n,z2q t m most=some (d,t')/\DfaOk d m n/\n<=most/\TapeOk t'/\ ∀b,b<m->zwc n b d.next:=by
 unfold z2q
 obtain⟨v,t1,e1,v0,v1,ht1⟩:=z9Q ht (most:Int) (by omega) (by omega)
 simp only[e1,Z0]
 obtain⟨k,rfl⟩:=ZI v0
 have hw:IntKind.i64.wrap (1+(k:Int))=((k+1:Nat):Int):=by rw[z3f (by omega) (by omega)];omega
 rw[hw]
 obtain⟨s,t2,e2,s0,s1,ht2⟩:=z9Q ht1 ((k+1:Nat):Int) (by omega) (by omega)
 simp only[e2,Z0]
 refine Exists.elim (z2e (b:=z3j m ((k:Int),t1) (s,t2)) (fun z=>0<=z.1/\z.1<=(k+1:Nat)/\TapeOk ⟨z.2.1,z.2.2.1⟩/\(z.2.2.2.1.length:Int)=z.1/\(z.2.2.2.2.length:Int)=z.1/\ ∀r∈z.2.2.2.2,z9Y m (k+1) r) (fun z=>k+2-z.1.toNat)
  (fun r=>DfaOk r.1 m (k+1)/\TapeOk r.2/\ ∀b,b<m->zwc (k+1) b r.1.next) ?_ LFm (0,t2.l,t2.at_,[],[]) ⟨by simp,by simp;omega,ht2,by simp,by simp,by simp⟩ (by simp only[LFm];omega)) fun r h=>⟨r.1,r.2,k+1,h.1,h.2.1,by omega,h.2.2.1,h.2.2.2⟩
 rintro⟨i,tl,ta,fs,rs⟩ ⟨i0,i1,i2,i3,i4,i5⟩
 simp only at i0 i1 i2 i3 i4 i5⊢
 simp only[z3j,hw]
 by_cases hi:i<((k+1:Nat):Int)
 · left
   rw[if_pos hi]
   obtain⟨u,t3,e3,u0,u1,ht3⟩:=z9Q i2 2 (by omega) (by omega)
   simp only[e3,Z0]
   rw[z0i _ (by unfold z1V;omega),z0i _ (by unfold z0Q;omega),z0i _ (by unfold z1V;omega),z3f (by omega) (by omega)]
   refine⟨_,rfl,⟨by simp only;omega,by simp only;omega,ht3,by simp only[Zb,ZD];omega,by simp only[Zb,ZD];omega,fun y hy=> ?_⟩,by simp only;omega⟩
   rcases zeB.1 hy with h|rfl
   · exact i5 y h
   · exact zuL m (k+1) (by omega)
 · right
   rw[if_neg hi]
   refine Exists.elim (z2e (b:=z3i m ((k:Int),t1) (s,t2) fs) (fun z=>0<=z.1/\z.1<=m/\TapeOk ⟨z.2.1,z.2.2.1⟩/\z.2.2.2.length=k+1/\(∀r∈z.2.2.2,z9Y m (k+1) r)/\ ∀b:Nat,(b:Int)<z.1->zwc (k+1) b z.2.2.2) (fun z=>m+1-z.1.toNat)
    (fun r=>DfaOk r.1 m (k+1)/\TapeOk r.2/\ ∀b,b<m->zwc (k+1) b r.1.next) ?_ LFm (0,tl,ta,rs) ⟨by simp,by simp,i2,by simp only;omega,i5,fun b hb=>by simp only at hb;omega⟩ (by simp only[LFm];omega)) fun r h=>⟨r,by rw[h.1];rfl,h.2⟩
   rintro⟨a,ul,ua,us⟩ ⟨a0,a1,a2,a3,a4,a5⟩
   simp only at a0 a1 a2 a3 a4 a5⊢
   obtain⟨a,rfl⟩:=ZI a0
   simp only[z3i]
   by_cases ha:(a:Int)<m
   · left
     rw[if_pos ha]
     refine Exists.elim (ziy (b:=z2Q ((k:Int),t1) (a:Int) ul ua us) (fun z=>0<=z.1/\z.1<=(k+1:Nat)/\(z.2.length:Int)=z.1/\(∀x∈z.2,0<=x/\x<(k+1:Nat))/\ ∀v:Nat,(v:Int)<z.1->(v:Int)∈z.2) (fun z=>k+2-z.1.toNat)
      (fun z=>z.1=(a:Int)+1/\TapeOk ⟨z.2.1,z.2.2.1⟩/\z.2.2.2.length=k+1/\(∀r∈z.2.2.2,z9Y m (k+1) r)/\ ∀b:Nat,b<a+1->zwc (k+1) b z.2.2.2) (s:=(0,[])) ⟨by simp,by simp;omega,by simp,by simp,fun v hv=>by simp only at hv;omega⟩ (by simp only[LFm];omega) ?_) fun r h=>⟨_,h.1,⟨by have:=h.2.1;omega,by have:=h.2.1;omega,h.2.2.1,h.2.2.2.1,h.2.2.2.2.1,fun b hb=>h.2.2.2.2.2 b (by have:=h.2.1;omega)⟩,by have:=h.2.1;omega⟩
     rintro⟨q,left⟩ ⟨q0,q1,q2,q3,q4⟩
     simp only at q0 q1 q2 q3 q4⊢
     simp only[z2Q,hw]
     by_cases hq:q<((k+1:Nat):Int)
     · left
       rw[if_pos hq,z0i _ (by unfold z1V;omega),z3f (by omega) (by omega)]
       refine⟨_,rfl,⟨by simp only;omega,by simp only;omega,by simp only[Zb,ZD];omega,fun y hy=> ?_,fun v hv=> ?_⟩,by simp only;omega⟩
       · rcases zeB.1 hy with h|rfl
         · exact q3 y h
         · omega
       · simp only at hv
         by_cases e:(v:Int)<q
         · exact List.mem_append_left _ (q4 v e)
         · exact List.mem_append_right _ (Zh.2 (by omega))
     · right
       rw[if_neg hq]
       refine Exists.elim (ziy (b:=z2P ((k:Int),t1) (a:Int)) (fun z=>0<=z.1/\z.1<=(k+1:Nat)/\TapeOk ⟨z.2.1,z.2.2.1⟩/\z.2.2.2.1.length=k+1/\(∀r∈z.2.2.2.1,z9Y m (k+1) r)/\(z.2.2.2.2.length:Int)=(k+1:Nat)-z.1/\(∀x∈z.2.2.2.2,0<=x/\x<(k+1:Nat))/\(∀b:Nat,b<a->zwc (k+1) b z.2.2.2.1)/\ ∀v:Nat,v<k+1->(v:Int)∈z.2.2.2.2∨ ∃q:Nat,(q:Int)<z.1/\(z.2.2.2.1.getD q []).getD a 0=(v:Int)) (fun z=>k+2-z.1.toNat)
        (fun z=>z.1=(a:Int)+1/\TapeOk ⟨z.2.1,z.2.2.1⟩/\z.2.2.2.length=k+1/\(∀r∈z.2.2.2,z9Y m (k+1) r)/\ ∀b:Nat,b<a+1->zwc (k+1) b z.2.2.2) (s:=(0,ul,ua,us,left)) ⟨by simp,by simp;omega,a2,a3,a4,by simp only;omega,q3,fun b hb=>a5 b (by omega),fun v hv=>.inl (q4 v (by omega))⟩ (by simp only[LFm];omega) ?_) fun r h=>⟨r,by rw[h.1];rfl,h.2⟩
       rintro⟨p,xl,xa,xs,lf⟩ ⟨p0,p1,p2,p3,p4,p5,p6,p7,p8⟩
       simp only at p0 p1 p2 p3 p4 p5 p6 p7 p8⊢
       obtain⟨p,rfl⟩:=ZI p0
       simp only[z2P,hw]
       by_cases hp:(p:Int)<((k+1:Nat):Int)
       · left
         rw[if_pos hp]
         obtain⟨x,t4,e4,x0,x1,ht4⟩:=z9Q p2 (lf.length:Int) (by omega) (by omega)
         obtain⟨x,rfl⟩:=ZI x0
         have hrp:=zrU p4 (show p<xs.length by omega)
         have hlx:x<lf.length:=by omega
         simp only[e4,Z0]
         rw[z0Y (show p<xs.length by omega)]
         simp only[Z0]
         rw[z0Y hlx]
         simp only[Z0]
         rw[z0Y (show a<xs[p].length by rw[hrp.1];omega),z3f (x:=(x:Int)+1) (by omega) (by omega),zxl hlx]
         simp only[Z0]
         rw[zxk hlx]
         simp only[Z0]
         rw[z0i _ (by unfold z1V;simp only[Zo];omega),z0i _ (by unfold z1V;simp only[Zo,Yd];omega),z3f (by omega) (by omega)]
         refine⟨_,rfl,⟨by simp only;omega,by simp only;omega,ht4,by simp only[Xn];exact p3,znz p4 (zrT hrp (p6 _ (Zp hlx)) _) _,by simp only[Zb,Zo,Yd];omega,fun y hy=> ?_,fun b hb v hv=> ?_,fun v hv=> ?_⟩,by simp only;omega⟩
         · rcases Zf.1 hy with h|h
           · grind
           · grind
         · obtain⟨q,q1,q2⟩:=p7 b hb v hv
           refine⟨q,q1,?_⟩
           simp only[Z2]
           rw[zrE (by omega) (by rw[hrp.1];omega),if_neg (by omega)]
           exact q2
         · simp only[Z2]
           have hset:=fun q=>zrE (xs:=xs) (p:=p) (a:=a) (v:=lf[x]) (by omega) (by rw[hrp.1];omega) q a
           rcases p8 v hv with h|⟨q,q1,q2⟩
           · rcases zxF hlx h with h|h
             · exact .inl h
             · exact .inr ⟨p,by omega,by rw[hset,if_pos ⟨rfl,rfl⟩,h]⟩
           · exact .inr ⟨q,by omega,by rw[hset,if_neg (by omega)];exact q2⟩
       · right
         rw[if_neg hp,z3f (by omega) (by omega)]
         refine⟨_,rfl,rfl,p2,p3,p4,fun b hb v hv=> ?_⟩
         by_cases e:b=a
         · subst e
           rcases p8 v hv with h|⟨q,q1,q2⟩
           · have hl:lf.length=0:=by omega
             rw[List.length_eq_zero_iff.1 hl] at h
             simp at h
           · exact⟨q,by omega,q2⟩
         · exact p7 b (by omega) v hv
   · right
     rw[if_neg ha]
     exact⟨_,rfl,⟨rfl,hm.1,hm.2,by omega,by simp only;omega,a3,s0,s1,a4⟩,a2,fun b hb=>a5 b (by omega)⟩
end
section
open Go
set_option maxRecDepth 100000
theorem zxw:((List.range 7).all fun q=>decide (szN (2^q)=1))=true:=by kernel_rfl
section
variable {d:DFA} {m n:Nat} {O:List Nat} (hd:DfaOk d m n) (hn:n<=5) (hP:∀b,b<m->zwc n b d.next) (hO:OrdC d m n (z2x d m n) O)
include hd hn hP
theorem zkE{a:Nat}(ha:a<m):mvN d (2^n-1) a=2^n-1:=by
 have hlt:=zbt hd (s:=2^n-1) ha
 have hp:=Yp n
 refine ZQ fun p=> ?_
 rw[Y9,z9d hd ha,Xp]
 constructor
 · rintro⟨i,i1,i2,i3⟩
   obtain⟨_,_,e,r0,r1⟩:=z9O hd i1 ha
   rw[decide_eq_true_eq,←i3,e];omega
 · intro h
   have h:=of_decide_eq_true h
   obtain⟨q,q1,q2⟩:=hP a ha p h
   exact⟨q,q1,by rw[Xp,decide_eq_true q1],by rw[q2];rfl⟩
include hO
theorem zpR{i:Nat}(hi:i<O.length)(a:Nat)(x:List Nat)(ha:a<m)(hx:zd8 d m n (z2x d m n) O x):((z7X d m n (z2x d m n) O a x).getD i []).Nodup:=by
 have hS:=z7O hd
 obtain⟨h0,hfull⟩:=zbe hd (by omega)
 have hall:=znv hd (P:=fun x=>x=2^n-1∨ ∃q,q<n/\x=2^q) (.inl rfl) (fun q hq=>.inr ⟨q,hq,rfl⟩) fun x a hx ha h=>by
  rcases h with rfl|⟨q,hq,rfl⟩
  · exact .inl (zkE hd hn hP ha)
  · obtain⟨p,p1,p2⟩:=zwy hd hq ha
    exact .inr ⟨p,p1,p2⟩
 have hc:∀c∈O,c=clN d m n (z2x d m n) 0:=fun c hc=>by
  obtain⟨f1,f2,f3⟩:=zcu hd hS hO hc
  rcases hall _ (z0g f2) with h|⟨q,hq,h⟩
  · have e:=z5h hS.nd f2 h0 (by rw[h,hfull])
    rw[←e]
    exact(z2D hd (by omega) hS f1).1.symm
  · have:=z7u zxw (show q<7 by omega)
    rw[decide_eq_true_eq] at this
    rw[h] at f3
    exact absurd this f3
 have hOn:O.Nodup:=hO.prm.nodup_iff.2 (YC.filter _)
 have h1:O= [clN d m n (z2x d m n) 0]:=by
  match O,hi,hc,hOn with
  | [c],_,hc,_=>rw[hc c (by simp)]
  |c::c'::_,_,hc,hOn=>
   rw[YB] at hOn
   have e1:=hc c (by simp)
   have e2:=hc c' (by simp)
   rw[e1,←e2] at hOn
   exact absurd (by simp) hOn.1
 have hcp:cpN d m n (z2x d m n) O 0=0:=by
  unfold cpN
  rw[h1]
  simp
 have hds:z8R d (z2x d m n) 0 a=0:=by
  obtain⟨d1,d2⟩:=zby hd (by omega) hS h0 ha
  rw[hfull,zkE hd hn hP ha,←hfull] at d2
  exact z5h hS.nd d1 h0 d2
 have hi0:i=0:=by
  have:O.length=1:=by rw[h1];rfl
  omega
 subst hi0
 have hxl:=hx.1
 match x,hxl with
 | [],h=>simp only[Yg] at h;omega
 |s::x,_=>
  show(zeh d m n (z2x d m n) O a 0 0 0).Nodup
  unfold zeh
  rw[if_pos hcp,if_pos ⟨hcp,hds⟩]
  have:=znN hd (by omega) hS h0 ha (by rw[hds])
  rw[hds] at this
  exact this
end
theorem zgA{d:DFA}{m n:Nat}(hd:DfaOk d m n)(hn:n<=5)(hm:m<=2):∃c K,z4C d=some (c,0)/\z3u c.casc=some K/\K.length=c.casc.sizes.length/\K.length<=24/\ ∀i,i<K.length->(1<=K.getD i 0/\K.getD i 0<=3)/\(zu3 n d.next->K.getD i 0≠3)/\((∀b,b<m->zwc n b d.next)->K.getD i 0=1):=by
 have h32:=zz6 hd hn
 have hS:=z7O hd
 have hH:=zgm hd (by omega)
 have hpos:∀x∈z2x d m n,x≠0:=fun x hx=>zcr hd hx
 obtain⟨h0,hfull⟩:=zbe hd (by omega)
 obtain⟨O,hO,_,_,r,r1,r2⟩:=zA3 hd (by omega) (.inl hn) h32
 have h24:=zxp hd hn hm hO
 have hN:=z7u zyg (show n<6 by omega)
 rw[decide_eq_true_eq,←hfull] at hN
 obtain⟨T,hT⟩:=zw0 hd (by omega) hS hH hO hpos h0 h24 (fun x hx=>ZW.2 ⟨Zi.2 (hS.lt x hx),by simp[hpos x hx]⟩) hN
 rcases r2 with⟨h,_⟩|⟨_,⟨h,_⟩|⟨h,hc⟩⟩
 · omega
 · rw[hT] at h;cases h
 · obtain⟨K,k1,k2,k3,k4⟩:=zsK hd (by omega) hS hH hO hpos h24 h32 h0 hc
   obtain⟨c,e⟩:=r
   simp only at h
   subst h
   exact⟨c,K,r1,k1,by rw[k2,k3],by omega,fun i hi=>⟨(k4 i (by omega)).1,(k4 i (by omega)).2.1,fun hP=>(k4 i (by omega)).2.2 fun a x ha hx=>zpR hd hn hP hO (by omega) a x ha hx⟩⟩
end
end Go.Proofs.YtiobkcdgggbljaaGreatDoor
