/- Proved here: a part of the proof of the law at hand, in one text: no condition. -/
import Derived.Test.YtiobkcdgggbljaaGreatDoorMSI4
import Derived.KernelRfl
set_option linter.unusedVariables false
set_option linter.unusedSimpArgs false
set_option linter.unusedSectionVars false
set_option maxRecDepth 100000
set_option maxHeartbeats 6000000
namespace Go.Proofs.YtiobkcdgggbljaaGreatDoor
section
open Go Go.RowKit Go.Sort
variable{os:Array Obj}{x:List Int}{args outs:List T}{g n:Nat}{K:Nat->z0b}{r:T}{e:TypeId}{v:Value}{w w':World}{I:World->(Nat->z0b)->Prop}{c:z0b}
theorem z9n:∀x y:List Int,z8K y x= -z8K x y
 | [],[]=>by simp[z8K]
 | [],_::_=>by simp[z8K]
 |_::_,[]=>by simp[z8K]
 |a::x,b::y=>by
  have ih:=z9n x y
  simp only[z8K]
  by_cases h1:a<b
  · have h2:¬b<a:=by omega
    simp only[if_neg h2,if_pos h1];omega
  · by_cases h2:b<a
    · simp only[if_pos h2,if_neg h1]
    · simp only[if_neg h2,if_neg h1];exact ih
theorem z8T:∀x y z:List Int,z8K x y<=0->z8K y z<=0->z8K x z<=0/\(z8K x z=0->z8K x y=0/\z8K y z=0)
 | [],[],z,_,h2=>⟨h2,fun e=>⟨by simp[z8K],e⟩⟩
 | [],b::y,[],_,h2=>by simp[z8K] at h2
 | [],b::y,c::z,_,_=>by simp[z8K]
 |a::x,[],_,h1,_=>by simp[z8K] at h1
 |a::x,b::y,[],_,h2=>by simp[z8K] at h2
 |a::x,b::y,c::z,h1,h2=>by
  have ih:=z8T x y z
  simp only[z8K] at h1 h2⊢
  by_cases h3:a<b
  · by_cases h4:b<c
    · rw[if_pos (show a<c by omega)];exact⟨by omega,fun e=>by omega⟩
    · rw[if_neg h4] at h2
      by_cases h5:c<b
      · rw[if_pos h5] at h2;omega
      · rw[if_pos (show a<c by omega)];exact⟨by omega,fun e=>by omega⟩
  · rw[if_neg h3] at h1
    by_cases h4:b<a
    · rw[if_pos h4] at h1;omega
    · rw[if_neg h4] at h1
      have hab:a=b:=by omega
      subst hab
      by_cases h5:a<c
      · simp only[if_pos h5];exact⟨by omega,fun e=>by omega⟩
      · simp only[if_neg h5] at h2
        by_cases h6:c<a
        · simp only[if_pos h6] at h2;omega
        · simp only[if_neg h6] at h2
          simp only[if_neg h5,if_neg h6,if_neg h3,if_neg h4]
          exact ih h1 h2
theorem zgY(x:List Int):∀l:List (List Int),(zA1 x l).Perm (x::l)
 | []=>.refl _
 |y::l=>by
  unfold zA1
  split
  · exact .refl _
  · exact((zgY x l).cons y).trans (.swap x y l)
theorem z8M:∀l:List (List Int),(z9E l).Perm l
 | []=>.refl _
 |x::l=>(zgY x (z9E l)).trans ((z8M l).cons x)
abbrev zy3(l:List (List Int)):Prop:=l.Pairwise fun a b=>z8K a b<=0
theorem zgX(x:List Int):∀l:List (List Int),zy3 l->zy3 (zA1 x l)
 | [],_=>by simp[zA1]
 |y::l,h=>by
  unfold zA1
  rw[zy3,ZA] at h
  split
  · rename_i hxy
    refine ZA.2 ⟨fun z hz=> ?_,ZA.2 h⟩
    rcases Zv.1 hz with rfl|hz
    · exact hxy
    · exact(z8T _ _ _ hxy (h.1 z hz)).1
  · rename_i hxy
    refine ZA.2 ⟨fun z hz=> ?_,zgX x l h.2⟩
    rcases Zv.1 ((zgY x l).mem_iff.1 hz) with rfl|hz
    · rw[z9n];omega
    · exact h.1 z hz
theorem z9x:∀l:List (List Int),zy3 (z9E l)
 | []=>by simp[z9E]
 |x::l=>zgX x _ (z9x l)
theorem zwv{l r:List (List Int)}(h:l.Perm r)(h1:zy3 l)(h2:zy3 r):l=r:=by
 refine XB (le:=fun a b=>z8K a b<=0) (fun a b _ _ h3 h4=> ?_) h1 h2 h
 rw[z9n] at h4
 exact(z9m a b).1 (by omega)
def zlK(B:Nat)(K:Nat->z0b)(b:Nat):z0b:=if B<=b then [0] else K b
def rwN(n j:Nat):Nat:=if j<n then j else 0
def cfR(rows:List (List Int))(i j:Nat):Int:=z8K (rows.getD (rwN rows.length i) []) (rows.getD (rwN rows.length j) [])
theorem zG3(rows:List (List Int)):SWO (ltOf (cfR rows)) where
 irrefl x:=by
  unfold ltOf cfR
  rw[(z9m _ _).2 rfl];simp
 trans x y z h1 h2:=by
  unfold ltOf cfR at*
  simp only[decide_eq_true_eq] at*
  obtain⟨a,b⟩:=z8T _ _ _ (Int.le_of_lt h1) (Int.le_of_lt h2)
  rcases Int.lt_or_eq_of_le a with h|h
  · exact h
  · have:=(b h).1;omega
 ntrans x y z h1 h2:=by
  unfold ltOf cfR at*
  simp only[decide_eq_false_iff_not] at*
  rw[z9n] at h1 h2⊢
  have:=(z8T _ _ _ (show z8K (rows.getD (rwN rows.length z) []) (rows.getD (rwN rows.length y) [])<=0 by omega) (show z8K (rows.getD (rwN rows.length y) []) (rows.getD (rwN rows.length x) [])<=0 by omega)).1
  omega
theorem zmW{rows:List (List Int)}{d':Array Nat}(hp:PermIn 0 (List.range rows.length).toArray.size (List.range rows.length).toArray d')(hs:SortedIn (ltOf (cfR rows)) 0 (List.range rows.length).toArray.size d'):d'.size=rows.length/\(∀x∈d'.toList,x<rows.length)/\d'.toList.map (fun j=>rows.getD j [])=z9E rows:=by
 obtain⟨h1,_,h3⟩:=hp
 have hsz:d'.size=rows.length:=by simpa using h1
 have hp2:d'.toList.Perm (List.range rows.length):=by
  have:(d'.extract 0 (List.range rows.length).toArray.size).toList=d'.toList:=by
   rw[←h1];simp
  rw[this] at h3
  simp at h3
  exact h3
 have hlt:∀x∈d'.toList,x<rows.length:=fun x hx=>Zh.1 (hp2.mem_iff.1 hx)
 have e1:(List.range rows.length).map (fun j=>rows.getD j [])=rows:=by
  refine Ze (by simp) fun i h1 h2=> ?_
  simp[List.getD,h2]
 refine⟨hsz,hlt,zwv ?_ ?_ (z9x rows)⟩
 · have:=hp2.map (fun j=>rows.getD j [])
   rw[e1] at this
   exact this.trans (z8M rows).symm
 · rw[zy3,ZE]
   intro i j hi hj hij
   simp only[Z8,ZX] at hi hj
   have:=hs i j (by omega) hij (by simp;omega)
   rw[getElem!_pos d' i hi,getElem!_pos d' j hj] at this
   unfold ltOf cfR rwN at this
   simp only[decide_eq_false_iff_not] at this
   have l1:=hlt d'[i] (by simp)
   have l2:=hlt d'[j] (by simp)
   rw[if_pos l1,if_pos l2,z9n] at this
   simp only[ZF,X1]
   omega
theorem z9X{α:Type}[Inhabited α]{enc:α->Value}{cur:Array Value}{fr:Nat×Nat}(d:Array α)(hb:w.heap[g]? =some (.cells cur e fr)):(sortWorld enc w g 0 n d os).heap[g]? =some (.cells (putCells enc 0 d cur) e fr):=by
 unfold sortWorld
 rw[heap_grow_old _ _ (by rw[size_putRow];exact z1d hb)]
 simp[putRow,mapBlock,Sort.ahead,Ye,hb,onCells]
theorem z6m{α:Type}[Inhabited α]{enc:α->Value}(d:Array α){b:Nat}(hb:b<w.heap.size)(hne:b≠g):(sortWorld enc w g 0 n d os).heap[b]? =w.heap[b]? :=by
 unfold sortWorld
 rw[heap_grow_old _ _ (by rw[size_putRow];exact hb)]
 simp[putRow,mapBlock,Sort.ahead,Ye,Ne.symm hne]
theorem z7n{α:Type}[Inhabited α]{enc:α->Value}(d:Array α):w.heap.size<=(sortWorld enc w g 0 n d os).heap.size:=by
 unfold sortWorld
 rw[size_grow,size_putRow]
 show w.heap.size<=w.heap.size+_
 omega
theorem zbD{K':Nat->z0b}{c':z0b}(h:TRep w K c v (zhS x))(hk:∀b,b<w.heap.size->K b= []->K' b= []/\w'.heap[b]? =w.heap[b]?)(hs:w.heap.size<=w'.heap.size):TRep w' K' c' v (zhS x)/\IntsAt w' v x:=by
 unfold zhS at*
 generalize hT:T.sl x.length (x.map fun z=>T.sc (.int .i64 z))=t at h
 cases h with
 |emp c a cap hc=>
  injection hT with e1 e2
  have:x= []:=Y3 e1
  subst this
  exact⟨.emp c' a cap hc,a,cap,rfl,by simp,hc,fun j hj=>by simp at hj⟩
 |fro c g o n cap cs F hK hg hn hc hF hh=>
  injection hT with e1 e2
  subst e1 e2
  obtain⟨k1,k2⟩:=hk g hg hK
  have hcell:∀j,j<x.length->w'.cell? ⟨g,o+j,none⟩=some (F j):=fun j hj=>by
   rw[z1p k2];exact hF j (by simpa using hj)
  have hv:∀j (hj:j<x.length),F j= .int .i64 (x.getD j 0):=fun j hj=>by
   have:=hh j (.sc (.int .i64 x[j])) (by simp[hj])
   rw[this.sc_eq,List.getD,Z1 hj,Z4]
  refine⟨.fro c' g o _ cap _ F k1 (by omega) hn hc (fun j hj=>hcell j (by simpa using hj)) (fun j t ht=> ?_),some ⟨g,o,none⟩,cap,rfl,hn,hc,fun j hj=>⟨g,o,rfl,by rw[hcell j hj,hv j hj]⟩⟩
  have:=hh j t ht
  simp only[Zd,Z6] at ht
  obtain⟨z,hz,rfl⟩:=ht
  rw[this.sc_eq]
  exact .sc _ _ rfl
 |_=>cases hT
theorem zoA(h:TRep w K c v (zhS x)):v.oneCell'=true:=by
 unfold zhS at h
 generalize hT:T.sl x.length (x.map fun z=>T.sc (.int .i64 z))=t at h
 cases h with
 |emp=>rfl
 |fro=>rfl
 |_=>cases hT
theorem zmF(h:zyR 101 args=some (r,outs)):CallOk Tryz.prog I 100 args r outs:=by
 unfold zyR at h
 split at h
 case h_2=>cases h
 rename_i n cs f fs gs
 split at h
 case isFalse=>cases h
 rename_i hfg
 obtain⟨rfl,hfs,hgs⟩:=hfg
 simp only[Xf] at hfs hgs
 subst hfs hgs
 split at h
 case h_2=>cases h
 rename_i xs hxs
 split at h
 case isFalse=>cases h
 rename_i hn
 subst hn
 unfold zpW at h
 split at h
 case isFalse=>cases h
 rename_i hc
 obtain⟨hne,hlen⟩:=hc
 obtain⟨rfl,rfl⟩:T.tup []=r/\ [T.os 1 (z9E xs).length ((z9E xs).map zhS),.dead]=outs:=by simpa using h
 have hcs:=zlt hxs
 subst hcs
 clear h hxs
 refine⟨fun vals w=> ?_,fun w K vals hs ha hI=> ?_⟩
 · have hb:∃c,Tryz.f100.body=some c:=⟨_,rfl⟩
   obtain⟨c,hb⟩:=hb
   have hname:Tryz.f100.name≠ "runtime.NumGoroutine" :=by decide
   simp[callFunc,program,Sem.run,Tryz.func100,hname,hb]
 · obtain⟨v,u,rfl⟩:∃v u,vals= #[v,u]:=by
    obtain⟨l⟩:=vals
    match l,hs with
    | [v,u],_=>exact⟨v,u,rfl⟩
   have hv:TRep w K (col 0) v (.os 1 xs.length (xs.map zhS)):=ha 0 _ rfl
   have hu:TRep w K [] u (.sc (.func (.func 101) #[] #[])):=ha 1 _ rfl
   rw[hu.sc_eq]
   clear hu ha
   have hl0:0<xs.length:=ZJ.2 hne
   generalize hT:T.os 1 xs.length (xs.map zhS)=t at hv
   cases hv with
   |nil=>injection hT with _ e _;omega
   |own c g n cap size cs arr e fz F hfz hc0 hK hg hsz hl hz hn hcap hF hh=>
    injection hT with e1 e2 e3
    subst e1 e2 e3
    have hrow:∀j,j<xs.length->TRep w K (col 0++ [j]) (F j) (zhS (xs.getD j [])):=fun j hj=>by
     have:=hh j (zhS xs[j]) (by simp[hj])
     rwa [List.getD,Z1 hj,Z4]
    have hcell:∀j,j<xs.length->arr[j]? =some (F j):=fun j hj=>hF j (by simpa using hj)
    let enc:Nat->Value:=fun j=>F (rwN xs.length j)
    have hdg:∀j,j<xs.length->(List.range xs.length).toArray[j]! =j:=fun j hj=>by
     rw[getElem!_pos _ j (by simpa using hj)];simp
    have hH:Holds enc w g 0 (List.range xs.length).toArray:=fun j hj=>by
     have hj':j<xs.length:=by simpa using hj
     constructor
     · rw[Zt,z4o hg,hcell j hj',hdg j hj']
       show some (F j)=some (F (rwN xs.length j))
       rw[rwN,if_pos hj']
     · unfold World.frozen?
       rw[Zt]
       simp only[hg]
       have:=hfz j (by omega)
       obtain⟨lo,hi⟩:=fz
       simp only at this⊢
       simp only[YJ,decide_eq_false_iff_not]
       omega
    have eg:∀args w,(callFunc 101 args).run Tryz.prog w= .ok (.enter 101 args) w:=enters_of Tryz.func101 (by kernel_rfl) rfl
    have hlay:∀(d:Array Nat) (m:Nat) (os:Array Obj) (b:Nat),b<w.heap.size->K b= []->K b= []/\(sortWorld enc w g 0 m d os).heap[b]? =w.heap[b]? :=fun d m os b hb hk=>⟨hk,z6m d hb (by rintro rfl;rw[hK] at hk;simp[col] at hk)⟩
    have hrw:∀j,rwN xs.length j<xs.length:=fun j=>by unfold rwN;split<;>omega
    have hcmp:CmpLays1 Tryz.prog 101 #[] enc (cfR xs) g 0 (List.range xs.length).toArray.size w:=fun m os dk _ x y=>by
     refine(zd6 (enc x) (enc y) _ _ _ (zbD (c':= []) (hrow _ (hrw x)) (hlay dk m os) (z7n dk)).2 (zbD (c':= []) (hrow _ (hrw y)) (hlay dk m os) (z7n dk)).2).mono ?_
     rintro e' w' ⟨he,hw⟩
     exact⟨he,0,#[],by rw[←hw,grow_empty];rfl⟩
    have hcon:=Tryz.slices_SortFunc_f100 enc (fun j=>zoA (hrow _ (hrw j))) (cfR xs) (zG3 xs) 101 #[] g 0 cap (List.range xs.length).toArray w eg hcmp hH (z1d hg) (by simpa using hlen)
    have hsize:(List.range xs.length).toArray.size=xs.length:=by simp
    rw[hsize] at hcon
    refine hcon.mono fun e' w' ⟨he,d',m,os,hp,hso,hw⟩=> ?_
    subst hw
    obtain⟨hd,hdl,hsort⟩:=zmW (by rw[hsize];exact hp) (by rw[hsize];exact hso)
    have hys:(z9E xs).length=xs.length:=(z8M xs).length_eq
    refine⟨.tuple #[],zlK w.heap.size K,he,?_,fun i t hi hio=> ?_,rfl,rfl,rfl,z7n d',fun b hb hcb=>⟨by unfold zlK;rw[if_neg (by omega)],z6m d' hb ?_⟩,?_⟩
    · exact .tup _ #[] [] (fun _=>undef) rfl (fun j hj=>by simp at hj) (fun j t ht=>by simp at ht)
    · match i,hi with
      |0,hi=>
       refine⟨_,rfl,?_⟩
       show TRep _ _ (col 0) (.slice (some ⟨g,0,none⟩) xs.length cap) _
       rw[←hys]
       refine .own (col 0) g _ cap 1 _ (putCells enc 0 d' arr) e fz (fun j=>F (d'.toList.getD j 0)) (fun i hi=>hfz i (by simpa[putCells] using hi)) (by simp[col]) (by unfold zlK;rw[if_neg (by have:=z1d hg;omega)];exact hK) (z9X d' hg) (by simpa[putCells] using hsz) (by simp) (by omega) (by omega) hcap (fun j hj=> ?_) (fun j t ht=> ?_)
       · have hj':j<xs.length:=by simpa[hys] using hj
         have hja:j<arr.size:=(ZW.1 (hcell j hj')).1
         have hjd:j<d'.size:=by omega
         have hjl:=hdl d'[j] (by simp)
         simp only[putCells,Xh,hcell j hj',ZY]
         rw[if_pos (by omega),YL,getElem!_pos d' j hjd]
         show some (F (rwN xs.length d'[j]))=some (F (d'.toList.getD j 0))
         rw[rwN,if_pos hjl]
         simp[List.getD,hjd]
       · simp only[Zd,Z6] at ht
         obtain⟨x,hx',rfl⟩:=ht
         have hjs:j<(z9E xs).length:=(Z9.1 hx').1
         have hjd:j<d'.toList.length:=by rw[ZX];omega
         have hjl:=hdl d'.toList[j] (Zk hjd)
         have ex:x=xs.getD d'.toList[j] []:=by
          have h1:(d'.toList.map fun j=>xs.getD j [])[j]? =some x:=by rw[hsort];exact hx'
          rw[Zd,Z1 hjd,ZY] at h1
          exact(YU h1).symm
         have e2:d'.toList.getD j 0=d'.toList[j]:=by rw[List.getD,Z1 hjd,Z4]
         rw[e2,ex]
         exact(zbD (hrow _ hjl) (fun b hb hk=>⟨by unfold zlK;rw[if_neg (by omega)];exact hk,(hlay d' m os b hb hk).2⟩) (z7n d')).1
      |1,hi=>cases hi;cases hio
    · rintro rfl
      rw[hK] at hcb
      simp[col] at hcb
    · intro b arr0 e0 fz0 hb0
      by_cases hbg:b=g
      · subst hbg
        rw[hg] at hb0
        cases hb0
        exact⟨_,_,_,z9X d' hg,by simp[putCells]⟩
      · exact⟨_,_,_,(z6m d' (z1d hb0) hbg).trans hb0,rfl⟩
   |_=>cases hT
theorem zky(h:zo0 args=some (r,outs)):CallOk Tryz.prog I 237 args r outs:=by
 unfold zo0 at h
 split at h
 case h_2=>cases h
 rename_i n cs
 split at h
 case h_2=>cases h
 rename_i xs hxs
 split at h
 case isFalse=>cases h
 rename_i hn
 subst hn
 unfold zaQ at h
 split at h
 case isFalse=>cases h
 rename_i hc
 obtain⟨hne,hlen⟩:=hc
 have hcs:=z9c hxs
 subst hcs
 clear hxs
 have hys:(xs.mergeSort fun x y=>decide (x<=y)).length=xs.length:=List.length_mergeSort xs
 simp only[ZY,Zc,Prod.mk.injEq] at h
 generalize hgen:(xs.mergeSort fun x y=>decide (x<=y))=ys at h hys
 obtain⟨rfl,rfl⟩:=h
 refine⟨fun vals w=> ?_,fun w K vals hs ha hI=> ?_⟩
 · have hb:∃c,Tryz.f237.body=some c:=⟨_,rfl⟩
   obtain⟨c,hb⟩:=hb
   have hname:Tryz.f237.name≠ "runtime.NumGoroutine" :=by decide
   simp[callFunc,program,Sem.run,Tryz.func237,hname,hb]
 · obtain⟨v,rfl⟩:∃v,vals= #[v]:=by
    obtain⟨l⟩:=vals
    match l,hs with
    | [v],_=>exact⟨v,rfl⟩
   have hv:TRep w K (col 0) v (.os 1 xs.length (xs.map fun x=>.sc (.int .i64 x))):=ha 0 _ rfl
   clear ha
   have hl0:0<xs.length:=ZJ.2 hne
   generalize hT:T.os 1 xs.length (xs.map fun x=>T.sc (.int .i64 x))=t at hv
   cases hv with
   |nil=>injection hT with _ e _;omega
   |own c g n cap size cs arr e fz F hfz hc0 hK hg hsz hl hz hn hcap hF hh=>
    injection hT with e1 e2 e3
    subst e1 e2 e3
    have hcell:∀j (hj:j<xs.length),arr[j]? =some (.int .i64 xs[j]):=fun j hj=>by
     rw[hF j (by simpa using hj)]
     have:=hh j (.sc (.int .i64 xs[j])) (by simp[hj])
     rw[this.sc_eq]
    have hH:Holds (Value.int .i64) w g 0 xs.toArray:=fun j hj=>by
     have hj':j<xs.length:=by simpa using hj
     constructor
     · rw[Zt,z4o hg,hcell j hj',getElem!_pos _ j hj];simp
     · unfold World.frozen?
       rw[Zt]
       simp only[hg]
       have:=hfz j (by omega)
       obtain⟨lo,hi⟩:=fz
       simp only at this⊢
       simp only[YJ,decide_eq_false_iff_not]
       omega
    have hcon:=Tryz.slices_Sort_int g 0 cap xs w hH (z1d hg) hlen
    refine hcon.mono fun e' w' ⟨he,m,os,hw⟩=> ?_
    rw[hgen] at hw
    have hw':w'=sortWorld (Value.int .i64) w g 0 m ys.toArray os:=hw
    clear hw
    subst hw'
    refine⟨.tuple #[],zlK w.heap.size K,he,?_,fun i t hi hio=> ?_,rfl,rfl,rfl,z7n _,fun b hb hcb=>⟨by unfold zlK;rw[if_neg (by omega)],z6m _ hb ?_⟩,?_⟩
    · exact .tup _ #[] [] (fun _=>undef) rfl (fun j hj=>by simp at hj) (fun j t ht=>by simp at ht)
    · match i,hi with
      |0,hi=>
       refine⟨_,rfl,?_⟩
       show TRep _ _ (col 0) (.slice (some ⟨g,0,none⟩) xs.length cap) _
       rw[←hys]
       refine .own (col 0) g _ cap 1 _ (putCells (Value.int .i64) 0 ys.toArray arr) e fz (fun j=>.int .i64 (ys.getD j 0)) (fun i hi=>hfz i (by simpa[putCells] using hi)) (by simp[col]) (by unfold zlK;rw[if_neg (by have:=z1d hg;omega)];exact hK) (z9X _ hg) (by simpa[putCells] using hsz) (by simp) (by omega) (by omega) hcap (fun j hj=> ?_) (fun j t ht=> ?_)
       · have hj':j<xs.length:=by simpa[hys] using hj
         have hjd:j<ys.toArray.size:=by simp;omega
         simp only[putCells,Xh,hcell j hj',ZY]
         rw[if_pos (by omega),YL,getElem!_pos _ j hjd]
         have hjy:j<ys.length:=by omega
         simp[List.getD,hjy]
       · simp only[Zd,Z6] at ht
         obtain⟨x,hx',rfl⟩:=ht
         simp only[List.getD,hx']
         exact .sc _ _ rfl
    · rintro rfl
      rw[hK] at hcb
      simp[col] at hcb
    · intro b arr0 e0 fz0 hb0
      by_cases hbg:b=g
      · subst hbg
        rw[hg] at hb0
        cases hb0
        exact⟨_,_,_,z9X _ hg,by simp[putCells]⟩
      · exact⟨_,_,_,(z6m _ (z1d hb0) hbg).trans hb0,rfl⟩
   |_=>cases hT
theorem zAv(h:Below w.heap.size w w'):Step w K w' (zlK w.heap.size K):=
 ⟨h.os,h.tape,h.output,h.size,fun b hb _=>⟨by unfold zlK;rw[if_neg (by omega)],h.block b hb⟩,.olds fun b hb=>h.block b hb⟩
theorem zCm{B:Nat}{xs:List Int}(hn:xs.length=n)(h:w.ownsRow B e 1 v n (xs.map (Value.int .i64))):TRep w (zlK B K) [0] v (.os 1 xs.length (xs.map fun x=>.sc (.int .i64 x))):=by
 obtain⟨h1,h2⟩:=h
 subst hn
 rcases h2 with⟨rfl,h0⟩|⟨g,cap,cur,rfl,hb,hg,hc1,hc2,hs,ht⟩
 · have:xs= []:=Y3 h0
   subst this
   exact .nil _ _
 · refine .own [0] g xs.length cap 1 _ cur e (0,0) (fun j=>.int .i64 (xs.getD j 0)) (fun i _=>by simp) (by simp) (by unfold zlK;rw[if_pos hb]) hg hs (by simp) (by omega) hc1 hc2 (fun j hj=> ?_) (fun j t ht=> ?_)
   · have hj':j<xs.length:=by simpa using hj
     have h3:(cur.toList.take (xs.length*1))[j]? =(xs.map (Value.int .i64))[j]? :=by rw[ht]
     rw[X8 (by omega),Zd,Z1 hj'] at h3
     simp only[ZY,Zx] at h3
     rw[h3,List.getD,Z1 hj']
     rfl
   · simp only[Zd,Z6] at ht
     obtain⟨x,hx,rfl⟩:=ht
     simp only[List.getD,hx]
     exact .sc _ _ rfl
theorem zkA(h:zrT args=some (r,outs)):CallOk Tryz.prog I 104 args r outs:=by
 unfold zrT at h
 split at h
 case h_2=>cases h
 rename_i n cs
 split at h
 case h_2=>cases h
 rename_i xs hxs
 split at h
 case isFalse=>cases h
 rename_i hn
 subst hn
 unfold zaR at h
 split at h
 case isFalse=>cases h
 rename_i hb
 have hcs:=z9c hxs
 subst hcs
 clear hxs
 simp only[ZY,Zc,Prod.mk.injEq] at h
 obtain⟨rfl,rfl⟩:=h
 refine⟨fun vals w=> ?_,fun w K vals hs ha hI=> ?_⟩
 · have hb:∃c,Tryz.f104.body=some c:=⟨_,rfl⟩
   obtain⟨c,hb⟩:=hb
   have hname:Tryz.f104.name≠ "runtime.NumGoroutine" :=by decide
   simp[callFunc,program,Sem.run,Tryz.func104,hname,hb]
 · obtain⟨v,rfl⟩:∃v,vals= #[v]:=by
    obtain⟨l⟩:=vals
    match l,hs with
    | [v],_=>exact⟨v,rfl⟩
   have hv:TRep w K [] v (.sl xs.length (xs.map fun x=>.sc (.int .i64 x))):=ha 0 _ rfl
   have fin:∀e w',(∃v',e=Ending.returned v'/\w'.ownsRow w.heap.size 3 1 v' xs.length (xs.map (Value.int .i64))/\Below w.heap.size w w')->∃v' K',e=Ending.returned v'/\TRep w' K' [0] v' (.os 1 xs.length (xs.map fun x=>.sc (.int .i64 x)))/\(∀i t,[T.sl xs.length (xs.map fun x=>T.sc (.int .i64 x))][i]? =some t->z7N t=true->∃t',[T.dead][i]? =some t'/\TRep w' K' (col i) (#[v].getD i undef) t')/\Step w K w' K':=by
    rintro e w' ⟨v',he,ho,hbl⟩
    refine⟨v',zlK w.heap.size K,he,zCm rfl ho,fun i t hi hio=> ?_,zAv hbl⟩
    match i,hi with
    |0,hi=>cases hi;cases hio
   generalize hT:T.sl xs.length (xs.map fun x=>T.sc (.int .i64 x))=t at hv
   cases hv with
   |emp c a cap hcap=>
    have:xs= []:=by
     have:xs.length=0:=by injection hT
     exact Y3 this
    subst this
    cases a with
    |none=>exact(Tryz.slices_Clone_int_nil 0 cap w).mono fun e w' ⟨he,hw⟩=>fin e w' ⟨_,he,⟨by simp,.inl ⟨rfl,rfl⟩⟩,hw▸Below.refl _ _⟩
    |some a=>exact(Tryz.slices_Clone_int_zero a cap w).mono fun e w' ⟨v',he,ho,_,hb⟩=>fin e w' ⟨v',he,ho,hb⟩
   |fro c g o n cap cs F hK hg hn hcap hF hh=>
    injection hT with e1 e2
    subst e1
    subst e2
    refine(Tryz.slices_Clone_int g o xs.length cap xs w (Z7 _) hb (fun j hj=> ?_)).mono fun e w' ⟨v',he,ho,_,hbl⟩=>fin e w' ⟨v',he,?_,hbl⟩
    · have h1:=hF j (by simpa using hj)
      rw[h1]
      have h2:=hh j (.sc (.int .i64 (xs.getD j 0))) (by simp[List.getD,hj])
      rw[h2.sc_eq]
    · rw[Yq (Z7 _)] at ho
      exact ho
   |_=>cases hT
end
section
open Go
theorem z4h{l:List (List Nat)}{i:Nat}(h:i<l.length):l.getD i []∈l:=by grind
def z9v(f g:List Nat):List Nat:=f.map fun y=>g.getD y 0
structure PermL(L:Nat)(p:List Nat):Prop where
 len:p.length=L
 nd:p.Nodup
 lt:∀x∈p,x<L
theorem zqJ(L:Nat):PermL L (List.range L):=⟨by simp,YG,fun x hx=>Zh.1 hx⟩
theorem zvA{f g:List Nat}{i:Nat}(h:i<f.length):(z9v f g).getD i 0=g.getD (f.getD i 0) 0:=by
 simp[z9v,List.getD,h]
theorem zdI(f g:List Nat):(z9v f g).length=f.length:=by simp[z9v]
theorem zvz{L:Nat}{f g:List Nat}(hf:PermL L f)(hg:PermL L g):PermL L (z9v f g):=by
 refine⟨by rw[zdI,hf.len],z4K hf.nd fun x hx y hy e=> ?_,fun x hx=> ?_⟩
 · exact z5I hg.nd (by have:=hf.lt x hx;have:=hg.len;omega) (by have:=hf.lt y hy;have:=hg.len;omega) e
 · obtain⟨y,hy,rfl⟩:=Zj.1 hx
   exact hg.lt _ (z0e (by have:=hf.lt y hy;have:=hg.len;omega))
theorem zpv{L:Nat}{g:List Nat}(hg:PermL L g):z9v (List.range L) g=g:=by
 refine Ze (by rw[zdI,ZC,hg.len]) fun i h1 h2=> ?_
 simp[z9v,List.getD,h2]
theorem zj2{L:Nat}{f g h:List Nat}(hf:PermL L f)(hg:PermL L g):z9v (z9v f g) h=z9v f (z9v g h):=by
 unfold z9v
 rw[Yd]
 refine ZB fun y hy=> ?_
 have:y<g.length:=by have:=hf.lt y hy;have:=hg.len;omega
 simp[List.getD,this]
inductive RchG(L:Nat)(P:List (List Nat)):List Nat->Prop
 |one:RchG L P (List.range L)
 |step (e g) (h:RchG L P e) (hg:g∈P):RchG L P (z9v e g)
theorem z4J{L:Nat}{P:List (List Nat)}(hP:∀g∈P,PermL L g){e:List Nat}(h:RchG L P e):PermL L e:=by
 induction h with
 |one=>exact zqJ L
 |step e g _ hg ih=>exact zvz ih (hP g hg)
theorem zte{L:Nat}{P:List (List Nat)}(hP:∀g∈P,PermL L g){e f:List Nat}(he:RchG L P e)(hf:RchG L P f):RchG L P (z9v e f):=by
 induction hf with
 |one=>
  have h:=z4J hP he
  have:z9v e (List.range L)=e:=by
   refine Ze (zdI _ _) fun i h1 h2=> ?_
   have:=h.lt e[i] (Zk h2)
   simp[z9v,List.getD,this]
  rw[this];exact he
 |step e' g hf' hg ih=>
  rw[←zj2 (z4J hP he) (z4J hP hf')]
  exact .step _ _ ih hg
theorem zgE{L:Nat}{P:List (List Nat)}(hP:∀g∈P,PermL L g){g:List Nat}(hg:g∈P):RchG L P g:=by
 have:=RchG.step _ g (.one (L:=L) (P:=P)) hg
 rwa [zpv (hP g hg)] at this
theorem z8O{L:Nat}{P Q:List (List Nat)}(h:∀g∈Q,g∈P){e:List Nat}(he:RchG L Q e):RchG L P e:=by
 induction he with
 |one=>exact .one
 |step e g _ hg ih=>exact .step _ _ ih (h g hg)
theorem zAt{L:Nat}{e:List Nat}(h:PermL L e):z9v e (List.range L)=e:=by
 refine Ze (zdI _ _) fun i h1 h2=> ?_
 have:=h.lt e[i] (Zk h2)
 simp[z9v,List.getD,this]
theorem zrr{L:Nat}{U E:List (List Nat)}(hU:∀g∈U,PermL L g)(hE:∀e∈E,PermL L e)(hc:∀e∈E,∀g∈U,z9v e g∈E){x g:List Nat}(hx:x∈E)(hg:RchG L U g):z9v x g∈E:=by
 induction hg with
 |one=>rw[zAt (hE x hx)];exact hx
 |step g' u hg' hu ih=>
  rw[←zj2 (hE x hx) (z4J hU hg')]
  exact hc _ ih u hu
theorem zrB{f g:List Nat}(hl:f.length<=1000)(h:∀x∈f,x<g.length):z6F (toI f) (toI g)=some (toI (z9v f g)):=by
 have e0:toI (z9v f g)=(List.range f.length).map fun k=>((g.getD (f.getD k 0) 0:Nat):Int):=by
  refine Ze (by simp[toI,z9v]) fun i h1 h2=> ?_
  have hi:i<f.length:=by simpa[toI,z9v] using h1
  simp[toI,z9v,List.getD,hi]
 unfold z6F
 rw[z0a,z0i _ (by unfold z0S;omega),Z2,e0]
 refine z0n (s:=((0:Int),List.replicate f.length (0:Int))) f.length (fun k=>((k:Int),zav f.length (fun k=>((g.getD (f.getD k 0) 0:Nat):Int)) (fun _=>0) k)) (by rw[z9s];congr 1;exact(Ze (by simp) fun i h1 h2=>by simp)) (by simp only[LFm];omega) (fun k hk=> ?_) ?_
 · have hx:=h _ (z0e hk)
   simp only[z6X]
   rw[if_pos (by rw[z0a];omega),z1o hk,Z0,z1o hx,Z0,z6H hk,Z0,z0H (by omega),Z2,z4I (f:=fun k=>((g.getD (f.getD k 0) 0:Nat):Int)) hk]
 · simp only[z6X]
   rw[if_neg (by rw[z0a];omega),z9r]
theorem zjK{p:List Nat}(hl:p.length<=1000)(hp:∀x∈p,x<256):z7Q (toI p)=some (z1i (toI p)):=by
 unfold z7Q
 rw[z0a,z0i _ (by unfold z0S;omega),Z2]
 have e0:toI p=(List.range p.length).map fun k=>((p.getD k 0:Nat):Int):=by
  refine Ze (by simp[toI]) fun i h1 h2=> ?_
  have hi:i<p.length:=by simpa[toI] using h1
  simp[toI,List.getD,hi]
 refine z0n (s:=((0:Int),List.replicate p.length (0:Int))) p.length (fun k=>((k:Int),zav p.length (fun k=>((p.getD k 0:Nat):Int)) (fun _=>0) k)) (by rw[z9s];congr 1;exact(Ze (by simp) fun i h1 h2=>by simp)) (by simp only[LFm];omega) (fun k hk=> ?_) ?_
 · have hx:=hp _ (z0e hk)
   have hw:IntKind.u8.wrap ((p.getD k 0:Nat):Int)=((p.getD k 0:Nat):Int):=by rw[YK];omega
   simp only[z8G]
   rw[if_pos (by rw[z0a];omega),z1o hk,Z0,z6H hk,Z0,z0H (by omega),Z2,hw,z4I (f:=fun k=>((p.getD k 0:Nat):Int)) hk]
 · simp only[z8G]
   rw[if_neg (by rw[z0a];omega),z9r,←e0]
theorem zdB:∀ {p q:List Nat},(∀x∈p,x<256)->(∀x∈q,x<256)->z1i (toI p)=z1i (toI q)->p=q:=by
 have key:∀ {p q:List Nat},(∀x∈p,x<256)->(∀x∈q,x<256)->(toI p).map (fun z:Int=>UInt8.ofNat z.toNat)=(toI q).map (fun z:Int=>UInt8.ofNat z.toNat)->p=q:=by
  intro p
  induction p with
  |nil=>
   intro q _ _ h
   cases q with
   |nil=>rfl
   |cons b q=>simp[toI] at h
  |cons a p ih=>
   intro q hp hq h
   cases q with
   |nil=>simp[toI] at h
   |cons b q=>
    simp only[toI,Zq,XM] at h
    have ha:=hp a (Zz ..)
    have hb:=hq b (Zz ..)
    have g1:=congrArg UInt8.toNat h.1
    simp only[Z2,Xr] at g1
    have:a=b:=by omega
    subst this
    rw[ih (fun k hk=>hp k (Zp _ hk)) (fun k hk=>hq k (Zp _ hk)) h.2]
 intro p q hp hq h
 refine key hp hq ?_
 have:=congrArg ByteArray.data h
 simpa[z1i] using this
theorem zxk{L:Nat}(h1:1<=L)(h2:L<=32):z6M (L:Int)=some (toI (List.range L)):=by
 unfold z6M
 rw[if_neg (by omega),if_neg (by omega),z0i _ (by unfold z0S;omega),Z2]
 have e0:toI (List.range L)=(List.range L).map fun k:Nat=>(k:Int):=rfl
 refine z0n (s:=((0:Int),List.replicate L (0:Int))) L (fun k=>((k:Int),zav L (fun k=>(k:Int)) (fun _=>0) k)) (by rw[z9s];congr 1;exact(Ze (by simp) fun i h1 h2=>by simp)) (by simp only[LFm];omega) (fun k hk=> ?_) ?_
 · simp only[z6t]
   rw[if_pos (by omega),z6H hk,Z0,z0H (by omega),Z2,z4I (f:=fun k=>(k:Int)) hk]
 · simp only[z6t]
   rw[if_neg (by omega),z9r,e0]
theorem zkD{L:Nat}{p:List Nat}(h:PermL L p)(h1:1<=L)(h2:L<=32):z7K (toI p)=some true:=by
 have hl:=h.len
 unfold z7K
 rw[z0a,if_neg (by omega),if_neg (by omega)]
 refine z0n (s:=(0:Int)) p.length (fun k=>(k:Int)) rfl (by simp only[LFm];omega) (fun k hk=> ?_) ?_
 · have:=h.lt _ (z0e hk)
   simp only[z7X]
   rw[z0a,if_pos (by omega),z1o hk,Z0,if_neg (by omega),if_neg (by omega),z0H (by omega)]
 · simp only[z7X]
   rw[z0a,if_neg (by omega)]
theorem zrC{l:List Int}(h:l.Nodup)(hl:l.length<=1000):z2R l=some l:=by
 unfold z2R
 by_cases h0:(l.length:Int)<2
 · rw[if_pos h0]
 · rw[if_neg h0]
   refine z0n (s:=(1:Int)) (l.length-1) (fun k=>((k+1:Nat):Int)) rfl (by simp only[LFm];omega) (fun k hk=> ?_) ?_
   · have w:IntKind.i64.wrap (((k+1:Nat):Int)-1)=(k:Int):=by rw[z2G (by omega) (by omega)];omega
     simp only[z4G]
     rw[if_pos (by omega),z0A (show k+1<l.length by omega),Z0,w,z0A (show k<l.length by omega),Z0,if_neg,z0H (by omega)]
     intro e
     have:=(XE h).1 e
     omega
   · grind
theorem zr7{L:Nat}{p:List Nat}(h:PermL L p)(h1:1<=L)(h2:L<=32):z4t (toI p)=some true:=by
 have hl:=h.len
 have hne:toI p≠ []:=fun e=>by have:=congrArg List.length e;rw[z0a,Yp] at this;omega
 have hnd:((toI p).mergeSort fun x y=>decide (x<=y)).Nodup:=(List.mergeSort_perm _ _).nodup_iff.2 (Yt _ (fun a b (hab:a≠b)=>by intro e;exact hab (by omega)) h.nd)
 have hlen:((toI p).mergeSort fun x y=>decide (x<=y)).length=p.length:=by rw[List.length_mergeSort,z0a]
 unfold z4t
 rw[zkD h h1 h2,Z0,if_pos rfl]
 unfold zbm zag
 rw[zkD h h1 h2,Z0,if_pos rfl]
 unfold zaR zaQ
 rw[z0a,if_pos (by omega),Z0,if_pos ⟨hne,by rw[z0a];omega⟩,Z0,zrC hnd (by omega),Z0,Z0,hlen,Z0]
 simp
theorem ztp{L:Nat}{P:List (List Nat)}(hP:∀g∈P,PermL L g)(h1:1<=L)(h2:L<=32)(hl:P.length<=100000):z4U (P.map toI) (L:Int)=some true:=by
 unfold z4U
 refine z0n (s:=(0:Int)) P.length (fun k=>(k:Int)) rfl (by simp only[LFm];omega) (fun k hk=> ?_) ?_
 · have hk':=hP _ (Zk hk)
   have hat:atI (P.map toI) (k:Int)=some (toI P[k]):=by rw[z0A (by simpa using hk)];simp
   simp only[z6n]
   rw[if_pos (by rw[Z8];omega),hat,Z0,z0a,if_pos (by rw[hk'.len]),zr7 hk' h1 h2,Z0,if_pos rfl,z0H (by omega)]
 · grind
def z7A:List (List Nat)->List (ByteArray×Bool):=List.foldl (fun mp q=>z8p (z1i (toI q)) true mp) []
theorem zeu(Q:List (List Nat))(p:List Nat):z7A (Q++ [p])=z8p (z1i (toI p)) true (z7A Q):=by
 unfold z7A;rw[YM];rfl
theorem zd7{p:List Nat}(hb:∀k∈p,k<256){Q:List (List Nat)}(hQ:∀q∈Q,∀k∈q,k<256):((z7G (z1i (toI p)) (z7A Q)).getD false)=true↔p∈Q:=by
 have key:∀(Q:List (List Nat)) (mp:List (ByteArray×Bool)),(∀q∈Q,∀k∈q,k<256)->(((z7G (z1i (toI p)) (Q.foldl (fun mp q=>z8p (z1i (toI q)) true mp) mp)).getD false)=true↔(p∈Q∨((z7G (z1i (toI p)) mp).getD false)=true)):=by
  intro Q
  induction Q with
  |nil=>intro mp _;simp
  |cons q Q ih=>
   intro mp hQ
   rw[Xp,ih _ (fun x hx=>hQ x (Zp _ hx)),zb8,Zv]
   have hq:=hQ q (Zz ..)
   by_cases e:q=p
   · grind
   · have:¬z1i (toI q)=z1i (toI p):=fun h=>e (zdB hq hb h)
     rw[if_neg this]
     constructor
     · grind
     · grind
 have:=key Q [] hQ
 rw[show z7A Q=Q.foldl (fun mp q=>z8p (z1i (toI q)) true mp) [] from rfl,this]
 simp[z7G]
structure GInv(L:Nat)(P E:List (List Nat)):Prop where
 nd:E.Nodup
 rc:∀e∈E,RchG L P e
 on:List.range L∈E
section
variable {L:Nat} {P:List (List Nat)} (hP:∀g∈P,PermL L g) (h1:1<=L) (h2:L<=32) (hB:∀l:List (List Nat),l.Nodup->(∀e∈l,RchG L P e)->l.length<=2000)
include hP h1 h2 hB
theorem zdc{e:List Nat}(h:RchG L P e):∀k∈e,k<256:=fun k hk=>by
 have _u:=h1
 have _v:=hB
 have:=(z4J hP h).lt k hk;omega
theorem zBF{E U:List (List Nat)}{f:List Nat}(hE:GInv L (U++ [f]) E)(hU:∀g∈U++ [f],g∈P)(hUl:U.length<=100000){i:Nat}(hi:i<E.length):
 ∃X,GInv L (U++ [f]) (E++X)/\(∀g∈U++ [f],z9v (E.getD i []) g∈E++X)/\z0h (z4V (U.map toI) (toI f) (i:Int)) LFm (0,E.map toI,z7A E)=z0c (((i+1:Nat):Int),(E++X).map toI,z7A (E++X)):=by
 refine Exists.elim (z1Q (b:=z4V (U.map toI) (toI f) (i:Int)) (fun z=>∃(k:Nat) (X:List (List Nat)),k<=U.length+1/\z=((k:Int),(E++X).map toI,z7A (E++X))/\GInv L (U++ [f]) (E++X)/\ ∀j,j<k->z9v (E.getD i []) ((U++ [f]).getD j [])∈E++X) (fun z=>U.length+1-z.1.toNat)
  (fun r=>∃X,r= .inl (((i+1:Nat):Int),(E++X).map toI,z7A (E++X))/\GInv L (U++ [f]) (E++X)/\ ∀j,j<U.length+1->z9v (E.getD i []) ((U++ [f]).getD j [])∈E++X) ?_ LFm (0,E.map toI,z7A E) ⟨0,[],by omega,by simp,by rw[Yb];exact hE,fun j hj=>by omega⟩ (by simp only[LFm];omega)) fun r h=> ?_
 · rintro z ⟨k,X,hk,rfl,hX,hc⟩
   have hrp:∀e∈E++X,RchG L P e:=fun e he=>z8O hU (hX.rc e he)
   have hsz:=hB _ hX.nd hrp
   rw[Zb] at hsz
   have hlen:((E++X).map toI).length=E.length+X.length:=by grind
   simp only[z4V]
   rw[Z8]
   by_cases hk1:k<U.length+1
   · left
     have hg:(U++ [f]).getD k []∈U++ [f]:=z4h (by rw[Zb,ZD];exact hk1)
     have hgp:=hP _ (hU _ hg)
     have hat1:atI (U.map toI++ [toI f]) (k:Int)=some (toI ((U++ [f]).getD k [])):=by
      have e:U.map toI++ [toI f]=(U++ [f]).map toI:=by simp
      rw[e,z0A (by simp;omega)]
      simp only[ZF]
      rw[List.getD,Z1 (by simp;omega),Z4]
     have hei:E.getD i []∈E++X:=Zf.2 (.inl (z4h hi))
     have hep:=z4J hP (hrp _ hei)
     have hat2:atI ((E++X).map toI) (i:Int)=some (toI (E.getD i [])):=by
      rw[z0A (by simp;omega)]
      simp only[ZF]
      rw[List.getElem_append_left hi,List.getD,Z1 hi,Z4]
     have hcu:RchG L (U++ [f]) (z9v (E.getD i []) ((U++ [f]).getD k [])):=.step _ _ (hX.rc _ hei) hg
     have hcr:=z8O hU hcu
     have hcp:=z4J hP hcr
     have hc256:=zdc hP h1 h2 hB hcr
     have hcomp:z6F (toI (E.getD i [])) (toI ((U++ [f]).getD k []))=some (toI (z9v (E.getD i []) ((U++ [f]).getD k []))):=zrB (by rw[hep.len];omega) (fun x hx=>by have:=hep.lt x hx;rw[hgp.len];exact this)
     rw[if_pos (by omega),hat1,Z0,hat2,Z0,hcomp,Z0,zjK (by rw[hcp.len];omega) hc256,Z0]
     have hsg:=zd7 hc256 (Q:=E++X) (fun q hq=>zdc hP h1 h2 hB (hrp q hq))
     generalize hcE:z9v (E.getD i []) ((U++ [f]).getD k [])=c at*
     by_cases hin:c∈E++X
     · rw[if_pos (hsg.2 hin),z0H (by omega)]
       refine⟨_,rfl,⟨k+1,X,by omega,rfl,hX,fun j hj=> ?_⟩,by simp only;omega⟩
       by_cases e:j=k
       · subst e;rw[hcE];exact hin
       · exact hc j (by omega)
     · have hX':GInv L (U++ [f]) (E++(X++ [c])):=by
        rw[←Zu]
        refine⟨Ys.2 ⟨hX.nd,by simp,fun a ha b hb=> ?_⟩,fun e he=> ?_,Zf.2 (.inl hX.on)⟩
        · grind
        · rcases Zf.1 he with he|he
          · exact hX.rc e he
          · grind
       rw[if_neg (fun e=>hin (hsg.1 e)),z0i _ (by unfold z1C;rw[hlen];omega),z0H (by omega)]
       refine⟨_,rfl,⟨k+1,X++ [c],by omega,?_,hX',fun j hj=> ?_⟩,by simp only;omega⟩
       · rw[←Zu,zeu,Y0 (f:=toI) (l₁:=E++X)];rfl
       · grind
   · right
     have hk2:k=U.length+1:=by omega
     rw[if_neg (by omega),if_neg (by rw[hlen];omega),z0H (by omega)]
     exact⟨_,rfl,X,rfl,hX,fun j hj=>hc j (by omega)⟩
 · obtain⟨h3,X,rfl,hX,hc⟩:=h
   refine⟨X,hX,fun g hg=> ?_,h3⟩
   obtain⟨j,hj,rfl⟩:=Zo hg
   have:=hc j (by simpa using hj)
   have e:(U++ [f]).getD j []=(U++ [f])[j]:=by grind
   rwa [e] at this
theorem zDn{E U:List (List Nat)}{f:List Nat}{w:Nat}(hw:w<100000)(hE:GInv L (U++ [f]) E)(hU:∀g∈U++ [f],g∈P)(hUl:U.length<=100000):
 ∃X,GInv L (U++ [f]) (E++X)/\(∀e∈E++X,∀g∈U++ [f],z9v e g∈E++X)/\z0h (z4W (w:Int) (U.map toI) (toI f)) LFm (0,E.map toI,z7A E)=z0c (((w+1:Nat):Int),(E++X).map toI,z7A (E++X),(U++ [f]).map toI):=by
 refine Exists.elim (z1Q (b:=z4W (w:Int) (U.map toI) (toI f)) (fun z=>∃(i:Nat) (X:List (List Nat)),i<=(E++X).length/\z=((i:Int),(E++X).map toI,z7A (E++X))/\GInv L (U++ [f]) (E++X)/\ ∀j,j<i->∀g∈U++ [f],z9v ((E++X).getD j []) g∈E++X) (fun z=>2001-z.1.toNat)
  (fun r=>∃X,r= .inl (((w+1:Nat):Int),(E++X).map toI,z7A (E++X),(U++ [f]).map toI)/\GInv L (U++ [f]) (E++X)/\ ∀j,j<(E++X).length->∀g∈U++ [f],z9v ((E++X).getD j []) g∈E++X) ?_ LFm (0,E.map toI,z7A E) ⟨0,[],by simp,by simp,by rw[Yb];exact hE,fun j hj=>by omega⟩ (by simp only[LFm];omega)) fun r h=> ?_
 · rintro z ⟨i,X,hi,rfl,hX,hc⟩
   have hsz:=hB _ hX.nd (fun e he=>z8O hU (hX.rc e he))
   simp only[z4W]
   rw[Z8]
   by_cases hi1:i<(E++X).length
   · left
     obtain⟨Y,y1,y2,y3⟩:=zBF hP h1 h2 hB hX hU hUl hi1
     rw[if_pos (by omega),y3]
     have e:E++X++Y=E++(X++Y):=Zu ..
     rw[e] at y1 y2
     have hsz2:=hB _ y1.nd (fun e he=>z8O hU (y1.rc e he))
     refine⟨_,rfl,⟨i+1,X++Y,by rw[←e,Zb];omega,by rw[e],y1,fun j hj g hg=> ?_⟩,by simp only;omega⟩
     by_cases ej:j=i
     · grind
     · have:=hc j (by omega) g hg
       rw[show(E++(X++Y)).getD j []=(E++X).getD j [] by rw[←e,List.getD,List.getD,ZK (by omega)],←e]
       exact Zf.2 (.inl this)
   · right
     have hi2:i=(E++X).length:=by omega
     rw[if_neg (by omega),z0H (by omega)]
     refine⟨_,rfl,X,by simp,hX,fun j hj=>hc j (by omega)⟩
 · obtain⟨h3,X,rfl,hX,hc⟩:=h
   refine⟨X,hX,fun e he g hg=> ?_,h3⟩
   obtain⟨j,hj,rfl⟩:=Zo he
   have:=hc j hj g hg
   have e:(E++X).getD j []=(E++X)[j]:=by grind
   rwa [e] at this
theorem zv2(hne:P≠ [])(hl:P.length<=10000):∃E:List (List Nat),z4p (P.map toI)=some (E.map toI,0)/\zy3 (E.map toI)/\E.Nodup/\ ∀e,e∈E↔RchG L P e:=by
 have hpos:=ZJ.2 hne
 have hP0:=hP _ (Zk hpos)
 have hat0:atI (P.map toI) 0=some (toI P[0]):=by
  have:=z0A (xs:=P.map toI) (k:=0) (by simpa using hpos)
  simpa using this
 have h256:∀k∈List.range L,k<256:=fun k hk=>by have:=Zh.1 hk;omega
 unfold z4p
 rw[if_neg (by rw[Z8];omega),hat0,Z0,z0a,hP0.len,ztp hP h1 h2 (by omega),Z0,if_pos rfl,zxk h1 h2,Z0,zjK (by simp;omega) h256,Z0]
 refine Exists.elim (z1Q (b:=z5Y (P.map toI)) (fun z=>∃(k:Nat) (E U:List (List Nat)),k<=P.length/\z=((k:Int),E.map toI,z7A E,U.map toI)/\GInv L U E/\U.length<=k/\(∀g∈U,g∈P)/\(∀e∈E,∀g∈U,z9v e g∈E)/\ ∀j,j<k->P.getD j []∈E) (fun z=>P.length+1-z.1.toNat)
  (fun r=>∃E:List (List Nat),r=(E.map toI,0)/\zy3 (E.map toI)/\E.Nodup/\ ∀e,e∈E↔RchG L P e) ?_ LFm (0,[toI (List.range L)],z8p (z1i (toI (List.range L))) true ([]:List (ByteArray×Bool)),[]) ⟨0,[List.range L],[],by omega,rfl,⟨by simp,fun e he=>by obtain rfl:=Zi.1 he;exact .one,by simp⟩,by simp,by simp,by simp,fun j hj=>by omega⟩ (by simp only[LFm];omega)) fun r h=> ?_
 · rintro z ⟨k,E,U,hk,rfl,hE,hUl,hU,hcl,hin⟩
   have hrp:∀e∈E,RchG L P e:=fun e he=>z8O hU (hE.rc e he)
   have hsz:=hB _ hE.nd hrp
   simp only[z5Y]
   rw[Z8]
   by_cases hk1:k<P.length
   · left
     have hg:=z4h hk1
     have hgp:=hP _ hg
     have hat1:atI (P.map toI) (k:Int)=some (toI (P.getD k [])):=by
      rw[z0A (by simpa using hk1)]
      simp[List.getD,hk1]
     have hg256:=zdc hP h1 h2 hB (zgE hP hg)
     have hsg:=zd7 hg256 (Q:=E) (fun q hq=>zdc hP h1 h2 hB (hrp q hq))
     rw[if_pos (by omega),hat1,Z0,zjK (by rw[hgp.len];omega) hg256,Z0]
     by_cases hm:P.getD k []∈E
     · rw[if_pos (hsg.2 hm),z0H (by omega)]
       refine⟨_,rfl,⟨k+1,E,U,by omega,rfl,hE,by omega,hU,hcl,fun j hj=> ?_⟩,by simp only;omega⟩
       by_cases e:j=k
       · rw[e];exact hm
       · exact hin j (by omega)
     · rw[if_neg (fun e=>hm (hsg.1 e)),z0i _ (by unfold z1C;rw[Z8];omega)]
       have hUf:∀g∈U++ [P.getD k []],g∈P:=fun g h=>by grind
       have hE2:GInv L (U++ [P.getD k []]) E:=⟨hE.nd,fun e he=>z8O (fun g hg=>Zf.2 (.inl hg)) (hE.rc e he),hE.on⟩
       obtain⟨X,x1,x2,x3⟩:=zDn hP h1 h2 hB (w:=k) (by omega) hE2 hUf (by omega)
       rw[x3]
       refine⟨_,rfl,⟨k+1,E++X,U++ [P.getD k []],by omega,rfl,x1,by simp;omega,hUf,x2,fun j hj=> ?_⟩,by simp only;omega⟩
       · by_cases e:j=k
         · rw[e]
           have:=x2 _ x1.on (P.getD k []) (by simp)
           rwa [zpv hgp] at this
         · grind
   · right
     have hk2:k=P.length:=by omega
     rw[if_neg (by omega)]
     have hne2:E.map toI≠ []:=fun e=>by
      have:=hE.on
      rw[List.map_eq_nil_iff] at e
      rw[e] at this;simp at this
     unfold zpW
     rw[if_pos ⟨hne2,by rw[Z8];omega⟩,Z0]
     have hp:=z8M (E.map toI)
     have hback:∀e:List Nat,(toI e).map Int.toNat=e:=fun e=>by
      unfold toI;rw[Yd]
      have:(Int.toNat∘fun x:Nat=>(x:Int))=id:=by funext x;simp
      rw[this,YX]
     have hp2:((z9E (E.map toI)).map fun x=>x.map Int.toNat).Perm E:=by
      have:=hp.map fun x=>x.map Int.toNat
      rw[Yd] at this
      have e:((fun x:List Int=>x.map Int.toNat)∘toI)=id:=by funext x;exact hback x
      rwa [e,YX] at this
     have hPU:∀g∈U,PermL L g:=fun g hg=>hP g (hU g hg)
     have heq:((z9E (E.map toI)).map fun x=>x.map Int.toNat).map toI=z9E (E.map toI):=by
      rw[Yd]
      refine(ZB fun x hx=> ?_).trans (XZ _)
      obtain⟨e,he,rfl⟩:=Zj.1 (hp.mem_iff.1 hx)
      show toI ((toI e).map Int.toNat)=toI e
      rw[hback]
     refine⟨_,rfl,(z9E (E.map toI)).map fun x=>x.map Int.toNat,by rw[heq],by rw[heq];exact z9x _,hp2.nodup_iff.2 hE.nd,fun e=> ?_⟩
     · rw[hp2.mem_iff]
       refine⟨hrp e,fun h=> ?_⟩
       induction h with
       |one=>exact hE.on
       |step e g _ hg ih=>
        obtain⟨j,hj,rfl⟩:=Zo hg
        have hm:=hin j (by omega)
        rw[List.getD,Z1 hj,Z4] at hm
        exact zrr hPU (fun x hx=>z4J hP (hrp x hx)) hcl ih (hE.rc _ hm)
 · grind
theorem zCa(hne:P≠ [])(hl:P.length<=10000):∃E:List (List Nat),z4p (P.map toI)=some (E.map toI,0)/\E.Nodup/\ ∀e,e∈E↔RchG L P e:=by
 obtain⟨E,h3,_,e1,e2⟩:=zv2 hP h1 h2 hB hne hl
 exact⟨E,h3,e1,e2⟩
end
end
section
open Go
variable{x:List Nat}
theorem zgU{p:List Nat}(hl:p.length<=1000)(hp:∀x∈p,x<256):z1w (toI p)=some (z1i (toI p)):=by
 unfold z1w
 rw[z0a,z0i _ (by unfold z0S;omega),Z2]
 have e0:toI p=(List.range p.length).map fun k=>((p.getD k 0:Nat):Int):=by
  refine Ze (by simp[toI]) fun i h1 h2=> ?_
  have hi:i<p.length:=by simpa[toI] using h1
  simp[toI,List.getD,hi]
 refine z0n (s:=((0:Int),List.replicate p.length (0:Int))) p.length (fun k=>((k:Int),zav p.length (fun k=>((p.getD k 0:Nat):Int)) (fun _=>0) k)) (by rw[z9s];congr 1;exact(Ze (by simp) fun i h1 h2=>by simp)) (by simp only[LFm];omega) (fun k hk=> ?_) ?_
 · have hx:=hp _ (z0e hk)
   have hw:IntKind.u8.wrap ((p.getD k 0:Nat):Int)=((p.getD k 0:Nat):Int):=by rw[YK];omega
   simp only[z6Z]
   rw[if_pos (by rw[z0a];omega),z1o hk,Z0,z6H hk,Z0,z0H (by omega),Z2,hw,z4I (f:=fun k=>((p.getD k 0:Nat):Int)) hk]
 · simp only[z6Z]
   rw[if_neg (by rw[z0a];omega),z9r,←e0]
section
variable {d:DFA} {m n:Nat} {S:List Nat} {O:List Nat}
theorem zlc(c:Nat):szO d m n S O c<=S.length:=by
 unfold szO z7l
 split
 · simp
 · exact ZO (ZI _ _) (ZO (ZI _ _) (by simp))
theorem zi9(hSl:S.length<=255)(hx:zeV d m n S O x):∀k∈x,k<256:=fun k hk=>by
 obtain⟨j,hj,rfl⟩:=Zo hk
 have:=hx.2 j (by rw[←hx.1];exact hj)
 rw[List.getD,Z1 hj,Z4] at this
 have:=zlc (d:=d) (m:=m) (n:=n) (S:=S) (O:=O) j
 omega
end
def zmC(y:Nat->List Nat):Nat->Nat->List (List Nat)->Option (List (List Nat))
 |0,_,T=>some T
 |k+1,a,T=>if y a∈T then zmC y k (a+1) T else if T.length=2000 then none else zmC y k (a+1) (T++ [y a])
def zkh(st:Nat->List Nat->List Nat)(m:Nat):Nat->Nat->List (List Nat)->Option (List (List Nat))
 |0,_,T=>some T
 |f+1,i,T=>if i<T.length then(zmC (fun a=>st a (T.getD i [])) m 0 T).bind (zkh st m f (i+1)) else some T
theorem zdO{y:Nat->List Nat}{P:List Nat->Prop}:∀(k a:Nat) (T T':List (List Nat)),(∀b,a<=b->b<a+k->P (y b))->(∀t∈T,P t)->T.Nodup->T.length<=2000->zmC y k a T=some T'->
 (∃X,T'=T++X)/\(∀t∈T',P t)/\T'.Nodup/\T'.length<=2000/\ ∀b,a<=b->b<a+k->y b∈T'
 |0,a,T,T',hy,hP,hn,hl,h=>by
  simp only[zmC,Zc] at h
  subst h
  exact⟨⟨[],by simp⟩,hP,hn,hl,fun b h1 h2=>by omega⟩
 |k+1,a,T,T',hy,hP,hn,hl,h=>by
  simp only[zmC] at h
  split at h
  · rename_i hin
    obtain⟨⟨X,e⟩,h2,h3,h4,h5⟩:=zdO k (a+1) T T' (fun b h1 h2=>hy b (by omega) (by omega)) hP hn hl h
    refine⟨⟨X,e⟩,h2,h3,h4,fun b h6 h7=> ?_⟩
    by_cases e2:b=a
    · rw[e2,e];exact Zf.2 (.inl hin)
    · exact h5 b (by omega) (by omega)
  · rename_i hin
    split at h
    · cases h
    · rename_i hlt
      obtain⟨⟨X,e⟩,h2,h3,h4,h5⟩:=zdO k (a+1) (T++ [y a]) T' (fun b h1 h2=>hy b (by omega) (by omega)) (fun t ht=>by
       rcases Zf.1 ht with ht|ht
       · exact hP t ht
       · rw[Zi.1 ht];exact hy a (by omega) (by omega)) (Ys.2 ⟨hn,by simp,fun a ha b hb=>by obtain rfl:=Zi.1 hb;rintro rfl;exact hin ha⟩) (by rw[Zb,ZD];omega) h
      refine⟨⟨[y a]++X,by rw[e,Zu]⟩,h2,h3,h4,fun b h6 h7=> ?_⟩
      by_cases e2:b=a
      · rw[e2,e];simp
      · exact h5 b (by omega) (by omega)
def zEW(i:Nat):Option (List (List Nat))->(Int×List (List Int)×List (ByteArray×Bool))⊕(List (List Int)×Int)
 |none=>.inr ([],3)
 |some T=>.inl (((i+1:Nat):Int),T.map toI,z7A T)
def zDt:Option (List (List Nat))->List (List Int)×Int
 |none=>([],3)
 |some T=>(z9E (T.map toI),0)
section
variable {d:DFA} {m n:Nat} {S:List Nat} (hd:DfaOk d m n) (hn:n<=7) (hS:SetsP d m n S) {O:List Nat} (hH:zhR d m n S) (hO:OrdC d m n S O) (hpos:∀x∈S,x≠0)
include hd hn hS hH hO hpos
theorem zwu(hSl:S.length<=1000)(h0:0<S.length)(hx:zeV d m n S O x):z3K (z9q d m n S O) (toI x)=some ((tzN (S.getD (z7B d m n S O 0 0 x) 0):Nat):Int):=by
 have h128:2^n<=128:=Zm (n:=2) (by omega) hn
 have hOl:O.length<=S.length:=by
  rw[hO.prm.length_eq]
  unfold zaC
  exact ZO (ZI _ _) (by rw[ZC];exact z6o (z2t d m n S) S.length)
 have he:=(zhq hd hn hS hH hO hpos hx h0 x.length (Z7 _)).1
 rw[Y9] at he
 have hcl:∀(y:List Nat) (c i:Nat),(zaF d m n S O c i y).length<=y.length:=fun y=>by
  induction y with
  |nil=>intro c i;simp[zaF]
  |cons s y ih=>
   intro c i
   have:=ih (c+1) (dnN d m n S O c i s)
   simp only[zaF,Zb,Zs]
   split<;>simp<;>omega
 have hcx:=hcl x 0 0
 have hxl:=hx.1
 have hlast:=zpz (d:=d) (m:=m) (n:=n) (S:=S) (O:=O) x 0 0
 unfold z3K
 rw[zxL hd hn hS hH hO hpos hSl h0 hx,Z0,z0a]
 generalize hl:(0::zaF d m n S O 0 0 x)=l at*
 have hll:l.length=(zaF d m n S O 0 0 x).length+1:=by rw[←hl,Zs]
 have w:IntKind.i64.wrap ((l.length:Int)-1)=((l.length-1:Nat):Int):=by rw[z2G (by omega) (by omega)];omega
 have hg:l.getD (l.length-1) 0=z7B d m n S O 0 0 x:=by grind
 rw[w,z1o (by omega),Z0,hg,znB he,Z0]
 have hm:=z0e he
 have hlt:=hS.lt _ hm
 have hp:=hpos _ hm
 generalize S.getD (z7B d m n S O 0 0 x) 0=s at*
 have hw:IntKind.u64.wrap (s:Int)=(s:Int):=by rw[Xl];omega
 unfold vTz
 rw[hw,if_pos (by omega),Z0,Z2]
theorem zB4(hSl:S.length<=255)(h0:0<S.length){T:List (List Nat)}(hT:∀t∈T,zeV d m n S O t)(hTl:T.length<=2000){i:Nat}(hi:i<T.length):
 z0h (z2C (z9q d m n S O) (i:Int)) LFm (0,T.map toI,z7A T)=some (zEW i (zmC (fun a=>z5n d m n S O a (T.getD i [])) m 0 T)):=by
 have hm6:=hd.m6
 have hlt:(z9q d m n S O).d.letters=m:=hd.lt
 have hx:zeV d m n S O (T.getD i []):=hT _ (z4h hi)
 have h256:∀t,zeV d m n S O t->∀k∈t,k<256:=fun t ht=>zi9 hSl ht
 have hOl:O.length<=S.length:=by
  rw[hO.prm.length_eq]
  unfold zaC
  exact ZO (ZI _ _) (by rw[ZC];exact z6o (z2t d m n S) S.length)
 generalize hX:T.getD i []=x at*
 generalize hR:zmC (fun a=>z5n d m n S O a x) m 0 T=R
 refine Exists.elim (z1Q (b:=z2C (z9q d m n S O) (i:Int)) (fun z=>∃(a:Nat) (U:List (List Nat)),a<=m/\z=((a:Int),U.map toI,z7A U)/\zmC (fun a=>z5n d m n S O a x) (m-a) a U=R/\(∀t∈U,zeV d m n S O t)/\U.length<=2000/\i<U.length/\U.getD i []=x) (fun z=>m+1-z.1.toNat)
  (fun r=>r=zEW i R) ?_ LFm (0,T.map toI,z7A T) ⟨0,T,by omega,rfl,hR,hT,hTl,hi,hX⟩ (by simp only[LFm];omega)) fun r h=> ?_
 · rintro z ⟨a,U,ha,rfl,hU,hUt,hUl,hUi,hUx⟩
   simp only[z2C]
   rw[hlt]
   by_cases ha1:a<m
   · have hat:atI (U.map toI) (i:Int)=some (toI x):=by
      rw[z0A (by simpa using hUi)]
      rw[←hUx]
      simp[List.getD,hUi]
     obtain⟨y1,y2⟩:=zan hd hn hS hH hO hpos (a:=a) hx h0
     have hy256:=h256 _ y1
     have hyl:(z5n d m n S O a x).length<=1000:=by rw[y1.1];omega
     have hsg:=zd7 hy256 (Q:=U) (fun q hq=>h256 q (hUt q hq))
     have hma:m-a=(m-(a+1))+1:=by omega
     rw[hma] at hU
     simp only[zmC] at hU
     rw[if_pos (by omega),hat,Z0,zsv hd hn hS hH hO hpos (by omega) h0 ha1 hx,Z0]
     simp only
     rw[zgU hyl hy256,Z0,z0H (by omega)]
     by_cases hin:z5n d m n S O a x∈U
     · left
       rw[if_pos hin] at hU
       rw[if_pos (hsg.2 hin)]
       exact⟨_,rfl,⟨a+1,U,by omega,rfl,hU,hUt,hUl,hUi,hUx⟩,by simp only;omega⟩
     · rw[if_neg hin] at hU
       rw[if_neg (fun e=>hin (hsg.1 e)),Z8]
       by_cases hfull:U.length=2000
       · right
         rw[if_pos hfull] at hU
         rw[if_pos (by omega)]
         exact⟨_,rfl,by rw[←hU];rfl⟩
       · left
         rw[if_neg hfull] at hU
         rw[if_neg (by omega),Z0,z0i _ (by unfold z1C;omega)]
         refine⟨_,rfl,⟨a+1,U++ [z5n d m n S O a x],by omega,by rw[zeu,Y0];rfl,hU,fun t ht=> ?_,by rw[Zb,ZD];omega,by rw[Zb];omega,?_⟩,by simp only;omega⟩
         · grind
         · grind
   · right
     have:a=m:=by omega
     subst this
     rw[Nat.sub_self] at hU
     simp only[zmC] at hU
     rw[if_neg (by omega),z0H (by omega)]
     exact⟨_,rfl,by rw[←hU];rfl⟩
 · obtain⟨h3,rfl⟩:=h
   exact h3
theorem zs4(hSl:S.length<=255)(h0:0<S.length):z1V (z9q d m n S O)=some (zDt (zkh (z5n d m n S O) m 2001 0 [z2W d m n S O])):=by
 have hst:=zao hd hn hS hH hO hpos h0
 have hOl:O.length<=S.length:=by
  rw[hO.prm.length_eq]
  unfold zaC
  exact ZO (ZI _ _) (by rw[ZC];exact z6o (z2t d m n S) S.length)
 generalize hR:zkh (z5n d m n S O) m 2001 0 [z2W d m n S O]=R
 unfold z1V
 rw[zoq hd hn hS hH hO hpos (by omega) h0,Z0,zgU (by rw[hst.1];omega) (zi9 hSl hst),Z0]
 refine Exists.elim (z1Q (b:=z3x (z9q d m n S O)) (fun z=>∃(i:Nat) (T:List (List Nat)),i<=T.length/\z=((i:Int),T.map toI,z7A T)/\zkh (z5n d m n S O) m (2001-i) i T=R/\(∀t∈T,zeV d m n S O t)/\T.Nodup/\T.length<=2000/\T≠ []) (fun z=>2001-z.1.toNat)
  (fun r=>r=zDt R) ?_ LFm (0,[toI (z2W d m n S O)],z8p (z1i (toI (z2W d m n S O))) true ([]:List (ByteArray×Bool))) ⟨0,[z2W d m n S O],by simp,rfl,hR,fun t ht=>by rw[Zi.1 ht];exact hst,by simp,by simp,by simp⟩ (by simp only[LFm];omega)) fun r h=> ?_
 · rintro z ⟨i,T,hi,rfl,hT,hTt,hTn,hTl,hTe⟩
   simp only[z3x]
   rw[Z8]
   have hf:2001-i=(2001-(i+1))+1:=by omega
   rw[hf] at hT
   simp only[zkh] at hT
   by_cases hi1:i<T.length
   · rw[if_pos hi1] at hT
     rw[if_pos (by omega),zB4 hd hn hS hH hO hpos hSl h0 hTt hTl hi1]
     cases hb:zmC (fun a=>z5n d m n S O a (T.getD i [])) m 0 T with
     |none=>
      right
      rw[hb,Option.bind_none] at hT
      exact⟨_,rfl,by rw[←hT];rfl⟩
     |some T'=>
      left
      rw[hb,Z0] at hT
      have hx:zeV d m n S O (T.getD i []):=hTt _ (z4h hi1)
      obtain⟨⟨X,e⟩,h2,h3,h4,_⟩:=zdO m 0 T T' (fun b h1 h2=>(zan hd hn hS hH hO hpos (a:=b) hx h0).1) hTt hTn hTl hb
      refine⟨_,rfl,⟨i+1,T',by rw[e,Zb];omega,rfl,hT,h2,h3,h4,fun h=>hTe ?_⟩,by simp only;omega⟩
      rw[h] at e
      exact(List.append_eq_nil_iff.1 e.symm).1
   · right
     rw[if_neg hi1] at hT
     have hne:T.map toI≠ []:=fun e=>hTe (List.map_eq_nil_iff.1 e)
     rw[if_neg (by omega)]
     unfold zpW
     rw[if_pos ⟨hne,by rw[Z8];omega⟩,Z0]
     exact⟨_,rfl,by rw[←hT];rfl⟩
 · obtain⟨h3,rfl⟩:=h
   exact h3
end
end
section
theorem zEU(a b:Nat):(a+1+b=a+(b+1))=True:=by simp only[eq_iff_iff,iff_true];omega
end
section
open Go
section
variable {d:DFA} {m n:Nat} {S:List Nat} (hd:DfaOk d m n) (hn:n<=7) (hS:SetsP d m n S) {O:List Nat} (hH:zhR d m n S) (hO:OrdC d m n S O)
include hd hn hS hH hO
theorem zgK{c:Nat}(hc:c<O.length):O.getD c 0<(z6L d m n S).length/\z1j d m n S (O.getD c 0)<S.length:=by
 have _u:=hH
 have hmem:O.getD c 0∈O:=z0e hc
 have hout:=hO.prm.mem_iff.1 hmem
 unfold zaC at hout
 have h1:=Zh.1 (ZL.1 hout).1
 exact⟨h1,(z2c hd hn hS h1).2⟩
theorem zeA:O.length<=S.length:=by
 have _u:=hH
 rw[hO.prm.length_eq]
 unfold zaC
 exact ZO (ZI _ _) (by rw[ZC];exact z6o (z2t d m n S) S.length)
omit hd hn hS hH hO
include hd hn hS hH hO
end
end
section
open Go Go.IntKind
noncomputable section
attribute [local simp] zEU
end
end
section
open Go
noncomputable section
abbrev GIn:=Int⊕(List (List Int)×Int×List (List Int))
abbrev zGN:=Unit⊕(Unit⊕(List (List Int)×Int×List (List Int)))
@[simp] def outH(a0:List (List Int))(d:List Int):zGN->Fr
  | .inl _=>⟨60,[(0,.one (.t none (.sl a0.length (a0.map fun x0=>.sl x0.length (x0.map fun x1=>.sc (.int .i64 x1)))))),(5,.one (.tf 1 [.sl d.length (d.map fun x1=>.sc (.int .i64 x1))])),(6,.one (.t none (.sl 1 [.sl d.length (d.map fun x1=>.sc (.int .i64 x1))]))),(7,xI 0)],[]⟩
  | .inr (.inl _)=>⟨60,[(0,.one (.t none (.sl a0.length (a0.map fun x0=>.sl x0.length (x0.map fun x1=>.sc (.int .i64 x1)))))),(5,.one (.tf 1 [.sl d.length (d.map fun x1=>.sc (.int .i64 x1))])),(6,.one (.t none (.sl 1 [.sl d.length (d.map fun x1=>.sc (.int .i64 x1))]))),(7,xI 1)],[]⟩
  | .inr (.inr (s,i,l))=>⟨60,[(0,.one (.t none (.sl a0.length (a0.map fun x0=>.sl x0.length (x0.map fun x1=>.sc (.int .i64 x1)))))),(5,.one (.h 5 [])),(6,.one (.t none (.sl s.length (s.map fun x0=>.sl x0.length (x0.map fun x1=>.sc (.int .i64 x1)))))),(7,xI i)],[(5,.os 1 l.length (l.map fun x0=>.sl x0.length (x0.map fun x1=>.sc (.int .i64 x1))))]⟩
@[simp] def zGq(a0:List (List Int))(i:Int):List (List Int)×Int×List (List Int)->Fr
  |(s,j,l)=>⟨60,[(0,.one (.t none (.sl a0.length (a0.map fun x0=>.sl x0.length (x0.map fun x1=>.sc (.int .i64 x1)))))),(5,.one (.h 5 [])),(6,.one (.t none (.sl s.length (s.map fun x0=>.sl x0.length (x0.map fun x1=>.sc (.int .i64 x1)))))),(7,xI i),(30,.one (.t none (.sl a0.length (a0.map fun x0=>.sl x0.length (x0.map fun x1=>.sc (.int .i64 x1)))))),(31,xI (a0.length:Int)),(32,xI j)],[(5,.os 1 l.length (l.map fun x0=>.sl x0.length (x0.map fun x1=>.sc (.int .i64 x1))))]⟩
@[simp] def inA(a0:List (List Int))(d:List Int):GIn->Fr
  | .inl j=>⟨60,[(0,.one (.t none (.sl a0.length (a0.map fun x0=>.sl x0.length (x0.map fun x1=>.sc (.int .i64 x1)))))),(5,.one (.tf 1 [.sl d.length (d.map fun x1=>.sc (.int .i64 x1))])),(6,.one (.t none (.sl 1 [.sl d.length (d.map fun x1=>.sc (.int .i64 x1))]))),(7,xI 0),(30,.one (.t none (.sl a0.length (a0.map fun x0=>.sl x0.length (x0.map fun x1=>.sc (.int .i64 x1)))))),(31,xI (a0.length:Int)),(32,xI j)],[]⟩
  | .inr s=>zGq a0 0 s
end
end
section
theorem zGg(a:Nat):1+a=a+1:=Nat.add_comm 1 a
end
section
open Go Go.IntKind
noncomputable section
attribute [local simp] zGg zEU
end
end
section
open Go
theorem zvb{α β:Type}(a b:α->β):∀(xs:List α) (i:Nat) (v:α),(xs.set i v).flatMap (fun x=> [a x,b x])=((xs.flatMap fun x=> [a x,b x]).set (i*2) (a v)).set (i*2+1) (b v)
 | [],i,v=>by simp
 |x::xs,0,v=>by simp
 |x::xs,i+1,v=>by
  have ih:=zvb a b xs i v
  have e1:(i+1)*2=i*2+1+1:=by omega
  have e2:(i+1)*2+1=i*2+1+1+1:=by omega
  rw[List.set_cons_succ,Y4,Y4,ih,e2,e1]
  simp
end
section
open Go Go.IntKind
noncomputable section
attribute [-simp] Nat.mul_lt_mul_right
attribute [local simp] zvb
instance:IsS CRow:=⟨⟩
instance:IsS Casc:=⟨⟩
end
end
section
open Go
theorem zmR{a b:List Nat}(h:toI a=toI b):a=b:=by
 have:=congrArg (List.map Int.toNat) h
 unfold toI at this
 rw[Yd,Yd] at this
 have e:(Int.toNat∘fun x:Nat=>(x:Int))=id:=by funext x;simp
 rwa [e,YX,YX] at this
abbrev zac:=List Nat×List (List Nat)
def zcM(r:zac):CRow:=⟨toI r.1,r.2.map toI⟩
def z7V(x:List Nat)(f:Nat->List (List Nat))(k:Nat)(R:List zac):List zac:=(List.range k).foldl (fun R i=>if ∀r∈R,r.1≠x.take i then R++ [(x.take i,f i)] else R) R
theorem zaa(x:List Nat)(f:Nat->List (List Nat))(k:Nat)(R:List zac):z7V x f (k+1) R=if ∀r∈z7V x f k R,r.1≠x.take k then z7V x f k R++ [(x.take k,f k)] else z7V x f k R:=by
 unfold z7V
 rw[Yz,YM]
 rfl
structure RowsOk(f:List Nat->Nat->List (List Nat))(L:Nat)(M:List (List Nat))(R:List zac):Prop where
 nd:R.Pairwise fun r q=>r.1≠q.1
 of:∀r∈R,∃x∈M,∃i,i<L/\r=(x.take i,f x i)
 al:∀x∈M,∀i,i<L->∃r∈R,r.1=x.take i
theorem zpQ{f:List Nat->Nat->List (List Nat)}{L:Nat}{M:List (List Nat)}{R:List zac}(h:RowsOk f L M R)(x:List Nat):∀k,k<=L->
 (z7V x (f x) k R).Pairwise (fun r q=>r.1≠q.1)/\(∀r∈z7V x (f x) k R,∃y∈M++ [x],∃i,i<L/\r=(y.take i,f y i))/\(∀r∈R,r∈z7V x (f x) k R)/\ ∀i,i<k->∃r∈z7V x (f x) k R,r.1=x.take i
 |0,_=>⟨h.nd,fun r hr=>by
    obtain⟨y,hy,i,hi,e⟩:=h.of r hr
    exact⟨y,Zf.2 (.inl hy),i,hi,e⟩,fun r hr=>hr,fun i hi=>by omega⟩
 |k+1,hk=>by
  obtain⟨h1,h2,h3,h4⟩:=zpQ h x k (by omega)
  rw[zaa]
  split
  · rename_i hnew
    refine⟨YC.2 ⟨h1,by simp,fun a ha b hb=>by rw[Zi.1 hb];exact hnew a ha⟩,fun r hr=> ?_,fun r hr=>Zf.2 (.inl (h3 r hr)),fun i hi=> ?_⟩
    · rcases Zf.1 hr with hr|hr
      · exact h2 r hr
      · exact⟨x,by simp,k,by omega,Zi.1 hr⟩
    · by_cases e:i=k
      · subst e;exact⟨_,Zf.2 (.inr (Zi.2 rfl)),rfl⟩
      · obtain⟨r,hr,e2⟩:=h4 i (by omega)
        exact⟨r,Zf.2 (.inl hr),e2⟩
  · rename_i hold
    refine⟨h1,h2,h3,fun i hi=> ?_⟩
    by_cases e:i=k
    · subst e
      obtain⟨r,hr⟩:=Classical.not_forall.1 hold
      obtain⟨hr,e2⟩:=Classical.not_imp.1 hr
      exact⟨r,hr,Classical.not_not.1 e2⟩
    · exact h4 i (by omega)
theorem zrH{f:List Nat->Nat->List (List Nat)}{L:Nat}{M:List (List Nat)}{R:List zac}(h:RowsOk f L M R)(x:List Nat):RowsOk f L (M++ [x]) (z7V x (f x) L R):=by
 obtain⟨h1,h2,h3,h4⟩:=zpQ h x L (Z7 _)
 refine⟨h1,h2,fun y hy i hi=> ?_⟩
 rcases Zf.1 hy with hy|hy
 · obtain⟨r,hr,e⟩:=h.al y hy i hi
   exact⟨r,h3 r hr,e⟩
 · rw[Zi.1 hy];exact h4 i hi
end
section
open Go
variable{x:List Nat}{i:Nat}
def zAW:Cover:=⟨⟨0,[],[]⟩,[],[],[],[]⟩
section
variable (d:DFA) (m n:Nat) (S O:List Nat)
def z2j(x:List Nat)(i:Nat):List (List Nat):=(List.range m).map fun a=>(z8q d m n S O a x).getD i []
def wC(x:List Nat)(a i:Nat):List (List Int):=(List.range a).map fun b=>toI ((z8q d m n S O b x).getD i [])
end
section
variable {d:DFA} {m n:Nat} {S:List Nat} (hd:DfaOk d m n) (hn:n<=7) (hS:SetsP d m n S) {O:List Nat} (hH:zhR d m n S) (hO:OrdC d m n S O) (hpos:∀x∈S,x≠0) (hbot:∀i k,i<S.length->k<S.length->zad S k=true->z7k d m n S i k=true->zad S i=true)
theorem zyX:wC d m n S O x m i=(z2j d m n S O x i).map toI:=by
 unfold wC z2j
 rw[Yd];rfl
theorem zyW{a:Nat}:wC d m n S O x (a+1) i=wC d m n S O x a i++ [toI ((z8q d m n S O a x).getD i [])]:=by
 unfold wC
 rw[Yz,Y0];rfl
theorem zB1{a:Nat}:(wC d m n S O x a i).length=a:=by simp[wC]
include hd hn hS hH hO hpos
include hbot
end
end
section
open Go
theorem zvy(x y:List Int):z9u y x= -z9u x y:=by
 have:=z9n x y
 unfold z9u
 split
 · split
   · omega
   · rfl
 · split
   · rfl
   · exact this
theorem zj1{x y z:List Int}(h1:z9u x y<0)(h2:z9u y z<0):z9u x z<0:=by
 unfold z9u at*
 have l1:x.length<=y.length:=by
  rcases Yx y.length x.length with hh|hh
  · rw[if_neg (by omega),if_pos hh] at h1;omega
  · exact hh
 have l2:y.length<=z.length:=by
  rcases Yx z.length y.length with hh|hh
  · rw[if_neg (by omega),if_pos hh] at h2;omega
  · exact hh
 by_cases b1:x.length<z.length
 · rw[if_pos b1];omega
 · rw[if_neg b1,if_neg (by omega)]
   rw[if_neg (by omega),if_neg (by omega)] at h1 h2
   have h3:=z8T x y z (by omega) (by omega)
   by_cases e:z8K x z=0
   · have:=h3.2 e;omega
   · omega
def ltR(r q:zac):Prop:=z9u (toI r.1) (toI q.1)<0
instance(r q:zac):Decidable (ltR r q):=by unfold ltR;exact inferInstance
theorem ztL{a b c:zac}(h1:ltR a b)(h2:ltR b c):ltR a c:=zj1 h1 h2
theorem zBW{a b:zac}(hne:a.1≠b.1)(h:¬ltR a b):ltR b a:=by
 unfold ltR at*
 rw[zvy]
 have:z9u (toI a.1) (toI b.1)≠0:=fun e=>hne (zmR ((za5 _ _).1 e))
 omega
section
variable {d:DFA} {z1:List Int} {z2:List Hol×Int} {z3:List Int}
end
end
section
open Go
theorem zoi(e:List Nat):(toI e).map Int.toNat=e:=by
 unfold toI;rw[Yd]
 have:(Int.toNat∘fun x:Nat=>(x:Int))=id:=by funext x;simp
 rw[this,YX]
section
variable {d:DFA} {m n:Nat} {S:List Nat} (hd:DfaOk d m n) (hn:n<=7) (hS:SetsP d m n S) {O:List Nat} (hH:zhR d m n S) (hO:OrdC d m n S O) (hpos:∀x∈S,x≠0) (hbot:∀i k,i<S.length->k<S.length->zad S k=true->z7k d m n S i k=true->zad S i=true)
def zeZ(d:DFA)(m n:Nat)(S O:List Nat)(x:List Nat):Nat:=tzN (S.getD (z7B d m n S O 0 0 x) 0)
include hd hn hS hH hO hpos
structure CovOk(d:DFA)(m n:Nat)(S O:List Nat)(z1:List Int)(G:List Hol)(c:Cover):Prop where
 ex:∃T Y:List (List Nat),∃W:List zac,zkh (z5n d m n S O) m 2001 0 [z2W d m n S O]=some T/\Y.map toI=z9E (T.map toI)/\Y.Perm T/\W.Pairwise ltR/\RowsOk (z2j d m n S O) O.length T W/\
  c=⟨⟨d.letters,z1,W.map zcM⟩,toI (z2W d m n S O),Y.map toI,toI (Y.map (zeZ d m n S O)),G⟩
theorem zn1{f:List Nat->Nat->List (List Nat)}{L:Nat}{M:List (List Nat)}{R W:List zac}(h:RowsOk f L M R)(hp:W.Perm R):RowsOk f L M W:=by
 have _u:=hd;have _v:=hn;have _w:=hS;have _x:=hH;have _y:=hO;have _z:=hpos
 exact⟨(hp.pairwise_iff fun {a b} h e=>h e.symm).2 h.nd,fun r hr=>h.of r (hp.mem_iff.1 hr),fun x hx i hi=>by obtain⟨r,hr,e⟩:=h.al x hx i hi;exact⟨r,hp.mem_iff.2 hr,e⟩⟩
include hbot
end
end
section
open Go
variable{l p:List Int}{N:Nat}
def zgQ(N:Nat)(X:List Int):List Bool:=(List.range N).map fun x:Nat=>decide ((x:Int)∈X)
theorem zx1{X:List Int}:(zgQ N X).length=N:=by simp[zgQ]
theorem zBT:zgQ N []=List.replicate N false:=by
 unfold zgQ;exact Ze (by simp) fun i h1 h2=>by simp
theorem zzM{v:Nat}{X:List Int}(h:v<N):atI (zgQ N X) (v:Int)=some (decide ((v:Int)∈X)):=by
 rw[z0A (by rw[zx1];exact h)];simp[zgQ]
theorem zwZ{v:Nat}{X:List Int}(h:v<N):(zgQ N X).set v true=zgQ N (X++ [(v:Int)]):=by
 refine Ze (by simp[zgQ]) fun i h1 h2=> ?_
 rw[Yi]
 simp only[zgQ,ZF,ZP,Zf,Zi]
 by_cases e:v=i
 · subst e;simp
 · rw[if_neg e]
   exact decide_eq_decide.2 ⟨fun h=>.inl h,fun h=>h.elim id fun h=>absurd h (by omega)⟩
theorem zwm{k:Nat}(h:k<l.length):l.take (k+1)=l.take k++ [l[k]]:=by rw[Zw h]
theorem ziO:l.Nodup↔ ∀k (h:k<l.length),l[k]∉l.take k:=by
 rw[List.nodup_iff_pairwise_ne,ZE]
 constructor
 · intro h k hk hm
   obtain⟨i,hi,e⟩:=Zo hm
   rw[Zr] at hi
   rw[Xx] at e
   exact h i k (by omega) hk (by omega) e
 · intro h i j hi hj hij e
   refine h j hj ?_
   have:i<(l.take j).length:=by rw[Zr];omega
   have h2:=Zk this
   rw[Xx,e] at h2
   exact h2
def zas(N:Nat)(p:List Int):Bool:=decide (p.length=N)&&(p.all (fun x=>decide (0<=x/\x<(N:Int)))&&decide p.Nodup)
theorem zdj:zas N p=true↔p.length=N/\(∀x∈p,0<=x/\x<(N:Int))/\p.Nodup:=by
 simp[zas]
def zAV(N:Nat)(p:List Int)(k:Nat):Bool:= !decide (0<=p.getD k 0/\p.getD k 0<(N:Int))||decide (p.getD k 0∈p.take k)
theorem zAz(hl:p.length=N):((List.range N).all fun k=> !zAV N p k)=zas N p:=by
 rw[Yg,zdj,Zn]
 have hg:∀k (h:k<p.length),p.getD k 0=p[k]:=fun k h=>by rw[List.getD,Z1 h,Z4]
 constructor
 · intro h
   refine⟨hl,fun x hx=> ?_,ziO.2 fun k hk=> ?_⟩
   · obtain⟨k,hk,rfl⟩:=Zo hx
     have:=h k (Zh.2 (by omega))
     simp only[zAV,hg k hk] at this
     simp at this
     exact this.1
   · have:=h k (Zh.2 (by omega))
     simp only[zAV,hg k hk] at this
     simp at this
     exact this.2
 · rintro⟨_,h1,h2⟩ k hk
   have hk:=Zh.1 hk
   have a:=h1 _ (Zk (show k<p.length by omega))
   have b:=ziO.1 h2 k (by omega)
   simp only[zAV,hg k (by omega)]
   simp[a,b]
theorem zjo{Q:List (List Int)}(hN:N<=1000)(hQ:Q.length<4611686018427387904):z2L Q (N:Int)=some (Q.all (zas N)):=by
 unfold z2L
 rw[zdr (b:=z2K Q (N:Int)) (l:=Q) [] (zas N) (A:=some false) (B:=some true) hQ ?_ ?_]
 · cases Q.all (zas N)<;>rfl
 · intro k hk
   have hg:Q.getD k []=Q[k]:=by rw[List.getD,Z1 hk,Z4]
   simp only[z2K]
   rw[if_pos (by omega),z0A hk,Z0,hg]
   generalize Q[k]=p
   by_cases hl:p.length=N
   · rw[if_pos (by omega),z0i _ (by unfold z0S;omega),Z2,←zAz hl,
      z4N (s:=((0:Int),List.replicate N false)) N (fun t=>((t:Int),zgQ N (p.take t))) (zAV N p) (fun _=>z0d (some false)) (x:=z0c ((k+1:Nat):Int)) (by rw[Xs,zBT];rfl) (by simp only[LFm];omega) ?_ ?_]
     · rw[zaA]
     · intro t ht
       have ht':t<p.length:=by omega
       have hgt:p.getD t 0=p[t]:=by rw[List.getD,Z1 ht',Z4]
       simp only[z3P,zAV,hgt]
       rw[if_pos (by omega),z0A ht',Z0,zwm ht']
       generalize p[t]=v
       by_cases c1:v<0
       · rw[if_pos c1,if_pos (by simp;omega)]
       · rw[if_neg c1]
         by_cases c2:(N:Int)<=v
         · rw[if_pos c2,if_pos (by simp;omega)]
         · obtain⟨u,rfl⟩:=ZG (show 0<=v by omega)
           rw[if_neg c2,zzM (by omega),Z0]
           by_cases c3:(u:Int)∈p.take t
           · rw[if_pos (by simpa using c3),if_pos (by simp[c3])]
           · rw[if_neg (by simpa using c3),if_neg (by simp[c3];omega),z0H (by omega),Z2,zwZ (by omega)]
     · simp only[z3P]
       rw[if_neg (by omega),z0H (by omega)]
   · have:zas N p=false:=by unfold zas;rw[decide_eq_false hl];rfl
     rw[if_neg (by omega),this,if_neg (by simp)]
 · simp only[z2K]
   rw[if_neg (by omega)]
end
section
open Go
def zmY(n:Nat)(s:Int):Bool:=decide (0<=s/\s<((2^n:Nat):Int))
theorem zfm{n:Nat}{s:Int}:zmY n s=true↔0<=s/\s.toNat<2^n:=by
 unfold zmY;rw[decide_eq_true_eq];omega
theorem zm1{n:Nat}(hn:n<=12)(s:Int):z5W s (n:Int)=some (zmY n s):=by
 unfold z5W zmY
 by_cases h:0<=s
 · rw[if_pos h,z0i _ (by omega),z8B (by omega)]
   congr 1
   exact decide_eq_decide.2 ⟨fun h'=>⟨h,h'⟩,fun h'=>h'.2⟩
 · rw[if_neg h,decide_eq_false (fun h'=>h h'.1)]
def zlV(d:DFA)(h:Hol)(k:Nat):Bool:=decide (((z4i d h.set.toNat (h.words.getD k ByteArray.empty).data.toList:Nat):Int)=h.set)&&(List.range h.tiles.length).all fun i=>decide (((z4i d (h.tiles.getD i 0).toNat (h.words.getD k ByteArray.empty).data.toList:Nat):Int)=h.tiles.getD ((h.perms.getD k []).getD i 0).toNat 0)
def zAS(d:DFA)(m n:Nat)(h:Hol):Bool:=zmY n h.set&&(decide (h.words.length=h.perms.length)&&(decide (1<=h.tiles.length/\h.tiles.length<=32)&&(h.tiles.all (zmY n)&&((List.range h.words.length).all fun k=>decide (zaP m (h.words.getD k ByteArray.empty))&&(zas h.tiles.length (h.perms.getD k [])&&zlV d h k)))))
section
variable {d:DFA} {m n:Nat} (hd:DfaOk d m n) (hn:n<=12) {h:Hol} (hs:zmY n h.set=true) (hT:h.tiles.all (zmY n)=true) (hl:h.tiles.length<=32)
include hd hn hs hT hl
omit hd hn hs hl in
theorem zsj{i:Nat}(hi:i<h.tiles.length):atI h.tiles (i:Int)=some (((h.tiles.getD i 0).toNat:Nat):Int)/\(h.tiles.getD i 0).toNat<2^n/\(((h.tiles.getD i 0).toNat:Nat):Int)=h.tiles.getD i 0:=by
 have hg:h.tiles.getD i 0=h.tiles[i]:=by rw[List.getD,Z1 hi,Z4]
 have:=zfm.1 (Zn.1 hT _ (Zk hi))
 rw[hg,z0A hi]
 exact⟨by congr 1;omega,this.2,by omega⟩
omit hd hn hs hT hl in
theorem zzu{p:List Int}(hp:zas h.tiles.length p=true){i:Nat}(hi:i<h.tiles.length):∃j,j<h.tiles.length/\atI p (i:Int)=some (j:Int)/\(p.getD i 0).toNat=j:=by
 obtain⟨h1,h2,_⟩:=zdj.1 hp
 have hi':i<p.length:=by omega
 have hg:p.getD i 0=p[i]:=by rw[List.getD,Z1 hi',Z4]
 have:=h2 _ (Zk hi')
 refine⟨p[i].toNat,by omega,?_,by rw[hg]⟩
 rw[z0A hi'];congr 1;omega
omit hs in
theorem zqL{k:Nat}(hk:k<h.perms.length)(hp:zas h.tiles.length (h.perms.getD k [])=true){w:List UInt8}(hw:zhU m w):
 z0h (z4S h (k:Int) (toI (zhP d n w))) LFm 0=if((List.range h.tiles.length).all fun i=>decide (((z4i d (h.tiles.getD i 0).toNat w:Nat):Int)=h.tiles.getD ((h.perms.getD k []).getD i 0).toNat 0))=true then z0c (IntKind.i64.wrap ((k:Int)+1)) else z0d (some false):=by
 have hpa:atI h.perms (k:Int)=some (h.perms.getD k []):=by rw[z0A hk,List.getD,Z1 hk,Z4]
 rw[z4N (s:=(0:Int)) h.tiles.length (fun i=>(i:Int)) (fun i=> !decide (((z4i d (h.tiles.getD i 0).toNat w:Nat):Int)=h.tiles.getD ((h.perms.getD k []).getD i 0).toNat 0)) (fun _=>z0d (some false)) (x:=z0c (IntKind.i64.wrap ((k:Int)+1))) rfl (by simp only[LFm];omega) ?_ ?_]
 · rw[zaA];simp only[X4]
 · intro i hi
   obtain⟨t1,t2,t3⟩:=zsj hT hi
   obtain⟨j,j1,j2,j3⟩:=zzu hp hi
   obtain⟨u1,u2,u3⟩:=zsj hT j1
   simp only[z4S]
   rw[if_pos (by omega),t1,Z0,hpa,Z0,j2,Z0,u1,Z0,zdR hd hn hw t2,Z0,z0H (by omega),j3,u3]
   by_cases c:((z4i d (h.tiles.getD i 0).toNat w:Nat):Int)=h.tiles.getD j 0
   · rw[if_pos c,decide_eq_true c,if_neg (by simp)]
   · rw[if_neg c,decide_eq_false c,if_pos (by simp)]
 · simp only[z4S]
   rw[if_neg (by omega)]
end
end
section
open Go
theorem zhx{d:DFA}{m n:Nat}{h:Hol}:zAS d m n h=true↔zmY n h.set=true/\h.words.length=h.perms.length/\(1<=h.tiles.length/\h.tiles.length<=32)/\h.tiles.all (zmY n)=true/\ ∀k,k<h.words.length->zaP m (h.words.getD k ByteArray.empty)/\zas h.tiles.length (h.perms.getD k [])=true/\zlV d h k=true:=by
 unfold zAS
 simp only[Z5,decide_eq_true_eq,Zn,Zh]
theorem zhy{d:DFA}{m n:Nat}{h:Hol}(hh:¬(zmY n h.set=true/\h.words.length=h.perms.length/\(1<=h.tiles.length/\h.tiles.length<=32)/\h.tiles.all (zmY n)=true/\ ∀k,k<h.words.length->zaP m (h.words.getD k ByteArray.empty)/\zas h.tiles.length (h.perms.getD k [])=true/\zlV d h k=true)):zAS d m n h=false:=by
 cases e:zAS d m n h with
 |false=>rfl
 |true=>exact absurd (zhx.1 e) hh
theorem zAX{h:Hol}{k:Nat}(hk:k<h.words.length):atI h.words (k:Int)=some (h.words.getD k ByteArray.empty):=by
 rw[z0A hk,List.getD,Z1 hk,Z4]
section
variable {d:DFA} {m n:Nat} (hd:DfaOk d m n) (hn:n<=12) {h:Hol} (hw:h.words.length<2^61) (hp:h.perms.length<2^61)
include hd hn hw hp
omit hw in
theorem zuV:z6R d h=some (zAS d m n h):=by
 have h6:=hd.m6
 have h1:=hd.m1
 unfold z6R
 rw[zdH (zps hd hn),zo4 hd (by omega),Z0,if_pos rfl,hd.fin,if_neg (by omega),zm1 hn,Z0]
 cases hs:zmY n h.set with
 |false=>rw[if_neg (by simp),zhy (fun e=>by rw[hs] at e;exact absurd e.1 (by simp))]
 |true=>
  rw[if_pos rfl]
  by_cases c1:(h.tiles.length:Int)<1
  · rw[if_pos c1,zhy (fun e=>by have:=e.2.2.1.1;omega)]
  rw[if_neg c1]
  by_cases c2:32<(h.tiles.length:Int)
  · rw[if_pos c2,zhy (fun e=>by have:=e.2.2.1.2;omega)]
  rw[if_neg c2]
  by_cases c3:(h.words.length:Int)=(h.perms.length:Int)
  · rw[if_pos c3,zjo (by omega) (by omega),Z0]
    have hra:=zdd (zas h.tiles.length) h.perms []
    cases hq:h.perms.all (zas h.tiles.length) with
    |false=>
     rw[if_neg (by simp),zhy (fun e=> ?_)]
     rw[hq] at hra
     have:((List.range h.perms.length).all fun k=>zas h.tiles.length (h.perms.getD k []))=true:=Zn.2 fun k hk=>(e.2.2.2.2 k (by have:=Zh.1 hk;omega)).2.1
     rw[hra] at this;cases this
    |true=>
     have hpk:∀k,k<h.perms.length->zas h.tiles.length (h.perms.getD k [])=true:=fun k hk=>by
      rw[hq] at hra
      exact Zn.1 hra k (Zh.2 hk)
     rw[if_pos rfl,zdr (b:=z5v d h) (l:=h.tiles) 0 (zmY n) (A:=some false) (B:=z0h (z4T d h) LFm 0) (by omega) ?_ ?_]
     · cases ht:h.tiles.all (zmY n) with
       |false=>rw[if_neg (by simp),zhy (fun e=>by rw[ht] at e;exact absurd e.2.2.2.1 (by simp))]
       |true=>
        rw[if_pos rfl,z4N (s:=(0:Int)) h.words.length (fun k=>(k:Int)) (fun k=> !(decide (zaP m (h.words.getD k ByteArray.empty))&&zlV d h k)) (fun _=>some false) (x:=some true) rfl (by simp only[LFm];omega) ?_ ?_]
        · rw[zaA]
          simp only[X4]
          cases ha:((List.range h.words.length).all fun k=>decide (zaP m (h.words.getD k ByteArray.empty))&&zlV d h k) with
          |true=>
           rw[if_pos rfl]
           refine congrArg some (zhx.2 ⟨hs,by omega,by omega,ht,fun k hk=> ?_⟩).symm
           have:=Zn.1 ha k (Zh.2 hk)
           rw[Z5,decide_eq_true_eq] at this
           exact⟨this.1,hpk k (by omega),this.2⟩
          |false=>
           rw[if_neg (by simp),zhy (fun e=> ?_)]
           have:((List.range h.words.length).all fun k=>decide (zaP m (h.words.getD k ByteArray.empty))&&zlV d h k)=true:=Zn.2 fun k hk=>by
            have:=e.2.2.2.2 k (Zh.1 hk)
            rw[Z5,decide_eq_true_eq];exact⟨this.1,this.2.2⟩
           rw[ha] at this;cases this
        · intro k hk
          simp only[z4T]
          rw[if_pos (by omega),zAX hk,Z0,zc3,hd.lt,zj7 ⟨h1,h6⟩,Z0]
          unfold zlV
          generalize h.words.getD k ByteArray.empty=w at*
          by_cases cw:zaP m w
          · have sb:=zfm.1 hs
            rw[decide_eq_true cw,if_pos rfl,zhN hd hn cw.2 (by have:=cw.1;omega),Z0]
            have es:h.set=((h.set.toNat:Nat):Int):=by omega
            have ea:z2A (toI (zhP d n w.data.toList)) h.set=some ((z4i d h.set.toNat w.data.toList:Nat):Int):=by
             conv=>lhs;rw[es]
             exact zdR hd hn cw.2 sb.2
            rw[ea,Z0]
            by_cases c5:((z4i d h.set.toNat w.data.toList:Nat):Int)=h.set
            · rw[if_pos c5,decide_eq_true c5,zqL hd hn ht (by omega) (by omega) (hpk k (by omega)) cw.2,z0H (by omega)]
              cases((List.range h.tiles.length).all fun i=>decide (((z4i d (h.tiles.getD i 0).toNat w.data.toList:Nat):Int)=h.tiles.getD ((h.perms.getD k []).getD i 0).toNat 0))<;>simp
            · rw[if_neg c5,decide_eq_false c5,if_pos (by simp)]
          · rw[decide_eq_false cw,if_neg (by simp),if_pos (by simp)]
        · simp only[z4T]
          rw[if_neg (by omega)]
     · intro k hk
       have hg:h.tiles.getD k 0=h.tiles[k]:=by rw[List.getD,Z1 hk,Z4]
       simp only[z5v]
       rw[if_pos (by omega),z0A hk,Z0,hd.fin,zm1 hn,Z0,hg,z0H (by omega)]
     · simp only[z5v]
       rw[if_neg (by omega)]
  · rw[if_neg c3,zhy (fun e=>c3 (by have:=e.2.1;omega))]
end
end
section
open Go
def zDz(a:Nat):ByteArray:=⟨#[UInt8.ofNat (IntKind.u8.wrap (IntKind.i64.wrap (97+(a:Int)))).toNat]⟩
def zqD(W:List ByteArray)(w:ByteArray):Nat->Option (List Int)
 |0=>some []
 |a+1=>match zqD W w a with
  |none=>none
  |some row=>if zaM w (zDz a) then(match z0h (z4z W (a:Int) row) LFm (w++zDz a,-1) with
   |some (.inl (x,r))=>if x=((a+1:Nat):Int) then some r else none
   |_=>none) else none
def zAT(m L:Nat):Bool:=match z7M m L with
 |none=>false
 |some W=>decide (1<=W.length)&&decide (W.length<=7)&&W.all fun w=>match zqD W w m with
  |none=>false
  |some r=>decide (r.length=m)&&r.all fun x=>decide (0<=x/\x<(W.length:Int))
theorem zAw:zAT 1 1=true/\zAT 1 2=true/\zAT 2 1=true/\zAT 2 2=true:=⟨by kernel_rfl,by kernel_rfl,by kernel_rfl,by kernel_rfl⟩
theorem zDl{m:Nat}{W:List ByteArray}{i:Int}{fs:List Bool}{rs:List (List Int)}{w:ByteArray}{v:Int×Tape}{r:List Int}(hm:m<=6)(h:zqD W w m=some r):
 z0h (z3H (m:Int) W i fs rs w v) LFm (0,[])=chk (z1C 24 (rs.length+1)) (z0c (IntKind.i64.wrap (i+1),v.2.l,v.2.at_,fs++ [decide (v.1=1)],rs++ [r])):=by
 have key:∀a,a<=m->∃r',zqD W w a=some r':=by
  have:∀j a,a+j=m->∃r',zqD W w a=some r':=by
   intro j
   induction j with
   |zero=>intro a ha;obtain rfl:a=m:=by omega
          exact⟨r,h⟩
   |succ j ih=>
    intro a ha
    obtain⟨r',hr'⟩:=ih (a+1) (by omega)
    rw[zqD] at hr'
    split at hr'
    · cases hr'
    · rename_i row hrow;exact⟨row,hrow⟩
  intro a ha
  exact this (m-a) a (by omega)
 refine z0n (s:=((0:Int),([]:List Int))) m (fun a=>((a:Int),(zqD W w a).getD [])) rfl (by simp only[LFm];omega) (fun a ha=> ?_) ?_
 · obtain⟨r1,h1⟩:=key a (by omega)
   obtain⟨r2,h2⟩:=key (a+1) (by omega)
   rw[h1,h2,Z4,Z4]
   rw[zqD,h1] at h2
   simp only[z3H]
   rw[if_pos (by omega)]
   dsimp only at h2
   split at h2
   case isFalse=>cases h2
   rename_i hc
   change chk (zaM w (zDz a)) (z0h (z4z W (a:Int) r1) LFm (w++zDz a,-1))=_
   rw[z0i _ hc]
   split at h2
   · rename_i x q hq
     split at h2
     · rename_i hx
       cases h2
       rw[←hx]
       exact hq
     · cases h2
   · cases h2
 · simp only[z3H]
   rw[if_neg (by omega),h,Z4]
end
section
open Go
def defT:List (List Int):= [[1,2],[3,4],[5,6],[3,4],[5,6],[3,4],[5,6]]
theorem zEE(l s:Int)(f:List Bool):(z2d ⟨l,s,f,defT⟩ 2 7).length=10:=by kernel_rfl
def zAH(m L:Nat):Bool:=match z7M m L with
 |none=>true
 |some W=>decide (W.length<=4)||(decide (W.length=7)&&decide (m=2)&&decide ((W.map fun w=>zqD W w m)=defT.map some))
theorem zBa:zAH 1 1=true/\zAH 1 2=true/\zAH 2 1=true/\zAH 2 2=true:=⟨by kernel_rfl,by kernel_rfl,by kernel_rfl,by kernel_rfl⟩
theorem zsm(m L:Nat):match z7M m L with
 |none=>True
 |some W=>1<=m/\m<=2->1<=L/\L<=2->W.length<=4∨(W.length=7/\m=2/\(W.map fun w=>zqD W w m)=defT.map some):=by
 cases hW:z7M m L with
 |none=>trivial
 |some W=>
  intro hm hL
  have h:zAH m L=true:=by
   obtain⟨c1,c2,c3,c4⟩:=zBa
   rcases(by omega:(m=1/\L=1)∨(m=1/\L=2)∨(m=2/\L=1)∨(m=2/\L=2)) with⟨rfl,rfl⟩|⟨rfl,rfl⟩|⟨rfl,rfl⟩|⟨rfl,rfl⟩
   · exact c1
   · exact c2
   · exact c3
   · exact c4
  unfold zAH at h
  rw[hW] at h
  simpa[and_assoc] using h
theorem zlk{d:DFA}{m n:Nat}(hd:DfaOk d m n)(hn:n<=5):(z2d d m n).length<=32:=by
 have hS:=z8r hd
 have:=z2r hS.nd hS.lt
 have h32:2^n<=32:=Zm (n:=2) (by omega) hn
 omega
theorem zmj{t:Tape}(ht:TapeOk t)(m:Nat)(hm:1<=m/\m<=2):∃d t' n,z4M t m=some (d,t')/\DfaOk d m n/\n<=7/\TapeOk t'/\(n<=4∨(n=7/\m=2/\d.next=defT)):=by
 unfold z4M
 obtain⟨v,t1,e1,v0,v1,ht1⟩:=z7q ht 2 (by omega) (by omega)
 simp only[e1,Z0]
 obtain⟨k,rfl⟩:=ZG v0
 have hw:IntKind.i64.wrap (1+(k:Int))=((k+1:Nat):Int):=by rw[z2G (by omega) (by omega)];omega
 rw[hw]
 have hchk:zAT m (k+1)=true:=by
  obtain⟨c1,c2,c3,c4⟩:=zAw
  rcases(by omega:(m=1/\k=0)∨(m=1/\k=1)∨(m=2/\k=0)∨(m=2/\k=1)) with⟨rfl,rfl⟩|⟨rfl,rfl⟩|⟨rfl,rfl⟩|⟨rfl,rfl⟩
  · exact c1
  · exact c2
  · exact c3
  · exact c4
 have hsmall:=zsm m (k+1)
 have htab:m=2/\k=1∨ ¬(m=2/\k=1):=Decidable.em _
 unfold zAT at hchk
 split at hchk
 · cases hchk
 rename_i W hW
 simp only[Z5,decide_eq_true_eq,Zn] at hchk
 obtain⟨⟨hW1,hW7⟩,hrow⟩:=hchk
 rw[hW,Z0]
 have hfin:∀nx:List (List Int),nx.map some=(W.map fun w=>zqD W w m)->W.length<=4∨(W.length=7/\m=2/\nx=defT):=fun nx hnx=>by
  rw[hW] at hsmall
  rcases hsmall hm (by omega) with h|⟨h1,h2,h3⟩
  · exact .inl h
  · refine .inr ⟨h1,h2,?_⟩
    rw[h3] at hnx
    have:=congrArg (fun l=>l.map (fun o:Option (List Int)=>o.getD [])) hnx
    simpa[Function.comp_def] using this
 refine Exists.elim (z1Q (b:=z4L (m:Int) W) (fun z=>0<=z.1/\z.1<=W.length/\TapeOk ⟨z.2.1,z.2.2.1⟩/\(z.2.2.2.1.length:Int)=z.1/\(z.2.2.2.2.length:Int)=z.1/\(∀r∈z.2.2.2.2,zab m W.length r)/\z.2.2.2.2.map some=(W.take z.1.toNat).map fun w=>zqD W w m) (fun z=>W.length+1-z.1.toNat)
  (fun r=>DfaOk r.1 m W.length/\TapeOk r.2/\r.1.next.map some=W.map fun w=>zqD W w m) ?_ LFm (0,t1.l,t1.at_,[],[]) ⟨by simp,by simp,ht1,by simp,by simp,by simp,by simp⟩ (by simp only[LFm];omega)) fun r h=>⟨r.1,r.2,W.length,h.1,h.2.1,hW7,h.2.2.1,hfin r.1.next h.2.2.2⟩
 rintro⟨i,tl,ta,fs,rs⟩ ⟨i0,i1,i2,i3,i4,i5,i6⟩
 simp only at i0 i1 i2 i3 i4 i5 i6⊢
 obtain⟨i,rfl⟩:=ZG i0
 simp only[z4L]
 by_cases hi:(i:Int)<(W.length:Int)
 · left
   have hi':i<W.length:=by omega
   rw[if_pos hi,z0A hi',Z0]
   obtain⟨u,t3,e3,u0,u1,ht3⟩:=z7q i2 2 (by omega) (by omega)
   rw[e3,Z0,z0i _ (by unfold z1C;omega)]
   have hr:=hrow _ (Zk hi')
   split at hr
   · cases hr
   rename_i r hr0
   simp only[Z5,decide_eq_true_eq,Zn] at hr
   rw[zDl (by omega) hr0,z0i _ (by unfold z1C;omega),z2G (by omega) (by omega)]
   refine⟨_,rfl,⟨by simp only;omega,by simp only;omega,ht3,by simp only[Zb,ZD];omega,by simp only[Zb,ZD];omega,fun y hy=> ?_,?_⟩,by simp only;omega⟩
   rotate_left
   · rw[Z2] at i6
     have e:((i:Int)+1).toNat=i+1:=by omega
     rw[e,Y0,i6,Zw hi',Y0,Zq,Yr,Zq,Yr,hr0]
   rcases zdl.1 hy with h|rfl
   · exact i5 y h
   · exact⟨hr.1,fun x hx=>hr.2 x hx⟩
 · right
   rw[if_neg hi]
   exact⟨_,rfl,⟨rfl,by omega,by omega,by omega,by simp only;omega,by simp only;omega,by simp only;omega,by simp only;omega,i5⟩,i2,by rw[i6,show(i:Int).toNat=W.length by omega,Y9]⟩
end
section
open Go
structure HolOk(m n:Nat)(h:Hol):Prop where
 t1:1<=h.tiles.length
 t2:h.tiles.length<=32
 wp:h.words.length=h.perms.length
 wl:h.words.length<=1000
 wb:∀w∈h.words,w.size<=257
 pl:∀p∈h.perms,p.length=h.tiles.length
section
variable {d:DFA} {m n:Nat} {S:List Nat} (hd:DfaOk d m n) (hn:n<=7) (hS:SetsP d m n S)
include hd hn hS
theorem zhb{c:Nat}(hc:c<(z6L d m n S).length)(hz:szN (S.getD (z1j d m n S c) 0)≠1)(hpos:∀x∈S,x≠0)(h32:S.length<=32):HolOk m n (z9g d m n S c)/\zAS d m n (z9g d m n S c)=true:=by
 have h128:2^n<=128:=Zm (n:=2) (by omega) hn
 have h6:=hd.m6
 have hk:=(z2c hd hn hS hc).2
 have hI:=zw0 hd hn hS (c:=c) S.length (Z7 _)
 obtain⟨t1,t2⟩:=z8i hd hn hS hk
 have tl32:(z1E S (z1j d m n S c)).length<=S.length:=z7u t1 fun t ht=>(t2 t ht).1
 have hkl:=hS.lt _ (z0e hk)
 have tpos:1<=(z1E S (z1j d m n S c)).length:=by
  have hne:=hpos _ (z0e hk)
  obtain⟨q,hq⟩:∃q,(S.getD (z1j d m n S c) 0).testBit q=true:=by
   refine Y7 fun h=>hne (ZZ fun q=> ?_)
   rw[Xj]
   cases hh:(S.getD (z1j d m n S c) 0).testBit q with
   |false=>rfl
   |true=>exact absurd ⟨q,hh⟩ h
  obtain⟨t,ht,_⟩:=zgl hd hn hS hk hz hq
  have:=YS ht
  rw[zei];omega
 have hB:S.length*m<=32*6:=XQ h32 h6
 have hbd:=hI.bd
 have hln:=hI.len
 have htI:(toI (z1E S (z1j d m n S c))).length=(z1E S (z1j d m n S c)).length:=z0a _
 refine⟨⟨by simp only[z9g];omega,by simp only[z9g];omega,by simp only[z9g,Z8];omega,by simp only[z9g];omega,fun w hw=> ?_,fun p hp=> ?_⟩,zhx.2 ⟨?_,by simp only[z9g,Z8];omega,by simp only[z9g];omega,?_,fun j hj=> ?_⟩⟩
 · simp only[z9g] at hw
   obtain⟨j,hj,rfl⟩:=Zo hw
   obtain⟨_,e,_⟩:=zdz hI hj
   rw[List.getD,Z1 hj,Z4] at e
   omega
 · simp only[z9g] at hp⊢
   obtain⟨y,hy,rfl⟩:=Zj.1 hp
   rw[z0a,z0a,zp3 hI y hy]
 · simp only[z9g];exact zfm.2 ⟨by omega,by rw[Z2];exact hkl⟩
 · simp only[z9g]
   refine Zn.2 fun x hx=> ?_
   obtain⟨t,ht,rfl⟩:=Zj.1 hx
   exact zfm.2 ⟨by omega,by rw[Z2];exact(t2 t ht).2.2⟩
 · simp only[z9g] at hj⊢
   obtain⟨l1,l2,l3⟩:=zdz hI hj
   have hj2:j<(zkn d m n S (z1E S (z1j d m n S c)) c S.length).2.length:=by omega
   have ep:((zkn d m n S (z1E S (z1j d m n S c)) c S.length).2.map toI).getD j []=toI ((zkn d m n S (z1E S (z1j d m n S c)) c S.length).2.getD j []):=by
    simp[List.getD,hj2]
   rw[l3] at ep
   obtain⟨p1,p2,p3⟩:=zbG hd hn hS hk l1
   generalize hw:(zkn d m n S (z1E S (z1j d m n S c)) c S.length).1.getD j ByteArray.empty=w at*
   refine⟨⟨by omega,l1.hw⟩,?_,?_⟩
   · rw[ep,htI]
     refine zdj.2 ⟨by rw[z0a,zar],fun x hx=> ?_,?_⟩
     · obtain⟨y,hy,rfl⟩:=Zj.1 hx
       have:=p2 y hy
       omega
     · exact Yt _ (fun a b (hab:a≠b)=>by intro e;exact hab (by omega)) p1
   · unfold zlV
     simp only[z9g]
     rw[hw,ep,htI,Z5,decide_eq_true_eq,Z2]
     refine⟨by rw[l1.run],Zn.2 fun i hi=> ?_⟩
     have hi:=Zh.1 hi
     have hpi:i<(z2y d w.data.toList (z1E S (z1j d m n S c))).length:=by rw[zar];exact hi
     have g1:(toI (z1E S (z1j d m n S c))).getD i 0=(((z1E S (z1j d m n S c)).getD i 0:Nat):Int):=by simp[toI,List.getD,hi]
     have g2:(toI (z2y d w.data.toList (z1E S (z1j d m n S c)))).getD i 0=(((z2y d w.data.toList (z1E S (z1j d m n S c))).getD i 0:Nat):Int):=by simp[toI,List.getD,hpi]
     have hlt:=p2 _ (z0e hpi)
     have g3:(toI (z1E S (z1j d m n S c))).getD ((z2y d w.data.toList (z1E S (z1j d m n S c))).getD i 0) 0=(((z1E S (z1j d m n S c)).getD ((z2y d w.data.toList (z1E S (z1j d m n S c))).getD i 0) 0:Nat):Int):=by
      generalize (z2y d w.data.toList (z1E S (z1j d m n S c))).getD i 0=q at*
      simp[toI,List.getD,hlt]
     rw[g1,g2,Z2,Z2,g3,p3 i hi,decide_eq_true_eq]
end
end
section
open Go
variable{v w:List UInt8}{c k:Nat}
theorem zhd{d:DFA}{m n:Nat}{S:List Nat}(h:0<z8n d m n S k):szN (S.getD k 0)≠1:=fun e=>by
 have hz:zad S k=true:=by unfold zad;rw[decide_eq_true e]
 unfold z8n znw at h
 cases hN:S.length with
 |zero=>rw[hN] at h;simp[zxm] at h
 |succ N=>rw[hN] at h;simp only[zxm] at h;rw[if_pos hz] at h;omega
def zrv(n:Nat):List Nat->Nat
 | []=>0
 |x::l=>x+n*zrv n l
theorem znG{n:Nat}:∀ {l:List Nat},(∀x∈l,x<n)->zrv n l<n^l.length
 | [],_=>by simp[zrv]
 |x::l,h=>by
  have h1:=h x (Zz ..)
  have h2:=znG (l:=l) (fun y hy=>h y (Zp _ hy))
  rw[zrv,Zs,Nat.pow_succ]
  have:n*zrv n l+n<=n^l.length*n:=by
   have:=Nat.mul_le_mul_left n h2
   rw[Nat.mul_succ] at this
   rwa [Nat.mul_comm (n^l.length)]
  omega
theorem zk3{n:Nat}:∀ {l r:List Nat},(∀x∈l,x<n)->(∀x∈r,x<n)->l.length=r.length->zrv n l=zrv n r->l=r
 | [],[],_,_,_,_=>rfl
 | [],_::_,_,_,h,_=>by simp at h
 |_::_,[],_,_,h,_=>by simp at h
 |x::l,y::r,hl,hr,hlen,h=>by
  have h1:=hl x (Zz ..)
  have h2:=hr y (Zz ..)
  rw[zrv,zrv] at h
  have e1:x=y:=by
   have:=congrArg (·%n) h
   simpa[Nat.add_mul_mod_self_left,X2 h1,X2 h2] using this
  subst e1
  have e2:zrv n l=zrv n r:=Nat.eq_of_mul_eq_mul_left (show 0<n by omega) (by omega)
  rw[zk3 (fun z hz=>hl z (Zp _ hz)) (fun z hz=>hr z (Zp _ hz)) (by simpa using hlen) e2]
section
variable {d:DFA} {m n:Nat} {S:List Nat} (hd:DfaOk d m n) (hn:n<=7) (hS:SetsP d m n S)
include hd hn hS
theorem zx9(hk:k<S.length):Lead d m n (S.getD k 0) (S.getD k 0) []:=by
 have _u:=hd
 have _v:=hn
 exact⟨fun c hc=>by simp at hc,hS.lt _ (z0e hk),hS.lt _ (z0e hk),rfl,rfl⟩
theorem zoE(hk:k<S.length):z2y d [] (z1E S k)=List.range (z1E S k).length:=by
 obtain⟨h1,h2⟩:=z8i hd hn hS hk
 refine Ze (by simp[z2y]) fun i i1 i2=> ?_
 have hi:i<(z1E S k).length:=by simpa[z2y] using i1
 simp only[z2y,ZF,ZP,z4i]
 have hm:(z1E S k)[i]∈z1E S k:=Zk hi
 have e:=z2k hm
 have e2:(z1E S k).getD i 0=(z1E S k)[i]:=by grind
 exact z5I h1 (z5d hm) hi (by rw[e,e2])
theorem zwR(hk:k<S.length)(h1:Lead d m n (S.getD k 0) (S.getD k 0) w):z9v (z2y d w (z1E S k)) (z2y d v (z1E S k))=z2y d (w++v) (z1E S k):=by
 have hr:=zmS hd hn hS hk h1
 unfold z9v
 rw[show z2y d w (z1E S k)=(z1E S k).map fun t=>(z1E S k).idxOf (z4i d t w) from rfl,Yd]
 refine ZB fun t ht=> ?_
 have hm:=hr t ht
 show(z2y d v (z1E S k)).getD ((z1E S k).idxOf (z4i d t w)) 0=(z1E S k).idxOf (z4i d t (w++v))
 rw[ztq (z5d hm),z2k hm,←z5D]
def z9i(d:DFA)(m n:Nat)(S:List Nat)(c:Nat):List (List Nat):=(zkn d m n S (z1E S (z1j d m n S c)) c S.length).2
theorem zm3{g:List Nat}(hg:g∈z9i d m n S c):∃w,Lead d m n (S.getD (z1j d m n S c) 0) (S.getD (z1j d m n S c) 0) w/\g=z2y d w (z1E S (z1j d m n S c)):=by
 have hI:=zw0 hd hn hS (c:=c) S.length (Z7 _)
 obtain⟨j,hj,rfl⟩:=Zo hg
 obtain⟨l1,l2,l3⟩:=zdz hI (j:=j) (by rw[hI.len];exact hj)
 have hj':j<(zkn d m n S (z1E S (z1j d m n S c)) c S.length).2.length:=hj
 rw[List.getD,Z1 hj',Z4] at l3
 exact⟨_,l1,l3⟩
theorem zuI(hk:k<S.length)(h:Lead d m n (S.getD k 0) (S.getD k 0) w):PermL (z1E S k).length (z2y d w (z1E S k)):=by
 obtain⟨p1,p2,_⟩:=zbG hd hn hS hk h
 exact⟨zar _ _ _,p1,p2⟩
theorem z9Z(hcl:c<(z6L d m n S).length):∀g∈z9i d m n S c,PermL (z1E S (z1j d m n S c)).length g:=fun g hg=>by
 obtain⟨w,h,rfl⟩:=zm3 hd hn hS hg
 exact zuI hd hn hS (z2c hd hn hS hcl).2 h
theorem ziJ(hcl:c<(z6L d m n S).length){e:List Nat}(h:RchG (z1E S (z1j d m n S c)).length (z9i d m n S c) e):∃w,Lead d m n (S.getD (z1j d m n S c) 0) (S.getD (z1j d m n S c) 0) w/\e=z2y d w (z1E S (z1j d m n S c)):=by
 have hk:=(z2c hd hn hS hcl).2
 induction h with
 |one=>exact⟨[],zx9 hd hn hS hk,(zoE hd hn hS hk).symm⟩
 |step e g _ hg ih=>
  obtain⟨w,h1,rfl⟩:=ih
  obtain⟨v,h2,rfl⟩:=zm3 hd hn hS hg
  exact⟨w++v,z9V h1 h2,zwR hd hn hS hk h1⟩
theorem zna(hk:k<S.length)(hw:zhU m w)(hv:zhU m v)(h:zhP d n w=zhP d n v):z2y d w (z1E S k)=z2y d v (z1E S k):=by
 obtain⟨_,h2⟩:=z8i hd hn hS hk
 refine ZB fun t ht=> ?_
 have ha:∀i,i<n->z7W d i w=z7W d i v:=fun i hi=>by
  have:=congrArg (fun l=>l.getD i 0) h
  simpa[zhP,List.getD,hi] using this
 have e:z4i d t w=z4i d t v:=ZZ fun p=>by
  rw[Yg,zap hd hw (h2 t ht).2.2,zap hd hv (h2 t ht).2.2]
  refine exists_congr fun i=>and_congr_right fun hi=>and_congr_right fun _=> ?_
  rw[ha i hi]
 rw[e]
theorem ztf(hcl:c<(z6L d m n S).length)(hn4:n<=4):∀l:List (List Nat),l.Nodup->(∀e∈l,RchG (z1E S (z1j d m n S c)).length (z9i d m n S c) e)->l.length<=2000:=fun l hnd hl=>by
 have hk:=(z2c hd hn hS hcl).2
 have hex:∀e∈l,∃w,zhU m w/\e=z2y d w (z1E S (z1j d m n S c)):=fun e he=>by
  obtain⟨w,h1,h2⟩:=ziJ hd hn hS hcl (hl e he)
  exact⟨w,h1.hw,h2⟩
 obtain⟨wd,hwd⟩:∃wd:List Nat->List UInt8,∀e∈l,zhU m (wd e)/\e=z2y d (wd e) (z1E S (z1j d m n S c)):=by
  classical
  exact⟨fun e=>if h:∃w,zhU m w/\e=z2y d w (z1E S (z1j d m n S c)) then h.choose else [],fun e he=>by
   simp only
   rw[dif_pos (hex e he)];exact(hex e he).choose_spec⟩
 have hlt:∀e∈l,∀x∈zhP d n (wd e),x<n:=fun e he x hx=>by
  obtain⟨q,hq,rfl⟩:=Zj.1 hx
  exact zhO hd (Zh.1 hq) (hwd e he).1
 have hlen:∀e,(zhP d n (wd e)).length=n:=fun e=>by simp[zhP]
 have h1:(l.map fun e=>zrv n (zhP d n (wd e))).Nodup:=z4K hnd fun x hx y hy e=>by
  have:=zk3 (hlt x hx) (hlt y hy) (by rw[hlen x,hlen y]) e
  rw[(hwd x hx).2,(hwd y hy).2,zna hd hn hS hk (hwd x hx).1 (hwd y hy).1 this]
 have h2:=z2r h1 (N:=n^n) fun x hx=>by
  obtain⟨e,he,rfl⟩:=Zj.1 hx
  have:=znG (hlt e he)
  rwa [hlen] at this
 rw[Z8] at h2
 have h3:n^n<=4^4:=ZO (Nat.pow_le_pow_left hn4 n) (Zm (by omega) hn4)
 omega
theorem zvo(hcl:c<(z6L d m n S).length)(hz:szN (S.getD (z1j d m n S c) 0)≠1)(hpos:∀x∈S,x≠0)(h32:S.length<=32)
 (hfew:∀l:List (List Nat),l.Nodup->(∀e∈l,RchG (z1E S (z1j d m n S c)).length (z9i d m n S c) e)->l.length<=2000):
 ∃E:List (List Nat),z1B (z9g d m n S c)=some (E.map toI,0)/\E.Nodup/\ ∀e,e∈E↔RchG (z1E S (z1j d m n S c)).length (z9i d m n S c) e:=by
 have hP:=z9Z hd hn hS hcl
 obtain⟨ho,_⟩:=zhb hd hn hS hcl hz hpos h32
 have t1:1<=(z1E S (z1j d m n S c)).length:=by have:=ho.t1;rwa [show(z9g d m n S c).tiles.length=(z1E S (z1j d m n S c)).length from z0a _] at this
 have t2:(z1E S (z1j d m n S c)).length<=32:=by have:=ho.t2;rwa [show(z9g d m n S c).tiles.length=(z1E S (z1j d m n S c)).length from z0a _] at this
 have hpl:(z9i d m n S c).length<=1000:=by
  have h1:=ho.wp
  have h2:=ho.wl
  have:(z9g d m n S c).perms.length=(z9i d m n S c).length:=Z8 _
  omega
 have et:(z9g d m n S c).tiles.length=(z1E S (z1j d m n S c)).length:=z0a _
 have ep:(z9g d m n S c).perms=(z9i d m n S c).map toI:=rfl
 generalize z9i d m n S c=P at*
 generalize (z1E S (z1j d m n S c)).length=L at*
 have hpm:((P.map toI).all (zas L))=true:=Zn.2 fun x hx=>by
  obtain⟨g,hg,rfl⟩:=Zj.1 hx
  have:=hP g hg
  refine zdj.2 ⟨by rw[z0a,this.len],fun y hy=> ?_,?_⟩
  · obtain⟨z,hz,rfl⟩:=Zj.1 hy
    have:=this.lt z hz
    omega
  · exact Yt _ (fun a b (hab:a≠b)=>by intro e;exact hab (by omega)) this.nd
 unfold z1B
 rw[et,ep,if_neg (by omega),if_neg (by omega),zjo (by omega) (by rw[Z8];omega),Z0,hpm,if_pos rfl,z0i _ (by unfold z0S;omega),Z2]
 have e0:toI (List.range L)=(List.range L).map fun k:Nat=>(k:Int):=rfl
 have hloop:∀ {R:Option (List (List Int)×Int)},(if(P.map toI).length=0 then some ([toI (List.range L)],0) else(z4p (P.map toI)).bind fun v=>some (v.1,v.2))=R->z0h (z2v (z9g d m n S c)) LFm (0,List.replicate L (0:Int))=R:=fun {R} hR=>by
  refine z0n (s:=((0:Int),List.replicate L (0:Int))) L (fun k=>((k:Int),zav L (fun k=>(k:Int)) (fun _=>0) k)) (by rw[z9s];congr 1;exact(Ze (by simp) fun i h1 h2=>by simp)) (by simp only[LFm];omega) (fun k hk=> ?_) ?_
  · simp only[z2v]
    rw[et,if_pos (by omega),z6H hk,Z0,z0H (by omega),Z2,z4I (f:=fun k=>(k:Int)) hk]
  · simp only[z2v]
    rw[et,ep,if_neg (by omega),z9r,←e0,←hR]
    by_cases h:(P.map toI).length=0
    · rw[if_pos h,if_pos (by omega)]
    · rw[if_neg h,if_neg (by omega)]
 by_cases h:P= []
 · subst h
   refine⟨[List.range L],hloop (by rw[if_pos (by simp)];rfl),by simp,fun e=> ?_⟩
   rw[Zi]
   constructor
   · rintro rfl;exact .one
   · intro he
     induction he with
     |one=>rfl
     |step e g _ hg _=>simp at hg
 · obtain⟨E,e1,e2,e3⟩:=zCa hP t1 t2 hfew h (by omega)
   refine⟨E,hloop ?_,e2,e3⟩
   rw[if_neg (by rw[Z8];have:=ZJ.2 h;omega),e1,Z0]
end
theorem zvr:∀a,a<2->∀b,b<2->∀q,q<7->((defT.getD (((defT.getD q []).getD a 0).toNat) []).getD b 0)=((defT.getD (((defT.getD 0 []).getD a 0).toNat) []).getD b 0):=by decide
theorem zBb:∀p,p<7->szN (2^p)=1:=by decide
section
variable {d:DFA} (hd:DfaOk d 2 7) (hT:d.next=defT)
include hd hT
omit hd in
theorem zvs{a b:UInt8}(h:zhU 2 (a::b::w)){q:Nat}(hq:q<7):z7W d q (a::b::w)=z7W d 0 (a::b::w):=by
 have ha:=(z9H h).2
 have hb:=(z9H (z9H h).1).2
 have:=zvr _ ha _ hb q hq
 have e:nxN d (nxN d q (a.toNat-97)) (b.toNat-97)=nxN d (nxN d 0 (a.toNat-97)) (b.toNat-97):=by
  unfold nxN;rw[hT,this]
 rw[z7W,z7W,z7W,z7W,e]
theorem zAl{K:Nat}(h:Lead d 2 7 K K w)(hw:w≠ [])(hK:K≠0):szN K=1:=by
 have h2:=z9V h h
 have hone:∀p q,K.testBit p=true->K.testBit q=true->p=q:=fun p q hp hq=>by
  have hr:∀p,K.testBit p=true->∃i,i<7/\z7W d i (w++w)=p:=fun p hp=>by
   have:(z4i d K (w++w)).testBit p=true:=by rw[h2.run];exact hp
   obtain⟨i,i1,_,i3⟩:=(zap hd h2.hw h.hK).1 this
   exact⟨i,i1,i3⟩
  obtain⟨i,i1,i2⟩:=hr p hp
  obtain⟨j,j1,j2⟩:=hr q hq
  have hl:=h2.hw
  revert i2 j2 hl
  cases w with
  |nil=>exact absurd rfl hw
  |cons a w=>
   obtain⟨b,v,e⟩:∃b v,(a::w)++(a::w)=a::b::v:=by
    cases w with
    |nil=>exact⟨a,[],rfl⟩
    |cons b w=>exact⟨b,w++(a::b::w),rfl⟩
   rw[e]
   intro i2 j2 hl
   rw[←i2,←j2,zvs hT hl i1,zvs hT hl j1]
 obtain⟨p,hp⟩:∃p,K.testBit p=true:=by
  refine Y7 fun hh=>hK (ZZ fun q=> ?_)
  rw[Xj]
  cases hb:K.testBit q with
  |false=>rfl
  |true=>exact absurd ⟨q,hb⟩ hh
 have hp7:=zpH h.hK hp
 have e:K=2^p:=ZZ fun q=>by grind
 rw[e];exact zBb p hp7
end
theorem zxA{d:DFA}{m n:Nat}{S:List Nat}(hd:DfaOk d m n)(hn:n<=7)(hS:SetsP d m n S)(h7:n=7/\m=2/\d.next=defT)(hcl:c<(z6L d m n S).length)(hz:szN (S.getD (z1j d m n S c) 0)≠1)(hpos:∀x∈S,x≠0):z9i d m n S c= []:=by
 obtain⟨rfl,rfl,hT⟩:=h7
 have hk:=(z2c hd hn hS hcl).2
 have hstep:∀i a,i<S.length->a<2->clN d 2 7 S i=c->zes d 2 7 S (z1E S (z1j d 2 7 S c)) i ([],[]) a=([],[]):=fun i a hi ha hc=>by
  unfold zes
  split
  · rename_i hj
    obtain⟨l1,l2⟩:=znv hd hn hS hi ha hj
    have hf:z1j d 2 7 S c=z5w d 2 7 S i:=by unfold z1j;rw[←hc];rfl
    rw[←hf] at l1
    refine absurd (zAl hd hT l1 (fun e=> ?_) (hpos _ (z0e hk))) hz
    have:=congrArg List.length e
    unfold hwN at this
    rw[z9C,z9C,z9a] at this
    simp at this
  · rfl
 have hrow:∀i,i<S.length->clN d 2 7 S i=c->∀a,a<=2->zks d 2 7 S (z1E S (z1j d 2 7 S c)) i ([],[]) a=([],[]):=fun i hi hc a=>by
  induction a with
  |zero=>intro _;rfl
  |succ a ih=>intro ha;rw[zd9,ih (by omega),hstep i a hi (by omega) hc]
 have hall:∀k,k<=S.length->zkn d 2 7 S (z1E S (z1j d 2 7 S c)) c k=([],[]):=fun k=>by
  induction k with
  |zero=>intro _;rfl
  |succ k ih=>
   intro hk
   rw[zkm,ih (by omega)]
   split
   · grind
   · rfl
 unfold z9i
 rw[hall _ (Z7 _)]
theorem zAc{d:DFA}{m n:Nat}{S:List Nat}(hd:DfaOk d m n)(hn:n<=7)(hS:SetsP d m n S)(hs:n<=4∨(n=7/\m=2/\d.next=defT))(hcl:c<(z6L d m n S).length)(hz:szN (S.getD (z1j d m n S c) 0)≠1)(hpos:∀x∈S,x≠0):∀l:List (List Nat),l.Nodup->(∀e∈l,RchG (z1E S (z1j d m n S c)).length (z9i d m n S c) e)->l.length<=2000:=by
 rcases hs with h4|h7
 · exact ztf hd hn hS hcl h4
 · intro l hnd hl
   have hg:=zxA hd hn hS h7 hcl hz hpos
   have hone:∀e∈l,e∈ [List.range (z1E S (z1j d m n S c)).length]:=fun e he=>by
    have:=hl e he
    rw[hg] at this
    rw[Zi]
    induction this with
    |one=>rfl
    |step e g _ hg _=>simp at hg
   have:=z7u hnd hone
   simp at this
   omega
end
section
open Go
variable{v w:List UInt8}{K c q:Nat}
def zf3(n K:Nat):List Nat:=(List.range n).filter fun q=>K.testBit q
theorem zev{n:Nat}:q∈zf3 n K↔q<n/\K.testBit q=true:=by
 unfold zf3;rw[ZL,Zh]
theorem ztn(n K:Nat):(zf3 n K).Nodup:=YD _ YG
theorem zzr(n K:Nat):(zf3 n K).length<=n:=ZO (ZI _ _) (by simp)
section
variable {d:DFA} {m n:Nat} (hd:DfaOk d m n) (hn:n<=7)
include hd hn
theorem zn0(hq:q<n)(hw:zhU m w):z4i d (2^q) w=2^z7W d q w:=ZZ fun p=>by
 have _u:=hn
 rw[Yg,zap hd hw (Yn (by omega) hq),Y8,decide_eq_true_eq]
 constructor
 · rintro⟨i,hi,h1,h2⟩
   rw[Y8,decide_eq_true_eq] at h1
   rw[h1,h2]
 · intro h
   exact⟨q,hq,by rw[Nat.testBit_two_pow_self],h⟩
theorem zpR(h:Lead d m n K K w):((zf3 n K).map fun q=>z7W d q w).Nodup/\ ∀x∈(zf3 n K).map fun q=>z7W d q w,x∈zf3 n K:=by
 have hsub:∀q,K.testBit q=true->z6T (2^q) K:=fun q hq=>z2e.2 fun p hp=>by
  rw[Y8,decide_eq_true_eq] at hp
  rw[←hp];exact hq
 refine⟨z4K (ztn n K) fun x hx y hy e=> ?_,fun x hx=> ?_⟩
 · obtain⟨x1,x2⟩:=zev.1 hx
   obtain⟨y1,y2⟩:=zev.1 hy
   have:=zbK hd hn h (hsub x x2) (hsub y y2) (by rw[zn0 hd hn x1 h.hw,zn0 hd hn y1 h.hw,e])
   exact(Nat.pow_right_inj (show 1<2 by omega)).1 this
 · obtain⟨q,hq,rfl⟩:=Zj.1 hx
   obtain⟨q1,q2⟩:=zev.1 hq
   have hb:(z4i d K w).testBit (z7W d q w)=true:=(zap hd h.hw h.hK).2 ⟨q,q1,q2,rfl⟩
   rw[h.run] at hb
   exact zev.2 ⟨zhO hd q1 h.hw,hb⟩
theorem zw2(hw:Lead d m n K K w)(hv:Lead d m n K K v)(h5:n<=5)(h:((zf3 n K).take 4).map (fun q=>z7W d q w)=((zf3 n K).take 4).map fun q=>z7W d q v):∀q∈zf3 n K,z7W d q w=z7W d q v:=by
 obtain⟨w1,w2⟩:=zpR hd hn hw
 obtain⟨v1,v2⟩:=zpR hd hn hv
 have hl:=zzr n K
 intro q hq
 obtain⟨j,hj,rfl⟩:=Zo hq
 by_cases h4:j<4
 · have:=congrArg (fun l=>l.getD j 0) h
   simpa[List.getD,h4,hj] using this
 · have hj4:j=4:=by omega
   subst hj4
   have hl5:(zf3 n K).length=5:=by omega
   have hsplit:zf3 n K=(zf3 n K).take 4++ [(zf3 n K)[4]]:=by
    rw[←Zw hj]
    exact(Yq (by omega)).symm
   apply Y7
   intro hne
   have ew:(zf3 n K).map (fun q=>z7W d q w)=((zf3 n K).take 4).map (fun q=>z7W d q w)++ [z7W d (zf3 n K)[4] w]:=by
    have:=congrArg (List.map fun q=>z7W d q w) hsplit
    rw[Y0,Zq,Yr] at this
    exact this
   have ev:(zf3 n K).map (fun q=>z7W d q v)=((zf3 n K).take 4).map (fun q=>z7W d q w)++ [z7W d (zf3 n K)[4] v]:=by
    have:=congrArg (List.map fun q=>z7W d q v) hsplit
    rw[Y0,Zq,Yr] at this
    rw[h];exact this
   rw[ew] at w1 w2
   rw[ev] at v1 v2
   have hnd:(((zf3 n K).take 4).map (fun q=>z7W d q w)++ [z7W d (zf3 n K)[4] w,z7W d (zf3 n K)[4] v]).Nodup:=by
    have a1:=Ys.1 w1
    have a2:=Ys.1 v1
    refine Ys.2 ⟨a1.1,by simpa using hne,fun a ha b hb=> ?_⟩
    rcases Zv.1 hb with rfl|hb
    · exact a1.2.2 a ha _ (by simp)
    · obtain rfl:=Zi.1 hb
      exact a2.2.2 a ha _ (by simp)
   have:=z7u hnd (r:=zf3 n K) fun x hx=>by
    rcases Zf.1 hx with hx|hx
    · exact w2 x (Zf.2 (.inl hx))
    · rcases Zv.1 hx with rfl|hx
      · exact w2 _ (by simp)
      · obtain rfl:=Zi.1 hx
        exact v2 _ (by simp)
   simp only[Zb,Z8,Zr,Zs,Yp] at this
   omega
variable {S:List Nat} (hS:SetsP d m n S)
include hS
theorem zn9{k:Nat}(hk:k<S.length)(hw:zhU m w)(hv:zhU m v)(h:∀q∈zf3 n (S.getD k 0),z7W d q w=z7W d q v):z2y d w (z1E S k)=z2y d v (z1E S k):=by
 obtain⟨_,h2⟩:=z8i hd hn hS hk
 refine ZB fun t ht=> ?_
 have e:z4i d t w=z4i d t v:=ZZ fun p=>by
  rw[Yg,zap hd hw (h2 t ht).2.2,zap hd hv (h2 t ht).2.2]
  refine exists_congr fun i=>and_congr_right fun hi=>and_congr_right fun hb=> ?_
  rw[h i (zev.2 ⟨hi,z2e.1 (h2 t ht).2.1 i hb⟩)]
 rw[e]
theorem zqI(hcl:c<(z6L d m n S).length)(h5:n<=5):∀l:List (List Nat),l.Nodup->(∀e∈l,RchG (z1E S (z1j d m n S c)).length (z9i d m n S c) e)->l.length<=2000:=fun l hnd hl=>by
 have hk:=(z2c hd hn hS hcl).2
 have hex:∀e∈l,∃w,Lead d m n (S.getD (z1j d m n S c) 0) (S.getD (z1j d m n S c) 0) w/\e=z2y d w (z1E S (z1j d m n S c)):=fun e he=>ziJ hd hn hS hcl (hl e he)
 obtain⟨wd,hwd⟩:∃wd:List Nat->List UInt8,∀e∈l,Lead d m n (S.getD (z1j d m n S c) 0) (S.getD (z1j d m n S c) 0) (wd e)/\e=z2y d (wd e) (z1E S (z1j d m n S c)):=by
  classical
  exact⟨fun e=>if h:∃w,Lead d m n (S.getD (z1j d m n S c) 0) (S.getD (z1j d m n S c) 0) w/\e=z2y d w (z1E S (z1j d m n S c)) then h.choose else [],fun e he=>by
   simp only
   rw[dif_pos (hex e he)];exact(hex e he).choose_spec⟩
 let cd:=fun e=>((zf3 n (S.getD (z1j d m n S c) 0)).take 4).map fun q=>z7W d q (wd e)
 have hlt:∀e∈l,∀x∈cd e,x<5:=fun e he x hx=>by
  obtain⟨q,hq,rfl⟩:=Zj.1 hx
  have:=zhO hd (zev.1 (ZH hq)).1 (hwd e he).1.hw
  omega
 have hlen:∀e f,(cd e).length=(cd f).length:=fun e f=>by simp[cd]
 have hlen4:∀e,(cd e).length<=4:=fun e=>by simp[cd];omega
 have h1:(l.map fun e=>zrv 5 (cd e)).Nodup:=z4K hnd fun x hx y hy e=>by
  have:=zk3 (hlt x hx) (hlt y hy) (hlen x y) e
  rw[(hwd x hx).2,(hwd y hy).2,zn9 hd hn hS hk (hwd x hx).1.hw (hwd y hy).1.hw (zw2 hd hn (hwd x hx).1 (hwd y hy).1 h5 this)]
 have h2:=z2r h1 (N:=5^4) fun x hx=>by
  obtain⟨e,he,rfl⟩:=Zj.1 hx
  exact Zy (znG (hlt e he)) (Zm (by omega) (hlen4 e))
 rw[Z8] at h2
 omega
theorem zk0(hs:n<=5∨(n=7/\m=2/\d.next=defT))(hcl:c<(z6L d m n S).length)(hz:szN (S.getD (z1j d m n S c) 0)≠1)(hpos:∀x∈S,x≠0):∀l:List (List Nat),l.Nodup->(∀e∈l,RchG (z1E S (z1j d m n S c)).length (z9i d m n S c) e)->l.length<=2000:=by
 rcases hs with h5|h7
 · exact zqI hd hn hS hcl h5
 · exact zAc hd hn hS (.inr h7) hcl hz hpos
end
end
section
open Go
def zmz(d:DFA)(m n:Nat)(S O:List Nat):List Int:=toI ((List.range O.length).map (szO d m n S O))
section
variable {d:DFA} {m n:Nat} {S:List Nat} (hd:DfaOk d m n) (hn:n<=7) (hS:SetsP d m n S) {O:List Nat} (hH:zhR d m n S) (hO:OrdC d m n S O) (hpos:∀x∈S,x≠0) (hbot:∀i k,i<S.length->k<S.length->zad S k=true->z7k d m n S i k=true->zad S i=true)
include hd hn hS hH hO hpos hbot
end
end
section
open Go
variable{x y:List Nat}{k:Nat}
section
variable {d:DFA} {m n:Nat} {S O:List Nat}
theorem zos(a:Nat):∀(x:List Nat) (c o i k:Nat),(stN d m n S O a c o i x).take k=stN d m n S O a c o i (x.take k)
 | [],c,o,i,k=>by simp[stN]
 |s::x,c,o,i,0=>by simp[stN]
 |s::x,c,o,i,k+1=>by
  simp only[stN,X6]
  rw[zos a x]
theorem zsx{a:Nat}(h:x.take k=y.take k)(hx:k<x.length)(hy:k<y.length):(z8q d m n S O a x).getD k []=(z8q d m n S O a y).getD k []:=by
 have e1:=(zlg (d:=d) (m:=m) (n:=n) (S:=S) (O:=O) a x 0 0 0 k hx).1
 have e2:=(zlg (d:=d) (m:=m) (n:=n) (S:=S) (O:=O) a y 0 0 0 k hy).1
 rw[←XT,zos] at e1 e2
 unfold z8q
 rw[e1,e2,h]
theorem zqY(h:x.take k=y.take k)(hx:k<x.length)(hy:k<y.length):z2j d m n S O x k=z2j d m n S O y k:=by
 unfold z2j
 exact ZB fun a _=>zsx h hx hy
theorem zqC{L:Nat}{M:List (List Nat)}{R:List zac}(h:RowsOk (z2j d m n S O) L M R)(hM:∀x∈M,x.length=L)(r:zac):r∈R↔ ∃x∈M,∃i,i<L/\r=(x.take i,z2j d m n S O x i):=by
 refine⟨h.of r,?_⟩
 rintro⟨x,hx,i,hi,rfl⟩
 obtain⟨r,hr,e⟩:=h.al x hx i hi
 obtain⟨y,hy,j,hj,e2⟩:=h.of r hr
 have hxl:=hM x hx
 have hyl:=hM y hy
 subst e2
 simp only at e
 have hij:j=i:=by
  have:=congrArg List.length e
  rw[Zr,Zr] at this
  omega
 subst hij
 rw[←e,←zqY e (by omega) (by omega)]
 exact hr
end
section
variable {d:DFA} {m n:Nat} {S:List Nat} (hd:DfaOk d m n) (hn:n<=7) (hS:SetsP d m n S) {O:List Nat} (hH:zhR d m n S) (hO:OrdC d m n S O) (hpos:∀x∈S,x≠0)
include hd hn hS hH hO hpos
theorem zkg(h0:0<S.length):∀(f i:Nat) (T T':List (List Nat)),(∀t∈T,zeV d m n S O t)->T.Nodup->T.length<=2000->zkh (z5n d m n S O) m f i T=some T'->(∀t∈T',zeV d m n S O t)/\T'.Nodup/\T'.length<=2000/\ ∃X,T'=T++X
 |0,i,T,T',h1,h2,h3,h=>by
  simp only[zkh,Zc] at h
  subst h;exact⟨h1,h2,h3,[],by simp⟩
 |f+1,i,T,T',h1,h2,h3,h=>by
  simp only[zkh] at h
  split at h
  · rename_i hi
    cases hb:zmC (fun a=>z5n d m n S O a (T.getD i [])) m 0 T with
    |none=>rw[hb,Option.bind_none] at h;cases h
    |some U=>
     rw[hb,Z0] at h
     obtain⟨⟨X,e⟩,u2,u3,u4,_⟩:=zdO m 0 T U (fun b _ _=>(zan hd hn hS hH hO hpos (a:=b) (h1 _ (z4h hi)) h0).1) h1 h2 h3 hb
     obtain⟨v1,v2,v3,Z,v4⟩:=zkg h0 f (i+1) U T' u2 u3 u4 h
     exact⟨v1,v2,v3,X++Z,by rw[v4,e,Zu]⟩
  · simp only[Zc] at h
    subst h;exact⟨h1,h2,h3,[],by simp⟩
end
end
section
open Go
theorem zvn{L:Nat}{h:Hol}{Q:List (List Nat)}(et:h.tiles.length=L)(ep:h.perms=Q.map toI)(hQ:∀g∈Q,PermL L g)(h1:1<=L)(h2:L<=32)(hl:Q.length<=1000)
 (hB:∀l:List (List Nat),l.Nodup->(∀e∈l,RchG L Q e)->l.length<=2000):∃S,z1B h=some (S,0):=by
 have e0:toI (List.range L)=(List.range L).map fun k:Nat=>(k:Int):=rfl
 have hpm:(Q.map toI).all (zas L)=true:=Zn.2 fun x hx=>by
  obtain⟨g,hg,rfl⟩:=Zj.1 hx
  have:=hQ g hg
  refine zdj.2 ⟨by rw[z0a,this.len],fun y hy=> ?_,?_⟩
  · obtain⟨z,hz,rfl⟩:=Zj.1 hy
    have:=this.lt z hz
    omega
  · exact Yt _ (fun a b (hab:a≠b)=>by intro e;exact hab (by omega)) this.nd
 have hH:z1B h=if Q= [] then some ([toI (List.range L)],0) else(z4p (Q.map toI)).bind fun v=>some (v.1,v.2):=by
  unfold z1B
  rw[et,ep,if_neg (by omega),if_neg (by omega),zjo (by omega) (by rw[Z8];omega),Z0,hpm,if_pos rfl,z0i _ (by unfold z0S;omega),Z2]
  refine z0n (s:=((0:Int),List.replicate L (0:Int))) L (fun k=>((k:Int),zav L (fun k=>(k:Int)) (fun _=>0) k)) (by rw[z9s];congr 1;exact(Ze (by simp) fun i h1 h2=>by simp)) (by simp only[LFm];omega) (fun k hk=> ?_) ?_
  · simp only[z2v]
    rw[et,if_pos (by omega),z6H hk,Z0,z0H (by omega),Z2,z4I (f:=fun k=>(k:Int)) hk]
  · simp only[z2v]
    rw[et,ep,if_neg (by omega),z9r,←e0,Z8]
    by_cases hq:Q= []
    · subst hq
      rw[if_pos (by simp),if_pos rfl]
    · rw[if_neg (by have:=ZJ.2 hq;omega),if_neg hq]
 rw[hH]
 by_cases hq:Q= []
 · rw[if_pos hq];exact⟨_,rfl⟩
 · obtain⟨S,s1,_⟩:=zv2 hQ h1 h2 hB hq (by omega)
   rw[if_neg hq,s1]
   exact⟨_,rfl⟩
section
variable {d:DFA} {m n:Nat} {S:List Nat} (hd:DfaOk d m n) (hn:n<=7) (hS:SetsP d m n S)
include hd hn hS
theorem zxx(hs:n<=5∨(n=7/\m=2/\d.next=defT)){c:Nat}(hcl:c<(z6L d m n S).length)(hz:szN (S.getD (z1j d m n S c) 0)≠1)(hpos:∀x∈S,x≠0)(h32:S.length<=32):
 ∃E,z1B (z9g d m n S c)=some (E,0):=by
 have hP:=z9Z hd hn hS hcl
 obtain⟨ho,_⟩:=zhb hd hn hS hcl hz hpos h32
 have et:(z9g d m n S c).tiles.length=(z1E S (z1j d m n S c)).length:=z0a _
 have t1:=ho.t1
 have t2:=ho.t2
 have hpl:(z9i d m n S c).length<=1000:=by
  have h1:=ho.wp
  have h2:=ho.wl
  have:(z9g d m n S c).perms.length=(z9i d m n S c).length:=Z8 _
  omega
 exact zvn et rfl hP (by omega) (by omega) hpl (zk0 hd hn hS hs hcl hz hpos)
end
end
section
open Go
noncomputable section
attribute [local simp] cfRw
abbrev RMs:=Option (List (List (List Int)))
abbrev zbC(v:List (List (List Int)))(w28:Int)(k:ByteArray)(c:List Int)(mp:List (ByteArray×CRow)):Int×List (List Int)->Option ((Int×List (List Int))⊕((Int×List (ByteArray×CRow)×RMs)⊕((Int×List (ByteArray×CRow))⊕List (ByteArray×CRow))))
 |(w54,acc)=>
 if w54<(v.length:Int) then
  (atI v w54).bind fun m=>
  (atI m w28).bind fun e=>
  chk (z1C 24 (acc.length+1))<|
  z0c (IntKind.i64.wrap (w54+1),acc++ [e])
 else
  z0d<|
  z0c (IntKind.i64.wrap (w28+1),z8p k ⟨c,acc⟩ mp,some v)
abbrev zcp(a0:Frm)(x:List Int)(w22:Int):Int×List (ByteArray×CRow)×RMs->Option ((Int×List (ByteArray×CRow)×RMs)⊕((Int×List (ByteArray×CRow))⊕List (ByteArray×CRow)))
 |(w28,mp,ms)=>
 if w28<(x.length:Int) then
  (z6O x 0 w28).bind fun p=>
  (z1w p).bind fun k=>
  (z7G k mp).elim
    (match ms with
    |some v=>
     chk (¬v.length=0)<|
     (zaR p).bind fun c=>
     z0h (zbC v w28 k c mp) LFm (0,[])
    |none=>
     (z2V a0 x).bind fun v=>
     (zaR p).bind fun c=>
     z0h (zbC v w28 k c mp) LFm (0,[]))
    fun _=>z0c (IntKind.i64.wrap (w28+1),mp,ms)
 else
  z0d<|
  z0c (IntKind.i64.wrap (w22+1),mp)
abbrev zjj(a0:Frm)(a1:List (List Int)):Int×List (ByteArray×CRow)->Option ((Int×List (ByteArray×CRow))⊕List (ByteArray×CRow))
 |(w22,mp)=>
 if w22<(a1.length:Int) then
  (atI a1 w22).bind fun x=>
  z0h (zcp a0 x w22) LFm (0,mp,none)
 else
  z0d<|
  chk (z0S 48 (mp.length:Int))<|
  some mp
abbrev zEZ(mp:List (ByteArray×CRow)):T:=.mt none (mp.map fun x0=>.string x0.1) (mp.map fun x0=>.agg [.sl x0.2.pre.length (x0.2.pre.map fun x1=>.sc (.int .i64 x1)),.sl x0.2.maps.length (x0.2.maps.map fun x1=>.sl x1.length (x1.map fun x2=>.sc (.int .i64 x2)))])
theorem zsZ(k:ByteArray)(c:List Int)(ms:List (List Int))(mp:List (ByteArray×CRow)):zaI (.string k) (.agg [.sl c.length (c.map fun x1=>.sc (.int .i64 x1)),.sl ms.length (ms.map fun x1=>.sl x1.length (x1.map fun x2=>.sc (.int .i64 x2)))]) (mp.map fun x0=>.string x0.1) (mp.map fun x0=>.agg [.sl x0.2.pre.length (x0.2.pre.map fun x1=>.sc (.int .i64 x1)),.sl x0.2.maps.length (x0.2.maps.map fun x1=>.sl x1.length (x1.map fun x2=>.sc (.int .i64 x2)))])=((z8p k ⟨c,ms⟩ mp).map (fun x0=>.string x0.1),(z8p k ⟨c,ms⟩ mp).map fun x0=>.agg [.sl x0.2.pre.length (x0.2.pre.map fun x1=>.sc (.int .i64 x1)),.sl x0.2.maps.length (x0.2.maps.map fun x1=>.sl x1.length (x1.map fun x2=>.sc (.int .i64 x2)))]):=
 zsY k ⟨c,ms⟩ (fun x0:ByteArray×CRow=>.agg [.sl x0.2.pre.length (x0.2.pre.map fun x1=>.sc (.int .i64 x1)),.sl x0.2.maps.length (x0.2.maps.map fun x1=>.sl x1.length (x1.map fun x2=>.sc (.int .i64 x2)))]) mp
attribute [local simp] zsZ znC
instance{v:List (List (List Int))}{w28:Int}{k:ByteArray}{c:List Int}{mp:List (ByteArray×CRow)}:Hd (zbC v w28 k c mp):=⟨fun(w54,acc)=>([(54,xI w54)],[(13,.vr [.os 1 c.length (c.map fun x1=>.sc (.int .i64 x1)),.os 1 acc.length (acc.map fun x1=>.sl x1.length (x1.map fun x2=>.sc (.int .i64 x2)))])])⟩
instance{a0:Frm}{x:List Int}{w22:Int}:Hd (zcp a0 x w22):=⟨fun(w28,mp,ms)=>([(28,xI w28),(8,match ms with|none=>.one (.k (.slice none 0 0))|some v=>.one (.t none (.sl v.length (v.map fun x0=>.sl x0.length (x0.map fun x1=>.sl x1.length (x1.map fun x2=>.sc (.int .i64 x2)))))))],[(5,zEZ mp)])⟩
instance{a0:Frm}{a1:List (List Int)}:Hd (zjj a0 a1):=⟨fun(w22,mp)=>([(22,xI w22)],[(5,zEZ mp)])⟩
def zzk(a0:Frm)(a1:List (List Int)):Option (List (ByteArray×CRow)):=z0h (zjj a0 a1) LFm (0,[])
def zC6(r:CRow):List CRow->List CRow
 | []=> [r]
 |q::l=>if z9u r.pre q.pre<0 then r::q::l else q::zC6 r l
def zz9(l:List CRow):List CRow:=l.foldr zC6 []
def zkE(a0:Frm)(a1:List (List Int)):Option (List CRow):=
 (zzk a0 a1).bind fun mp=>if(mp.map fun e=>e.2.pre).Nodup/\mp.length*48<=140737488355328 then some (zz9 (mp.map (·.2))) else none
theorem rwA1{a0:Frm}{a1:List (List Int)}{mp:List (ByteArray×CRow)}(h:zzk a0 a1=some mp):wpC Tryz.prog L cfRw LFm (zzv zkc) (z9l 89 [.pr [.sc (.int .i64 a0.d.letters),.sc (.int .i64 a0.d.start),(tB a0.d.final),(tR a0.d.next),(tI a0.x.sets),(tI a0.x.class_),(tI a0.x.height),(tR a0.x.tiles),(tS a0.x.words),(tS a0.x.back),(tI a0.comp),(tI a0.sizes),(tR a0.tiles),(tR a0.next)],.sl a1.length (a1.map fun x0=>.sl x0.length (x0.map fun x1=>.sc (.int .i64 x1)))]) (fun x fr=>x= .n/\z3l fr.tm 5= .one (.t none (z2g (zEZ mp)))/\z3l fr.tm 16= .one (.h 16 [])/\z2l fr.ob 16=some (.os 2 0 [])/\fr.nt=89):=by
 have h:=z3p h
 unfold zzk at h
 simp only[z9l,z9k,z8w,zbb,z7N]
 exact zrV
abbrev rwP1(r:CRow):List Int×T:=(r.pre,.sl r.maps.length (r.maps.map fun x1=>.sl x1.length (x1.map fun x2=>.sc (.int .i64 x2))))
theorem rwI1(r:CRow):∀l:List CRow,zA2 (rwP1 r) (l.map rwP1)=(zC6 r l).map rwP1
 | []=>rfl
 |q::l=>by
  simp only[Zq,zA2,zC6]
  split
  · rfl
  · rw[rwI1 r l];rfl
theorem rwS1:∀l:List CRow,z5N (l.map rwP1)=(zz9 l).map rwP1
 | []=>rfl
 |r::l=>by
  show zA2 (rwP1 r) (z5N (l.map rwP1))=(zC6 r (zz9 l)).map rwP1
  rw[rwS1 l,rwI1]
theorem rwD1:∀l:List CRow,zlu (l.map fun x0=>.agg [.sl x0.pre.length (x0.pre.map fun x1=>.sc (.int .i64 x1)),.sl x0.maps.length (x0.maps.map fun x1=>.sl x1.length (x1.map fun x2=>.sc (.int .i64 x2)))])=some (l.map rwP1)
 | []=>rfl
 |r::l=>by
  rw[Zq,zlu,rwD1 l]
  simp only[zzl,zgW,if_true]
  rfl
instance vRowsC_okI{a0:Frm}{a1:List (List Int)}:Ok (zkE a0 a1) (fun r=>L 50 [.pr [.sc (.int .i64 a0.d.letters),.sc (.int .i64 a0.d.start),(tB a0.d.final),(tR a0.d.next),(tI a0.x.sets),(tI a0.x.class_),(tI a0.x.height),(tR a0.x.tiles),(tS a0.x.words),(tS a0.x.back),(tI a0.comp),(tI a0.sizes),(tR a0.tiles),(tR a0.next)],.sl a1.length (a1.map fun x0=>.sl x0.length (x0.map fun x1=>.sc (.int .i64 x1)))]=some (.sl r.length (r.flatMap fun x0=> [.sl x0.pre.length (x0.pre.map fun x1=>.sc (.int .i64 x1)),.sl x0.maps.length (x0.maps.map fun x1=>.sl x1.length (x1.map fun x2=>.sc (.int .i64 x2)))]),[.dead,.dead])):=⟨fun r h=>by
 unfold zkE at h
 obtain⟨mp,h1,h2⟩:=z2E h
 split at h2
 case isFalse=>cases h2
 rename_i hc
 obtain⟨hnd,hby⟩:=hc
 have hr:zz9 (mp.map (·.2))=r:=YU h2
 have hA:=rwA1 h1
 unfold wpC at hA
 obtain⟨x,fr,hco,hx,h5,h16,ho,hnt⟩:=hA
 subst hx
 obtain⟨n,hn⟩:=zml _ hco
 refine zx7 rfl ⟨n,fun m hm=> ?_⟩
 show xtF (z6I Tryz.prog xt znQ m) _ _=_
 unfold xtF
 rw[if_neg (by decide),if_pos rfl]
 unfold zo1
 rw[hn m hm]
 have e5:z2g (zEZ mp)= .ms none (mp.map fun x0=>.string x0.1) ((mp.map (·.2)).map fun x0=>.agg [.sl x0.pre.length (x0.pre.map fun x1=>.sc (.int .i64 x1)),.sl x0.maps.length (x0.maps.map fun x1=>.sl x1.length (x1.map fun x2=>.sc (.int .i64 x2)))]):=by
  simp
 rw[e5] at h5
 simp only[h5,h16,ho,rwD1]
 rw[if_pos ⟨by rw[Yd,Yd];exact hnd,by simpa using hby,by simp,by simp[z7N],hnt,fun q hq=>by
  obtain⟨z,hz,rfl⟩:=Zj.1 hq
  simp[rwP1]⟩]
 rw[rwS1,hr,Z8,List.flatMap_map]
 rfl⟩
end
end
section
open Go Go.IntKind
noncomputable section
variable{v25:Frm×Int}{v24:List Hol×Int}{a0:List Int}
def z8f(a0:Int):Option (Bool):=
 some (decide (32<a0))
instance{a0:Int}:Ok (z8f a0) (fun r=>L 46 [.sc (.int .i64 a0)]=some (.sc (.bool r),[.dead])):=⟨fun r h=>by have h:=z3p h;unfold z8f at h;exact z4q rfl Tryz.func46 (bdy Tryz.f46 rfl)⟩
abbrev z1n(a0:List Int):Int->Option (Int⊕Int)
 |w10=>
 if w10<(a0.length:Int) then
 (atI a0 w10).bind fun v13=>
 (z8f v13).bind fun v14=>
 if v14=true then
 z0d<|
 some w10
 else
 z0c (i64.wrap (w10+1))
 else
 z0d<|
 some (-1)
instance:Hd (z1n a0):=⟨fun w10=>([(8,xI w10)],[])⟩
def z0X(a0:List Int):Option (Int):=
 z0h (z1n a0) LFm 0
instance:Ok (z0X a0) (fun r=>L 96 [(tI a0),.sc (.func (.func 46) #[] #[])]=some (.sc (.int .i64 r),[.dead,.dead])):=⟨fun r h=>by have h:=z3p h;unfold z0X at h;exact z4q rfl Tryz.func96 (bdy Tryz.f96 rfl)⟩
def z0Q(a0:List Int):Option (Bool):=
 (z0X a0).bind fun v2=>
 some (decide (0<=v2))
instance:Ok (z0Q a0) (fun r=>L 45 [(tI a0),.sc (.func (.func 46) #[] #[])]=some (.sc (.bool r),[.dead,.dead])):=⟨fun r h=>by have h:=z3p h;unfold z0Q at h;exact z4q rfl Tryz.func45 (bdy Tryz.f45 rfl)⟩
abbrev z5R(a0:DFA)(v24:List Hol×Int)(v25:Frm×Int)(v34:List (List Int)×Int):Int×List Int->Option ((Int×List Int)⊕(Cover×Int))
 |(w37,w38)=>
 if w37<(v34.1.length:Int) then
 (atI v34.1 w37).bind fun v42=>
 (z3K v25.1 v42).bind fun v43=>
 (atI w38 w37).bind fun v44=>
 z0c (i64.wrap (w37+1),(w38.set w37.toNat v43))
 else
 z0d<|
 (zkE v25.1 v34.1).bind fun v45=>
 (z2M v25.1).bind fun v46=>
 some ((⟨⟨a0.letters,v25.1.sizes,v45⟩,v46,v34.1,w38,v24.1⟩:Cover),0)
instance{a0:DFA}{v34:List (List Int)×Int}:Hd (z5R a0 v24 v25 v34):=⟨fun(w37,w38)=>([(72,xI w37)],[(12,(tO w38))])⟩
abbrev z4b(a0:DFA)(v24:List Hol×Int)(v25:Frm×Int):Int->Option (Int⊕(Cover×Int))
 |w29=>
 if w29<(v24.1.length:Int) then
 (atI v24.1 w29).bind fun v32=>
 (z1B v32).bind fun v33=>
 if v33.2=0 then
 z0c (i64.wrap (w29+1))
 else
 z0d<|
 some ((⟨⟨0,[],[]⟩,[],[],[],[]⟩:Cover),3)
 else
 z0d<|
 (z1V v25.1).bind fun v34=>
 if v34.2=0 then
 chk (z0S 8 (v34.1.length:Int))<|
 z0h (z5R a0 v24 v25 v34) LFm (0,List.replicate (v34.1.length:Int).toNat (0:Int))
 else
 some ((⟨⟨0,[],[]⟩,[],[],[],[]⟩:Cover),v34.2)
instance{a0:DFA}:Hd (z4b a0 v24 v25):=⟨fun w29=>([(46,xI w29)],[])⟩
def z5B(a0:DFA):Option (Cover×Int):=
 (z6l a0).bind fun v24=>
 if v24.2=0 then
 (z3Q a0).bind fun v25=>
 if v25.2=0 then
 if 24<(v25.1.sizes.length:Int) then
 some ((⟨⟨0,[],[]⟩,[],[],[],[]⟩:Cover),3)
 else
 (z0Q v25.1.sizes).bind fun v26=>
 if v26=true then
 some ((⟨⟨0,[],[]⟩,[],[],[],[]⟩:Cover),3)
 else
 z0h (z4b a0 v24 v25) LFm 0
 else
 some ((⟨⟨0,[],[]⟩,[],[],[],[]⟩:Cover),v25.2)
 else
 some ((⟨⟨0,[],[]⟩,[],[],[],[]⟩:Cover),v24.2)
instance{a0:DFA}:Ok (z5B a0) (fun r=>L 15 [.agg [.sc (.int .i64 a0.letters),.sc (.int .i64 a0.start),(tB a0.final),(tR a0.next)]]=some (.tup [.agg [.sc (.int .i64 r.1.casc.letters),(tI r.1.casc.sizes),.sl r.1.casc.rows.length (r.1.casc.rows.flatMap fun x0=> [(tI x0.pre),(tR x0.maps)]),(tI r.1.start),(tR r.1.tuples),(tI r.1.states),.sl r.1.groups.length (r.1.groups.flatMap fun x0=> [.sc (.int .i64 x0.set),(tI x0.tiles),(tS x0.words),(tR x0.perms)])],.sc (.int .i64 r.2)],[.dead])):=⟨fun r h=>by have h:=z3p h;unfold z5B at h;exact zhQ rfl Tryz.func15 (bdy Tryz.f15 rfl)⟩
end
end
section
open Go
theorem zww(T:List (List Nat)):∃Y:List (List Nat),Y.map toI=z9E (T.map toI)/\Y.Perm T:=by
 have hp:=z8M (T.map toI)
 refine⟨(z9E (T.map toI)).map fun x=>x.map Int.toNat,?_,?_⟩
 · rw[Yd]
   refine(ZB fun x hx=> ?_).trans (XZ _)
   obtain⟨e,he,rfl⟩:=Zj.1 (hp.mem_iff.1 hx)
   show toI ((toI e).map Int.toNat)=toI e
   rw[zoi]
 · have:=hp.map fun x:List Int=>x.map Int.toNat
   rw[Yd] at this
   have e:((fun x:List Int=>x.map Int.toNat)∘toI)=id:=by funext x;exact zoi x
   rwa [e,YX] at this
theorem zgz{f:List Nat->Nat->List (List Nat)}{L:Nat}{M N:List (List Nat)}{R:List zac}(h:RowsOk f L M R)(hp:M.Perm N):RowsOk f L N R:=
 ⟨h.nd,fun r hr=>by obtain⟨x,hx,e⟩:=h.of r hr;exact⟨x,hp.mem_iff.1 hx,e⟩,fun x hx=>h.al x (hp.mem_iff.2 hx)⟩
section
variable {d:DFA} {m n:Nat} {S:List Nat} (hd:DfaOk d m n) (hn:n<=7) (hS:SetsP d m n S) {O:List Nat} (hH:zhR d m n S) (hO:OrdC d m n S O) (hpos:∀x∈S,x≠0)
def zw4(d:DFA)(m n:Nat)(S O:List Nat):Prop:=∀T Y:List (List Nat),zkh (z5n d m n S O) m 2001 0 [z2W d m n S O]=some T->Y.map toI=z9E (T.map toI)->Y.Perm T->∃W:List zac,zkE (z9q d m n S O) (Y.map toI)=some (W.map zcM)/\W.Pairwise ltR/\RowsOk (z2j d m n S O) O.length Y W
include hd hn hS hH hO hpos
theorem zsM(hSl:S.length<=32):z0Q (z9q d m n S O).sizes=some false:=by
 have hOl:=zeA hd hn hS hH hO
 have hlen:((z9q d m n S O).sizes.length:Int)=(O.length:Int):=by simp[z9q,z0a]
 have:z0X (z9q d m n S O).sizes=some (-1):=by
  unfold z0X
  refine z0n (s:=(0:Int)) O.length (fun k=>(k:Int)) rfl (by simp only[LFm];omega) (fun k hk=> ?_) ?_
  · have:=zlc (d:=d) (m:=m) (n:=n) (S:=S) (O:=O) k
    simp only[z1n]
    rw[hlen,if_pos (by omega),zv9 hk,Z0]
    unfold z8f
    rw[Z0,if_neg (by simp;omega),z0H (by omega)]
  · simp only[z1n]
    rw[hlen,if_neg (by omega)]
 unfold z0Q
 rw[this,Z0]
 rfl
theorem zAo(hR:zw4 d m n S O)(hs:n<=5∨(n=7/\m=2/\d.next=defT))(hSl:S.length<=32)(h0:0<S.length)(hF:z3Q d=some (z9q d m n S O,0))(hG:z6l d=some (O.map (z9g d m n S),0)):
 ∃r,z5B d=some r/\((24<O.length/\r=(zAW,3))∨(O.length<=24/\((zkh (z5n d m n S O) m 2001 0 [z2W d m n S O]=none/\r=(zAW,3))∨(r.2=0/\CovOk d m n S O (zmz d m n S O) (O.map (z9g d m n S)) r.1)))):=by
 have hOl:=zeA hd hn hS hH hO
 have hst:=zao hd hn hS hH hO hpos h0
 have hlen:((z9q d m n S O).sizes.length:Int)=(O.length:Int):=by simp[z9q,z0a]
 unfold z5B
 rw[hG,Z0]
 simp only[if_true]
 rw[hF,Z0]
 simp only[if_true]
 rw[hlen]
 by_cases h24:24<O.length
 · rw[if_pos (by omega)]
   exact⟨_,rfl,.inl ⟨h24,rfl⟩⟩
 · rw[if_neg (by omega),zsM hd hn hS hH hO hpos hSl,Z0,if_neg (by simp)]
   have hloop:∀ {R:Cover×Int},z4b d (O.map (z9g d m n S),0) (z9q d m n S O,0) (O.length:Int)=z0d (some R)->z0h (z4b d (O.map (z9g d m n S),0) (z9q d m n S O,0)) LFm 0=some R:=fun {R} hlast=>by
    refine z0n (s:=(0:Int)) O.length (fun k=>(k:Int)) rfl (by simp only[LFm];omega) (fun k hk=> ?_) hlast
    obtain⟨c1,c2⟩:=zgK hd hn hS hH hO hk
    have hout:=hO.prm.mem_iff.1 (z0e hk:O.getD k 0∈O)
    unfold zaC at hout
    have hh:=(ZL.1 hout).2
    simp only[decide_eq_true_eq] at hh
    obtain⟨E,e1⟩:=zxx hd hn hS hs c1 (zhd hh) hpos hSl
    have hat:atI (O.map (z9g d m n S)) (k:Int)=some (z9g d m n S (O.getD k 0)):=by
     rw[z0A (by simpa using hk)];simp[List.getD,hk]
    simp only[z4b]
    rw[Z8,if_pos (by omega),hat,Z0,e1,Z0]
    simp only[if_true]
    rw[z0H (by omega)]
   have hlast:z4b d (O.map (z9g d m n S),0) (z9q d m n S O,0) (O.length:Int)=z0d ((z1V (z9q d m n S O)).bind fun v34=>if v34.2=0 then chk (z0S 8 (v34.1.length:Int))<|z0h (z5R d (O.map (z9g d m n S),0) (z9q d m n S O,0) v34) LFm (0,List.replicate (v34.1.length:Int).toNat (0:Int)) else some (zAW,v34.2)):=by
    simp only[z4b]
    rw[Z8,if_neg (by omega)]
    rfl
   have ht:=zs4 hd hn hS hH hO hpos (by omega) h0
   cases hb:zkh (z5n d m n S O) m 2001 0 [z2W d m n S O] with
   |none=>
    rw[hb] at ht
    refine⟨(zAW,3),hloop ?_,.inr ⟨by omega,.inl ⟨rfl,rfl⟩⟩⟩
    rw[hlast,ht,Z0]
    exact congrArg z0d (if_neg (show ¬(zDt none).2=0 by simp[zDt]))
   |some T=>
    rw[hb] at ht
    obtain⟨t1,t2,t3,_⟩:=zkg hd hn hS hH hO hpos h0 _ _ _ _ (fun t h=>by rw[Zi.1 h];exact hst) (by simp) (by simp) hb
    obtain⟨Y,y1,y2⟩:=zww T
    obtain⟨W,w1,w2,w3⟩:=hR T Y hb y1 y2
    have hYl:Y.length<=2000:=by rw[y2.length_eq];exact t3
    refine⟨(⟨⟨d.letters,zmz d m n S O,W.map zcM⟩,toI (z2W d m n S O),Y.map toI,toI (Y.map (zeZ d m n S O)),O.map (z9g d m n S)⟩,0),hloop ?_,.inr ⟨by omega,.inr ⟨rfl,⟨T,Y,W,hb,y1,y2,w2,zgz w3 y2,rfl⟩⟩⟩⟩
    have ht2:z1V (z9q d m n S O)=some (Y.map toI,0):=by rw[ht,y1];rfl
    rw[hlast,ht2,Z0]
    simp only[if_true]
    rw[Z8,z0i _ (by unfold z0S;omega),Z2]
    congr 1
    refine z0n (s:=((0:Int),List.replicate Y.length (0:Int))) Y.length (fun k=>((k:Int),zav Y.length (fun k=>((zeZ d m n S O (Y.getD k []):Nat):Int)) (fun _=>0) k)) (by rw[z9s];congr 1;exact(Ze (by simp) fun i h1 h2=>by simp)) (by simp only[LFm];omega) (fun k hk=> ?_) ?_
    · have hat:atI (Y.map toI) (k:Int)=some (toI (Y.getD k [])):=by
       rw[z0A (by simpa using hk)];simp[List.getD,hk]
      have hx:zeV d m n S O (Y.getD k []):=t1 _ (y2.mem_iff.1 (z4h hk))
      simp only[z5R]
      rw[Z8,if_pos (by omega),hat,Z0,zwu hd hn hS hH hO hpos (by omega) h0 hx,Z0,z6H hk,Z0,z0H (by omega),Z2]
      exact congrArg (fun x=>z0c (((k+1:Nat):Int),x)) (z4I (f:=fun k=>((zeZ d m n S O (Y.getD k []):Nat):Int)) hk)
    · have hfin:(List.range Y.length).map (fun k=>((zeZ d m n S O (Y.getD k []):Nat):Int))=toI (Y.map (zeZ d m n S O)):=by
       refine Ze (by simp[toI]) fun k h1 h2=> ?_
       have hk:k<Y.length:=by simpa using h1
       simp[toI,List.getD,hk]
      simp only[z5R]
      rw[Z8,if_neg (by omega),z9r,hfin,w1,Z0,zoq hd hn hS hH hO hpos (by omega) h0,Z0]
      rfl
end
end
section
open Go
variable{x:List Nat}
def zw8(r:zac):List zac->List zac
 | []=> [r]
 |q::l=>if ltR r q then r::q::l else q::zw8 r l
theorem zp0(r:zac):∀l:List zac,zC6 (zcM r) (l.map zcM)=(zw8 r l).map zcM
 | []=>rfl
 |q::l=>by
  simp only[Zq,zC6,zw8]
  by_cases h:ltR r q
  · rw[if_pos h,if_pos (show z9u (zcM r).pre (zcM q).pre<0 from h)];rfl
  · rw[if_neg h,if_neg (show ¬z9u (zcM r).pre (zcM q).pre<0 from h),zp0 r l];rfl
def zz8(l:List zac):List zac:=l.foldr zw8 []
theorem zlj:∀l:List zac,zz9 (l.map zcM)=(zz8 l).map zcM
 | []=>rfl
 |r::l=>by
  show zC6 (zcM r) (zz9 (l.map zcM))=(zw8 r (zz8 l)).map zcM
  rw[zlj l,zp0]
theorem zh9(r:zac):∀l:List zac,(zw8 r l).Perm (r::l)
 | []=>.refl _
 |q::l=>by
  simp only[zw8]
  split
  · exact .refl _
  · exact((zh9 r l).cons q).trans (.swap r q l)
theorem zgp:∀l:List zac,(zz8 l).Perm l
 | []=>.refl _
 |r::l=>(zh9 r (zz8 l)).trans ((zgp l).cons r)
theorem zh8{r:zac}:∀ {l:List zac},(∀q∈l,r.1≠q.1)->l.Pairwise ltR->(zw8 r l).Pairwise ltR
 | [],_,_=>by simp[zw8]
 |q::l,hne,hs=>by
  obtain⟨h1,h2⟩:=ZA.1 hs
  simp only[zw8]
  split
  · rename_i h
    exact ZA.2 ⟨fun a ha=>by
     rcases Zv.1 ha with rfl|ha
     · exact h
     · exact ztL h (h1 a ha),hs⟩
  · rename_i h
    refine ZA.2 ⟨fun a ha=> ?_,zh8 (fun q hq=>hne q (Zp _ hq)) h2⟩
    rcases Zv.1 ((zh9 r l).mem_iff.1 ha) with rfl|ha
    · exact zBW (hne q (by simp)) h
    · exact h1 a ha
theorem zgo:∀ {l:List zac},l.Pairwise (fun r q=>r.1≠q.1)->(zz8 l).Pairwise ltR
 | [],_=>by simp[zz8]
 |r::l,h=>by
  obtain⟨h1,h2⟩:=ZA.1 h
  exact zh8 (fun q hq=>h1 q ((zgp l).mem_iff.1 hq)) (zgo h2)
def zfC(R:List zac):List (ByteArray×CRow):=R.map fun r=>(z1i (toI r.1),zcM r)
theorem zox{k:ByteArray}{v:CRow}:∀ {mp:List (ByteArray×CRow)},(∀e∈mp,e.1≠k)->z8p k v mp=mp++ [(k,v)]
 | [],_=>rfl
 |(a,u)::mp,h=>by
  have h1:¬a=k:=h (a,u) (by simp)
  simp only[z8p]
  rw[if_neg h1,zox fun e he=>h e (Zp _ he)]
  rfl
theorem zpa{p:List Nat}(hp:∀x∈p,x<256):∀ {R:List zac},(∀r∈R,∀x∈r.1,x<256)->((z7G (z1i (toI p)) (zfC R)).isSome=true↔ ∃r∈R,r.1=p)
 | [],_=>by simp[zfC,z7G]
 |r::R,h=>by
  have ih:=zpa hp (R:=R) fun q hq=>h q (Zp _ hq)
  have hr:=h r (by simp)
  show(z7G (z1i (toI p)) ((z1i (toI r.1),zcM r)::zfC R)).isSome=true↔_
  simp only[z7G]
  by_cases e:r.1=p
  · rw[if_pos (by rw[e])]
    exact iff_of_true rfl ⟨r,by simp,e⟩
  · rw[if_neg (fun q=>e (zdB hr hp q)),ih]
    constructor
    · rintro⟨q,hq,e2⟩;exact⟨q,Zp _ hq,e2⟩
    · rintro⟨q,hq,e2⟩
      rcases Zv.1 hq with rfl|hq
      · exact absurd e2 e
      · exact⟨q,hq,e2⟩
theorem zrI(x:List Nat)(f:Nat->List (List Nat))(k:Nat)(R:List zac):(z7V x f k R).length<=R.length+k:=by
 induction k with
 |zero=>exact Z7 _
 |succ k ih=>
  rw[zaa]
  split
  · rw[Zb];simp;omega
  · omega
section
variable {d:DFA} {m n:Nat} {S:List Nat} (hd:DfaOk d m n) (hn:n<=7) (hS:SetsP d m n S) {O:List Nat} (hH:zhR d m n S) (hO:OrdC d m n S O) (hpos:∀x∈S,x≠0)
def zi2(d:DFA)(m n:Nat)(S O:List Nat)(x:List Nat):List (List (List Int)):=(List.range m).map fun a=>(z8q d m n S O a x).map toI
include hd hn hS hH hO hpos
theorem zyt(hSl:S.length<=255)(h0:0<S.length)(hx:zeV d m n S O x){i:Nat}(hi:i<O.length)(k:ByteArray)(c:List Int)(mp:List (ByteArray×CRow)):z0h (zbC (zi2 d m n S O x) (i:Int) k c mp) LFm (0,[])=some (.inl (((i+1:Nat):Int),z8p k ⟨c,(z2j d m n S O x i).map toI⟩ mp,some (zi2 d m n S O x))):=by
 have hm6:=hd.m6
 have hOl:=zeA hd hn hS hH hO
 have hvl:(zi2 d m n S O x).length=m:=by simp[zi2]
 rw[←zyX]
 refine z0n (s:=((0:Int),([]:List (List Int)))) m (fun a=>((a:Int),wC d m n S O x a i)) rfl (by simp only[LFm];omega) (fun a ha=> ?_) ?_
 · have y2:=(zan hd hn hS hH hO hpos (a:=a) hx h0).2
   have hat:atI (zi2 d m n S O x) (a:Int)=some ((z8q d m n S O a x).map toI):=by
    rw[z0A (by rw[hvl];exact ha)];simp[zi2]
   have hat2:atI ((z8q d m n S O a x).map toI) (i:Int)=some (toI ((z8q d m n S O a x).getD i [])):=by
    rw[z0A (by simpa[y2] using hi)]
    simp[List.getD,y2,hi]
   simp only[zbC]
   rw[hvl,if_pos (by omega),hat,Z0,hat2,Z0,zB1,z0i _ (by unfold z1C;omega),z0H (by omega),←zyW]
 · simp only[zbC]
   rw[hvl,if_neg (by omega),z0H (by omega)]
   rfl
theorem zE4(hSl:S.length<=255)(h0:0<S.length)(hx:zeV d m n S O x)(w:Nat)(hw:w<100000){R:List zac}(hR:∀r∈R,∀k∈r.1,k<256):
 z0h (zcp (z9q d m n S O) (toI x) (w:Int)) LFm (0,zfC R,none)=some (.inl (((w+1:Nat):Int),zfC (z7V x (z2j d m n S O x) O.length R))):=by
 have hOl:=zeA hd hn hS hH hO
 have hxl:=hx.1
 have h256:=zi9 hSl hx
 have hm1:=hd.m1
 have hpre:∀k,∀r∈z7V x (z2j d m n S O x) k R,∀j∈r.1,j<256:=fun k=>by
  induction k with
  |zero=>exact hR
  |succ k ih=>
   intro r hr
   rw[zaa] at hr
   split at hr
   · rcases Zf.1 hr with hr|hr
     · exact ih r hr
     · rw[Zi.1 hr]
       exact fun j hj=>h256 j (ZH hj)
   · exact ih r hr
 have hone:∀k,k<O.length->(∀r∈z7V x (z2j d m n S O x) k R,r.1≠x.take k)->z8p (z1i (toI (x.take k))) (⟨toI (x.take k),(z2j d m n S O x k).map toI⟩:CRow) (zfC (z7V x (z2j d m n S O x) k R))=zfC (z7V x (z2j d m n S O x) (k+1) R):=fun k hk hnew=>by
  rw[zaa,if_pos hnew,zox fun e he=>by
   obtain⟨r,hr,rfl⟩:=Zj.1 he
   exact fun q=>hnew r hr (zdB (hpre k r hr) (fun j hj=>h256 j (ZH hj)) q)]
  unfold zfC
  rw[Y0];rfl
 refine Exists.elim (z1Q (b:=zcp (z9q d m n S O) (toI x) (w:Int)) (fun z=>∃(k:Nat) (ms:RMs),k<=O.length/\z=((k:Int),zfC (z7V x (z2j d m n S O x) k R),ms)/\(ms=none∨ms=some (zi2 d m n S O x))) (fun z=>O.length+1-z.1.toNat)
  (fun r=>r= .inl (((w+1:Nat):Int),zfC (z7V x (z2j d m n S O x) O.length R))) ?_ LFm (0,zfC R,none) ⟨0,none,by omega,rfl,.inl rfl⟩ (by simp only[LFm];omega)) fun r h=> ?_
 · rintro z ⟨k,ms,hk,rfl,hms⟩
   by_cases hk1:k<O.length
   · left
     have hpc:z6O (toI x) 0 (k:Int)=some (toI (x.take k)):=by
      have:=zb4 (xs:=toI x) (k:=k) (by rw[z0a];omega)
      rw[this];unfold toI;rw[XT]
     have hkey:z1w (toI (x.take k))=some (z1i (toI (x.take k))):=zgU (by rw[Zr];omega) fun j hj=>h256 j (ZH hj)
     have hg:=zpa (p:=x.take k) (fun j hj=>h256 j (ZH hj)) (hpre k)
     have hbody:zcp (z9q d m n S O) (toI x) (w:Int) ((k:Int),zfC (z7V x (z2j d m n S O x) k R),ms)=z0c (((k+1:Nat):Int),zfC (z7V x (z2j d m n S O x) (k+1) R),(if ∀r∈z7V x (z2j d m n S O x) k R,r.1≠x.take k then some (zi2 d m n S O x) else ms)):=by
      simp only[zcp]
      rw[z0a,if_pos (by omega),hpc,Z0,hkey,Z0,z0H (by omega)]
      by_cases hnew:∀r∈z7V x (z2j d m n S O x) k R,r.1≠x.take k
      · have hno:z7G (z1i (toI (x.take k))) (zfC (z7V x (z2j d m n S O x) k R))=none:=by
         cases he:z7G (z1i (toI (x.take k))) (zfC (z7V x (z2j d m n S O x) k R)) with
         |none=>rfl
         |some v=>obtain⟨r,hr,e⟩:=hg.1 (by rw[he];rfl);exact absurd e (hnew r hr)
        have hvc:zaR (toI (x.take k))=some (toI (x.take k)):=by
         unfold zaR;rw[if_pos (by rw[z0a,Zr];omega)]
        rw[hno,if_pos hnew]
        rcases hms with rfl|rfl
        · simp only[Option.elim]
          have hmp:z2V (z9q d m n S O) (toI x)=some (zi2 d m n S O x):=zzN hd hn hS hH hO hpos (by omega) h0 hx
          rw[hmp,Z0,hvc,Z0,zyt hd hn hS hH hO hpos hSl h0 hx hk1,hone k hk1 hnew];rfl
        · simp only[Option.elim]
          rw[z0i _ (by simp[zi2];omega),hvc,Z0,zyt hd hn hS hH hO hpos hSl h0 hx hk1,hone k hk1 hnew];rfl
      · have hex:∃r∈z7V x (z2j d m n S O x) k R,r.1=x.take k:=by
         obtain⟨r,hr⟩:=Classical.not_forall.1 hnew
         obtain⟨hr,e2⟩:=Classical.not_imp.1 hr
         exact⟨r,hr,Classical.not_not.1 e2⟩
        obtain⟨v,hv⟩:=ZT.1 (hg.2 hex)
        rw[hv,if_neg hnew,zaa,if_neg hnew];rfl
     refine⟨_,hbody,⟨k+1,_,by omega,rfl,?_⟩,by simp only;omega⟩
     split
     · exact .inr rfl
     · exact hms
   · right
     have:k=O.length:=by omega
     subst this
     refine⟨_,?_,rfl⟩
     simp only[zcp]
     rw[z0a,if_neg (by omega),z0H (by omega)]
     rfl
 · obtain⟨h3,rfl⟩:=h
   exact h3
theorem zzi(hSl:S.length<=255)(h0:0<S.length){Y:List (List Nat)}(hY:∀x∈Y,zeV d m n S O x)(hYl:Y.length<=2000):∃W:List zac,zkE (z9q d m n S O) (Y.map toI)=some (W.map zcM)/\W.Pairwise ltR/\RowsOk (z2j d m n S O) O.length Y W:=by
 let Rk:=fun k=>(Y.take k).foldl (fun R x=>z7V x (z2j d m n S O x) O.length R) ([]:List zac)
 have hRs:∀k,(hk:k<Y.length)->Rk (k+1)=z7V Y[k] (z2j d m n S O Y[k]) O.length (Rk k):=fun k hk=>by
  simp only[Rk]
  rw[Zw hk,YM];rfl
 have hRo:∀k,k<=Y.length->RowsOk (z2j d m n S O) O.length (Y.take k) (Rk k):=fun k=>by
  induction k with
  |zero=>intro _;exact⟨by simp[Rk],by simp[Rk],by simp⟩
  |succ k ih=>
   intro hk
   rw[hRs k (by omega),Zw (show k<Y.length by omega)]
   exact zrH (ih (by omega)) _
 have hRl:∀k,k<=Y.length->∀r∈Rk k,∀j∈r.1,j<256:=fun k hk r hr j hj=>by
  obtain⟨x,hx,i,hi,rfl⟩:=(hRo k hk).of r hr
  exact zi9 hSl (hY x (ZH hx)) j (ZH hj)
 have hOl:=zeA hd hn hS hH hO
 have hRn:∀k,k<=Y.length->(Rk k).length<=k*O.length:=fun k=>by
  induction k with
  |zero=>intro _;simp[Rk]
  |succ k ih=>
   intro hk
   rw[hRs k (by omega),Yl,Nat.one_mul]
   have:=zrI Y[k] (z2j d m n S O Y[k]) O.length (Rk k)
   have:=ih (by omega)
   omega
 have hel:(zfC (Rk Y.length)).length=(Rk Y.length).length:=by simp[zfC]
 have hbd:(Rk Y.length).length<=2000*255:=ZO (hRn _ (Z7 _)) (XQ hYl (by omega))
 have hA:zzk (z9q d m n S O) (Y.map toI)=some (zfC (Rk Y.length)):=by
  unfold zzk
  refine z0n (s:=((0:Int),([]:List (ByteArray×CRow)))) Y.length (fun k=>((k:Int),zfC (Rk k))) (by simp[Rk,zfC]) (by simp only[LFm];omega) (fun k hk=> ?_) ?_
  · have hat:atI (Y.map toI) (k:Int)=some (toI Y[k]):=by
     rw[z0A (by simpa using hk)];simp
    simp only[zjj]
    rw[Z8,if_pos (by omega),hat,Z0,zE4 hd hn hS hH hO hpos hSl h0 (hY _ (Zk hk)) k (by omega) (hRl k (by omega)),←hRs k hk];rfl
  · simp only[zjj]
    rw[Z8,if_neg (by omega),z0i _ (by unfold z0S;rw[hel];omega)]
 have hok:=hRo Y.length (Z7 _)
 rw[Y9] at hok
 have hnd:((zfC (Rk Y.length)).map fun e=>e.2.pre).Nodup:=by
  unfold zfC
  rw[Yd]
  exact Yt _ (fun a b (h:a.1≠b.1)=>fun e=>h (zmR e)) hok.nd
 have hmap:(zfC (Rk Y.length)).map (·.2)=(Rk Y.length).map zcM:=by
  unfold zfC;rw[Yd];rfl
 refine⟨zz8 (Rk Y.length),?_,zgo hok.nd,zn1 hd hn hS hH hO hpos hok (zgp _)⟩
 unfold zkE
 rw[hA,Z0,if_pos ⟨hnd,by rw[hel];omega⟩,hmap,zlj]
end
end
section
open Go
theorem zzj{d:DFA}{m n:Nat}(hd:DfaOk d m n)(hn:n<=7)(h32:(z2d d m n).length<=32){O:List Nat}(hO:OrdC d m n (z2d d m n) O):zw4 d m n (z2d d m n) O:=fun T Y hT y1 y2=>by
 have hS:=z8r hd
 have hH:=zdA hd hn
 have hpos:∀x∈z2d d m n,x≠0:=fun x hx=>zbB hd hx
 obtain⟨h0,hfull⟩:=zbQ hd hn
 have hst:=zao hd hn hS hH hO hpos h0
 obtain⟨t1,t2,t3,_⟩:=zkg hd hn hS hH hO hpos h0 _ _ _ _ (fun t h=>by rw[Zi.1 h];exact hst) (by simp) (by simp) hT
 exact zzi hd hn hS hH hO hpos (by omega) h0 (fun x hx=>t1 x (y2.mem_iff.1 hx)) (by rw[y2.length_eq];exact t3)
theorem zCj{d:DFA}{m n:Nat}(hd:DfaOk d m n)(hn:n<=7)(hs:n<=5∨(n=7/\m=2/\d.next=defT))(h32:(z2d d m n).length<=32):
 ∃O,OrdC d m n (z2d d m n) O/\O.Perm (zaC d m n (z2d d m n) (z2d d m n).length)/\z6l d=some (O.map (z9g d m n (z2d d m n)),0)/\ ∃r,z5B d=some r/\
  ((24<O.length/\r=(zAW,3))∨(O.length<=24/\((zkh (z5n d m n (z2d d m n) O) m 2001 0 [z2W d m n (z2d d m n) O]=none/\r=(zAW,3))∨(r.2=0/\CovOk d m n (z2d d m n) O (zmz d m n (z2d d m n) O) (O.map (z9g d m n (z2d d m n))) r.1)))):=by
 have hS:=z8r hd
 have hH:=zdA hd hn
 have hpos:∀x∈z2d d m n,x≠0:=fun x hx=>zbB hd hx
 obtain⟨h0,hfull⟩:=zbQ hd hn
 obtain⟨O,hG1,o1,o2⟩:=zC9 hd hn
 have hO:OrdC d m n (z2d d m n) O:=⟨o1,o2⟩
 have hF1:=zlL hd hn hS hH hO (by omega) (zDp hd hn)
 obtain⟨r,r1,r2⟩:=zAo hd hn hS hH hO hpos (zzj hd hn h32 hO) hs h32 h0 hF1 hG1
 exact⟨O,hO,o2,hG1,r,r1,r2⟩
end
section
open Go Go.IntKind
noncomputable section
variable{a2:ByteArray}{a0 a1:List Int}
attribute [-simp] Nat.mul_lt_mul_right
instance:IsS CRow:=⟨⟩
instance:IsS Casc:=⟨⟩
abbrev z8J(a0:List Int):Int->Option (Int⊕Int)
 |w6=>
 if w6<(a0.length:Int) then
 (atI a0 w6).bind fun v8=>
 if v8=0 then
 z0c (i64.wrap (w6+1))
 else
 z0d<|
 some v8
 else
 z0d<|
 some 0
instance:Hd (z8J a0):=⟨fun w6=>([(8,xI w6)],[])⟩
def za4(a0:List Int):Option (Int):=
 z0h (z8J a0) LFm 0
instance:Ok (za4 a0) (fun r=>L 107 [(tI a0)]=some (.sc (.int .i64 r),[.dead])):=⟨fun r h=>by have h:=z3p h;unfold za4 at h;exact z4q rfl Tryz.func107 (bdy Tryz.f107 rfl)⟩
abbrev z2q(a0:List Int)(a1:List Int):Int->Option (Int⊕Int)
 |w14=>
 if w14<(a0.length:Int) then
 (atI a0 w14).bind fun v18=>
 if(a1.length:Int)<=w14 then
 z0d<|
 some 1
 else
 (atI a1 w14).bind fun v19=>
 (cmp_Compare_int v18 v19).bind fun v20=>
 if v20=0 then
 z0c (i64.wrap (w14+1))
 else
 z0d<|
 some v20
 else
 z0d<|
 if a0.length<a1.length then
 some (-1)
 else
 some 0
instance:Hd (z2q a0 a1):=⟨fun w14=>([(11,xI w14)],[])⟩
def z1s(a0:List Int)(a1:List Int):Option (Int):=
 z0h (z2q a0 a1) LFm 0
instance:Ok (z1s a0 a1) (fun r=>L 101 [(tI a0),(tI a1)]=some (.sc (.int .i64 r),[.dead,.dead])):=⟨fun r h=>by have h:=z3p h;unfold z1s at h;exact z4q rfl Tryz.func101 (bdy Tryz.f101 rfl)⟩
abbrev z3X(a0:List Int)(a1:List Int):Int->Option (Int⊕Bool)
 |w10=>
 if w10<(a1.length:Int) then
 (atI a1 w10).bind fun v13=>
 if v13<0 then
 z0d<|
 some false
 else
 (atI a0 w10).bind fun v14=>
 if v14<=v13 then
 z0d<|
 some false
 else
 z0c (i64.wrap (w10+1))
 else
 z0d<|
 some true
instance:Hd (z3X a0 a1):=⟨fun w10=>([(14,xI w10)],[])⟩
def z2D(a0:List Int)(a1:List Int):Option (Bool):=
 if(a1.length:Int)=(a0.length:Int) then
 z0h (z3X a0 a1) LFm 0
 else
 some false
instance:Ok (z2D a0 a1) (fun r=>L 121 [(tI a0),(tI a1)]=some (.sc (.bool r),[.dead,.dead])):=⟨fun r h=>by have h:=z3p h;unfold z2D at h;exact z4q rfl Tryz.func121 (bdy Tryz.f121 rfl)⟩
abbrev z5k(a0:Casc)(a1:CRow)(w42:Int)(v52:List Int):Int->Option (Int⊕(Int⊕Bool))
 |w56=>
 if w56<(v52.length:Int) then
 (atI v52 w56).bind fun v59=>
 if v59<0 then
 z0d<|
 z0d<|
 some false
 else
 (atI a0.sizes (a1.pre.length:Int)).bind fun v60=>
 if v60<=v59 then
 z0d<|
 z0d<|
 some false
 else
 z0c (i64.wrap (w56+1))
 else
 z0d<|
 z0c (i64.wrap (w42+1))
instance{a0:Casc}{a1:CRow}{w42:Int}{v52:List Int}:Hd (z5k a0 a1 w42 v52):=⟨fun w56=>([(53,xI w56)],[])⟩
abbrev z5L(a0:Casc)(a1:CRow):Int->Option (Int⊕Bool)
 |w42=>
 if w42<(a1.maps.length:Int) then
 (atI a1.maps w42).bind fun v52=>
 (atI a0.sizes (a1.pre.length:Int)).bind fun v53=>
 if(v52.length:Int)=v53 then
 z0h (z5k a0 a1 w42 v52) LFm 0
 else
 z0d<|
 some false
 else
 z0d<|
 some true
instance{a0:Casc}{a1:CRow}:Hd (z5L a0 a1):=⟨fun w42=>([(39,xI w42)],[])⟩
def z5S(a0:Casc)(a1:CRow):Option (Bool):=
 if a0.sizes.length<=a1.pre.length then
 some false
 else
 (z6O a0.sizes 0 (a1.pre.length:Int)).bind fun v31=>
 (z2D v31 a1.pre).bind fun v32=>
 if v32=true then
 if(a1.maps.length:Int)=a0.letters then
 z0h (z5L a0 a1) LFm 0
 else
 some false
 else
 some false
instance{a0:Casc}{a1:CRow}:Ok (z5S a0 a1) (fun r=>L 125 [.agg [.sc (.int .i64 a0.letters),(tI a0.sizes),.sl a0.rows.length (a0.rows.flatMap fun x0=> [(tI x0.pre),(tR x0.maps)])],.agg [(tI a1.pre),(tR a1.maps)]]=some (.sc (.bool r),[.dead,.dead])):=⟨fun r h=>by have h:=z3p h;unfold z5S at h;exact z4q rfl Tryz.func125 (bdy Tryz.f125 rfl)⟩
def z2h(a0:List Int)(a1:List Int):Option (Int):=
 (cmp_Compare_int (a0.length:Int) (a1.length:Int)).bind fun v4=>
 (z1s a0 a1).bind fun v5=>
 (za4 [v4,v5]).bind fun v6=>
 some v6
instance:Ok (z2h a0 a1) (fun r=>L 126 [(tI a0),(tI a1)]=some (.sc (.int .i64 r),[.dead,.dead])):=⟨fun r h=>by have h:=z3p h;unfold z2h at h;exact z4q rfl Tryz.func126 (bdy Tryz.f126 rfl)⟩
abbrev z5l(a0:Casc):Int->Option (Int⊕Int)
 |w26=>
 if w26<(a0.rows.length:Int) then
 (atI a0.rows w26).bind fun v31=>
 (z5S a0 v31).bind fun v32=>
 if v32=true then
 if 0<w26 then
 (atI a0.rows (i64.wrap (w26-1))).bind fun v33=>
 (z2h v33.pre v31.pre).bind fun v34=>
 if 0<=v34 then
 z0d<|
 some 23
 else
 z0c (i64.wrap (w26+1))
 else
 z0c (i64.wrap (w26+1))
 else
 z0d<|
 some 23
 else
 z0d<|
 some 0
instance{a0:Casc}:Hd (z5l a0):=⟨fun w26=>([(42,xI w26)],[])⟩
abbrev z5M(a0:Casc):Int->Option (Int⊕Int)
 |w19=>
 if w19<(a0.sizes.length:Int) then
 (atI a0.sizes w19).bind fun v21=>
 if v21<1 then
 z0d<|
 some 23
 else
 if 32<v21 then
 z0d<|
 some 23
 else
 z0c (i64.wrap (w19+1))
 else
 z0d<|
 z0h (z5l a0) LFm 0
instance{a0:Casc}:Hd (z5M a0):=⟨fun w19=>([(28,xI w19)],[])⟩
def z5T(a0:Casc):Option (Int):=
 if a0.letters<1 then
 some 1
 else
 if 6<a0.letters then
 some 1
 else
 if 24<(a0.sizes.length:Int) then
 some 3
 else
 if 48000<(a0.rows.length:Int) then
 some 3
 else
 z0h (z5M a0) LFm 0
instance{a0:Casc}:Ok (z5T a0) (fun r=>L 74 [.agg [.sc (.int .i64 a0.letters),(tI a0.sizes),.sl a0.rows.length (a0.rows.flatMap fun x0=> [(tI x0.pre),(tR x0.maps)])]]=some (.sc (.int .i64 r),[.dead])):=⟨fun r h=>by have h:=z3p h;unfold z5T at h;exact z4q rfl Tryz.func74 (bdy Tryz.f74 rfl)⟩
def z2P(a0:Casc):Option ((Runner×Int)⊕(Runner×Int)):=
 (z5T a0).bind fun v2=>
 if v2=0 then
 some (.inl ((⟨⟨a0.letters,a0.sizes,a0.rows⟩⟩:Runner),0))
 else
 some (.inr ((⟨⟨0,[],[]⟩⟩:Runner),v2))
instance{a0:Casc}:Ok (z2P a0) (fun r=>L 82 [.agg [.sc (.int .i64 a0.letters),(tI a0.sizes),.sl a0.rows.length (a0.rows.flatMap fun x0=> [(tI x0.pre),(tR x0.maps)])]]=some (match r with|(.inl r)=>(.tup [.agg [.sc (.int .i64 r.1.c.letters),(tI r.1.c.sizes),.sl r.1.c.rows.length (r.1.c.rows.flatMap fun x0=> [(tI x0.pre),(tR x0.maps)])],.sc (.int .i64 r.2)],[.dead])|(.inr r)=>(.tup [.agg [.sc (.int .i64 r.1.c.letters),.os 1 0 [],.os 2 0 []],.sc (.int .i64 r.2)],[.dead]))):=⟨fun r h=>by have h:=z3p h;unfold z2P at h;exact z4q rfl Tryz.func82 (bdy Tryz.f82 rfl)⟩
def z2O(a0:CRow)(a1:List Int):Option (Int):=
 (z2h a0.pre a1).bind fun v2=>
 some v2
instance{a0:CRow}:Ok (z2O a0 a1) (fun r=>L 144 [.agg [(tI a0.pre),(tR a0.maps)],(tI a1)]=some (.sc (.int .i64 r),[.dead,.dead])):=⟨fun r h=>by have h:=z3p h;unfold z2O at h;exact z4q rfl Tryz.func144 (bdy Tryz.f144 rfl)⟩
abbrev z0r(a0:List CRow)(a1:List Int):Int×Int->Option ((Int×Int)⊕(Int×Bool))
 |(w13,w14)=>
 if w13<w14 then
 chk (¬1<0)<|
 (atI a0 (md w13 w14)).bind fun v17=>
 (z2O v17 a1).bind fun v18=>
 if v18<0 then
 z0c (i64.wrap ((md w13 w14)+1),w14)
 else
 z0c (w13,i64.wrap (z1D .u64 (u64.wrap (i64.wrap (w13+w14))) 1))
 else
 z0d<|
 if w13<(a0.length:Int) then
 (atI a0 w13).bind fun v19=>
 (z2O v19 a1).bind fun v20=>
 some (w13,decide (v20=0))
 else
 some (w13,false)
instance{a0:List CRow}:Hd (z0r a0 a1):=⟨fun(w13,w14)=>([(9,xI w13),(10,xI w14)],[])⟩
def z0f(a0:List CRow)(a1:List Int):Option (Int×Bool):=
 z0h (z0r a0 a1) LFm (0,(a0.length:Int))
instance{a0:List CRow}:Ok (z0f a0 a1) (fun r=>L 143 [.sl a0.length (a0.flatMap fun x0=> [(tI x0.pre),(tR x0.maps)]),(tI a1),.sc (.func (.func 144) #[] #[])]=some (.tup [.sc (.int .i64 r.1),.sc (.bool r.2)],[.dead,.dead,.dead])):=⟨fun r h=>by have h:=z3p h;unfold z0f at h;exact z4q rfl Tryz.func143 (bdy Tryz.f143 rfl)⟩
abbrev z4D(a0:Runner)(a1:List Int)(a2:Int):Int×List Int->Option ((Int×List Int)⊕(List Int×Int))
 |(w31,w32)=>
 if w31<(a1.length:Int) then
 (atI a1 w31).bind fun v40=>
 (z6O a1 0 w31).bind fun v41=>
 (z0f a0.c.rows v41).bind fun v42=>
 if v42.2=true then
 (atI a0.c.rows v42.1).bind fun v43=>
 (atI v43.maps a2).bind fun v44=>
 (atI v44 v40).bind fun v45=>
 (atI w32 w31).bind fun v46=>
 z0c (i64.wrap (w31+1),(w32.set w31.toNat v45))
 else
 z0d<|
 some ([],23)
 else
 z0d<|
 some (w32,0)
instance{a0:Runner}{a2:Int}:Hd (z4D a0 a1 a2):=⟨fun(w31,w32)=>([(35,xI w31)],[(8,(tO w32))])⟩
def z3n(a0:Runner)(a1:List Int)(a2:Int):Option (List Int×Int):=
 (z2D a0.c.sizes a1).bind fun v24=>
 if v24=true then
 if a2<0 then
 some ([],1)
 else
 if a0.c.letters<=a2 then
 some ([],1)
 else
 chk (z0S 8 (a1.length:Int))<|
 z0h (z4D a0 a1 a2) LFm (0,List.replicate (a1.length:Int).toNat (0:Int))
 else
 some ([],1)
instance{a0:Runner}{a2:Int}:Ok (z3n a0 a1 a2) (fun r=>L 84 [.agg [.sc (.int .i64 a0.c.letters),(tI a0.c.sizes),.sl a0.c.rows.length (a0.c.rows.flatMap fun x0=> [(tI x0.pre),(tR x0.maps)])],(tI a1),.sc (.int .i64 a2)]=some (.tup [(tO r.1),.sc (.int .i64 r.2)],[.dead,.dead,.dead])):=⟨fun r h=>by have h:=z3p h;unfold z3n at h;exact z4q rfl Tryz.func84 (bdy Tryz.f84 rfl)⟩
abbrev z8g(a2:ByteArray)(v27:Runner×Int):Int×List Int->Option ((Int×List Int)⊕(List Int×Int))
 |(w33,w34)=>
 if w33<(a2.size:Int) then
 (zhA a2 w33).bind fun v37=>
 (z3n v27.1 w34 (i64.wrap (u8.wrap (v37-97)))).bind fun v38=>
 if v38.2=0 then
 z0c (i64.wrap (w33+1),v38.1)
 else
 z0d<|
 some ([],v38.2)
 else
 z0d<|
 some (w34,0)
instance{v27:Runner×Int}:Hd (z8g a2 v27):=⟨fun(w33,w34)=>([(36,xI w33)],[(10,(tO w34))])⟩
def z9o(a0:Casc)(a1:List Int)(a2:ByteArray):Option (List Int×Int):=
 (z2P a0).bind fun v26=>
 match v26 with
 |(.inl v27)=>
 if v27.2=0 then
 (z2D a0.sizes a1).bind fun v28=>
 if v28=true then
 (z7e a2 a0.letters).bind fun v29=>
 if v29=true then
 (zaR a1).bind fun v30=>
 z0h (z8g a2 v27) LFm (0,v30)
 else
 some ([],1)
 else
 some ([],1)
 else
 some ([],v27.2)
 |(.inr v39)=>
 if v39.2=0 then
 none
 else
 some ([],v39.2)
instance{a0:Casc}:Ok (z9o a0 a1 a2) (fun r=>L 68 [.agg [.sc (.int .i64 a0.letters),(tI a0.sizes),.sl a0.rows.length (a0.rows.flatMap fun x0=> [(tI x0.pre),(tR x0.maps)])],(tI a1),.sc (.string a2)]=some (.tup [(tO r.1),.sc (.int .i64 r.2)],[.dead,.dead,.dead])):=⟨fun r h=>by have h:=z3p h;unfold z9o at h;exact z4q rfl Tryz.func68 (bdy Tryz.f68 rfl)⟩
abbrev z5o(a0:List Int)(a1:List Int):Int->Option (Int⊕Bool)
 |w10=>
 if w10<(a0.length:Int) then
 (atI a0 w10).bind fun v13=>
 (atI a1 w10).bind fun v14=>
 if v13=v14 then
 z0c (i64.wrap (w10+1))
 else
 z0d<|
 some false
 else
 z0d<|
 some true
instance:Hd (z5o a0 a1):=⟨fun w10=>([(13,xI w10)],[])⟩
def z3F(a0:List Int)(a1:List Int):Option (Bool):=
 if(a0.length:Int)=(a1.length:Int) then
 z0h (z5o a0 a1) LFm 0
 else
 some false
instance:Ok (z3F a0 a1) (fun r=>L 69 [(tI a0),(tI a1)]=some (.sc (.bool r),[.dead,.dead])):=⟨fun r h=>by have h:=z3p h;unfold z3F at h;exact z4q rfl Tryz.func69 (bdy Tryz.f69 rfl)⟩
abbrev z4Z(a0:Cover)(v12:List Int×Int):Int->Option (Int⊕(Int×Int))
 |w16=>
 if w16<(a0.tuples.length:Int) then
 (atI a0.tuples w16).bind fun v20=>
 (z3F v12.1 v20).bind fun v21=>
 if v21=true then
 if(a0.states.length:Int)<=w16 then
 z0d<|
 some (0,23)
 else
 (atI a0.states w16).bind fun v22=>
 z0d<|
 some (v22,0)
 else
 z0c (i64.wrap (w16+1))
 else
 z0d<|
 some (0,23)
instance{a0:Cover}{v12:List Int×Int}:Hd (z4Z a0 v12):=⟨fun w16=>([(25,xI w16)],[])⟩
def z3W(a0:Cover)(a1:ByteArray):Option (Int×Int):=
 (z9o a0.casc a0.start a1).bind fun v12=>
 if v12.2=0 then
 z0h (z4Z a0 v12) LFm 0
 else
 some (0,v12.2)
instance{a0:Cover}{a1:ByteArray}:Ok (z3W a0 a1) (fun r=>L 20 [.agg [.sc (.int .i64 a0.casc.letters),(tI a0.casc.sizes),.sl a0.casc.rows.length (a0.casc.rows.flatMap fun x0=> [(tI x0.pre),(tR x0.maps)]),(tI a0.start),(tR a0.tuples),(tI a0.states),.sl a0.groups.length (a0.groups.flatMap fun x0=> [.sc (.int .i64 x0.set),(tI x0.tiles),(tS x0.words),(tR x0.perms)])],.sc (.string a1)]=some (.tup [.sc (.int .i64 r.1),.sc (.int .i64 r.2)],[.dead,.dead])):=⟨fun r h=>by have h:=z3p h;unfold z3W at h;exact z4q rfl Tryz.func20 (bdy Tryz.f20 rfl)⟩
end
end
section
open Go Go.IntKind
noncomputable section
attribute [-simp] Nat.mul_lt_mul_right
instance:IsS CRow:=⟨⟩
instance:IsS Casc:=⟨⟩
end
end
section
open Go
theorem za8{α:Type}{xs:List α}{k:Nat}(d:α)(h:k<xs.length):atI xs (k:Int)=some (xs.getD k d):=by
 rw[z0A h,List.getD,Z1 h,Z4]
theorem zk8(a b:Int):cmp_Compare_int a b=some (if a<b then-1 else if b<a then 1 else 0):=by
 simp[cmp_Compare_int,cmp_isNaN_int]
 split<;>(try split)<;>simp_all
theorem zyw(a b:Int):za4 [a,b]=some (if a≠0 then a else b):=by
 unfold za4
 rw[z4N (s:=(0:Int)) 2 (fun k=>(k:Int)) (fun k=>decide (([a,b].getD k 0)≠0)) (fun k=>some ([a,b].getD k 0)) (x:=some 0) rfl (by simp only[LFm];omega)]
 · by_cases ha:a=0<;>by_cases hb:b=0<;>simp[List.range,List.range.loop,ha,hb]
 · intro k hk
   simp only[z8J]
   rw[if_pos (by simp;omega),za8 0 (by simpa using hk),z0H (by omega)]
   simp only[Z0]
   by_cases h: [a,b].getD k 0=0<;>simp[h]
 · simp[z8J]
theorem zeO:∀ {a b:List Int},a.length=b.length->z8K a b<0->∃k,k<a.length/\(∀j,j<k->a.getD j 0=b.getD j 0)/\a.getD k 0<b.getD k 0
 | [],[],_,h=>by simp[z8K] at h
 | [],_::_,h,_=>by simp at h
 |_::_,[],h,_=>by simp at h
 |x::a,y::b,hl,h=>by
  simp only[z8K] at h
  by_cases h1:x<y
  · exact⟨0,by simp,fun j hj=>by omega,by simpa using h1⟩
  · rw[if_neg h1] at h
    by_cases h2:y<x
    · rw[if_pos h2] at h;omega
    · rw[if_neg h2] at h
      obtain⟨k,k1,k2,k3⟩:=zeO (by simpa using hl) h
      refine⟨k+1,by simpa using k1,fun j hj=> ?_,by simpa using k3⟩
      match j,hj with
      |0,_=>simp only[X7];omega
      |j+1,hj=>simpa using k2 j (by omega)
theorem zqz(a b:List Int)(hl:a.length<=1000):∃v,z1s a b=some v/\(a.length=b.length->z8K a b<0->v= -1):=by
 unfold z1s
 rw[z4N (s:=(0:Int)) a.length (fun k=>(k:Int)) (fun k=>decide (b.length<=k)|| !decide (a.getD k 0=b.getD k 0)) (fun k=>some (if b.length<=k then 1 else if a.getD k 0<b.getD k 0 then-1 else 1)) (x:=some (if a.length<b.length then-1 else 0)) rfl (by simp only[LFm];omega) (fun k hk=> ?_) ?_]
 · cases hf:(List.range a.length).find? (fun k=>decide (b.length<=k)|| !decide (a.getD k 0=b.getD k 0)) with
   |none=>
    refine⟨_,rfl,fun he hlt=> ?_⟩
    obtain⟨k,k1,k2,k3⟩:=zeO he hlt
    have:=(XW.1 hf) k (Zh.2 k1)
    simp only[Y2,decide_eq_true_eq,ZU,decide_eq_false_iff_not,not_or,Decidable.not_not] at this
    omega
   |some q=>
    refine⟨_,rfl,fun he hlt=> ?_⟩
    obtain⟨k,k1,k2,k3⟩:=zeO he hlt
    obtain⟨q1,q2,q3⟩:=YN.1 hf
    have q2:=Zh.1 q2
    simp only[Y2,decide_eq_true_eq,ZU,decide_eq_false_iff_not] at q1
    have e:q=k:=by
     rcases Xd q k with h|h|h
     · have:=k2 q h;omega
     · exact h
     · have:=q3 k h
       simp only[Bool.not_or,Z5,ZU,decide_eq_false_iff_not,X4,decide_eq_true_eq] at this
       omega
    subst e
    rw[if_neg (by omega),if_pos k3]
 · simp only[z2q]
   rw[if_neg (by omega)]
   by_cases h:a.length<b.length
   · rw[if_pos (by omega),if_pos h]
   · rw[if_neg (by omega),if_neg h]
 · simp only[z2q]
   rw[if_pos (by omega),za8 0 hk,Z0]
   by_cases hb:b.length<=k
   · rw[if_pos (by omega),if_pos (by simp[hb]),if_pos hb]
   · rw[if_neg (by omega),za8 0 (by omega),Z0,zk8,Z0]
     by_cases he:a.getD k 0=b.getD k 0
     · rw[if_neg (c:=a.getD k 0<b.getD k 0) (by omega),if_neg (c:=b.getD k 0<a.getD k 0) (by omega),if_pos rfl,z0H (by omega),if_neg (by simp only[Y2,decide_eq_true_eq,ZU,decide_eq_false_iff_not];omega)]
     · rw[if_pos (c:=(decide (b.length<=k)|| !decide (a.getD k 0=b.getD k 0))=true) (by simp only[Y2,decide_eq_true_eq,ZU,decide_eq_false_iff_not];omega),if_neg hb]
       by_cases h1:a.getD k 0<b.getD k 0
       · rw[if_pos h1,if_neg (by omega),if_pos h1]
       · rw[if_neg h1,if_pos (c:=b.getD k 0<a.getD k 0) (by omega),if_neg (by omega),if_neg h1]
theorem zwG{a b:List Int}(hl:a.length<=1000)(h:z9u a b<0):∃v,z2h a b=some v/\v<0:=by
 obtain⟨v,v1,v2⟩:=zqz a b hl
 unfold z2h
 simp only[zk8,v1,Z0,zyw]
 refine⟨_,rfl,?_⟩
 unfold z9u at h
 by_cases h1:a.length<b.length
 · rw[if_pos (c:=(a.length:Int)<(b.length:Int)) (by omega),if_pos (by omega)];omega
 · rw[if_neg h1] at h
   by_cases h2:b.length<a.length
   · rw[if_pos h2] at h;omega
   · rw[if_neg h2] at h
     rw[if_neg (c:=(a.length:Int)<(b.length:Int)) (by omega),if_neg (c:=(b.length:Int)<(a.length:Int)) (by omega),if_neg (by simp),v2 (by omega) h]
     omega
structure CascG(c:Casc):Prop where
 l1:1<=c.letters
 l6:c.letters<=6
 s24:c.sizes.length<=24
 r48:c.rows.length<=48000
 sz:∀i,i<c.sizes.length->1<=c.sizes.getD i 0/\c.sizes.getD i 0<=32
 pre:∀r∈c.rows,r.pre.length<c.sizes.length/\ ∀j,j<r.pre.length->0<=r.pre.getD j 0/\r.pre.getD j 0<c.sizes.getD j 0
 maps:∀r∈c.rows,(r.maps.length:Int)=c.letters/\ ∀f∈r.maps,(f.length:Int)=c.sizes.getD r.pre.length 0/\ ∀x∈f,0<=x/\x<c.sizes.getD r.pre.length 0
 up:∀i,i+1<c.rows.length->z9u (c.rows.getD i ⟨[],[]⟩).pre (c.rows.getD (i+1) ⟨[],[]⟩).pre<0
theorem zz5{l:List Int}{k j:Nat}(h:j<k):(l.take k).getD j 0=l.getD j 0:=by
 rw[List.getD,List.getD,X8 h]
theorem zwI{c:Casc}(h:CascG c){r:CRow}(hr:r∈c.rows):z5S c r=some true:=by
 obtain⟨p1,p2⟩:=h.pre r hr
 obtain⟨m1,m2⟩:=h.maps r hr
 have s24:=h.s24
 have l6:=h.l6
 have⟨z1,z2⟩:=h.sz _ p1
 unfold z5S
 rw[if_neg (by omega),zb4 (by omega),Z0]
 have e:z2D (c.sizes.take r.pre.length) r.pre=some true:=by
  unfold z2D
  rw[if_pos (by rw[Zr];omega)]
  refine z0n (s:=(0:Int)) r.pre.length (fun k=>(k:Int)) rfl (by simp only[LFm];omega) (fun k hk=> ?_) ?_
  · simp only[z3X]
    obtain⟨a1,a2⟩:=p2 k hk
    rw[if_pos (by omega),za8 0 hk,Z0,if_neg (by omega),za8 0 (by rw[Zr];omega),Z0,zz5 hk,if_neg (by omega),z0H (by omega)]
  · simp only[z3X]
    rw[if_neg (by omega)]
 rw[e,Z0,if_pos rfl,if_pos m1]
 refine z0n (s:=(0:Int)) r.maps.length (fun k=>(k:Int)) rfl (by simp only[LFm];omega) (fun k hk=> ?_) ?_
 · obtain⟨f1,f2⟩:=m2 _ (Zk hk)
   simp only[z5L]
   rw[if_pos (by omega),z0A hk,Z0,za8 0 p1,Z0,if_pos f1]
   generalize r.maps[k]=f at f1 f2
   refine z0n (s:=(0:Int)) f.length (fun j=>(j:Int)) rfl (by simp only[LFm];omega) (fun j hj=> ?_) ?_
   · obtain⟨x1,x2⟩:=f2 _ (Zk hj)
     simp only[z5k]
     rw[if_pos (by omega),z0A hj,Z0,if_neg (by omega),za8 0 p1,Z0,if_neg (by omega),z0H (by omega)]
   · simp only[z5k]
     rw[if_neg (by omega),z0H (by omega)]
 · simp only[z5L]
   rw[if_neg (by omega)]
theorem zo5{c:Casc}(h:CascG c):z5T c=some 0:=by
 have l1:=h.l1
 have l6:=h.l6
 have s24:=h.s24
 have r48:=h.r48
 unfold z5T
 rw[if_neg (by omega),if_neg (by omega),if_neg (by omega),if_neg (by omega)]
 refine z0n (s:=(0:Int)) c.sizes.length (fun k=>(k:Int)) rfl (by simp only[LFm];omega) (fun k hk=> ?_) ?_
 · obtain⟨a1,a2⟩:=h.sz k hk
   simp only[z5M]
   rw[if_pos (by omega),za8 0 hk,Z0,if_neg (by omega),if_neg (by omega),z0H (by omega)]
 simp only[z5M]
 rw[if_neg (by omega)]
 congr 1
 refine z0n (s:=(0:Int)) c.rows.length (fun k=>(k:Int)) rfl (by simp only[LFm];omega) (fun k hk=> ?_) ?_
 · simp only[z5l]
   rw[if_pos (by omega),z0A hk,Z0,zwI h (Zk hk),Z0,if_pos rfl]
   match k,hk with
   |0,_=>rw[if_neg (by simp)];rfl
   |k+1,hk=>
    have hp:=(h.pre _ (Zk (show k<c.rows.length by omega))).1
    have hu:=h.up k hk
    rw[List.getD,Z1 (show k<c.rows.length by omega),List.getD,Z1 hk,Z4,Z4] at hu
    obtain⟨v,v1,v2⟩:=zwG (by omega) hu
    rw[if_pos (by omega),show IntKind.i64.wrap (((k+1:Nat):Int)-1)=(k:Int) by rw[z2G (by omega) (by omega)];omega,z0A (show k<c.rows.length by omega),Z0,v1,Z0,if_neg (by omega),z0H (by omega)]
 · simp only[z5l]
   rw[if_neg (by omega)]
end
section
open Go
def zFR(k:Nat)(rs:List (List Int)):Prop:=∀p,p<k->∀x∈rs.getD p [],(p:Int)<=x
section
variable {d:DFA} {m n:Nat} (hd:DfaOk d m n) (hO:zFR n d.next)
include hd hO
end
section
variable {d:DFA} {m n:Nat} {S:List Nat} (hd:DfaOk d m n) (hn:n<=7) (hS:SetsP d m n S) (hO:zFR n d.next)
include hd hn hS hO
end
end
section
open Go
variable{a i o:Nat}
section
variable {d:DFA} {m n:Nat} {S O:List Nat} (hd:DfaOk d m n) (hn:n<=7) (hS:SetsP d m n S)
include hd hn hS
theorem zjb{t:Nat}(hi:i<S.length)(ht:t∈z7l S i):t∈tlR d m n S i:=by
 have:=zom (l:=tlR d m n S i) (r:=z7l S i) (f:=id) (by simpa using zgj hd hn hS hi) (fun x hx=>zej hd hn hS hi (by simpa using hx)) (by rw[zfk hd hn hS hi];exact Z7 _) ht
 simpa using this
theorem zk9(ho:o<S.length)(hi:i<S.length)(h:clN d m n S o=clN d m n S i):∃v,Lead d m n (S.getD o 0) (S.getD i 0) v:=by
 have e:z5w d m n S o=z5w d m n S i:=by
  rw[←(zmm hd hn hS ho).2,←(zmm hd hn hS hi).2,h]
 have h1:=(zbV hd hn hS ho).1
 rw[e] at h1
 exact⟨_,z9V h1 (z9w hd hn hS hi).1⟩
theorem zk4(ho:o<S.length)(ha:a<m)(h:clN d m n S (z4E d S o a)=clN d m n S o):Lead d m n (S.getD o 0) (S.getD (z4E d S o a) 0) [UInt8.ofNat (97+a)]:=by
 have:=hd.m6
 have e:(UInt8.ofNat (97+a)).toNat=97+a:=z6V (by omega)
 obtain⟨h1,h2⟩:=za1 hd hn hS ho ha
 obtain⟨v,hv⟩:=zk9 hd hn hS h1 ho h
 refine⟨fun c hc=> ?_,hS.lt _ (z0e ho),hS.lt _ (z0e h1),?_,hv.sz.symm⟩
 · rw[Zi.1 hc,e];omega
 · simp only[z4i,e,Y1]
   exact h2.symm
theorem zcn{x:Nat}(ha:a<m):z4i d x [UInt8.ofNat (97+a)]=mvN d x a:=by
 have:=hd.m6
 have e:(UInt8.ofNat (97+a)).toNat=97+a:=z6V (by omega)
 simp only[z4i,e,Y1]
theorem zx3(ho:o<S.length)(ha:a<m)(h:clN d m n S (z4E d S o a)=clN d m n S o):((tlR d m n S o).map fun t=>ix0 (tlR d m n S (z4E d S o a)) (z4E d S t a)).Nodup:=by
 obtain⟨h1,h2⟩:=za1 hd hn hS ho ha
 have l1:=zk4 hd hn hS ho ha h
 obtain⟨v,l2⟩:=zk9 hd hn hS h1 ho h
 have hin:∀t∈tlR d m n S o,z4E d S t a∈tlR d m n S (z4E d S o a):=fun t ht=>by
  have:=zel hd hn hS ho h1 l1 l2 (zej hd hn hS ho ht)
  rw[zcn hd hn hS ha] at this
  exact zjb hd hn hS h1 this
 refine z4K (zgj hd hn hS ho) fun x hx y hy e=> ?_
 have mx:=hin x hx
 have my:=hin y hy
 unfold ix0 at e
 rw[if_pos mx,if_pos my] at e
 have e2:z4E d S x a=z4E d S y a:=by
  have a1:=z2k mx
  have a2:=z2k my
  rw[e,a2] at a1
  exact a1.symm
 obtain⟨x1,_,x3⟩:=z4a.1 (z5a (zej hd hn hS ho hx)).1
 obtain⟨y1,_,y3⟩:=z4a.1 (z5a (zej hd hn hS ho hy)).1
 have e3:mvN d (S.getD x 0) a=mvN d (S.getD y 0) a:=by
  rw[←(za1 hd hn hS x1 ha).2,←(za1 hd hn hS y1 ha).2,e2]
 exact z5I hS.nd x1 y1 (zbK hd hn l1 x3 y3 (by rw[zcn hd hn hS ha,zcn hd hn hS ha];exact e3))
variable (hH:zhR d m n S) (hO:OrdC d m n S O) (hpos:∀x∈S,x≠0)
include hH hO hpos
theorem zEF{c:Nat}(ho:o<S.length)(hi:i<S.length)(hc:c<O.length)(e1:cpN d m n S O i=c)(e2:cpN d m n S O o=c):clN d m n S i=clN d m n S o:=by
 rw[(zxJ hd hn hS hH hO hi hc).2 e1,(zxJ hd hn hS hH hO ho hc).2 e2]
theorem zsE{a:Nat}:∀(x:List Nat) (c o i:Nat),o<S.length->i<S.length->c<=cpN d m n S O o->c<=cpN d m n S O i->c+x.length<=O.length->(∀j,j<x.length->x.getD j 0<szO d m n S O (c+j))->
 ∀j,j<x.length->∃o' i',o'<S.length/\i'<S.length/\((stN d m n S O a c o i x).map (·.2)).getD j []=zcx d m n S O a (c+j) o' i'
 | [],c,o,i,ho,hi,hco,hci,hl,hx,j,hj=>by simp at hj
 |s::x,c,o,i,ho,hi,hco,hci,hl,hx,j,hj=>by
  simp only[Zs] at hl
  have hcO:c<O.length:=by omega
  have hs:s<szO d m n S O c:=by simpa using hx 0 (by simp)
  have hy:=zjs hd hn hS hH hO hpos (a:=a) (s:=s) hcO ho hi
  obtain⟨o1,o2⟩:=zfi hd hn hS hH hO hpos hcO ho hco hs
  obtain⟨i1,i2⟩:=zfi hd hn hS hH hO hpos hcO hi hci hy
  match j,hj with
  |0,_=>exact⟨o,i,ho,hi,rfl⟩
  |j+1,hj=>
   obtain⟨o',i',p1,p2,p3⟩:=zsE (a:=a) x (c+1) _ _ o1 i1 o2 i2 (by omega) (fun j hj=>by have:=hx (j+1) (by simp;omega);simp only[Yf] at this;rwa [show c+1+j=c+(j+1) by omega]) j (by simpa using hj)
   refine⟨o',i',p1,p2,?_⟩
   rw[show c+(j+1)=c+1+j by omega,←p3]
   simp only[stN,Zq,Yf]
end
end
section
open Go
theorem zl9(l:List Nat)(k:Nat):(toI l).getD k 0=((l.getD k 0:Nat):Int):=by
 unfold toI
 rw[List.getD,Zd,List.getD]
 cases l[k]? <;>rfl
theorem zwF{f:List Nat->Nat->List (List Nat)}{L:Nat}{T:List (List Nat)}{W:List zac}(h:RowsOk f L T W):W.length<=T.length*L:=by
 have h1:(W.map (·.1)).Nodup:=XY.2 h.nd
 have h2:=z7u (r:=T.flatMap fun x=>(List.range L).map fun i=>x.take i) h1 fun p hp=>by
  obtain⟨r,hr,rfl⟩:=Zj.1 hp
  obtain⟨x,hx,i,hi,rfl⟩:=h.of r hr
  exact List.mem_flatMap.2 ⟨x,hx,Zj.2 ⟨i,Zh.2 hi,rfl⟩⟩
 have h3:∀T:List (List Nat),(T.flatMap fun x=>(List.range L).map fun i=>x.take i).length=T.length*L:=fun T=>by
  induction T with
  |nil=>simp
  |cons x T ih=>rw[Y4,Zb,ih,Z8,ZC,Zs,Nat.succ_mul];omega
 rw[Z8,h3] at h2
 exact h2
section
variable {d:DFA} {m n:Nat} {S O:List Nat} (hd:DfaOk d m n) (hn:n<=7) (hS:SetsP d m n S) (hH:zhR d m n S) (hO:OrdC d m n S O) (hpos:∀x∈S,x≠0)
include hd hn hS hH hO hpos
theorem zwp(h32:S.length<=32){c:Nat}(hc:c<O.length):szO d m n S O c<=32:=by
 have _u:=hH;have _w:=hpos
 unfold szO
 refine ZO (z7u (r:=List.range S.length) (zd2 S _) fun x hx=>Zh.2 (z4a.1 (z5a hx).1).1) ?_
 rw[ZC];exact h32
theorem zn2(h0:0<S.length){x:List Nat}(hx:zeV d m n S O x){i:Nat}(hi:i<O.length)(a:Nat):∃o' i',o'<S.length/\i'<S.length/\(z8q d m n S O a x).getD i []=zcx d m n S O a i o' i':=by
 obtain⟨x1,x2⟩:=hx
 obtain⟨o',i',p1,p2,p3⟩:=zsE hd hn hS hH hO hpos (a:=a) x 0 0 0 h0 h0 (Y6 _) (Y6 _) (by omega) (fun j hj=>by rw[Zt];exact x2 j (by omega)) i (by omega)
 rw[Zt] at p3
 exact⟨o',i',p1,p2,p3⟩
end
end
section
open Go
theorem zhF{st:Nat->List Nat->List Nat}{m:Nat}:∀(f i:Nat) (T T':List (List Nat)),T.Nodup->T.length<=2000->2001<=f+i->i<=T.length->(∀j,j<i->∀a,a<m->st a (T.getD j [])∈T)->zkh st m f i T=some T'->∀t∈T',∀a,a<m->st a t∈T'
 |0,i,T,T',h1,h2,h3,h4,h5,h=>by omega
 |f+1,i,T,T',h1,h2,h3,h4,h5,h=>by
  simp only[zkh] at h
  split at h
  · rename_i hi
    cases hb:zmC (fun a=>st a (T.getD i [])) m 0 T with
    |none=>rw[hb,Option.bind_none] at h;cases h
    |some U=>
     rw[hb,Z0] at h
     obtain⟨⟨X,e⟩,_,u3,u4,u5⟩:=zdO (P:=fun _=>True) m 0 T U (fun b _ _=>trivial) (fun _ _=>trivial) h1 h2 hb
     have hg:∀j,j<T.length->U.getD j []=T.getD j []:=fun j hj=>by
      rw[e,List.getD,ZK hj];rfl
     refine zhF f (i+1) U T' u3 u4 (by omega) (by rw[e,Zb];omega) (fun j hj a ha=> ?_) h
     rw[hg j (by omega)]
     by_cases e2:j=i
     · rw[e2];exact u5 a (Y6 _) (by omega)
     · rw[e];exact Zf.2 (.inl (h5 j (by omega) a ha))
  · simp only[Zc] at h
    subst h
    intro t ht a ha
    obtain⟨j,hj,rfl⟩:=Zo ht
    have:=h5 j (by omega) a ha
    rwa [List.getD,Z1 hj,Z4] at this
structure CovD(d:DFA)(m n:Nat)(S O:List Nat)(G:List Hol)(c:Cover)(Y:List (List Nat))(W:List zac):Prop where
 eq:c=⟨⟨d.letters,zmz d m n S O,W.map zcM⟩,toI (z2W d m n S O),Y.map toI,toI (Y.map (zeZ d m n S O)),G⟩
 good:CascG c.casc
 tup:∀x∈Y,zeV d m n S O x
 st:z2W d m n S O∈Y
 cl:∀x∈Y,∀a,a<m->z5n d m n S O a x∈Y
 few:Y.length<=2000
 up:(Y.map toI).Pairwise fun a b=>z8K a b<0
 rows:RowsOk (z2j d m n S O) O.length Y W
 asc:W.Pairwise ltR
variable{a b:List Int}
theorem zgr{d:DFA}{m n:Nat}{S O:List Nat}(i:Nat):(zmz d m n S O).getD i 0=if i<O.length then((szO d m n S O i:Nat):Int) else 0:=by
 unfold zmz
 rw[zl9,List.getD,Zd]
 by_cases h:i<O.length
 · rw[if_pos h,List.getElem?_range h];rfl
 · rw[if_neg h,YV (by simpa using h)];rfl
theorem zcm{d:DFA}{m n:Nat}{S O:List Nat}:(zmz d m n S O).length=O.length:=by unfold zmz;simp[toI]
section
variable {d:DFA} {m n:Nat} {S O:List Nat} (hd:DfaOk d m n) (hn:n<=7) (hS:SetsP d m n S) (hH:zhR d m n S) (hO:OrdC d m n S O) (hpos:∀x∈S,x≠0)
include hd hn hS hH hO hpos
theorem zxD(h24:O.length<=24)(h32:S.length<=32)(h0:0<S.length){G:List Hol}{c:Cover}(h:CovOk d m n S O (zmz d m n S O) G c):∃Y W,CovD d m n S O G c Y W:=by
 obtain⟨T,Y,W,hT,y1,y2,hW,hR,rfl⟩:=h.ex
 have hst:=zao hd hn hS hH hO hpos h0
 obtain⟨t1,t2,t3,t4⟩:=zkg hd hn hS hH hO hpos h0 _ _ _ _ (fun t h=>by rw[Zi.1 h];exact hst) (by simp) (by simp) hT
 have hm:=hd.m1
 have hm6:=hd.m6
 have hlt:=hd.lt
 have hne:z2W d m n S O∈T:=by
  obtain⟨X,hX⟩:=t4
  rw[hX];simp
 have hcl:=zhF _ _ _ _ (by simp) (by simp) (by omega) (Y6 _) (fun j hj=>by omega) hT
 have hmp:∀r∈W,r.1.length<O.length/\(∀j,j<r.1.length->r.1.getD j 0<szO d m n S O j)/\ ∃x∈T,r.2=z2j d m n S O x r.1.length:=fun r hr=>by
  obtain⟨x,hx,i,hi,rfl⟩:=hR.of r hr
  obtain⟨x1,x2⟩:=t1 x hx
  have hl:(x.take i).length=i:=by rw[Zr];omega
  refine⟨by simp only[hl];exact hi,fun j hj=> ?_,x,hx,by simp only[hl]⟩
  simp only[hl] at hj
  have e:(x.take i).getD j 0=x.getD j 0:=by rw[List.getD,List.getD,X8 hj]
  simp only[e]
  exact x2 j (by omega)
 have hrl:=zwF hR
 refine⟨Y,W,rfl,?_,fun x hx=>t1 x (y2.mem_iff.1 hx),y2.mem_iff.2 hne,fun x hx a ha=>y2.mem_iff.2 (hcl x (y2.mem_iff.1 hx) a ha),by rw[y2.length_eq];exact t3,?_,zgz hR y2.symm,hW⟩
 · refine⟨by show 1<=d.letters;omega,by show d.letters<=6;omega,by simp only[zcm];exact h24,?_,fun i hi=> ?_,fun r0 hr0=> ?_,fun r0 hr0=> ?_,fun i hi=> ?_⟩
   · rw[Z8]
     have:=XQ t3 h24
     omega
   · simp only[zcm] at hi
     have:=zeo hd hn hS hH hO hpos hi
     have:=zwp hd hn hS hH hO hpos h32 hi
     simp only[zgr,if_pos hi];omega
   · obtain⟨r,hr,rfl⟩:=Zj.1 hr0
     obtain⟨h1,h2,_⟩:=hmp r hr
     simp only[zcM,z0a,zcm]
     refine⟨h1,fun j hj=> ?_⟩
     have:=h2 j hj
     rw[zl9,zgr,if_pos (by omega)];omega
   · obtain⟨r,hr,rfl⟩:=Zj.1 hr0
     obtain⟨h1,_,x,hx,e⟩:=hmp r hr
     simp only[zcM,z0a,zgr,if_pos h1,Z8]
     refine⟨by rw[e,hlt];simp[z2j],fun f hf=> ?_⟩
     obtain⟨g,hg,rfl⟩:=Zj.1 hf
     rw[e] at hg
     unfold z2j at hg
     obtain⟨a,ha,rfl⟩:=Zj.1 hg
     obtain⟨o',i',p1,p2,p3⟩:=zn2 hd hn hS hH hO hpos h0 (t1 x hx) h1 a
     obtain⟨q1,q2⟩:=zlO hd hn hS hH hO hpos (a:=a) h1 p1 p2
     rw[←p3] at q1 q2
     refine⟨by rw[z0a,q1],fun y hy=> ?_⟩
     obtain⟨z,hz,rfl⟩:=Zj.1 hy
     have:=q2 z hz
     omega
   · simp only[Z8] at hi
     have:=(ZE.1 hW) i (i+1) (by omega) hi (by omega)
     simp only[List.getD,Zd,Z1 hi,Z1 (show i<W.length by omega),ZY,Z4]
     exact this
 · rw[y1]
   have hs:=z9x (T.map toI)
   have hnd:(z9E (T.map toI)).Nodup:=(z8M _).nodup_iff.2 (z4K t2 fun x _ y _ e=>zmR e)
   refine(List.pairwise_and_iff.2 ⟨hs,hnd⟩).imp fun {a b} h=> ?_
   have:=mt (z9m a b).1 h.2
   omega
end
theorem zgq(ha:a.length<=100000):z1s a b=some (z8K a b):=by
 unfold z1s
 refine zaw (fun s=>∃k:Nat,s=(k:Int)/\k<=a.length/\k<=b.length/\ ∀j,j<k->a.getD j 0=b.getD j 0) (fun s=>a.length+1-s.toNat) ⟨0,rfl,Y6 _,Y6 _,fun j hj=>by omega⟩ (by simp only[LFm];omega) ?_
 rintro _ ⟨k,rfl,hk,hk2,hj⟩
 simp only[z2q]
 by_cases h1:k<a.length
 · rw[if_pos (by omega),za8 0 h1,Z0]
   by_cases h2:k<b.length
   · rw[if_neg (by omega),za8 0 h2,Z0,zk8,Z0]
     by_cases e:a.getD k 0=b.getD k 0
     · left
       simp only[e,Int.lt_irrefl,if_false,if_true]
       rw[z0H (by omega)]
       exact⟨_,rfl,⟨k+1,rfl,by omega,by omega,fun j hj'=>by
        by_cases e2:j=k
        · rw[e2];exact e
        · exact hj j (by omega)⟩,by omega⟩
     · right
       rw[zhu a b k h1 h2 hj e]
       by_cases h3:a.getD k 0<b.getD k 0
       · rw[if_pos h3,if_pos h3];rfl
       · rw[if_neg h3,if_neg h3,if_pos (show b.getD k 0<a.getD k 0 by omega)];rfl
   · right
     rw[if_pos (by omega),zdJ a b (fun i _ h=>hj i (by omega)),if_neg (by omega),if_pos (by omega)]
 · right
   rw[if_neg (by omega),zdJ a b (fun i h _=>hj i (by omega))]
   by_cases h2:a.length<b.length
   · rw[if_pos h2,if_pos h2]
   · rw[if_neg h2,if_neg h2,if_neg (by omega)]
theorem zt6(ha:a.length<=100000):z2h a b=some (z9u a b):=by
 unfold z2h
 rw[zk8,Z0,zgq ha,Z0,zyw,Z0]
 unfold z9u
 by_cases h1:a.length<b.length
 · rw[if_pos (c:=(a.length:Int)<(b.length:Int)) (by omega),if_pos (by omega),if_pos h1]
 · rw[if_neg (c:=(a.length:Int)<(b.length:Int)) (by omega),if_neg h1]
   by_cases h2:b.length<a.length
   · rw[if_pos (c:=(b.length:Int)<(a.length:Int)) (by omega),if_pos (by omega),if_pos h2]
   · rw[if_neg (c:=(b.length:Int)<(a.length:Int)) (by omega),if_neg (by simp),if_neg h2]
theorem zEY(i j:Nat)(h:i+j<4611686018427387904):IntKind.i64.wrap (z1D .u64 (IntKind.u64.wrap (IntKind.i64.wrap ((i:Int)+j))) 1)=(((i+j)/2:Nat):Int):=by
 rw[z2G (x:=(i:Int)+j) (by omega) (by omega)]
 have e:IntKind.u64.wrap ((i:Int)+j)=(i:Int)+j:=by rw[Xl];omega
 have e2:z1D .u64 ((i:Int)+j) 1=(((i+j)/2:Nat):Int):=by
  unfold z1D
  have:(2:Int)^(min (1:Int).toNat IntKind.u64.bits)=2:=by decide
  rw[this,Xu _ (by omega)]
  omega
 rw[e,e2,z2G (by omega) (by omega)]
theorem zqA{rs:List CRow}(hu:rs.Pairwise fun r q=>z9u r.pre q.pre<0)(hl:rs.length<=100000)(hp:∀r∈rs,r.pre.length<=100000){t:Nat}(ht:t<rs.length):z0f rs rs[t].pre=some ((t:Int),true):=by
 have hlt:∀k (hk:k<rs.length),(z9u rs[k].pre rs[t].pre<0↔k<t):=fun k hk=>by
  constructor
  · intro h
    refine Y7 fun hn=> ?_
    by_cases e:k=t
    · subst e;rw[(za5 _ _).2 rfl] at h;omega
    · have:=zj1 h ((ZE.1 hu) t k ht hk (by omega))
      rw[(za5 _ _).2 rfl] at this;omega
  · intro h
    exact(ZE.1 hu) k t hk ht h
 have hs:∀k (hk:k<rs.length),z2O rs[k] rs[t].pre=some (z9u rs[k].pre rs[t].pre):=fun k hk=>by
  unfold z2O
  rw[zt6 (hp _ (Zk hk)),Z0]
 unfold z0f
 refine zaw (fun s=>∃i j:Nat,s=((i:Int),(j:Int))/\i<=t/\t<=j/\j<=rs.length) (fun s=>(s.2-s.1).toNat) ⟨0,rs.length,rfl,by omega,by omega,by omega⟩ (by simp only[LFm];omega) ?_
 rintro _ ⟨i,j,rfl,hi,hj,hjl⟩
 simp only[z0r]
 by_cases hij:i<j
 · left
   have hm:(i+j)/2<rs.length:=by omega
   have hmd:md (i:Int) (j:Int)=(((i+j)/2:Nat):Int):=zEY i j (by omega)
   rw[if_pos (by omega),z0i _ (by omega),hmd,zEY i j (by omega),z0A hm,Z0,hs _ hm,Z0]
   by_cases h:z9u rs[(i+j)/2].pre rs[t].pre<0
   · have:=(hlt _ hm).1 h
     rw[if_pos h,z0H (by omega)]
     exact⟨_,rfl,⟨(i+j)/2+1,j,rfl,by omega,hj,hjl⟩,by simp only;omega⟩
   · have:=mt (hlt _ hm).2 h
     rw[if_neg h]
     exact⟨_,rfl,⟨i,(i+j)/2,rfl,hi,by omega,by omega⟩,by simp only;omega⟩
 · right
   have:i=t:=by omega
   subst this
   rw[if_neg (by omega),if_pos (by omega),z0A ht,Z0,hs _ ht,Z0,(za5 _ _).2 rfl]
   rfl
end
section
open Go
variable{x:List Nat}{a i s:Nat}
section
variable {d:DFA} {m n:Nat} {S O:List Nat} (hd:DfaOk d m n) (hn:n<=7) (hS:SetsP d m n S)
include hd hn hS
theorem zvv{p:Nat}(hi:i<S.length)(hp:p<S.length)(hs:z6T (S.getD p 0) (S.getD i 0))(hne:p≠i)(hz:szN (S.getD i 0)≠1):z6T (S.getD p 0) (S.getD ((tlR d m n S i).getD (zhs d m n S i p) 0) 0):=by
 obtain⟨t,ht,h1⟩:=zuQ hn hS hi hz _ p (Z7 _) (z4a.2 ⟨hp,hne,hs⟩)
 have hk:(tlR d m n S i).findIdx (fun t=>decide (S.getD p 0&&&S.getD t 0=S.getD p 0))<(tlR d m n S i).length:=Yy ⟨t,zjb hd hn hS hi ht,by simpa[z6T] using h1⟩
 unfold zhs
 simp only
 rw[if_pos hk]
 have h2:=YZ (w:=hk)
 generalize (tlR d m n S i).findIdx (fun t=>decide (S.getD p 0&&&S.getD t 0=S.getD p 0))=k at*
 have e:(tlR d m n S i).getD k 0=(tlR d m n S i)[k]:=by simp[List.getD,hk]
 rw[e]
 unfold z6T
 exact of_decide_eq_true h2
variable (hH:zhR d m n S) (hO:OrdC d m n S O) (hpos:∀x∈S,x≠0) (hbot:∀i k,i<S.length->k<S.length->zad S k=true->z7k d m n S i k=true->zad S i=true)
include hH hO hpos
theorem zAr(hi:i<S.length):cpN d m n S O i<O.length↔szN (S.getD i 0)≠1:=by
 rw[zxC hd hn hS hH hO hi]
 constructor
 · intro h e
   have:=ztw hd hn hS hi e
   omega
 · intro h
   obtain⟨q,hq⟩:=YB (hpos _ (z0e hi))
   obtain⟨t,ht,_⟩:=zgl hd hn hS hi h hq
   exact zA5 hd hn hS hi (List.ne_nil_of_mem ht)
theorem zyl(hi:i<S.length)(hs:s<(tlR d m n S i).length):(tlR d m n S i).getD s 0<S.length/\z6T (S.getD ((tlR d m n S i).getD s 0) 0) (S.getD i 0):=by
 obtain⟨h1,_,h3⟩:=z4a.1 (z5a (zeY hd hn hS hi hs).1).1
 exact⟨h1,h3⟩
theorem zCi{c:Nat}(hcO:c<O.length)(hi:i<S.length)(hs:s<szO d m n S O c):dnN d m n S O c i s<S.length/\z6T (S.getD (dnN d m n S O c i s) 0) (S.getD i 0):=by
 unfold dnN
 by_cases e:cpN d m n S O i=c
 · rw[if_pos e]
   have hz:=zen hd hn hS hH hO hi (by omega)
   rw[e] at hz
   exact zyl hd hn hS hH hO hpos hi (by omega)
 · rw[if_neg e]
   exact⟨hi,z8y _⟩
include hbot
theorem zAk{c o:Nat}(ha:a<m)(hcO:c<O.length)(ho:o<S.length)(hi:i<S.length)(hco:c<=cpN d m n S O o)(hs:s<szO d m n S O c)(h:z6T (mvN d (S.getD o 0) a) (S.getD i 0)):
 z6T (mvN d (S.getD (dnN d m n S O c o s) 0) a) (S.getD (dnN d m n S O c i ((zcx d m n S O a c o i).getD s 0)) 0):=by
 obtain⟨p1,p2⟩:=za1 hd hn hS ho ha
 obtain⟨o1,o2⟩:=zCi hd hn hS hH hO hpos hcO ho hs
 have hm:=zng hd ha o2
 by_cases e:cpN d m n S O i=c
 · have hz:=zen hd hn hS hH hO hi (by omega)
   rw[e] at hz
   by_cases e2:cpN d m n S O o=c/\z4E d S o a=i
   · obtain⟨e2,rfl⟩:=e2
     have hz2:=zen hd hn hS hH hO ho (by omega)
     rw[e2] at hz2
     have hcl:=zEF hd hn hS hH hO hpos ho hi hcO e e2
     have l1:=zk4 hd hn hS ho ha hcl
     obtain⟨v,l2⟩:=zk9 hd hn hS hi ho hcl
     have hst:s<(tlR d m n S o).length:=by omega
     have ht:=(zeY hd hn hS ho hst).1
     have hin:=zel hd hn hS ho hi l1 l2 ht
     rw[zcn hd hn hS ha] at hin
     have hin:=zjb hd hn hS hi hin
     have e3:(zcx d m n S O a c o (z4E d S o a)).getD s 0=(tlR d m n S (z4E d S o a)).idxOf (z4E d S ((tlR d m n S o).getD s 0) a):=by
      unfold zcx
      rw[if_pos e,if_pos ⟨e2,rfl⟩]
      simp only[List.getD,Zd,Z1 hst,ZY,Z4]
      unfold ix0
      have e0:(tlR d m n S o).getD s 0=(tlR d m n S o)[s]:=by simp[List.getD,hst]
      have:z4E d S (tlR d m n S o)[s] a∈tlR d m n S (z4E d S o a):=by
       rw[←e0];exact hin
      rw[if_pos this]
     have e4:dnN d m n S O c o s=(tlR d m n S o).getD s 0:=by unfold dnN;rw[if_pos e2]
     have e5:dnN d m n S O c (z4E d S o a) ((zcx d m n S O a c o (z4E d S o a)).getD s 0)=z4E d S ((tlR d m n S o).getD s 0) a:=by
      unfold dnN
      rw[if_pos e,e3]
      exact z2k hin
     rw[e4,e5,(za1 hd hn hS (zyl hd hn hS hH hO hpos ho hst).1 ha).2]
     exact z8y _
   · have e3:zcx d m n S O a c o i=List.replicate (szO d m n S O c) (zhs d m n S i (z4E d S o a)):=by
      unfold zcx
      rw[if_pos e,if_neg e2]
     have e4:(zcx d m n S O a c o i).getD s 0=zhs d m n S i (z4E d S o a):=by
      rw[e3,List.getD,XF,if_pos hs];rfl
     have hne:z4E d S o a≠i:=by
      intro e5
      have h1:=zCl hd hn hS hH hO ho ha hbot
      rw[e5,e] at h1
      exact e2 ⟨by omega,e5⟩
     have hsz:=(zAr hd hn hS hH hO hpos hi).1 (by omega)
     have:=zvv hd hn hS hi p1 (by rw[p2];exact h) hne hsz
     rw[p2] at this
     rw[e4]
     have e6:dnN d m n S O c i (zhs d m n S i (z4E d S o a))=(tlR d m n S i).getD (zhs d m n S i (z4E d S o a)) 0:=by unfold dnN;rw[if_pos e]
     rw[e6]
     exact zd3 hm this
 · have e4:∀s,dnN d m n S O c i s=i:=fun s=>by unfold dnN;rw[if_neg e]
   rw[e4]
   exact zd3 hm h
theorem zsD{a:Nat}(ha:a<m):∀(x:List Nat) (c o i:Nat),o<S.length->i<S.length->c<=cpN d m n S O o->c<=cpN d m n S O i->c+x.length<=O.length->(∀j,j<x.length->x.getD j 0<szO d m n S O (c+j))->z6T (mvN d (S.getD o 0) a) (S.getD i 0)->
 z6T (mvN d (S.getD (z7B d m n S O c o x) 0) a) (S.getD (z7B d m n S O c i ((stN d m n S O a c o i x).map (·.1))) 0)
 | [],c,o,i,ho,hi,hco,hci,hl,hx,h=>h
 |s::x,c,o,i,ho,hi,hco,hci,hl,hx,h=>by
  simp only[Zs] at hl
  have hcO:c<O.length:=by omega
  have hs:s<szO d m n S O c:=by simpa using hx 0 (by simp)
  have hy:=zjs hd hn hS hH hO hpos (a:=a) (s:=s) hcO ho hi
  obtain⟨o1,o2⟩:=zfi hd hn hS hH hO hpos hcO ho hco hs
  obtain⟨i1,i2⟩:=zfi hd hn hS hH hO hpos hcO hi hci hy
  exact zsD ha x (c+1) _ _ o1 i1 o2 i2 (by omega) (fun j hj=>by have:=hx (j+1) (by simp;omega);simp only[Yf] at this;rwa [show c+1+j=c+(j+1) by omega]) (zAk hd hn hS hH hO hpos hbot ha hcO ho hi hco hs h)
theorem zsK{q:Nat}(hq:q<S.length):∀(k c i:Nat),c+k=O.length->i<S.length->c<=cpN d m n S O i->szN (S.getD q 0)=1->z6T (S.getD q 0) (S.getD i 0)->z6T (S.getD q 0) (S.getD (z7B d m n S O c i (srN d m n S O q k c i)) 0)
 |0,c,i,hk,hi,hc,h1,h=>h
 |k+1,c,i,hk,hi,hc,h1,h=>by
  have hcO:c<O.length:=by omega
  have hs:(if cpN d m n S O i=c then zhs d m n S i q else 0)<szO d m n S O c:=by
   split
   · rename_i e;exact zyJ hd hn hS hH hO hpos hcO hi e
   · exact zeo hd hn hS hH hO hpos hcO
  obtain⟨i1,i2⟩:=zfi hd hn hS hH hO hpos hcO hi hc hs
  refine zsK hq k (c+1) _ (by omega) i1 i2 h1 ?_
  unfold dnN
  by_cases e:cpN d m n S O i=c
  · rw[if_pos e,if_pos e]
    have hsz:=(zAr hd hn hS hH hO hpos hi).1 (by omega)
    exact zvv hd hn hS hi hq h (by rintro rfl;exact hsz h1) hsz
  · rw[if_neg e];exact h
theorem zk2(hx:zeV d m n S O x)(h0:0<S.length):∃q,q<n/\S.getD (z7B d m n S O 0 0 x) 0=2^q:=by
 have he:=zhq hd hn hS hH hO hpos hx h0 x.length (Z7 _)
 rw[Y9] at he
 have hz:szN (S.getD (z7B d m n S O 0 0 x) 0)=1:=Y7 fun h=>by
  have:=(zAr hd hn hS hH hO hpos he.1).2 h
  have:=hx.1
  omega
 have hlt:=hS.lt _ (z0e he.1)
 obtain⟨q,hq⟩:=YB (hpos _ (z0e he.1))
 have hqn:=zpH hlt hq
 refine⟨q,hqn,?_⟩
 have h128:2^n<=128:=Zm (n:=2) (by omega) hn
 have hs1:szN (2^q)=1:=by
  have:∀q,q<7->szN (2^q)=1:=by decide+kernel
  exact this q (by omega)
 refine(zso (by omega) (z2e.2 fun p hp=> ?_) (by omega)).symm
 rw[Y8,decide_eq_true_iff] at hp
 rw[←hp];exact hq
theorem zsr{p q:Nat}(h:z6T (2^p) (2^q)):p=q:=by
 have:=z2e.1 h p (by rw[Y8];simp)
 rw[Y8,decide_eq_true_iff] at this
 exact this.symm
theorem zxw(hf:S.getD 0 0=2^n-1)(ha:a<m)(hx:zeV d m n S O x)(h0:0<S.length):S.getD (z7B d m n S O 0 0 (z5n d m n S O a x)) 0=mvN d (S.getD (z7B d m n S O 0 0 x) 0) a:=by
 obtain⟨q,q1,q2⟩:=zk2 hd hn hS hH hO hpos hbot hx h0
 have hy:=(zan hd hn hS hH hO hpos (a:=a) hx h0).1
 obtain⟨p,p1,p2⟩:=zk2 hd hn hS hH hO hpos hbot hy h0
 obtain⟨r,r1,r2⟩:=zyA hd q1 ha
 obtain⟨x1,x2⟩:=hx
 have h:=zsD hd hn hS hH hO hpos hbot ha x 0 0 0 h0 h0 (Y6 _) (Y6 _) (by omega) (fun j hj=>by rw[Zt];exact x2 j (by omega)) (by rw[hf];exact zfl (zc6 hd ha))
 have h:z6T (mvN d (S.getD (z7B d m n S O 0 0 x) 0) a) (S.getD (z7B d m n S O 0 0 (z5n d m n S O a x)) 0):=h
 rw[q2,r2,p2] at h
 rw[q2,r2,p2,zsr hd hn hS hH hO hpos hbot h]
theorem zvm(hf:S.getD 0 0=2^n-1)(h0:0<S.length):S.getD (z7B d m n S O 0 0 (z2W d m n S O)) 0=2^d.start.toNat:=by
 have s0:=hd.s0
 have s1:=hd.s1
 have h1:=hS.one d.start.toNat (by omega)
 have e1:=z2k h1
 have hsz:szN (2^d.start.toNat)=1:=by
  have:∀q,q<7->szN (2^q)=1:=by decide+kernel
  exact this _ (by omega)
 obtain⟨p,p1,p2⟩:=zk2 hd hn hS hH hO hpos hbot (zao hd hn hS hH hO hpos h0) h0
 have h:=zsK hd hn hS hH hO hpos hbot (z5d h1) O.length 0 0 (by omega) h0 (Y6 _) (by rw[e1];exact hsz) (by rw[e1,hf];exact zfl (hS.lt _ h1))
 have h:z6T (S.getD (S.idxOf (2^d.start.toNat)) 0) (S.getD (z7B d m n S O 0 0 (z2W d m n S O)) 0):=h
 rw[e1,p2] at h
 rw[p2,zsr hd hn hS hH hO hpos hbot h]
end
end
section
open Go Go.IntKind
noncomputable section
variable{a2:ByteArray}{a1:Cover}{a0:DFA}
attribute [-simp] Nat.mul_lt_mul_right
abbrev z6r(a0:List Int):Int->Option (Int⊕Bool)
 |w10=>
 if w10<(a0.length:Int) then
 (atI a0 w10).bind fun v13=>
 (atI a0 0).bind fun v14=>
 if v13=v14 then
 z0c (i64.wrap (w10+1))
 else
 z0d<|
 some false
 else
 z0d<|
 some true
instance{a0:List Int}:Hd (z6r a0):=⟨fun w10=>([(7,xI w10)],[])⟩
def z4Y(a0:List Int):Option (Bool):=
 z0h (z6r a0) LFm 0
instance{a0:List Int}:Ok (z4Y a0) (fun r=>L 146 [(tI a0)]=some (.sc (.bool r),[.dead])):=⟨fun r h=>by have h:=z3p h;unfold z4Y at h;exact z4q rfl Tryz.func146 (bdy Tryz.f146 rfl)⟩
abbrev z3U(a0:DFA)(a1:Cover):Int×(List (ByteArray×Int))->Option ((Int×(List (ByteArray×Int)))⊕((List Unit×Bool)⊕((List (ByteArray×Int))×Bool)))
 |(w46,w47)=>
 if w46<(a1.tuples.length:Int) then
 (atI a1.tuples w46).bind fun v58=>
 (z4s a1.casc.sizes v58).bind fun v59=>
 if v59=true then
 if 0<w46 then
 (atI a1.tuples (i64.wrap (w46-1))).bind fun v60=>
 (z1s v60 v58).bind fun v61=>
 if 0<=v61 then
 z0d<|
 some (.inl ([],false))
 else
 (atI a1.states w46).bind fun v62=>
 if v62<0 then
 z0d<|
 some (.inl ([],false))
 else
 if(a0.final.length:Int)<=v62 then
 z0d<|
 some (.inl ([],false))
 else
 (z1w v58).bind fun v64=>
 z0c (i64.wrap (w46+1),z8p v64 w46 w47)
 else
 (atI a1.states w46).bind fun v65=>
 if v65<0 then
 z0d<|
 some (.inl ([],false))
 else
 if(a0.final.length:Int)<=v65 then
 z0d<|
 some (.inl ([],false))
 else
 (z1w v58).bind fun v67=>
 z0c (i64.wrap (w46+1),z8p v67 w46 w47)
 else
 z0d<|
 some (.inl ([],false))
 else
 z0d<|
 (z4s a1.casc.sizes a1.start).bind fun v68=>
 if v68=true then
 (z1w a1.start).bind fun v69=>
 if((z7G v69 w47).isSome)=true then
 (atI a1.states ((z7G v69 w47).getD 0)).bind fun v70=>
 some (.inr (w47,decide (v70=a0.start)))
 else
 some (.inr (w47,false))
 else
 some (.inl ([],false))
instance:Hd (z3U a0 a1):=⟨fun(w46,w47)=>([(31,xI w46)],[(6,.mp none (w47.map fun x0=>(.string x0.1,.int .i64 x0.2)))])⟩
def z3M(a0:DFA)(a1:Cover):Option ((List Unit×Bool)⊕((List (ByteArray×Int))×Bool)):=
 if 2000<(a1.tuples.length:Int) then
 some (.inl ([],false))
 else
 if(a1.states.length:Int)=(a1.tuples.length:Int) then
 z0h (z3U a0 a1) LFm (0,([]:List (ByteArray×Int)))
 else
 some (.inl ([],false))
instance:Ok (z3M a0 a1) (fun r=>L 83 [.agg [.sc (.int .i64 a0.letters),.sc (.int .i64 a0.start),(tB a0.final),(tR a0.next)],.agg [.sc (.int .i64 a1.casc.letters),(tI a1.casc.sizes),.sl a1.casc.rows.length (a1.casc.rows.flatMap fun x0=> [(tI x0.pre),(tR x0.maps)]),(tI a1.start),(tR a1.tuples),(tI a1.states),.sl a1.groups.length (a1.groups.flatMap fun x0=> [.sc (.int .i64 x0.set),(tI x0.tiles),(tS x0.words),(tR x0.perms)])]]=some (match r with|(.inl r)=>(.tup [.sc (.map none),.sc (.bool r.2)],[.dead,.dead])|(.inr r)=>(.tup [.mp none (r.1.map fun x0=>(.string x0.1,.int .i64 x0.2)),.sc (.bool r.2)],[.dead,.dead]))):=⟨fun r h=>by have h:=z3p h;unfold z3M at h;exact z4q rfl Tryz.func83 (bdy Tryz.f83 rfl)⟩
abbrev zbS(a0:DFA)(a2:ByteArray):Int×Int->Option ((Int×Int)⊕Int)
 |(w19,w20)=>
 if w20<(a2.size:Int) then
 (atI a0.next w19).bind fun v24=>
 (zhA a2 w20).bind fun v25=>
 (atI v24 (u8.wrap (v25-97))).bind fun v26=>
 z0c (v26,i64.wrap (w20+1))
 else
 z0d<|
 some w19
instance:Hd (zbS a0 a2):=⟨fun(w19,w20)=>([(1,xI w19),(31,xI w20)],[])⟩
def zhr(a0:DFA)(a1:Int)(a2:ByteArray):Option (Int):=
 (z5A a0).bind fun v14=>
 if v14=0 then
 if a1<0 then
 some (-1)
 else
 if(a0.final.length:Int)<=a1 then
 some (-1)
 else
 (z7e a2 a0.letters).bind fun v15=>
 if v15=true then
 z0h (zbS a0 a2) LFm (a1,0)
 else
 some (-1)
 else
 some (-1)
instance{a1:Int}:Ok (zhr a0 a1 a2) (fun r=>L 42 [.agg [.sc (.int .i64 a0.letters),.sc (.int .i64 a0.start),(tB a0.final),(tR a0.next)],.sc (.int .i64 a1),.sc (.string a2)]=some (.sc (.int .i64 r),[.dead,.dead,.dead])):=⟨fun r h=>by have h:=z3p h;unfold zhr at h;exact z4q rfl Tryz.func42 (bdy Tryz.f42 rfl)⟩
end
end
section
open Go
variable{w:ByteArray}{x:List Nat}{a:Nat}
theorem zjF{s x:List Int}(hl:x.length=s.length)(hx:x.length<=100000)(h:∀j,j<x.length->0<=x.getD j 0/\x.getD j 0<s.getD j 0):z2D s x=some true:=by
 unfold z2D
 rw[if_pos (by omega)]
 refine z0n (s:=(0:Int)) x.length (fun k=>(k:Int)) rfl (by simp only[LFm];omega) (fun k hk=> ?_) ?_
 · simp only[z3X]
   obtain⟨a1,a2⟩:=h k hk
   rw[if_pos (by omega),za8 0 hk,Z0,if_neg (by omega),za8 0 (by omega),Z0,if_neg (by omega),z0H (by omega)]
 · simp only[z3X]
   rw[if_neg (by omega)]
theorem zwk(x:List Nat)(k:Nat):(toI x).take k=toI (x.take k):=by simp[toI,XT]
theorem zAe{a b:List Nat}(ha:a.length<=100000):z3F (toI a) (toI b)=some (decide (a=b)):=by
 unfold z3F
 by_cases hl:a.length=b.length
 · rw[z0a,z0a,if_pos (by omega)]
   refine zaw (fun s=>∃k:Nat,s=(k:Int)/\k<=a.length/\ ∀j,j<k->a.getD j 0=b.getD j 0) (fun s=>a.length+1-s.toNat) ⟨0,rfl,Y6 _,fun j hj=>by omega⟩ (by simp only[LFm];omega) ?_
   rintro _ ⟨k,rfl,hk,hj⟩
   simp only[z5o]
   rw[z0a]
   by_cases h1:k<a.length
   · rw[if_pos (by omega),z1o h1,Z0,z1o (by omega),Z0]
     by_cases e:a.getD k 0=b.getD k 0
     · left
       rw[if_pos (by omega),z0H (by omega)]
       exact⟨_,rfl,⟨k+1,rfl,by omega,fun j hj'=>by
        by_cases e2:j=k
        · rw[e2];exact e
        · exact hj j (by omega)⟩,by omega⟩
     · right
       rw[if_neg (by omega),decide_eq_false (by rintro rfl;exact e rfl)]
   · right
     rw[if_neg (by omega),decide_eq_true (Ze hl fun i i1 i2=>by
      have:=hj i (by omega)
      rwa [List.getD,Z1 i1,List.getD,Z1 i2,Z4,Z4] at this)]
 · rw[z0a,z0a,if_neg (by omega),decide_eq_false (by rintro rfl;exact hl rfl)]
theorem zs2{q:Nat}(h:q<7):tzN (2^q)=q:=by
 have:∀q,q<7->tzN (2^q)=q:=by decide+kernel
 exact this q h
def zt5(d:DFA)(m n:Nat)(S O:List Nat):List Nat->List UInt8->List Nat
 |x,[]=>x
 |x,c::w=>zt5 d m n S O (z5n d m n S O (c.toNat-97) x) w
theorem zls{d:DFA}{m n:Nat}{S O:List Nat}(c:UInt8):∀(x:List Nat) (w:List UInt8),zt5 d m n S O x (w++ [c])=z5n d m n S O (c.toNat-97) (zt5 d m n S O x w)
 |x,[]=>rfl
 |x,e::w=>by simp only[ZN,zt5];exact zls c _ w
theorem zo3{m:Nat}(hm:1<=m/\m<=6)(h:zaP m w):z7e w (m:Int)=some true:=by
 rw[zc3,zj7 hm,decide_eq_true h]
theorem zms{k:Nat}(h:k<w.size):w.data.toList.take (k+1)=w.data.toList.take k++ [w[k]]:=by
 have h':k<w.data.toList.length:=by rw[ZX];exact h
 rw[Zw h',X1]
 rfl
theorem zy0(d:DFA)(c:UInt8)(q:Nat)(w:List UInt8):z7W d q (w++ [c])=nxN d (z7W d q w) (c.toNat-97):=by
 rw[zeU];rfl
section
variable {d:DFA} {m n:Nat} {S O:List Nat} (hd:DfaOk d m n) (hn:n<=7) (hS:SetsP d m n S) (hH:zhR d m n S) (hO:OrdC d m n S O) (hpos:∀x∈S,x≠0) (hbot:∀i k,i<S.length->k<S.length->zad S k=true->z7k d m n S i k=true->zad S i=true) (h0:0<S.length) (hf:S.getD 0 0=2^n-1) (h24:O.length<=24) {G:List Hol} {c:Cover} {Y:List (List Nat)} {W:List zac} (hC:CovD d m n S O G c Y W)
include hd hn hS hH hO hpos h24 hC
theorem zoo(h0:0<S.length)(hx:x∈Y)(ha:a<m):z3n ⟨c.casc⟩ (toI x) (a:Int)=some (toI (z5n d m n S O a x),0):=by
 have hm6:=hd.m6
 have hlt:=hd.lt
 obtain⟨x1,x2⟩:=hC.tup x hx
 have hsl:=zcm (d:=d) (m:=m) (n:=n) (S:=S) (O:=O)
 have hT:=hC.tup x hx
 have hrw:c.casc.rows=W.map zcM:=by rw[hC.eq]
 have hsz:c.casc.sizes=zmz d m n S O:=by rw[hC.eq]
 have hle:c.casc.letters=d.letters:=by rw[hC.eq]
 have hg:=hC.good
 have hup:c.casc.rows.Pairwise fun r q=>z9u r.pre q.pre<0:=by
  rw[hrw];exact Yt _ (fun _ _ h=>h) hC.asc
 unfold z3n
 simp only
 rw[zjF (by rw[hsz,hsl,z0a,x1]) (by rw[z0a];omega) (fun j hj=>by
  rw[z0a] at hj
  have:=x2 j (by omega)
  rw[zl9,hsz,zgr,if_pos (by omega)];omega),Z0,if_pos rfl,if_neg (by omega),if_neg (by rw[hle];omega),z0a,z0i _ (by unfold z0S;omega),Z2]
 have hmm:(z8q d m n S O a x).length=x.length:=zlf a x
 refine z0n (s:=((0:Int),List.replicate x.length (0:Int))) x.length (fun k=>((k:Int),zav x.length (fun k=>(((z5n d m n S O a x).getD k 0:Nat):Int)) (fun _=>0) k)) (by rw[z9s];congr 1;exact(Ze (by simp) fun i h1 h2=>by simp)) (by simp only[LFm];omega) (fun k hk=> ?_) ?_
 · simp only[z4D]
   obtain⟨t,ht,e⟩:=Zo ((zqC hC.rows (fun y hy=>(hC.tup y hy).1) (x.take k,z2j d m n S O x k)).2 ⟨x,hx,k,by omega,rfl⟩)
   have ht':t<c.casc.rows.length:=by rw[hrw,Z8];exact ht
   have er:c.casc.rows[t]=zcM (x.take k,z2j d m n S O x k):=by
    simp only[hrw,ZF,e]
   have hs:=zqA hup (by have:=hg.r48;omega) (fun r hr=>by have:=(hg.pre r hr).1;have:=hg.s24;omega) ht'
   rw[er] at hs
   obtain⟨o',i',p1,p2,p3⟩:=zn2 hd hn hS hH hO hpos h0 hT (i:=k) (by omega) a
   obtain⟨q1,q2⟩:=zlO hd hn hS hH hO hpos (a:=a) (c:=k) (by omega) p1 p2
   rw[←p3] at q1
   have hxk:=x2 k (by omega)
   obtain⟨s1,s2⟩:=zlg (d:=d) (m:=m) (n:=n) (S:=S) (O:=O) a x 0 0 0 k hk
   rw[←s1] at s2
   have hval:((z8q d m n S O a x).getD k []).getD (x.getD k 0) 0=(z5n d m n S O a x).getD k 0:=s2.symm
   have hat:atI ((z2j d m n S O x k).map toI) (a:Int)=some (toI ((z8q d m n S O a x).getD k [])):=by
    rw[z0A (by simp[z2j];exact ha)]
    simp[z2j]
   rw[z0a,if_pos (by omega),z1o hk,Z0,zb4 (by rw[z0a];omega),Z0,zwk,show toI (x.take k)=(zcM (x.take k,z2j d m n S O x k)).pre from rfl,hs,Z0]
   simp only[if_true]
   rw[z0A ht',Z0,er]
   simp only[zcM]
   rw[hat,Z0,z1o (by rw[q1];exact hxk),Z0,z6H hk,Z0,z0H (by omega),Z2,hval,z4I (f:=fun k=>(((z5n d m n S O a x).getD k 0:Nat):Int)) hk]
 · simp only[z4D]
   rw[z0a,if_neg (by omega),z9r]
   congr 3
   refine Ze (by simp[toI,zsw]) fun i h1 h2=> ?_
   have hi:i<(z5n d m n S O a x).length:=by simpa[toI] using h2
   simp[toI,List.getD,hi]
theorem zt3(hx:x∈Y):∀ {w:List UInt8},zhU m w->zt5 d m n S O x w∈Y:=by
 intro w hw
 induction w generalizing x with
 |nil=>exact hx
 |cons e w ih=>exact ih (hC.cl x hx _ (z9H hw).2) (z9H hw).1
theorem zzf(h0:0<S.length)(hx:x∈Y)(hw:zaP m w):z9o c.casc (toI x) w=some (toI (zt5 d m n S O x w.data.toList),0):=by
 have hm1:=hd.m1
 have hm6:=hd.m6
 have hlt:=hd.lt
 obtain⟨x1,x2⟩:=hC.tup x hx
 have hsl:=zcm (d:=d) (m:=m) (n:=n) (S:=S) (O:=O)
 have hsz:c.casc.sizes=zmz d m n S O:=by rw[hC.eq]
 have hle:c.casc.letters=d.letters:=by rw[hC.eq]
 have hN:z2P c.casc=some (.inl (⟨c.casc⟩,0)):=by
  unfold z2P
  rw[zo5 hC.good,Z0,if_pos rfl]
 have hlw:w.data.toList.length=w.size:=by rw[ZX];rfl
 unfold z9o
 rw[hN,Z0]
 simp only[if_true]
 rw[zjF (by rw[hsz,hsl,z0a,x1]) (by rw[z0a];omega) (fun j hj=>by
  rw[z0a] at hj
  have:=x2 j (by omega)
  rw[zl9,hsz,zgr,if_pos (by omega)];omega),Z0,if_pos rfl,hle,hlt,zo3 ⟨hm1,hm6⟩ hw,Z0,if_pos rfl]
 have hcl:zaR (toI x)=some (toI x):=by unfold zaR;rw[z0a,if_pos (by omega)]
 rw[hcl,Z0]
 have hws:=hw.1
 refine z0n (s:=((0:Int),toI x)) w.size (fun k=>((k:Int),toI (zt5 d m n S O x (w.data.toList.take k)))) (by simp[zt5]) (by simp only[LFm];omega) (fun k hk=> ?_) ?_
 · have hb:w[k].toNat<256:=w[k].toNat_lt
   have hk':w[k]∈w.data.toList:=by rw[za7 hk];rw[List.getD,Z1 (by omega)];exact Zk _
   obtain⟨l1,l2⟩:=hw.2 _ hk'
   have hmem:=zt3 hd hn hS hH hO hpos h24 hC hx (w:=w.data.toList.take k) fun e he=>hw.2 e (ZH he)
   simp only[z8g]
   rw[if_pos (by omega),zbh hk,Z0,zi8 (by omega) hb,zoo hd hn hS hH hO hpos h24 hC h0 hmem (by omega),Z0,if_pos rfl,z0H (by omega),zms hk,zls]
 · simp only[z8g]
   rw[if_neg (by omega),←hlw,Y9]
include hbot hf
theorem zsH(h0:0<S.length)(hx:x∈Y)(ha:a<m):zeZ d m n S O x<n/\zeZ d m n S O (z5n d m n S O a x)=nxN d (zeZ d m n S O x) a:=by
 obtain⟨q,q1,q2⟩:=zk2 hd hn hS hH hO hpos hbot (hC.tup x hx) h0
 have e:=zxw hd hn hS hH hO hpos hbot hf ha (hC.tup x hx) h0
 have hm6:=hd.m6
 have el:(UInt8.ofNat (97+a)).toNat=97+a:=z6V (by omega)
 have h1:mvN d (2^q) a=2^nxN d q a:=by
  have:=zn0 hd hn q1 (w:= [UInt8.ofNat (97+a)]) (fun c hc=>by rw[Zi.1 hc,el];omega)
  rw[zcn hd hn hS ha] at this
  simpa only[z7W,el,Y1] using this
 obtain⟨_,_,_,h2⟩:=zqV hd q1 ha
 unfold zeZ
 rw[e,q2,h1,zs2 (by omega),zs2 (by omega)]
 exact⟨q1,rfl⟩
theorem zBe(h0:0<S.length)(hx:x∈Y):∀ {w:List UInt8},zhU m w->zeZ d m n S O (zt5 d m n S O x w)=z7W d (zeZ d m n S O x) w:=by
 intro w hw
 induction w generalizing x with
 |nil=>rfl
 |cons e w ih=>
  obtain⟨w1,w2⟩:=z9H hw
  simp only[zt5,z7W]
  rw[ih (hC.cl x hx _ w2) w1,(zsH hd hn hS hH hO hpos hbot hf h24 hC h0 hx w2).2]
theorem zor(h0:0<S.length):zeZ d m n S O (z2W d m n S O)=d.start.toNat:=by
 have s0:=hd.s0
 have s1:=hd.s1
 unfold zeZ
 rw[zvm hd hn hS hH hO hpos hbot hf h0,zs2 (by omega)]
theorem zzd(h0:0<S.length)(hw:zaP m w):z3W c w=some (((z7W d d.start.toNat w.data.toList:Nat):Int),0):=by
 have hst:c.start=toI (z2W d m n S O):=by rw[hC.eq]
 have htp:c.tuples=Y.map toI:=by rw[hC.eq]
 have hss:c.states=toI (Y.map (zeZ d m n S O)):=by rw[hC.eq]
 have hfew:=hC.few
 have hz:=zt3 hd hn hS hH hO hpos h24 hC hC.st (w:=w.data.toList) hw.2
 have hq:=zBe hd hn hS hH hO hpos hbot hf h24 hC h0 hC.st (w:=w.data.toList) hw.2
 rw[zor hd hn hS hH hO hpos hbot hf h24 hC h0] at hq
 unfold z3W
 rw[hst,zzf hd hn hS hH hO hpos h24 hC h0 hC.st hw,Z0,if_pos rfl]
 have hzl:=(hC.tup _ hz).1
 generalize zt5 d m n S O (z2W d m n S O) w.data.toList=z at*
 rw[z4N (s:=(0:Int)) Y.length (fun k=>(k:Int)) (fun k=>decide (z=Y.getD k [])) (fun k=>some (((zeZ d m n S O (Y.getD k []):Nat):Int),0)) (x:=some (0,23)) rfl (by simp only[LFm];omega)]
 · cases hfd:(List.range Y.length).find? fun k=>decide (z=Y.getD k []) with
   |none=>
    obtain⟨k,hk,e⟩:=Zo hz
    have:=XW.1 hfd k (Zh.2 hk)
    rw[decide_eq_true_eq,List.getD,Z1 hk,Z4] at this
    exact absurd e.symm this
   |some k=>
    have:=List.find?_some hfd
    rw[decide_eq_true_eq] at this
    simp only
    rw[←this,hq]
 · intro k hk
   have hat:atI (Y.map toI) (k:Int)=some (toI (Y.getD k [])):=by
    rw[z0A (by simpa using hk)];simp[List.getD,hk]
   simp only[z4Z]
   rw[htp,Z8,if_pos (by omega),hat,Z0,zAe (by omega),Z0]
   by_cases e:z=Y.getD k []
   · rw[decide_eq_true e,if_pos rfl,if_pos rfl,hss,z0a,Z8,if_neg (by omega),z1o (by rw[Z8];exact hk),Z0]
     simp[List.getD,hk]
   · rw[decide_eq_false e,if_neg (by simp),if_neg (by simp),z0H (by omega)]
 · simp only[z4Z]
   rw[htp,Z8,if_neg (by omega)]
end
theorem zvq{d:DFA}{m n:Nat}(hd:DfaOk d m n)(hn:n<=7)(hw:zaP m w):zhr d d.start w=some ((z7W d d.start.toNat w.data.toList:Nat):Int):=by
 have hm1:=hd.m1
 have hm6:=hd.m6
 have s0:=hd.s0
 have s1:=hd.s1
 have hlw:w.data.toList.length=w.size:=by rw[ZX];rfl
 have hws:=hw.1
 have hlt:=hd.lt
 have hfin:=hd.fin
 unfold zhr
 rw[zdH (zps hd (by omega)),zo4 hd (by omega),Z0,if_pos rfl,if_neg (by omega),if_neg (by omega),hlt,zo3 ⟨hm1,hm6⟩ hw,Z0,if_pos rfl]
 refine z0n (s:=(d.start,(0:Int))) w.size (fun k=>(((z7W d d.start.toNat (w.data.toList.take k):Nat):Int),(k:Int))) (by simp[z7W];omega) (by simp only[LFm];omega) (fun k hk=> ?_) ?_
 · have hb:w[k].toNat<256:=w[k].toNat_lt
   have hk':w[k]∈w.data.toList:=by rw[za7 hk];rw[List.getD,Z1 (by omega)];exact Zk _
   obtain⟨l1,l2⟩:=hw.2 _ hk'
   have hq:=zhO hd (w:=w.data.toList.take k) (q:=d.start.toNat) (by omega) fun e he=>hw.2 e (ZH he)
   obtain⟨r,e1,e2,_⟩:=zqV hd hq (a:=w[k].toNat-97) (by omega)
   simp only[zbS]
   rw[if_pos (by omega),e1,Z0,zbh hk,Z0,zwe (x:=(w[k].toNat:Int)-97) (by omega) (by omega),show(w[k].toNat:Int)-97=((w[k].toNat-97:Nat):Int) by omega,e2,Z0,z0H (by omega),zms hk,zy0]
 · simp only[zbS]
   rw[if_neg (by omega),←hlw,Y9]
end
section
open Go
variable{c j:Nat}
def zw3(d:DFA)(m:Nat)(st:RS):Prop:=∀i,0<i->i<st.1.length->∃p a,p<i/\a<m/\st.2.getD i ByteArray.empty=st.2.getD p ByteArray.empty++zoU a/\mvN d (st.1.getD p 0) a=st.1.getD i 0
theorem zs6{d:DFA}{m i a:Nat}{st:RS}(hl:st.2.length=st.1.length)(h:zw3 d m st)(hi:i<st.1.length)(ha:a<m):zw3 d m (zhX d i a st):=by
 unfold zhX
 split
 · exact h
 · intro j j0 hj
   simp only[Zb,ZD] at hj⊢
   by_cases hj1:j<st.1.length
   · obtain⟨p,b,p1,p2,p3,p4⟩:=h j j0 hj1
     exact⟨p,b,p1,p2,by rw[z5Z _ (by omega),z5Z _ (by omega),p3],by rw[z5Z _ (by omega),z5Z _ hj1,p4]⟩
   · have e:j=st.1.length:=by omega
     refine⟨i,a,by omega,ha,?_,?_⟩
     · rw[z9h (by omega),z5Z _ (by omega)]
     · rw[z9h e,z5Z _ hi]
theorem zo6{d:DFA}{m n s:Nat}(hd:DfaOk d m n)(hs:s<2^n):∀k,zw3 d m (z8P d m s k)
 |0=>fun i i0 hi=>by simp[z8P] at hi;omega
 |k+1=>by
  have ih:=zo6 hd hs k
  have hI:=(zb0 hd hs k).1
  unfold z8P
  split
  · rename_i hk
    have inn:∀a,a<=m->zw3 d m (zaD d k (z8P d m s k) a):=fun a=>by
     induction a with
     |zero=>intro _;exact ih
     |succ a iha=>
      intro ha
      obtain⟨h1,_,U,W,h3,_⟩:=zh6 hd hI hk a (by omega)
      exact zs6 h1.len (iha (by omega)) (by rw[h3,Zb];omega) (by omega)
    exact inn m (Z7 _)
  · exact ih
theorem zs5{d:DFA}{m n s:Nat}(hd:DfaOk d m n)(hs:s<2^n){x:Nat}(hx:x∈(z0Z d m n s).1)(hne:x≠s):∃y a,y∈(z0Z d m n s).1/\a<m/\mvN d y a=x/\z6f (z0Z d m n s) x=z6f (z0Z d m n s) y++zoU a:=by
 have hI:=z6h hd hs
 have ht:zw3 d m (z0Z d m n s):=zo6 hd hs _
 have hi:=z5d hx
 have hi0:0<(z0Z d m n s).1.idxOf x:=by
  refine Nat.pos_of_ne_zero fun e=>hne ?_
  have h1:=z2k hx
  rw[e,List.getD,hI.f0,Z4] at h1
  exact h1.symm
 obtain⟨p,a,p1,p2,p3,p4⟩:=ht _ hi0 hi
 have hp:p<(z0Z d m n s).1.length:=by omega
 refine⟨(z0Z d m n s).1.getD p 0,a,z0e hp,p2,by rw[p4,z2k hx],?_⟩
 have e:(z0Z d m n s).1.idxOf ((z0Z d m n s).1.getD p 0)=p:=z5I hI.nd (z5d (z0e hp)) hp (z2k (z0e hp))
 unfold z6f
 rw[p3,e]
theorem zrZ{d:DFA}{m n s:Nat}(hd:DfaOk d m n)(hs:s<2^n):z6f (z0Z d m n s) s=ByteArray.empty:=by
 have hI:=z6h hd hs
 have h0:0<(z0Z d m n s).1.length:=(Z9.1 hI.f0).1
 have e0:(z0Z d m n s).1.getD 0 0=s:=by rw[List.getD,hI.f0];rfl
 have hm:s∈(z0Z d m n s).1:=by
  have:=z0e h0
  rwa [e0] at this
 have e:(z0Z d m n s).1.idxOf s=0:=z5I hI.nd (z5d hm) h0 (by rw[z2k hm,e0])
 unfold z6f
 rw[e,List.getD,hI.w0];rfl
section
variable {d:DFA} {m n:Nat} {S:List Nat} (hd:DfaOk d m n) (hn:n<=7) (hS:SetsP d m n S)
include hd hn hS
theorem zpe:∀i a,i<S.length->a<m->clN d m n S i=c->clN d m n S (z4E d S i a)=c->z2y d (hwN d m n S i a).data.toList (z1E S (z1j d m n S c))=List.range (z1E S (z1j d m n S c)).length∨z2y d (hwN d m n S i a).data.toList (z1E S (z1j d m n S c))∈z9i d m n S c:=by
 have _u:=hd
 have _v:=hn
 have _w:=hS
 have mono:∀(T:List Nat) i st a,∀x∈st.2,x∈(zes d m n S T i st a).2:=fun T i st a x hx=>by
  unfold zes
  split
  · split
    · exact hx
    · exact Zf.2 (.inl hx)
  · exact hx
 have rmono:∀(T:List Nat) i st a,∀x∈st.2,x∈(zks d m n S T i st a).2:=fun T i st a=>by
  induction a with
  |zero=>intro x hx;exact hx
  |succ a ih=>intro x hx;rw[zd9];exact mono _ _ _ _ _ (ih x hx)
 have row:∀(T:List Nat) i st b a,a<b->clN d m n S (z4E d S i a)=clN d m n S i->z2y d (hwN d m n S i a).data.toList T=List.range T.length∨z2y d (hwN d m n S i a).data.toList T∈(zks d m n S T i st b).2:=fun T i st b=>by
  induction b with
  |zero=>intro a ha;omega
  |succ b ih=>
   intro a ha hc
   rw[zd9]
   by_cases e:a=b
   · subst e
     unfold zes
     rw[if_pos hc]
     split
     · rename_i h
       rcases h with h|h
       · exact .inl h
       · exact .inr h
     · exact .inr (by simp)
   · exact(ih a (by omega) hc).imp id (mono _ _ _ _ _)
 have all:∀k,k<=S.length->∀i,i<k->clN d m n S i=c->∀a,a<m->clN d m n S (z4E d S i a)=c->z2y d (hwN d m n S i a).data.toList (z1E S (z1j d m n S c))=List.range (z1E S (z1j d m n S c)).length∨z2y d (hwN d m n S i a).data.toList (z1E S (z1j d m n S c))∈(zkn d m n S (z1E S (z1j d m n S c)) c k).2:=fun k=>by
  induction k with
  |zero=>intro _ i hi;omega
  |succ k ih=>
   intro hk i hi hc a ha hca
   rw[zkm]
   by_cases e:i=k
   · subst e
     rw[if_pos hc]
     exact row _ _ _ _ _ ha (by rw[hca,hc])
   · refine(ih (by omega) i (by omega) hc a ha hca).imp id fun h=> ?_
     split
     · exact rmono _ _ _ _ _ h
     · exact h
 intro i a hi ha hc hca
 exact all S.length (Z7 _) i hi hc a ha hca
theorem zxi(hcl:c<(z6L d m n S).length)(hj:j<S.length)(h1:znV d m (S.getD j 0) (S.getD (z1j d m n S c) 0))(h2:znV d m (S.getD (z1j d m n S c) 0) (S.getD j 0)):clN d m n S j=c:=by
 obtain⟨f1,hk⟩:=z2c hd hn hS hcl
 have he:=z8o hd hS
 have:z9K (z2t d m n S) S.length j=z9K (z2t d m n S) S.length (z1j d m n S c):=(zhv he hj hk).2 (by
  simp only[z2t,Z5]
  exact⟨(z3f hd hS hk).2 h1,(z3f hd hS hj).2 h2⟩)
 unfold clN at f1⊢
 rw[this,f1]
theorem zvF(hcl:c<(z6L d m n S).length)(hj:j<S.length)(hc:clN d m n S j=c):znV d m (S.getD (z1j d m n S c) 0) (S.getD j 0):=by
 obtain⟨f1,hk⟩:=z2c hd hn hS hcl
 have he:=z8o hd hS
 have:z2t d m n S j (z1j d m n S c)=true:=(zhv he hj hk).1 (by unfold clN at f1 hc;rw[f1,hc])
 simp only[z2t,Z5] at this
 exact(z3f hd hS hj).1 this.2
theorem zAA(hcl:c<(z6L d m n S).length)(hj:j<S.length)(hc:clN d m n S j=c):RchG (z1E S (z1j d m n S c)).length (z9i d m n S c) (z2y d ((zaH d m n S j).data.toList++(zj5 d m n S j).data.toList) (z1E S (z1j d m n S c))):=by
 obtain⟨f1,hk⟩:=z2c hd hn hS hcl
 have hf:z5w d m n S j=z1j d m n S c:=by unfold z1j;rw[←hc];rfl
 have hks:=hS.lt _ (z0e hk)
 have ew:zaH d m n S j=z6f (z0Z d m n (S.getD (z1j d m n S c) 0)) (S.getD j 0):=by unfold zaH;rw[hf]
 have eb:zj5 d m n S j=z6f (z0Z d m n (S.getD j 0)) (S.getD (z1j d m n S c) 0):=by unfold zj5;rw[hf]
 by_cases hjk:S.getD j 0=S.getD (z1j d m n S c) 0
 · rw[ew,eb,hjk,zrZ hd hks]
   have:(ByteArray.empty.data.toList++ByteArray.empty.data.toList:List UInt8)= []:=rfl
   rw[this,zoE hd hn hS hk]
   exact .one
 · have he:=z8o hd hS
   have hee:z2t d m n S j (z1j d m n S c)=true:=(zhv he hj hk).1 (by unfold clN at f1 hc;rw[f1,hc])
   have hx:=(zk1 hd hn hS hk hj hee).2
   obtain⟨y,a,y1,ha,y3,y4⟩:=zs5 hd hks hx hjk
   obtain⟨w1,_,w3⟩:=zfL hd hks y1
   have hyS:y∈S:=by rw[←w3];exact ziF hS w1 (z0e hk)
   have hp:=z5d hyS
   have epy:=z2k hyS
   obtain⟨v,v1,v2⟩:=zvF hd hn hS hcl hj hc
   have h26:(UInt8.ofNat (97+a)).toNat=97+a:=z6V (by have:=hd.m6;omega)
   have hpc:clN d m n S (S.idxOf y)=c:=zxi hd hn hS hcl hp ⟨_,w1,by rw[epy,w3];exact z8y _⟩ ⟨UInt8.ofNat (97+a)::v,fun z hz=>by
    rcases Zv.1 hz with rfl|hz
    · omega
    · exact v1 z hz,by rw[epy,z4i,h26,Y1,y3];exact v2⟩
   have edst:z4E d S (S.idxOf y) a=j:=by
    unfold z4E
    rw[epy,y3]
    exact z5I hS.nd (z5d (z0e hj)) hj (z2k (z0e hj))
   have hfp:z5w d m n S (S.idxOf y)=z1j d m n S c:=by unfold z1j;rw[←hpc];rfl
   have ehw:hwN d m n S (S.idxOf y) a=zaH d m n S j++zj5 d m n S j:=by
    have e1:zaH d m n S (S.idxOf y)=z6f (z0Z d m n (S.getD (z1j d m n S c) 0)) y:=by unfold zaH;rw[hfp,epy]
    unfold hwN
    rw[edst,e1,ew,y4]
   have:=zpe hd hn hS (S.idxOf y) a hp ha hpc (by rw[edst,hc])
   rw[ehw,z9C] at this
   rcases this with h|h
   · rw[h];exact .one
   · exact zgE (z9Z hd hn hS hcl) h
theorem zzE{l:List (List Nat)}{f:List Nat->List Nat}(hl:l.Nodup)(hf:∀x∈l,f x∈l)(hi:∀x∈l,∀y∈l,f x=f y->x=y):∀y∈l,∃x∈l,f x=y:=fun y hy=>by
 have _u:=hd
 have _v:=hn
 have _w:=hS
 refine Y7 fun h=> ?_
 have hnd:(l.map f).Nodup:=z4K hl hi
 have hny:y∉l.map f:=fun hm=>by
  obtain⟨x,hx,e⟩:=Zj.1 hm
  exact h ⟨x,hx,e⟩
 have:=z7u (YE.2 ⟨hny,hnd⟩) (r:=l) fun x hx=>by
  rcases Zv.1 hx with rfl|hx
  · exact hy
  · obtain⟨z,hz,rfl⟩:=Zj.1 hx
    exact hf z hz
 rw[Zs,Z8] at this
 omega
theorem zvx{L:Nat}{x y g:List Nat}(hx:PermL L x)(hy:PermL L y)(hg:PermL L g)(h:z9v x g=z9v y g):x=y:=by
 have _u:=hd
 have _v:=hn
 have _w:=hS
 refine Ze (by rw[hx.len,hy.len]) fun i i1 i2=> ?_
 have this:(z9v x g).getD i 0=(z9v y g).getD i 0:=by rw[h]
 rw[zvA i1,zvA i2] at this
 have l1:=hx.lt _ (Zk i1)
 have l2:=hy.lt _ (Zk i2)
 have ex:x.getD i 0=x[i]:=by rw[List.getD,Z1 i1,Z4]
 have ey:y.getD i 0=y[i]:=by rw[List.getD,Z1 i2,Z4]
 rw[ex,ey] at this
 exact z5I hg.nd (by rw[hg.len];exact l1) (by rw[hg.len];exact l2) this
end
end
section
open Go
section
variable {d:DFA} {m n:Nat} {S O:List Nat} (hd:DfaOk d m n) (hn:n<=7) (hS:SetsP d m n S)
include hd hn hS
theorem zym{i s:Nat}(hi:i<S.length)(hs:s<(tlR d m n S i).length):S.getD ((tlR d m n S i).getD s 0) 0=z4i d ((z1E S (z5w d m n S i)).getD s 0) (zaH d m n S i).data.toList:=by
 have h2:=(zeY hd hn hS hi hs).2
 have hs':s<(z7l S (z5w d m n S i)).length:=by rw[←zek hd hn hS];exact hs
 rw[h2]
 congr 1
 simp[z1E,List.getD,hs']
theorem ztJ{o a c:Nat}(hs5:n<=5∨(n=7/\m=2/\d.next=defT))(hcl:c<(z6L d m n S).length)(hz:szN (S.getD (z1j d m n S c) 0)≠1)(hpos:∀x∈S,x≠0)(h32:S.length<=32)(ho:o<S.length)(ha:a<m)(h1:clN d m n S o=c)(h2:clN d m n S (z4E d S o a)=c):
 RchG (z1E S (z1j d m n S c)).length (z9i d m n S c) ((tlR d m n S o).map fun t=>ix0 (tlR d m n S (z4E d S o a)) (z4E d S t a)):=by
 obtain⟨f1,hk⟩:=z2c hd hn hS hcl
 have hP:=z9Z hd hn hS hcl
 obtain⟨E,_,hE,hm⟩:=zvo hd hn hS hcl hz hpos h32 (zk0 hd hn hS hs5 hcl hz hpos)
 obtain⟨p1,p2⟩:=za1 hd hn hS ho ha
 have hfo:z5w d m n S o=z1j d m n S c:=by unfold z1j;rw[←h1];rfl
 have hfp:z5w d m n S (z4E d S o a)=z1j d m n S c:=by unfold z1j;rw[←h2];rfl
 have hg:RchG (z1E S (z1j d m n S c)).length (z9i d m n S c) (z2y d (hwN d m n S o a).data.toList (z1E S (z1j d m n S c))):=by
  rcases zpe hd hn hS o a ho ha h1 h2 with h|h
  · rw[h];exact .one
  · exact zgE hP h
 have hpi:=zAA hd hn hS hcl p1 h2
 have hnd:=zx3 hd hn hS ho ha (by rw[h2,h1])
 have hcld:clN d m n S (z4E d S o a)=clN d m n S o:=by rw[h2,h1]
 have l1:=zk4 hd hn hS ho ha hcld
 obtain⟨v,l2⟩:=zk9 hd hn hS p1 ho hcld
 have hin:∀t∈tlR d m n S o,z4E d S t a∈tlR d m n S (z4E d S o a):=fun t ht=>by
  have:=zel hd hn hS ho p1 l1 l2 (zej hd hn hS ho ht)
  rw[zcn hd hn hS ha] at this
  exact zjb hd hn hS p1 this
 have e1:(tlR d m n S o).length=(z1E S (z1j d m n S c)).length:=by rw[zek hd hn hS,hfo];simp[z1E]
 have e2:(tlR d m n S (z4E d S o a)).length=(z1E S (z1j d m n S c)).length:=by rw[zek hd hn hS,hfp];simp[z1E]
 obtain⟨t1,t2⟩:=z8i hd hn hS hk
 have hF:PermL (z1E S (z1j d m n S c)).length ((tlR d m n S o).map fun t=>ix0 (tlR d m n S (z4E d S o a)) (z4E d S t a)):=⟨by rw[Z8,e1],hnd,fun x hx=>by
  obtain⟨t,ht,rfl⟩:=Zj.1 hx
  have:=hin t ht
  unfold ix0
  rw[if_pos this,←e2]
  exact z5d this⟩
 have hEp:∀e∈E,PermL (z1E S (z1j d m n S c)).length e:=fun e he=>z4J hP ((hm e).1 he)
 have hpp:=z4J hP hpi
 obtain⟨x,hx,ex⟩:=zzE hd hn hS (f:=fun x=>z9v x (z2y d ((zaH d m n S (z4E d S o a)).data.toList++(zj5 d m n S (z4E d S o a)).data.toList) (z1E S (z1j d m n S c)))) hE (fun x hx=>(hm _).2 (zte hP ((hm x).1 hx) hpi)) (fun x hx y hy e=>zvx hd hn hS (hEp x hx) (hEp y hy) hpp e) _ ((hm _).2 hg)
 have key:z9v ((tlR d m n S o).map fun t=>ix0 (tlR d m n S (z4E d S o a)) (z4E d S t a)) (z2y d ((zaH d m n S (z4E d S o a)).data.toList++(zj5 d m n S (z4E d S o a)).data.toList) (z1E S (z1j d m n S c)))=z2y d (hwN d m n S o a).data.toList (z1E S (z1j d m n S c)):=by
  refine Ze (by rw[zdI,Z8,zar,e1]) fun s i1 i2=> ?_
  have hsT:s<(z1E S (z1j d m n S c)).length:=by rw[zar] at i2;exact i2
  have hso:s<(tlR d m n S o).length:=by omega
  have ht:(tlR d m n S o)[s]∈tlR d m n S o:=Zk hso
  have hd1:=hin _ ht
  have hs':=z5d hd1
  have r1:=zym hd hn hS ho hso
  rw[hfo] at r1
  have r2:=zym hd hn hS p1 hs'
  rw[hfp] at r2
  rw[z2k hd1] at r2
  have htS:=(z4a.1 (z5a (zej hd hn hS ho ht)).1).1
  have r3:=(za1 hd hn hS htS ha).2
  have e0:(tlR d m n S o).getD s 0=(tlR d m n S o)[s]:=by simp[List.getD,hso]
  rw[e0] at r1
  have hsT':(tlR d m n S (z4E d S o a)).idxOf (z4E d S (tlR d m n S o)[s] a)<(z1E S (z1j d m n S c)).length:=by omega
  have gT:∀j (hj:j<(z1E S (z1j d m n S c)).length),(z1E S (z1j d m n S c)).getD j 0=(z1E S (z1j d m n S c))[j]:=fun j hj=>by simp[List.getD,hj]
  rw[gT _ hsT] at r1
  rw[gT _ hsT'] at r2
  have hwl:(hwN d m n S o a).data.toList=(zaH d m n S o).data.toList++ [UInt8.ofNat (97+a)]++(zj5 d m n S (z4E d S o a)).data.toList:=by
   unfold hwN
   rw[z9C,z9C];rfl
  have lhs:(z9v ((tlR d m n S o).map fun t=>ix0 (tlR d m n S (z4E d S o a)) (z4E d S t a)) (z2y d ((zaH d m n S (z4E d S o a)).data.toList++(zj5 d m n S (z4E d S o a)).data.toList) (z1E S (z1j d m n S c))))[s]=(z1E S (z1j d m n S c)).idxOf (z4i d (z1E S (z1j d m n S c))[(tlR d m n S (z4E d S o a)).idxOf (z4E d S (tlR d m n S o)[s] a)] ((zaH d m n S (z4E d S o a)).data.toList++(zj5 d m n S (z4E d S o a)).data.toList)):=by
   simp only[z9v,z2y,ZF]
   unfold ix0
   rw[if_pos hd1]
   simp[List.getD,hsT']
  have rhs:(z2y d (hwN d m n S o a).data.toList (z1E S (z1j d m n S c)))[s]=(z1E S (z1j d m n S c)).idxOf (z4i d (z1E S (z1j d m n S c))[s] (hwN d m n S o a).data.toList):=by
   simp only[z2y,ZF]
  rw[lhs,rhs,hwl,z5D,z5D,z5D,←r1,←r2,r3,zcn hd hn hS ha]
 rw[←key] at ex
 have:=zvx hd hn hS (hEp x hx) hF hpp ex
 rw[←this]
 exact(hm x).1 hx
end
end
section
open Go Go.IntKind
noncomputable section
variable{a1:Cover}{a0:DFA}{w109:List (Option (List (ByteArray×Bool)))}
attribute [-simp] Nat.mul_lt_mul_right
instance:IsS CRow:=⟨⟩
def oT:Option (List (ByteArray×Bool))->T
 |none=>.sc (.map none)
 |some m=>.mp none (m.map fun x=>(.string x.1,.bool x.2))
@[simp] theorem oT_none:oT none= .sc (.map none):=rfl
@[simp] theorem oT_some(m:List (ByteArray×Bool)):oT (some m)= .mp none (m.map fun x=>(.string x.1,.bool x.2)):=rfl
def zBD(o:Option (List (ByteArray×Bool))):Option (List (ByteArray×Bool)):=o
instance{o:Option (List (ByteArray×Bool))}:Ok (zBD o) (fun r=>o=some r):=⟨fun r h=>h⟩
abbrev z3D(w108:Int)(v129:List (List Int)×Int):Int×(List (Option (List (ByteArray×Bool))))->Option ((Int×(List (Option (List (ByteArray×Bool)))))⊕((Int×(List (Option (List (ByteArray×Bool)))))⊕Bool))
 |(w134,w135)=>
 if w134<(v129.1.length:Int) then
 (atI v129.1 w134).bind fun v139=>
 (atI w135 w108).bind fun v140=>
 (zBD v140).bind fun mm=>
 (z1w v139).bind fun v141=>
 z0c (i64.wrap (w134+1),(w135.set w108.toNat (some (z8p v141 true mm))))
 else
 z0d<|
 z0c (i64.wrap (w108+1),w135)
instance{w108:Int}{v129:List (List Int)×Int}:Hd (z3D w108 v129):=⟨fun(w134,w135)=>([(67,xI w134)],[(5,.os 1 w135.length (w135.map oT))])⟩
abbrev z3B(w109:List (Option (List (ByteArray×Bool))))(w156:Int)(v171:CRow):Int->Option (Int⊕(Int⊕Bool))
 |w176=>
 if w176<(v171.maps.length:Int) then
 (atI v171.maps w176).bind fun v181=>
 (z4Y v181).bind fun v182=>
 if v182=true then
 z0c (i64.wrap (w176+1))
 else
 (atI w109 (v171.pre.length:Int)).bind fun v183=>
 (zBD v183).bind fun mm=>
 (z1w v181).bind fun v184=>
 if((z7G v184 mm).getD false)=true then
 z0c (i64.wrap (w176+1))
 else
 z0d<|
 z0d<|
 some false
 else
 z0d<|
 z0c (i64.wrap (w156+1))
instance{w156:Int}{v171:CRow}:Hd (z3B w109 w156 v171):=⟨fun w176=>([(90,xI w176)],[])⟩
abbrev z3C(a1:Cover)(w109:List (Option (List (ByteArray×Bool)))):Int->Option (Int⊕Bool)
 |w156=>
 if w156<(a1.casc.rows.length:Int) then
 (atI a1.casc.rows w156).bind fun v171=>
 z0h (z3B w109 w156 v171) LFm 0
 else
 z0d<|
 some true
instance:Hd (z3C a1 w109):=⟨fun w156=>([(83,xI w156)],[])⟩
abbrev z3V(a0:DFA)(a1:Cover):Int×(List (Option (List (ByteArray×Bool))))->Option ((Int×(List (Option (List (ByteArray×Bool)))))⊕Bool)
 |(w108,w109)=>
 if w108<(a1.groups.length:Int) then
 (atI a1.groups w108).bind fun v126=>
 (atI a1.casc.sizes w108).bind fun v127=>
 if(v126.tiles.length:Int)=v127 then
 (z6R a0 v126).bind fun v128=>
 if v128=true then
 (z1B v126).bind fun v129=>
 if v129.2=0 then
 (atI w109 w108).bind fun v130=>
 z0h (z3D w108 v129) LFm (0,(w109.set w108.toNat (some ([]:List (ByteArray×Bool)))))
 else
 z0d<|
 some false
 else
 z0d<|
 some false
 else
 z0d<|
 some false
 else
 z0d<|
 z0h (z3C a1 w109) LFm 0
instance:Hd (z3V a0 a1):=⟨fun(w108,w109)=>([(31,xI w108)],[(5,.os 1 w109.length (w109.map oT))])⟩
def z3N(a0:DFA)(a1:Cover):Option (Bool):=
 if(a1.groups.length:Int)=(a1.casc.sizes.length:Int) then
 chk (z0S 8 (a1.groups.length:Int))<|
 z0h (z3V a0 a1) LFm (0,List.replicate (a1.groups.length:Int).toNat (none:Option (List (ByteArray×Bool))))
 else
 some false
instance:Ok (z3N a0 a1) (fun r=>L 86 [.agg [.sc (.int .i64 a0.letters),.sc (.int .i64 a0.start),(tB a0.final),(tR a0.next)],.agg [.sc (.int .i64 a1.casc.letters),(tI a1.casc.sizes),.sl a1.casc.rows.length (a1.casc.rows.flatMap fun x0=> [(tI x0.pre),(tR x0.maps)]),(tI a1.start),(tR a1.tuples),(tI a1.states),.sl a1.groups.length (a1.groups.flatMap fun x0=> [.sc (.int .i64 x0.set),(tI x0.tiles),(tS x0.words),(tR x0.perms)])]]=some (.sc (.bool r),[.dead,.dead])):=⟨fun r h=>by have h:=z3p h;unfold z3N at h;exact z4q rfl Tryz.func86 (bdy Tryz.f86 rfl)⟩
end
end
section
open Go Go.IntKind
noncomputable section
variable{v140:(List (ByteArray×Int))×Bool}{a1:Cover}{a0:DFA}{v137:Runner×Int}
attribute [-simp] Nat.mul_lt_mul_right Option.not_isSome
abbrev z5J(a0:DFA)(a1:Cover)(v137:Runner×Int)(v140:(List (ByteArray×Int))×Bool)(w161:Int)(v182:List Int):Int->Option (Int⊕(Int⊕Bool))
 |w189=>
 if w189<a0.letters then
 (z3n v137.1 v182 w189).bind fun v196=>
 if v196.2=0 then
 (z1w v196.1).bind fun v197=>
 if((z7G v197 v140.1).isSome)=true then
 (atI a1.states ((z7G v197 v140.1).getD 0)).bind fun v198=>
 (atI a1.states w161).bind fun v199=>
 (atI a0.next v199).bind fun v200=>
 (atI v200 w189).bind fun v201=>
 if v198=v201 then
 z0c (i64.wrap (w189+1))
 else
 z0d<|
 z0d<|
 some false
 else
 z0d<|
 z0d<|
 some false
 else
 z0d<|
 z0d<|
 some false
 else
 z0d<|
 z0c (i64.wrap (w161+1))
instance{w161:Int}{v182:List Int}:Hd (z5J a0 a1 v137 v140 w161 v182):=⟨fun w189=>([(59,xI w189)],[])⟩
abbrev z5K(a0:DFA)(a1:Cover)(v137:Runner×Int)(v140:(List (ByteArray×Int))×Bool):Int->Option (Int⊕Bool)
 |w161=>
 if w161<(a1.tuples.length:Int) then
 (atI a1.tuples w161).bind fun v182=>
 z0h (z5J a0 a1 v137 v140 w161 v182) LFm 0
 else
 z0d<|
 (z3N a0 a1).bind fun v202=>
 some v202
instance:Hd (z5K a0 a1 v137 v140):=⟨fun w161=>([(52,xI w161)],[])⟩
def z5y(a0:DFA)(a1:Cover):Option (Bool):=
 (z5A a0).bind fun v135=>
 if v135=0 then
 if 12<(a0.final.length:Int) then
 some false
 else
 (z2P a1.casc).bind fun v136=>
 match v136 with
 |(.inl v137)=>
 if v137.2=0 then
 if a1.casc.letters=a0.letters then
 (z3M a0 a1).bind fun v138=>
 match v138 with
 |(.inl v139)=>
 if v139.2=true then
 none
 else
 some false
 |(.inr v140)=>
 if v140.2=true then
 z0h (z5K a0 a1 v137 v140) LFm 0
 else
 some false
 else
 some false
 else
 some false
 |(.inr v203)=>
 if v203.2=0 then
 none
 else
 some false
 else
 some false
instance:Ok (z5y a0 a1) (fun r=>L 38 [.agg [.sc (.int .i64 a0.letters),.sc (.int .i64 a0.start),(tB a0.final),(tR a0.next)],.agg [.sc (.int .i64 a1.casc.letters),(tI a1.casc.sizes),.sl a1.casc.rows.length (a1.casc.rows.flatMap fun x0=> [(tI x0.pre),(tR x0.maps)]),(tI a1.start),(tR a1.tuples),(tI a1.states),.sl a1.groups.length (a1.groups.flatMap fun x0=> [.sc (.int .i64 x0.set),(tI x0.tiles),(tS x0.words),(tR x0.perms)])]]=some (.sc (.bool r),[.dead,.dead])):=⟨fun r h=>by have h:=z3p h;unfold z5y at h;exact z4q rfl Tryz.func38 (bdy Tryz.f38 rfl)⟩
end
end
section
open Go
theorem zxH(f:List Nat)(hl:f.length<=100000):z4Y (toI f)=some (decide (∀x∈f,x=f.getD 0 0)):=by
 unfold z4Y
 refine zaw (fun s=>∃k:Nat,s=(k:Int)/\k<=f.length/\ ∀j,j<k->f.getD j 0=f.getD 0 0) (fun s=>f.length+1-s.toNat) ⟨0,rfl,Y6 _,fun j hj=>by omega⟩ (by simp only[LFm];omega) ?_
 rintro _ ⟨k,rfl,hk,hj⟩
 simp only[z6r]
 rw[z0a]
 by_cases h1:k<f.length
 · have h0:atI (toI f) 0=some ((f.getD 0 0:Nat):Int):=z1o (i:=0) (by omega)
   rw[if_pos (by omega),z1o h1,Z0,h0,Z0]
   by_cases e:f.getD k 0=f.getD 0 0
   · left
     rw[if_pos (by omega),z0H (by omega)]
     exact⟨_,rfl,⟨k+1,rfl,by omega,fun j hj'=>by
      by_cases e2:j=k
      · rw[e2];exact e
      · exact hj j (by omega)⟩,by omega⟩
   · right
     rw[if_neg (by omega),decide_eq_false fun h=>e (h _ (z0e h1))]
 · right
   rw[if_neg (by omega),decide_eq_true fun x hx=>by
    obtain⟨j,hj',rfl⟩:=Zo hx
    have:=hj j (by omega)
    rwa [List.getD,Z1 hj',Z4] at this]
theorem zC3(s x:List Int):z4s s x=z2D s x:=rfl
theorem zxU{α:Type}{l:List α}{k:Nat}(v:α)(h:k<l.length):atI (l.set k v) (k:Int)=some v:=by
 rw[z0A (by rw[X9];exact h),List.getElem_set_self]
def zBH(Y:List (List Nat)):Nat->List (ByteArray×Int)
 |0=> []
 |k+1=>z8p (z1i (toI (Y.getD k []))) (k:Int) (zBH Y k)
theorem zne{Y:List (List Nat)}(hY:Y.Nodup)(hb:∀y∈Y,∀k∈y,k<256){j:Nat}:∀k,k<=Y.length->j<k->z7G (z1i (toI (Y.getD j []))) (zBH Y k)=some (j:Int)
 |0,_,h=>by omega
 |k+1,hk,h=>by
  simp only[zBH]
  rw[zb8]
  by_cases e:j=k
  · rw[e,if_pos rfl]
  · rw[if_neg fun e2=>e ?_]
    · exact zne hY hb k (by omega) (by omega)
    · have hj:j<Y.length:=by omega
      have hk':k<Y.length:=by omega
      have:=zdB (hb _ (z4h hk')) (hb _ (z4h hj)) e2
      rw[List.getD,Z1 hk',List.getD,Z1 hj,Z4,Z4] at this
      exact((XE hY).1 this).symm
section
variable {d:DFA} {m n:Nat} {S O:List Nat} (hd:DfaOk d m n) (hn:n<=7) (hS:SetsP d m n S) (hH:zhR d m n S) (hO:OrdC d m n S O) (hpos:∀x∈S,x≠0) (hbot:∀i k,i<S.length->k<S.length->zad S k=true->z7k d m n S i k=true->zad S i=true) (hf:S.getD 0 0=2^n-1) (h24:O.length<=24) (h32:S.length<=32) (hs5:n<=5∨(n=7/\m=2/\d.next=defT)) (h0:0<S.length) {c:Cover} {Y:List (List Nat)} {W:List zac} (hC:CovD d m n S O (O.map (z9g d m n S)) c Y W)
include hd hn hS hH hO hpos h32 hs5
theorem zBU{a k o i:Nat}(hk:k<O.length)(ho:o<S.length)(hi:i<S.length)(ha:a<m):(∃v,zcx d m n S O a k o i=List.replicate (szO d m n S O k) v)∨RchG (z1E S (z1j d m n S (O.getD k 0))).length (z9i d m n S (O.getD k 0)) (zcx d m n S O a k o i):=by
 obtain⟨c1,c2⟩:=zgK hd hn hS hH hO hk
 have hout:=hO.prm.mem_iff.1 (z0e hk:O.getD k 0∈O)
 unfold zaC at hout
 have hh:=(ZL.1 hout).2
 simp only[decide_eq_true_eq] at hh
 unfold zcx
 split
 · rename_i e
   split
   · rename_i e2
     obtain⟨e2,rfl⟩:=e2
     exact .inr (ztJ hd hn hS hs5 c1 (zhd hh) hpos h32 ho ha ((zxJ hd hn hS hH hO ho hk).2 e2) ((zxJ hd hn hS hH hO hi hk).2 e))
   · exact .inl ⟨_,rfl⟩
 · exact .inl ⟨_,rfl⟩
include h24 hC h0
theorem zuX:z3N d c=some true:=by
 have hgr:c.groups=O.map (z9g d m n S):=by rw[hC.eq]
 have hrw:c.casc.rows=W.map zcM:=by rw[hC.eq]
 have hsz:c.casc.sizes=zmz d m n S O:=by rw[hC.eq]
 have hsl:=zcm (d:=d) (m:=m) (n:=n) (S:=S) (O:=O)
 have hg:=hC.good
 have hE:∀k,∃E:List (List Nat),k<O.length->z1B (z9g d m n S (O.getD k 0))=some (E.map toI,0)/\E.length<=2000/\ ∀e,e∈E↔RchG (z1E S (z1j d m n S (O.getD k 0))).length (z9i d m n S (O.getD k 0)) e:=fun k=>by
  by_cases hk:k<O.length
  · obtain⟨c1,c2⟩:=zgK hd hn hS hH hO hk
    have hout:=hO.prm.mem_iff.1 (z0e hk:O.getD k 0∈O)
    unfold zaC at hout
    have hh:=(ZL.1 hout).2
    simp only[decide_eq_true_eq] at hh
    have hfew:=zk0 hd hn hS hs5 c1 (zhd hh) hpos
    obtain⟨E,e1,e2,e3⟩:=zvo hd hn hS c1 (zhd hh) hpos h32 hfew
    exact⟨E,fun _=>⟨e1,hfew E e2 fun e he=>(e3 e).1 he,e3⟩⟩
  · exact⟨[],fun h=>absurd h hk⟩
 obtain⟨Es,hEs⟩:=Classical.skolem.1 hE
 have h256:∀k,k<O.length->∀e∈Es k,∀z∈e,z<256:=fun k hk e he z hz=>by
  obtain⟨c1,c2⟩:=zgK hd hn hS hH hO hk
  have:=(z4J (z9Z hd hn hS c1) (((hEs k hk).2.2 e).1 he)).lt z hz
  have:=zlc (d:=d) (m:=m) (n:=n) (S:=S) (O:=O) k
  unfold szO at this
  simp only[z1E,Z8] at*
  omega
 unfold z3N
 rw[hgr,hsz,hsl,Z8,if_pos rfl,z0i _ (by unfold z0S;omega),Z2]
 refine z0n (s:=((0:Int),List.replicate O.length (none:Option (List (ByteArray×Bool))))) O.length (fun k=>((k:Int),zav O.length (fun j=>some (z7A (Es j))) (fun _=>none) k)) (by rw[z9s];congr 1;exact(Ze (by simp) fun i h1 h2=>by simp)) (by simp only[LFm];omega) (fun k hk=> ?_) ?_
 · obtain⟨c1,c2⟩:=zgK hd hn hS hH hO hk
   have hout:=hO.prm.mem_iff.1 (z0e hk:O.getD k 0∈O)
   unfold zaC at hout
   have hh:=(ZL.1 hout).2
   simp only[decide_eq_true_eq] at hh
   obtain⟨hol,hchk⟩:=zhb hd hn hS c1 (zhd hh) hpos h32
   have hat:atI (O.map (z9g d m n S)) (k:Int)=some (z9g d m n S (O.getD k 0)):=by
    rw[z0A (by simpa using hk)];simp[List.getD,hk]
   have has:atI (zmz d m n S O) (k:Int)=some ((szO d m n S O k:Nat):Int):=by
    rw[za8 0 (by rw[hsl];exact hk),zgr,if_pos hk]
   have htl:((z9g d m n S (O.getD k 0)).tiles.length:Int)=((szO d m n S O k:Nat):Int):=by
    show((toI (z1E S (z1j d m n S (O.getD k 0)))).length:Int)=_
    rw[z0a];simp[z1E,szO]
   obtain⟨e1,e2,e3⟩:=hEs k hk
   have hck:=zuV hd (by omega:n<=12) (h:=z9g d m n S (O.getD k 0)) (by rw[←hol.wp];exact YR hol.wl (by omega))
   simp only[z3V]
   rw[hgr,hsz,Z8,if_pos (by omega),hat,Z0,has,Z0,if_pos htl,hck,hchk,Z0,if_pos rfl,e1,Z0]
   simp only[if_true]
   rw[z6H hk,Z0,Z2]
   have hml:k<(zav O.length (fun j=>some (z7A (Es j))) (fun _=>none) k).length:=by rw[zjr];exact hk
   have hms:=z4I (f:=fun j=>some (z7A (Es j))) (g:=fun _=>none) hk
   generalize zav O.length (fun j=>some (z7A (Es j))) (fun _=>none) k=M at*
   refine z0n (s:=((0:Int),M.set k (some []))) (Es k).length (fun j=>((j:Int),M.set k (some (z7A ((Es k).take j))))) rfl (by simp only[LFm];omega) (fun j hj=> ?_) ?_
   · have hp:=z4h hj
     have h2:=h256 k hk _ hp
     have hpl:((Es k).getD j []).length<=1000:=by
      have:=(z4J (z9Z hd hn hS c1) ((e3 _).1 hp)).len
      have:=zlc (d:=d) (m:=m) (n:=n) (S:=S) (O:=O) k
      unfold szO at this
      simp only[z1E,Z8] at*
      omega
     have hat2:atI ((Es k).map toI) (j:Int)=some (toI ((Es k).getD j [])):=by
      rw[z0A (by simpa using hj)];simp[List.getD,hj]
     have htk:(Es k).take (j+1)=(Es k).take j++ [(Es k).getD j []]:=by
      rw[Zw hj];simp[List.getD,hj]
     simp only[z3D]
     rw[Z8,if_pos (by omega),hat2,Z0,zxU _ hml,Z0]
     simp only[zBD,Z0]
     rw[zgU hpl h2,Z0,z0H (by omega),Z2,List.set_set,htk,zeu]
   · simp only[z3D]
     rw[Z8,if_neg (by omega),Y9,hms,z0H (by omega)]
 · simp only[z3V]
   rw[hgr,Z8,if_neg (by omega),z9r]
   congr 1
   have hWl:=hg.r48
   rw[hrw,Z8] at hWl
   refine z0n (s:=(0:Int)) W.length (fun k=>(k:Int)) rfl (by simp only[LFm];omega) (fun t ht=> ?_) ?_
   · have hat:atI (W.map zcM) (t:Int)=some (zcM W[t]):=by rw[z0A (by simpa using ht)];simp
     obtain⟨x,hx,i,hi,er⟩:=hC.rows.of _ (Zk ht)
     obtain⟨x1,x2⟩:=hC.tup x hx
     have hil:(x.take i).length=i:=by rw[Zr];omega
     simp only[z3C]
     rw[hrw,Z8,if_pos (by omega),hat,Z0,er]
     simp only[zcM]
     refine z0n (s:=(0:Int)) m (fun k=>(k:Int)) rfl (by have:=hd.m6;simp only[LFm];omega) (fun a ha=> ?_) ?_
     · obtain⟨o',i',p1,p2,p3⟩:=zn2 hd hn hS hH hO hpos h0 ⟨x1,x2⟩ hi a
       obtain⟨q1,q2⟩:=zlO hd hn hS hH hO hpos (a:=a) hi p1 p2
       have hml:(z2j d m n S O x i).length=m:=by simp[z2j]
       have hsO:=zlc (d:=d) (m:=m) (n:=n) (S:=S) (O:=O) i
       have hat2:atI ((z2j d m n S O x i).map toI) (a:Int)=some (toI (zcx d m n S O a i o' i')):=by
        rw[z0A (by rw[Z8,hml];exact ha),←p3]
        simp[z2j]
       simp only[z3B]
       rw[Z8,hml,if_pos (by omega),hat2,Z0,zxH _ (by omega),Z0]
       by_cases hcn:∀z∈zcx d m n S O a i o' i',z=(zcx d m n S O a i o' i').getD 0 0
       · rw[decide_eq_true hcn,if_pos rfl,z0H (by have:=hd.m6;omega)]
       · rcases zBU hd hn hS hH hO hpos h32 hs5 (a:=a) hi p1 p2 ha with⟨v,hv⟩|hr
         · refine absurd (fun z hz=> ?_) hcn
           rw[hv] at hz⊢
           obtain⟨h1,rfl⟩:=List.mem_replicate.1 hz
           rw[List.getD,XF,if_pos (by omega)];rfl
         · obtain⟨e1,e2,e3⟩:=hEs i hi
           have hmem:=(e3 _).2 hr
           have hat3:atI ((List.range O.length).map fun j=>some (z7A (Es j))) ((toI (x.take i)).length:Int)=some (some (z7A (Es i))):=by
            rw[z0a,hil,z0A (by simpa using hi)];simp
           rw[decide_eq_false hcn,if_neg (by simp),hat3,Z0]
           simp only[zBD,Z0]
           rw[zgU (by rw[q1];omega) (h256 i hi _ hmem),Z0,if_pos ((zd7 (h256 i hi _ hmem) (h256 i hi)).2 hmem),z0H (by have:=hd.m6;omega)]
     · have hml:(z2j d m n S O x i).length=m:=by simp[z2j]
       simp only[z3B]
       rw[Z8,hml,if_neg (by omega),z0H (by omega)]
   · simp only[z3C]
     rw[hrw,Z8,if_neg (by omega)]
include hbot hf
theorem zz3:z3M d c=some (.inr (zBH Y Y.length,true)):=by
 have htp:c.tuples=Y.map toI:=by rw[hC.eq]
 have hss:c.states=toI (Y.map (zeZ d m n S O)):=by rw[hC.eq]
 have hst:c.start=toI (z2W d m n S O):=by rw[hC.eq]
 have hsz:c.casc.sizes=zmz d m n S O:=by rw[hC.eq]
 have hsl:=zcm (d:=d) (m:=m) (n:=n) (S:=S) (O:=O)
 have hfew:=hC.few
 have hfin:=hd.fin
 have hm1:=hd.m1
 have hnd:Y.Nodup:=by
  refine List.Pairwise.of_map toI (fun a b (h:toI a≠toI b) e=>h (by rw[e])) (hC.up.imp fun {a b} h e=> ?_)
  rw[e,(z9m _ _).2 rfl] at h;omega
 have h256:∀y∈Y,∀k∈y,k<256:=fun y hy=>zi9 (by omega) (hC.tup y hy)
 have hT:∀x∈Y,z4s (zmz d m n S O) (toI x)=some true:=fun x hx=>by
  obtain⟨x1,x2⟩:=hC.tup x hx
  rw[zC3]
  refine zjF (by rw[hsl,z0a,x1]) (by rw[z0a];omega) fun j hj=> ?_
  rw[z0a] at hj
  have:=x2 j (by omega)
  rw[zl9,zgr,if_pos (by omega)];omega
 have hat:∀k,k<Y.length->atI (Y.map toI) (k:Int)=some (toI (Y.getD k [])):=fun k hk=>by
  rw[z0A (by simpa using hk)];simp[List.getD,hk]
 have has:∀k,k<Y.length->atI (toI (Y.map (zeZ d m n S O))) (k:Int)=some ((zeZ d m n S O (Y.getD k []):Nat):Int)/\zeZ d m n S O (Y.getD k [])<n:=fun k hk=>by
  rw[z1o (by simpa using hk)]
  exact⟨by simp[List.getD,hk],(zsH hd hn hS hH hO hpos hbot hf h24 hC h0 (z4h hk) (a:=0) (by omega)).1⟩
 have hkey:∀x∈Y,z1w (toI x)=some (z1i (toI x)):=fun x hx=>zgU (by rw[(hC.tup x hx).1];omega) (h256 x hx)
 unfold z3M
 rw[htp,hss,z0a,Z8,Z8,if_neg (by omega),if_pos rfl]
 refine z0n (s:=((0:Int),([]:List (ByteArray×Int)))) Y.length (fun k=>((k:Int),zBH Y k)) rfl (by simp only[LFm];omega) (fun k hk=> ?_) ?_
 · obtain⟨s1,s2⟩:=has k hk
   have hx:=z4h hk
   simp only[z3U]
   rw[htp,hss,hsz,Z8,if_pos (by omega),hat k hk,Z0,hT _ hx,Z0,if_pos rfl,s1]
   match k,hk with
   |0,hk=>
    rw[if_neg (by omega),Z0,if_neg (by omega),if_neg (by omega),hkey _ hx,Z0,z0H (by omega)]
    rfl
   |k+1,hk=>
    have hu:=(ZE.1 hC.up) k (k+1) (by rw[Z8];omega) (by rw[Z8];omega) (by omega)
    have hk0:k<Y.length:=by omega
    simp only[ZF] at hu
    have g1:Y.getD k []=Y[k]:=by simp[List.getD,hk0]
    have g2:Y.getD (k+1) []=Y[k+1]:=by simp[List.getD,hk]
    rw[if_pos (by omega),show IntKind.i64.wrap (((k+1:Nat):Int)-1)=(k:Int) by rw[z2G (by omega) (by omega)];omega,hat k hk0,Z0,zgq (by rw[z0a,(hC.tup _ (z4h hk0)).1];omega),Z0,g1,g2,if_neg (by omega),←g2,Z0,if_neg (by omega),if_neg (by omega),hkey _ hx,Z0,z0H (by omega)]
    rfl
 · obtain⟨j,hj,e⟩:=Zo hC.st
   have ej:Y.getD j []=z2W d m n S O:=by simp[List.getD,hj,e]
   have hnum:=zne hnd h256 (j:=j) Y.length (Z7 _) hj
   rw[ej] at hnum
   have hs1:=(has j hj).1
   rw[ej,zor hd hn hS hH hO hpos hbot hf h24 hC h0] at hs1
   have s0:=hd.s0
   simp only[z3U]
   rw[htp,hss,hsz,hst,Z8,if_neg (by omega),hT _ hC.st,Z0,if_pos rfl,hkey _ hC.st,Z0,hnum]
   simp only[Option.isSome_some,if_true,Z4]
   rw[hs1,Z0,decide_eq_true (by omega)]
theorem zxK:z5y d c=some true:=by
 have htp:c.tuples=Y.map toI:=by rw[hC.eq]
 have hss:c.states=toI (Y.map (zeZ d m n S O)):=by rw[hC.eq]
 have hle:c.casc.letters=d.letters:=by rw[hC.eq]
 have hfew:=hC.few
 have hm1:=hd.m1
 have hm6:=hd.m6
 have hlt:=hd.lt
 have hnd:Y.Nodup:=by
  refine List.Pairwise.of_map toI (fun a b (h:toI a≠toI b) e=>h (by rw[e])) (hC.up.imp fun {a b} h e=> ?_)
  rw[e,(z9m _ _).2 rfl] at h;omega
 have h256:∀y∈Y,∀k∈y,k<256:=fun y hy=>zi9 (by omega) (hC.tup y hy)
 have hN:z2P c.casc=some (.inl (⟨c.casc⟩,0)):=by
  unfold z2P
  rw[zo5 hC.good,Z0,if_pos rfl]
 unfold z5y
 rw[zdH (zps hd (by omega)),zo4 hd (by omega),Z0,if_pos rfl,hd.fin,if_neg (by omega),hN,Z0]
 simp only[if_true]
 rw[if_pos hle,zz3 hd hn hS hH hO hpos hbot hf h24 h32 hs5 h0 hC,Z0]
 simp only[if_true]
 refine z0n (s:=(0:Int)) Y.length (fun k=>(k:Int)) rfl (by simp only[LFm];omega) (fun k hk=> ?_) ?_
 · have hx:=z4h hk
   have hat:atI (Y.map toI) (k:Int)=some (toI (Y.getD k [])):=by
    rw[z0A (by simpa using hk)];simp[List.getD,hk]
   simp only[z5K]
   rw[htp,Z8,if_pos (by omega),hat,Z0]
   refine z0n (s:=(0:Int)) m (fun k=>(k:Int)) rfl (by simp only[LFm];omega) (fun a ha=> ?_) ?_
   · have hy:=hC.cl _ hx a ha
     obtain⟨j,hj,e⟩:=Zo hy
     have ej:Y.getD j []=z5n d m n S O a (Y.getD k []):=by simp[List.getD,hj] at e⊢;exact e
     have hnum:=zne hnd h256 (j:=j) Y.length (Z7 _) hj
     obtain⟨q1,q2⟩:=zsH hd hn hS hH hO hpos hbot hf h24 hC h0 hx ha
     obtain⟨r,n1,n2,_⟩:=zqV hd q1 ha
     have sj:atI (toI (Y.map (zeZ d m n S O))) (j:Int)=some ((nxN d (zeZ d m n S O (Y.getD k [])) a:Nat):Int):=by
      rw[z1o (by simpa using hj),←q2,←ej]
      simp[List.getD,hj]
     have sk:atI (toI (Y.map (zeZ d m n S O))) (k:Int)=some ((zeZ d m n S O (Y.getD k []):Nat):Int):=by
      rw[z1o (by simpa using hk)]
      simp[List.getD,hk]
     simp only[z5J]
     rw[hlt,if_pos (by omega),zoo hd hn hS hH hO hpos h24 hC h0 hx ha,Z0,if_pos rfl,←ej,zgU (by rw[(hC.tup _ (z4h hj)).1];omega) (h256 _ (z4h hj)),Z0,hnum]
     simp only[Option.isSome_some,if_true,Z4]
     rw[hss,sj,Z0,sk,Z0,n1,Z0,n2,Z0,if_pos rfl,z0H (by omega)]
   · simp only[z5J]
     rw[hlt,if_neg (by omega),z0H (by omega)]
 · simp only[z5K]
   rw[htp,Z8,if_neg (by omega),zuX hd hn hS hH hO hpos h24 h32 hs5 h0 hC]
   rfl
end
end
section
open Go
variable{p:List Nat}{c:Nat}
theorem zxl{d:DFA}{m n:Nat}{S:List Nat}{k:Nat}(h:0<z8n d m n S k):szN (S.getD k 0)≠1:=fun e=>by
 have hz:zad S k=true:=by unfold zad;rw[decide_eq_true e]
 unfold z8n znw at h
 cases hN:S.length with
 |zero=>rw[hN] at h;simp[zxm] at h
 |succ N=>rw[hN] at h;simp only[zxm] at h;rw[if_pos hz] at h;omega
def mvL(p:List Nat)(s:Nat):Nat->Nat
 |0=>0
 |q+1=>if s.testBit q=true then mvL p s q|||2^p.getD q 0 else mvL p s q
def itL(p:List Nat):Nat->Nat->Nat
 |0,s=>s
 |k+1,s=>itL p k (mvL p s 5)
def zw7(x:Nat):Bool:=decide (szN x≠1)&&decide (x≠0)
def manL:List Nat:=(List.range 32).filter zw7
def gdB(p:List Nat)(A:Nat):Bool:=zw7 A&&zw7 (mvL p A 5)&&decide (mvL p A 5<32)&& !decide (mvL p A 5=A)&&(List.range 6).any fun k=>decide (itL p k (mvL p A 5)=A)
def okB(p:List Nat):Bool:= !decide (mvL p 31 5=31)||((List.range 5).all fun q=>decide (p.getD q 0=q))||(List.range 32).any fun A=>gdB p A&&(List.range 32).any fun B=>gdB p B&& !decide (A=B)&& !decide (A=mvL p B 5)&& !decide (mvL p A 5=B)&& !decide (mvL p A 5=mvL p B 5)
theorem zBG:((List.range 5).all fun a=>(List.range 5).all fun b=>(List.range 5).all fun c=>(List.range 5).all fun d=>(List.range 5).all fun e=>okB [a,b,c,d,e])=true:=by kernel_rfl
theorem zzO:manL.length=26:=by kernel_rfl
theorem zz0:((List.range 31).all fun u=>(List.range 31).all fun v=>decide ((manL.filter fun x=>decide (x=31)||decide (x&&&u=x)||decide (x&&&v=x)).length<=24))=true:=by kernel_rfl
theorem zGo:((List.range 5).all fun n=>decide (((List.range (2^n)).filter zw7).length<=11))=true:=by kernel_rfl
theorem zC8:((List.range 32).all fun x=>decide (mvL [0,1,2,3,4] x 5=x))=true:=by kernel_rfl
theorem zzF:((List.range 5).all fun q=> !zw7 (2^q))=true:=by kernel_rfl
theorem z8t{N:Nat}{p:Nat->Bool}(h:(List.range N).all p=true){x:Nat}(hx:x<N):p x=true:=Zn.1 h x (Zh.2 hx)
theorem zEu(h:p.length=5):p= [p.getD 0 0,p.getD 1 0,p.getD 2 0,p.getD 3 0,p.getD 4 0]:=by
 match p,h with
 | [_,_,_,_,_],_=>rfl
theorem zzG(h:p.length=5)(h5:∀q,q<5->p.getD q 0<5):okB p=true:=by
 rw[zEu h]
 exact z8t (z8t (z8t (z8t (z8t zBG (h5 0 (by omega))) (h5 1 (by omega))) (h5 2 (by omega))) (h5 3 (by omega))) (h5 4 (by omega))
section
variable {d:DFA} {m n:Nat} (hd:DfaOk d m n)
include hd
theorem zt4{P:Nat->Prop}(hs:∀x a,x<2^n->a<m->P x->P (mvN d x a)):∀(w:List UInt8) (s:Nat),s<2^n->(∀c∈w,97<=c.toNat/\c.toNat<97+m)->P s->P (z4i d s w)
 | [],s,_,_,h=>h
 |c::w,s,hl,hw,h=>by
  have hc:=hw c (Zz ..)
  exact zt4 hs w _ (zc6 hd (by omega)) (fun c' h'=>hw c' (Zp _ h')) (hs _ _ hl (by omega) h)
theorem zwy{P:Nat->Prop}(h0:P (2^n-1))(h1:∀q,q<n->P (2^q))(hs:∀x a,x<2^n->a<m->P x->P (mvN d x a)):∀x∈z2d d m n,P x:=fun x hx=>by
 have hp:=Yu n
 have hr:=z6h hd (s:=2^n-1) (by omega)
 have hx:=(z9U _).mem_iff.1 hx
 rcases((z7U hr.nd n).2.1 x).1 hx with h|⟨i,hi,rfl⟩
 · obtain⟨k,hk,rfl⟩:=Zo h
   obtain⟨_,o2,o3⟩:=hr.ok k hk
   have e:(z0Z d m n (2^n-1)).1[k]=(z0Z d m n (2^n-1)).1.getD k 0:=by grind
   rw[e,←o3]
   exact zt4 hd hs _ _ (by omega) o2 h0
 · exact h1 i hi
theorem zyN{a s:Nat}(ha:a<m):znV d m (mvN d s a) s:=by
 have:=hd.m6
 have e:(UInt8.ofNat (97+a)).toNat=97+a:=z6V (by omega)
 refine⟨[UInt8.ofNat (97+a)],fun c hc=> ?_,?_⟩
 · rw[Zi.1 hc,e];omega
 · simp only[z4i,e,Y1]
   exact z8y _
variable {S O:List Nat} (hS:SetsP d m n S) (hO:OrdC d m n S O)
include hS hO
theorem zgB(hc:c∈O):c<(z6L d m n S).length/\z1j d m n S c<S.length/\szN (S.getD (z1j d m n S c) 0)≠1:=by
 have h:=hO.prm.mem_iff.1 hc
 unfold zaC at h
 obtain⟨h1,h2⟩:=ZL.1 h
 have h1:=Zh.1 h1
 exact⟨h1,zc9 _ _ _ (z0e h1),zxl (of_decide_eq_true h2)⟩
theorem ztc{c':Nat}(hc:c∈O)(hc':c'∈O)(h1:znV d m (S.getD (z1j d m n S c) 0) (S.getD (z1j d m n S c') 0))(h2:znV d m (S.getD (z1j d m n S c') 0) (S.getD (z1j d m n S c) 0)):c=c':=by
 obtain⟨a1,a2,_⟩:=zgB hd hS hO hc
 obtain⟨b1,b2,_⟩:=zgB hd hS hO hc'
 have he:=z8o hd hS
 refine zjT he (zb9 he _ (Z7 _)) (zc9 _ _) a2 a1 b1 (he.refl _ a2) ?_
 show z2t d m n S (z1j d m n S c) (z1j d m n S c')=true
 simp only[z2t,Z5]
 exact⟨(z3f hd hS b2).2 h1,(z3f hd hS a2).2 h2⟩
end
theorem ztD{d:DFA}{a s:Nat}{p:List Nat}(hp:∀q,q<5->p.getD q 0=((d.next.getD q []).getD a 0).toNat):∀q,q<=5->zjp d.next s a q=mvL p s q
 |0,_=>rfl
 |q+1,h=>by rw[zjp,mvL,ztD hp q (by omega),hp q (by omega)]
theorem zyO{d:DFA}{m a:Nat}(hd:DfaOk d m 5)(ha:a<m){p:List Nat}(hp:∀s,mvN d s a=mvL p s 5):∀(k s:Nat),znV d m (itL p k s) s
 |0,s=>zdQ d m s
 |k+1,s=>by
  have h:=zyN hd (s:=s) ha
  rw[hp] at h
  exact zdP hd (zyO hd ha hp k _) h
theorem zGy{d:DFA}{m:Nat}(hd:DfaOk d m 5)(hm:m<=2){R:List Nat}(hn:R.Nodup)(hR:∀x∈R,x∈z2d d m 5/\zw7 x=true)(h1:∀x∈R,∀y∈R,znV d m x y->znV d m y x->x=y):R.length<=24:=by
 have hS:=z8r hd
 have hml:∀x,x<32->zw7 x=true->x∈manL:=fun x hx h=>ZL.2 ⟨Zh.2 hx,h⟩
 have hlt:∀x∈R,x<32:=fun x hx=>hS.lt x (hR x hx).1
 by_cases hp:∃a,a<m/\mvN d 31 a=31/\ ∃q,q<5/\((d.next.getD q []).getD a 0).toNat≠q
 · obtain⟨a,ha,h31,q,hq,hne⟩:=hp
   obtain⟨p,hpd⟩:∃p,p=(List.range 5).map fun q=>((d.next.getD q []).getD a 0).toNat:=⟨_,rfl⟩
   have hpl:p.length=5:=by rw[hpd];rfl
   have hpq:∀q,q<5->p.getD q 0=((d.next.getD q []).getD a 0).toNat:=fun q hq=>by
    rw[hpd,List.getD,Zd,List.getElem?_range hq];rfl
   have hmv:∀s,mvN d s a=mvL p s 5:=fun s=>by
    unfold mvN
    rw[hd.nl]
    exact ztD hpq 5 (by omega)
   have hok:=zzG hpl fun q hq=>by
    obtain⟨_,_,e,r0,r1⟩:=zcq hd hq ha
    rw[hpq q hq,e];omega
   unfold okB at hok
   rw[←hmv,h31] at hok
   have hnid:((List.range 5).all fun q=>decide (p.getD q 0=q))=false:=by
    rw[Bool.eq_false_iff]
    intro h
    have:=z8t h hq
    rw[decide_eq_true_eq,hpq q hq] at this
    exact hne this
   rw[hnid] at hok
   simp only[decide_true,Xm,Xn,Yk,Zh,Z5,ZU,decide_eq_false_iff_not] at hok
   obtain⟨A,hA,gA,B,hB,⟨⟨⟨gB,e1⟩,e2⟩,e3⟩,e4⟩:=hok
   have pick:∀A,A<32->gdB p A=true->∃x,(x=A∨x=mvL p A 5)/\x∉R/\x∈manL:=fun A hA g=>by
    unfold gdB at g
    simp only[Z5,Yk,Zh,decide_eq_true_eq,ZU,decide_eq_false_iff_not] at g
    obtain⟨⟨⟨⟨g1,g2⟩,g3⟩,g4⟩,k,hk,g5⟩:=g
    by_cases hr:A∈R
    · refine⟨_,.inr rfl,fun h=>g4 (h1 _ h _ hr ?_ ?_),hml _ g3 g2⟩
      · rw[←hmv];exact zyN hd ha
      · have:=zyO hd ha hmv k (mvL p A 5)
        rwa [g5] at this
    · exact⟨A,.inl rfl,hr,hml A hA g1⟩
   obtain⟨x,x1,x2,x3⟩:=pick A hA gA
   obtain⟨y,y1,y2,y3⟩:=pick B hB gB
   have hxy:x≠y:=by
    rcases x1 with rfl|rfl<;>rcases y1 with rfl|rfl<;>assumption
   have:=z7u (l:=x::y::R) (r:=manL) (by simp only[YE,Zv,not_or];exact⟨⟨hxy,x2⟩,y2,hn⟩) fun z hz=>by
    simp only[Zv] at hz
    rcases hz with rfl|rfl|hz
    · exact x3
    · exact y3
    · exact hml z (hlt z hz) (hR z hz).2
   rw[zzO] at this
   simp only[Zs] at this
   omega
 · have hid:∀a,a<m->mvN d 31 a=31->∀x,x<32->mvN d x a=x:=fun a ha h x hx=>by
    have hq:∀q,q<5->((d.next.getD q []).getD a 0).toNat=q:=fun q hq=>Decidable.byContradiction fun e=>hp ⟨a,ha,h,q,hq,e⟩
    have:=z8t zC8 hx
    rw[decide_eq_true_eq] at this
    unfold mvN
    rw[hd.nl,ztD (p:= [0,1,2,3,4]) (fun q h=> ?_) 5 (by omega),this]
    rw[hq q h]
    rcases(by omega:q=0∨q=1∨q=2∨q=3∨q=4) with rfl|rfl|rfl|rfl|rfl<;>rfl
   have hU:∀a,∃u,u<31/\(a<m->mvN d 31 a≠31->u=mvN d 31 a):=fun a=>by
    by_cases h:a<m/\mvN d 31 a≠31
    · have:=zc6 hd (s:=31) h.1
      exact⟨mvN d 31 a,by have:=h.2;omega,fun _ _=>rfl⟩
    · exact⟨0,by omega,fun h1 h2=>absurd ⟨h1,h2⟩ h⟩
   obtain⟨u,u1,u2⟩:=hU 0
   obtain⟨v,v1,v2⟩:=hU 1
   have sub31:∀x,x<32->z6T x 31:=fun x hx=>by
    have:=Nat.and_two_pow_sub_one_eq_mod x 5
    unfold z6T
    rw[show(31:Nat)=2^5-1 from rfl,this,X2 hx]
   have hP:=zwy hd (P:=fun x=>x=31∨(∃q,q<5/\x=2^q)∨x&&&u=x∨x&&&v=x) (.inl rfl) (fun q hq=>.inr (.inl ⟨q,hq,rfl⟩)) fun x a hx ha h=>by
    by_cases h31:mvN d 31 a=31
    · rw[hid a ha h31 x hx];exact h
    · have hs:=zng hd ha (sub31 x hx)
      unfold z6T at hs
      rcases(by omega:a=0∨a=1) with rfl|rfl
      · rw[u2 ha h31];exact .inr (.inr (.inl hs))
      · rw[v2 ha h31];exact .inr (.inr (.inr hs))
   have:=z7u (l:=R) (r:=manL.filter fun x=>decide (x=31)||decide (x&&&u=x)||decide (x&&&v=x)) hn fun x hx=>by
    obtain⟨r1,r2⟩:=hR x hx
    refine ZL.2 ⟨hml x (hlt x hx) r2,?_⟩
    rcases hP x r1 with h|⟨q,hq,rfl⟩|h|h
    · simp[h]
    · have:=z8t zzF hq
      rw[r2] at this
      simp at this
    · simp[h]
    · simp[h]
   have h24:=z8t (z8t zz0 u1) v1
   rw[decide_eq_true_eq] at h24
   omega
theorem zzz{d:DFA}{m n:Nat}(hd:DfaOk d m n)(hn:n<=5)(hm:m<=2){O:List Nat}(hO:OrdC d m n (z2d d m n) O):O.length<=24:=by
 have hS:=z8r hd
 have hOn:O.Nodup:=hO.prm.nodup_iff.2 (YG.filter _)
 obtain⟨R,hRd⟩:∃R,R=O.map fun c=>(z2d d m n).getD (z1j d m n (z2d d m n) c) 0:=⟨_,rfl⟩
 have hl:R.length=O.length:=by rw[hRd,Z8]
 have hR:∀x∈R,x∈z2d d m n/\zw7 x=true:=fun x hx=>by
  rw[hRd] at hx
  obtain⟨c,hc,rfl⟩:=Zj.1 hx
  obtain⟨_,f2,f3⟩:=zgB hd hS hO hc
  have:=z0e f2
  exact⟨this,by unfold zw7;rw[decide_eq_true f3,decide_eq_true (zbB hd this)];rfl⟩
 have hRn:R.Nodup:=by
  rw[hRd]
  exact z4K hOn fun x hx y hy e=>ztc hd hS hO hx hy (by rw[e];exact zdQ ..) (by rw[e];exact zdQ ..)
 rw[←hl]
 by_cases h5:n=5
 · subst h5
   refine zGy hd hm hRn hR fun x hx y hy h1 h2=> ?_
   rw[hRd] at hx hy
   obtain⟨c,hc,rfl⟩:=Zj.1 hx
   obtain⟨c',hc',rfl⟩:=Zj.1 hy
   rw[ztc hd hS hO hc hc' h1 h2]
 · have:=z7u (r:=(List.range (2^n)).filter zw7) hRn fun x hx=>ZL.2 ⟨Zh.2 (hS.lt x (hR x hx).1),(hR x hx).2⟩
   have h4:=z8t zGo (show n<5 by omega)
   rw[decide_eq_true_eq] at h4
   omega
end
section
open Go
variable{U:List Nat}
theorem zlJ{α:Type}[DecidableEq α]:∀ {l p:List α},l.Nodup->(∀a∈l,a∈p)->l.length<=p.length
 | [],_,_,_=>Y6 _
 |a::l,p,h,hs=>by
  rw[YE] at h
  have ha:=hs a (by simp)
  have:=zlJ (p:=p.erase a) h.2 fun b hb=>(List.mem_erase_of_ne (by rintro rfl;exact h.1 hb)).2 (hs b (Zp _ hb))
  have hl:=List.length_erase_of_mem ha
  have:=YS ha
  simp only[Zs]
  omega
def zwc(U:List Nat):Nat->Nat->List (List Nat)
 |0,_=> [[]]
 |f+1,x=> []::(U.filter fun y=>decide (y&&&x=y)&& !decide (y=x)).flatMap fun y=>(zwc U f y).map (y:: ·)
def zDq(U:List Nat):Nat->List Nat->Prop
 |_,[]=>True
 |x,y::l=>y∈U/\y&&&x=y/\y≠x/\zDq U y l
theorem zvt{U:List Nat}:∀ {f x:Nat} {l:List Nat},zDq U x l->l.length<=f->l∈zwc U f x
 |0,x,[],_,_=>by simp[zwc]
 |0,x,y::l,_,h=>by simp at h
 |f+1,x,[],_,_=>by simp[zwc]
 |f+1,x,y::l,h,hl=>by
  obtain⟨h1,h2,h3,h4⟩:=h
  simp only[zwc,Zv,List.mem_flatMap,ZL,Zj]
  refine .inr ⟨y,⟨h1,by simp[h2,h3]⟩,l,zvt h4 (by simpa using hl),rfl⟩
theorem zmk{U V:List Nat}(hU:∀x∈U,x∈V):∀ {x:Nat} {l:List Nat},zDq U x l->zDq V x l
 |_,[],_=>trivial
 |_,_::_,⟨h1,h2,h3,h4⟩=>⟨hU _ h1,h2,h3,zmk hU h4⟩
theorem zoO{f:Nat->Nat}:∀ {X Y:List Nat},(∀a b,a∈X->b∈Y->f a=f b->a=b)->X.map f=Y.map f->X=Y
 | [],[],_,_=>rfl
 | [],_::_,_,h=>by simp at h
 |_::_,[],_,h=>by simp at h
 |x::X,y::Y,hf,h=>by
  simp only[Zq,XM] at h
  rw[hf x y (by simp) (by simp) h.1,zoO (fun a b ha hb=>hf a b (Zp _ ha) (Zp _ hb)) h.2]
theorem zhG{y:Nat->List Nat}{P:List Nat->Prop}(hB:∀l:List (List Nat),l.Nodup->(∀t∈l,P t)->l.length<2000):∀(k a:Nat) (T:List (List Nat)),(∀b,a<=b->b<a+k->P (y b))->(∀t∈T,P t)->T.Nodup->∃T',zmC y k a T=some T'/\(∀t∈T',P t)/\T'.Nodup
 |0,a,T,_,hP,hn=>⟨T,rfl,hP,hn⟩
 |k+1,a,T,hy,hP,hn=>by
  simp only[zmC]
  by_cases h:y a∈T
  · rw[if_pos h]
    exact zhG hB k (a+1) T (fun b h1 h2=>hy b (by omega) (by omega)) hP hn
  · have:=hB T hn hP
    rw[if_neg h,if_neg (by omega)]
    refine zhG hB k (a+1) _ (fun b h1 h2=>hy b (by omega) (by omega)) (fun t ht=> ?_) (Ys.2 ⟨hn,by simp,fun u hu v hv=>by rw[Zi] at hv;subst hv;rintro rfl;exact h hu⟩)
    rcases Zf.1 ht with ht|ht
    · exact hP t ht
    · rw[Zi.1 ht];exact hy a (by omega) (by omega)
theorem zmv{st:Nat->List Nat->List Nat}{m:Nat}{P:List Nat->Prop}(hst:∀a x,a<m->P x->P (st a x))(hB:∀l:List (List Nat),l.Nodup->(∀t∈l,P t)->l.length<2000):∀(f i:Nat) (T:List (List Nat)),(∀t∈T,P t)->T.Nodup->∃T',zkh st m f i T=some T'
 |0,i,T,_,_=>⟨T,rfl⟩
 |f+1,i,T,hP,hn=>by
  simp only[zkh]
  by_cases h:i<T.length
  · rw[if_pos h]
    have hx:P (T.getD i []):=hP _ (by rw[List.getD,Z1 h];exact Zk h)
    obtain⟨T',e,h1,h2⟩:=zhG hB m 0 T (y:=fun a=>st a (T.getD i [])) (fun b _ hb=>hst b _ (by omega) hx) hP hn
    rw[e,Z0]
    exact zmv hst hB f (i+1) T' h1 h2
  · rw[if_neg h];exact⟨T,rfl⟩
def zy2(d:DFA)(m n:Nat)(S O:List Nat):Nat->Nat->List Nat->Prop
 |_,_,[]=>True
 |c,i,s::x=>(cpN d m n S O i≠c->s=0)/\zy2 d m n S O (c+1) (dnN d m n S O c i s) x
theorem zyp{d:DFA}{m n:Nat}{S O:List Nat}(a:Nat):∀(x:List Nat) (c o i:Nat),zy2 d m n S O c i ((stN d m n S O a c o i x).map (·.1))
 | [],_,_,_=>trivial
 |s::x,c,o,i=>by
  simp only[stN,Zq,zy2]
  refine⟨fun h=> ?_,zyp a x _ _ _⟩
  unfold zcx
  rw[if_neg h]
  simp only[List.getD,XF]
  split<;>rfl
theorem zyr{d:DFA}{m n:Nat}{S O:List Nat}(q:Nat):∀(k c i:Nat),zy2 d m n S O c i (srN d m n S O q k c i)
 |0,_,_=>trivial
 |k+1,c,i=>by
  simp only[srN,zy2]
  exact⟨fun h=>if_neg h,zyr q k _ _⟩
theorem zpy(d:DFA)(m n:Nat)(S O:List Nat):∀(y:List Nat) (c i:Nat),(zaF d m n S O c i y).length<=y.length
 | [],_,_=>by simp[zaF]
 |s::y,c,i=>by
  have:=zpy d m n S O y (c+1) (dnN d m n S O c i s)
  simp only[zaF,Zb,Zs]
  split<;>simp<;>omega
section
variable {d:DFA} {m n:Nat} {S O:List Nat} (hd:DfaOk d m n) (hn:n<=7) (hS:SetsP d m n S) (hH:zhR d m n S) (hO:OrdC d m n S O) (hpos:∀x∈S,x≠0)
include hd hn hS hH hO hpos
theorem zvH:∀(y:List Nat) (c i:Nat),i<S.length->c<=cpN d m n S O i->c+y.length<=O.length->(∀j,j<y.length->y.getD j 0<szO d m n S O (c+j))->∀k∈zaF d m n S O c i y,k<S.length
 | [],c,i,_,_,_,_,k,hk=>by simp[zaF] at hk
 |s::y,c,i,hi,hc,hl,hx,k,hk=>by
  simp only[Zs] at hl
  have hcO:c<O.length:=by omega
  have hs:s<szO d m n S O c:=by simpa using hx 0 (by simp)
  obtain⟨i1,i2⟩:=zfi hd hn hS hH hO hpos hcO hi hc hs
  simp only[zaF] at hk
  rcases Zf.1 hk with hk|hk
  · split at hk
    · rw[Zi.1 hk];exact i1
    · simp at hk
  · exact zvH y (c+1) _ i1 i2 (by omega) (fun j hj=>by have:=hx (j+1) (by simp;omega);simp only[Yf] at this;rwa [show c+1+j=c+(j+1) by omega]) k hk
theorem zsy:∀(x y:List Nat) (c i:Nat),x.length=y.length->i<S.length->c<=cpN d m n S O i->c+x.length<=O.length->(∀j,j<x.length->x.getD j 0<szO d m n S O (c+j))->(∀j,j<y.length->y.getD j 0<szO d m n S O (c+j))->
 zy2 d m n S O c i x->zy2 d m n S O c i y->zaF d m n S O c i x=zaF d m n S O c i y->x=y
 | [],[],_,_,_,_,_,_,_,_,_,_,_=>rfl
 | [],t::y,_,_,h,_,_,_,_,_,_,_,_=>by simp at h
 |s::x,[],_,_,h,_,_,_,_,_,_,_,_=>by simp at h
 |s::x,t::y,c,i,hl,hi,hc,hcl,hx,hy,h1,h2,he=>by
  simp only[Zs] at hl hcl
  have hcO:c<O.length:=by omega
  have hs:s<szO d m n S O c:=by simpa using hx 0 (by simp)
  have ht:t<szO d m n S O c:=by simpa using hy 0 (by simp)
  obtain⟨a1,a2⟩:=h1
  obtain⟨b1,b2⟩:=h2
  have hst:s=t:=by
   by_cases e:cpN d m n S O i=c
   · simp only[zaF,if_pos e,XN,XM] at he
     have hz:=zen hd hn hS hH hO hi (by omega)
     rw[e] at hz
     have he1:=he.1
     unfold dnN at he1
     rw[if_pos e,if_pos e] at he1
     exact z5I (zgj hd hn hS hi) (by omega) (by omega) he1
   · rw[a1 e,b1 e]
  subst hst
  obtain⟨i1,i2⟩:=zfi hd hn hS hH hO hpos hcO hi hc hs
  have he2:zaF d m n S O (c+1) (dnN d m n S O c i s) x=zaF d m n S O (c+1) (dnN d m n S O c i s) y:=by
   simp only[zaF] at he
   exact YP he
  have sh:∀z:List Nat,(∀j,j<(s::z).length->(s::z).getD j 0<szO d m n S O (c+j))->∀j,j<z.length->z.getD j 0<szO d m n S O (c+1+j):=fun z hz j hj=>by
   have:=hz (j+1) (by simp;omega)
   simp only[Yf] at this
   rwa [show c+1+j=c+(j+1) by omega]
  rw[zsy x y (c+1) _ (by omega) i1 i2 (by omega) (sh x hx) (sh y hy) a2 b2 he2]
theorem zvI:∀(x:List Nat) (c i:Nat),i<S.length->c<=cpN d m n S O i->c+x.length<=O.length->(∀j,j<x.length->x.getD j 0<szO d m n S O (c+j))->zDq S (S.getD i 0) ((zaF d m n S O c i x).map fun k=>S.getD k 0)
 | [],_,_,_,_,_,_=>trivial
 |s::x,c,i,hi,hc,hcl,hx=>by
  simp only[Zs] at hcl
  have hcO:c<O.length:=by omega
  have hs:s<szO d m n S O c:=by simpa using hx 0 (by simp)
  obtain⟨i1,i2⟩:=zfi hd hn hS hH hO hpos hcO hi hc hs
  have ih:=zvI x (c+1) _ i1 i2 (by omega) (fun j hj=>by
   have:=hx (j+1) (by simp;omega)
   simp only[Yf] at this
   rwa [show c+1+j=c+(j+1) by omega])
  by_cases e:cpN d m n S O i=c
  · have hz:=zen hd hn hS hH hO hi (by omega)
    rw[e] at hz
    have hd1:dnN d m n S O c i s=(tlR d m n S i).getD s 0:=by unfold dnN;rw[if_pos e]
    have ht:=(zeY hd hn hS hi (s:=s) (by omega)).1
    obtain⟨t1,t2,t3⟩:=z4a.1 (z5a ht).1
    simp only[zaF,if_pos e,XN,Zq]
    refine⟨z0e i1,?_,fun h=> ?_,ih⟩
    · rw[hd1];exact t3
    · rw[hd1] at h;exact t2 (z5I hS.nd t1 hi h)
  · have hd1:dnN d m n S O c i s=i:=by unfold dnN;rw[if_neg e]
    simp only[zaF,if_neg e,Ya]
    rw[hd1] at ih⊢
    exact ih
theorem zpX(h0:0<S.length)(h24:O.length<=24){N:Nat}(hU:∀x∈S,x∈U)(hN:(zwc U 24 (S.getD 0 0)).length<=N){l:List (List Nat)}(hl:l.Nodup)(hT:∀t∈l,zeV d m n S O t/\zy2 d m n S O 0 0 t):l.length<=N:=by
 have h1:(l.map fun x=>(zaF d m n S O 0 0 x).map fun k=>S.getD k 0).Nodup:=by
  refine z4K hl fun x hx y hy e=> ?_
  obtain⟨⟨x1,x2⟩,x3⟩:=hT x hx
  obtain⟨⟨y1,y2⟩,y3⟩:=hT y hy
  have hx2:∀j,j<x.length->x.getD j 0<szO d m n S O (0+j):=fun j hj=>by rw[Zt];exact x2 j (by omega)
  have hy2:∀j,j<y.length->y.getD j 0<szO d m n S O (0+j):=fun j hj=>by rw[Zt];exact y2 j (by omega)
  refine zsy hd hn hS hH hO hpos x y 0 0 (by omega) h0 (Y6 _) (by omega) hx2 hy2 x3 y3 ?_
  have lt:∀z:List Nat,z.length=O.length->(∀j,j<z.length->z.getD j 0<szO d m n S O (0+j))->∀k∈zaF d m n S O 0 0 z,k<S.length:=fun z hz h=>zvH hd hn hS hH hO hpos z 0 0 h0 (Y6 _) (by omega) h
  have lx:=lt x x1 hx2
  have ly:=lt y y1 hy2
  generalize zaF d m n S O 0 0 x=X at e lx
  generalize zaF d m n S O 0 0 y=Y at e ly
  exact zoO (fun a b ha hb e=>z5I hS.nd (lx a ha) (ly b hb) e) e
 have h2:=zlJ (p:=zwc U 24 (S.getD 0 0)) h1 fun z hz=>by
  obtain⟨x,hx,rfl⟩:=Zj.1 hz
  obtain⟨⟨x1,x2⟩,x3⟩:=hT x hx
  refine zvt (zmk hU (zvI hd hn hS hH hO hpos x 0 0 h0 (Y6 _) (by omega) fun j hj=>by rw[Zt];exact x2 j (by omega))) ?_
  rw[Z8]
  have:=zpy d m n S O x 0 0
  omega
 rw[Z8] at h2
 omega
theorem zpJ(h0:0<S.length)(h24:O.length<=24)(hU:∀x∈S,x∈U)(hN:(zwc U 24 (S.getD 0 0)).length<2000):∃T,zkh (z5n d m n S O) m 2001 0 [z2W d m n S O]=some T:=by
 refine zmv (P:=fun t=>zeV d m n S O t/\zy2 d m n S O 0 0 t) (fun a x _ h=>⟨(zan hd hn hS hH hO hpos h.1 h0).1,zyp a x 0 0 0⟩) (fun l hl hT=> ?_) 2001 0 _ (fun t ht=> ?_) (by simp)
 · exact YR (zpX hd hn hS hH hO hpos h0 h24 hU (Z7 _) hl hT) hN
 · rw[Zi.1 ht]
   exact⟨zao hd hn hS hH hO hpos h0,zyr _ _ _ _⟩
end
theorem zAp:((List.range 6).all fun n=>decide ((zwc ((List.range (2^n)).filter fun x=> !decide (x=0)) 24 (2^n-1)).length<2000))=true:=by kernel_rfl
end
section
open Go
theorem zGz(l s:Int)(f:List Bool):decide ((zwc (z2d ⟨l,s,f,defT⟩ 2 7) 24 127).length<2000)=true:=by kernel_rfl
theorem zAn{d:DFA}{m n:Nat}(hd:DfaOk d m n)(hm:m<=2)(hs:n<=5∨(n=7/\m=2/\d.next=defT)):∃O c,OrdC d m n (z2d d m n) O/\O.length<=24/\(z2d d m n).length<=32/\z6l d=some (O.map (z9g d m n (z2d d m n)),0)/\z5B d=some (c,0)/\
 CovOk d m n (z2d d m n) O (zmz d m n (z2d d m n) O) (O.map (z9g d m n (z2d d m n))) c:=by
 have hn:n<=7:=by omega
 have hS:=z8r hd
 have hH:=zdA hd hn
 have hpos:∀x∈z2d d m n,x≠0:=fun x hx=>zbB hd hx
 obtain⟨h0,hfull⟩:=zbQ hd hn
 have h32:(z2d d m n).length<=32:=by
  rcases hs with h|⟨rfl,rfl,h⟩
  · exact zlk hd h
  · obtain⟨l,s,f,nx⟩:=d
    simp only at h
    subst h
    rw[zEE];omega
 obtain⟨O,hO,_,hG,r,r1,r2⟩:=zCj hd hn hs h32
 have h24:O.length<=24:=by
  rcases hs with h|⟨rfl,rfl,h⟩
  · exact zzz hd h hm hO
  · have:=zeA hd hn hS hH hO
    obtain⟨l,s,f,nx⟩:=d
    simp only at h
    subst h
    rw[zEE] at this;omega
 have hb:∃T,zkh (z5n d m n (z2d d m n) O) m 2001 0 [z2W d m n (z2d d m n) O]=some T:=by
  rcases hs with h|⟨rfl,rfl,h⟩
  · have hN:=z8t zAp (show n<6 by omega)
    rw[decide_eq_true_eq,←hfull] at hN
    exact zpJ hd hn hS hH hO hpos h0 h24 (fun x hx=>ZL.2 ⟨Zh.2 (hS.lt x hx),by simp[hpos x hx]⟩) hN
  · refine zpJ hd hn hS hH hO hpos h0 h24 (fun x hx=>hx) ?_
    rw[hfull]
    obtain⟨l,s,f,nx⟩:=d
    simp only at h
    subst h
    exact of_decide_eq_true (zGz l s f)
 obtain⟨T,hT⟩:=hb
 rcases r2 with⟨h,_⟩|⟨_,⟨h,_⟩|⟨h,hc⟩⟩
 · omega
 · rw[hT] at h;cases h
 · obtain⟨c,e⟩:=r
   simp only at h
   subst h
   exact⟨O,c,hO,h24,h32,hG,r1,hc⟩
theorem zAC{t:Tape}(ht:TapeOk t)(m most:Nat)(hm:1<=m/\m<=2)(hk:1<=most/\most<=5):∃d t' n,z6B t m most=some (d,t')/\DfaOk d m n/\n<=7/\TapeOk t'/\(z2d d m n).length<=32/\(n<=5∨(n=7/\m=2/\d.next=defT)):=by
 unfold z6B
 obtain⟨v,t1,e1,v0,v1,ht1⟩:=z7q ht 6 (by omega) (by omega)
 simp only[e1,Z0]
 split
 · obtain⟨d,t',n,e,h1,h2,h3⟩:=zqT ht1 m most (by omega) (by omega)
   exact⟨d,t',n,by rw[e,Z0],h1,by omega,h3,zlk h1 (by omega),.inl (by omega)⟩
 · split
   · have:(if(4:Int)<(most:Int) then(4:Int) else(most:Int))=((min most 4:Nat):Int):=by split<;>omega
     rw[this]
     obtain⟨d,t',n,e,h1,h2,h3⟩:=zwQ ht1 m (min most 4) (by omega) (by omega)
     exact⟨d,t',n,by rw[e,Z0],h1,by omega,h3,zlk h1 (by omega),.inl (by omega)⟩
   · split
     · obtain⟨d,t',n,e,h1,h2,h3,h4⟩:=zmj ht1 m hm
       refine⟨d,t',n,by rw[e,Z0],h1,h2,h3,?_,h4.imp (fun h=>by omega) id⟩
       rcases h4 with h4|⟨rfl,rfl,h4⟩
       · exact zlk h1 (by omega)
       · obtain⟨l,s,f,nx⟩:=d
         simp only at h4
         subst h4
         rw[zEE];omega
     · obtain⟨d,t',n,e,h1,h2,h3⟩:=zyI ht1 m most (by omega) (by omega)
       exact⟨d,t',n,by rw[e,Z0],h1,by omega,h3,zlk h1 (by omega),.inl (by omega)⟩
end
end Go.Proofs.YtiobkcdgggbljaaGreatDoor
