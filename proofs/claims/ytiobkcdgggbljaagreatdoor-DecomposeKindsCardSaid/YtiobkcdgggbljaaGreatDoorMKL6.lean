/- Proved here: the law DecomposeKinds returns true for every input, and its arguments read afterwards as before; the row's listed tables are tied to the program's text by the given tie. No other condition. -/
import Derived.Test.YtiobkcdgggbljaaGreatDoorMKL5
import Derived.ChangeOld
import Derived.ChangeReads
import Derived.Below
import Derived.ChangeSlices
import Derived.Deep.Grids
import Derived.WideShapes
import Derived.WalkKit
import Derived.ProofKit
import Derived.Shelf.SlSortCmp.NoneTotal
import Derived.StillTailTactics
import Derived.Maps.RangeRun
import Derived.Test.YtiobkcdgggbljaaGreatDoorRows
import Derived.OpenShut
import Derived.LaidMore
import Derived.LaidSub
import Derived.Lay
import Derived.ShutString
import Derived.Deep.DeepHandedRow
set_option linter.unusedVariables false
set_option linter.unusedSimpArgs false
set_option linter.unusedSectionVars false
namespace Go.Proofs.YtiobkcdgggbljaaGreatDoor
section
open Go
set_option maxRecDepth 100000
def exD:DFA:=⟨1,0,[true,false,false],[[1],[2],[0]]⟩
def exX:Imgs:=⟨[7,1,2,4],[0,1,1,1],[1,0,0,0],[[1,2,3],[],[],[]],[ByteArray.empty,ByteArray.empty,⟨#[97]⟩,⟨#[97,97]⟩],[ByteArray.empty,ByteArray.empty,⟨#[97,97]⟩,⟨#[97]⟩]⟩
def exF:Frm:=⟨exD,exX,[0,-1,-1,-1],[3],[[1,2,3],[],[],[]],[[0],[2],[3],[1]]⟩
theorem zzZ:zeX exF [[0],[1],[2]]=some [⟨[],[[1,2,0]]⟩]:=by kernel_rfl
def zBR:T:=.pr [.sc (.int .i64 1),.sc (.int .i64 0),.sl 3 [.sc (.bool true),.sc (.bool false),.sc (.bool false)],.sl 3 [.sl 1 [.sc (.int .i64 1)],.sl 1 [.sc (.int .i64 2)],.sl 1 [.sc (.int .i64 0)]],.sl 4 [.sc (.int .i64 7),.sc (.int .i64 1),.sc (.int .i64 2),.sc (.int .i64 4)],.sl 4 [.sc (.int .i64 0),.sc (.int .i64 1),.sc (.int .i64 1),.sc (.int .i64 1)],.sl 4 [.sc (.int .i64 1),.sc (.int .i64 0),.sc (.int .i64 0),.sc (.int .i64 0)],.sl 4 [.sl 3 [.sc (.int .i64 1),.sc (.int .i64 2),.sc (.int .i64 3)],.sl 0 [],.sl 0 [],.sl 0 []],.sl 4 [.sc (.string ByteArray.empty),.sc (.string ByteArray.empty),.sc (.string ⟨#[97]⟩),.sc (.string ⟨#[97,97]⟩)],.sl 4 [.sc (.string ByteArray.empty),.sc (.string ByteArray.empty),.sc (.string ⟨#[97,97]⟩),.sc (.string ⟨#[97]⟩)],.sl 4 [.sc (.int .i64 0),.sc (.int .i64 (-1)),.sc (.int .i64 (-1)),.sc (.int .i64 (-1))],.sl 1 [.sc (.int .i64 3)],.sl 4 [.sl 3 [.sc (.int .i64 1),.sc (.int .i64 2),.sc (.int .i64 3)],.sl 0 [],.sl 0 [],.sl 0 []],.sl 4 [.sl 1 [.sc (.int .i64 0)],.sl 1 [.sc (.int .i64 2)],.sl 1 [.sc (.int .i64 3)],.sl 1 [.sc (.int .i64 1)]]]
def zBP:T:=.sl 3 [.sl 1 [.sc (.int .i64 0)],.sl 1 [.sc (.int .i64 1)],.sl 1 [.sc (.int .i64 2)]]
def zBQ:T:=.sl 1 [.sl 0 [],.sl 1 [.sl 3 [.sc (.int .i64 1),.sc (.int .i64 2),.sc (.int .i64 0)]]]
theorem e50:L 50 [zBR,zBP]=some (zBQ,[.dead,.dead]):=(vRowsC_okI (a0:=exF) (a1:= [[0],[1],[2]])).ok _ zzZ
instance:XMo xt:=inferInstanceAs (XMo xtF)
theorem so0:L 237 [.os 1 3 [.sc (.int .i64 0),.sc (.int .i64 1),.sc (.int .i64 2)]]=some (.tup [],[.os 1 3 [.sc (.int .i64 0),.sc (.int .i64 1),.sc (.int .i64 2)]]):=z8x (a0:= [0,1,2]) (r:= [0,1,2]) (by
 unfold z9Z
 rw[if_pos ⟨by simp,by simp⟩]
 simp[List.mergeSort,List.MergeSort.Internal.splitInTwo,List.splitAt,List.splitAt.go,List.merge])
theorem so1:L 237 [.os 1 3 [.sc (.int .i64 0),.sc (.int .i64 2),.sc (.int .i64 1)]]=some (.tup [],[.os 1 3 [.sc (.int .i64 0),.sc (.int .i64 1),.sc (.int .i64 2)]]):=z8x (a0:= [0,2,1]) (r:= [0,1,2]) (by
 unfold z9Z
 rw[if_pos ⟨by simp,by simp⟩]
 simp[List.mergeSort,List.MergeSort.Internal.splitInTwo,List.splitAt,List.splitAt.go,List.merge])
theorem so2:L 237 [.os 1 3 [.sc (.int .i64 1),.sc (.int .i64 0),.sc (.int .i64 2)]]=some (.tup [],[.os 1 3 [.sc (.int .i64 0),.sc (.int .i64 1),.sc (.int .i64 2)]]):=z8x (a0:= [1,0,2]) (r:= [0,1,2]) (by
 unfold z9Z
 rw[if_pos ⟨by simp,by simp⟩]
 simp[List.mergeSort,List.MergeSort.Internal.splitInTwo,List.splitAt,List.splitAt.go,List.merge])
theorem so3:L 237 [.os 1 3 [.sc (.int .i64 1),.sc (.int .i64 2),.sc (.int .i64 0)]]=some (.tup [],[.os 1 3 [.sc (.int .i64 0),.sc (.int .i64 1),.sc (.int .i64 2)]]):=z8x (a0:= [1,2,0]) (r:= [0,1,2]) (by
 unfold z9Z
 rw[if_pos ⟨by simp,by simp⟩]
 simp[List.mergeSort,List.MergeSort.Internal.splitInTwo,List.splitAt,List.splitAt.go,List.merge])
theorem so4:L 237 [.os 1 3 [.sc (.int .i64 2),.sc (.int .i64 0),.sc (.int .i64 1)]]=some (.tup [],[.os 1 3 [.sc (.int .i64 0),.sc (.int .i64 1),.sc (.int .i64 2)]]):=z8x (a0:= [2,0,1]) (r:= [0,1,2]) (by
 unfold z9Z
 rw[if_pos ⟨by simp,by simp⟩]
 simp[List.mergeSort,List.MergeSort.Internal.splitInTwo,List.splitAt,List.splitAt.go,List.merge])
theorem so5:L 237 [.os 1 3 [.sc (.int .i64 2),.sc (.int .i64 1),.sc (.int .i64 0)]]=some (.tup [],[.os 1 3 [.sc (.int .i64 0),.sc (.int .i64 1),.sc (.int .i64 2)]]):=z8x (a0:= [2,1,0]) (r:= [0,1,2]) (by
 unfold z9Z
 rw[if_pos ⟨by simp,by simp⟩]
 simp[List.mergeSort,List.MergeSort.Internal.splitInTwo,List.splitAt,List.splitAt.go,List.merge])
def zvF:List (FuncId×List T×T×List T):= [(50,[zBR,zBP],zBQ,[.dead,.dead]),(237,[.os 1 3 [.sc (.int .i64 0),.sc (.int .i64 1),.sc (.int .i64 2)]],.tup [],[.os 1 3 [.sc (.int .i64 0),.sc (.int .i64 1),.sc (.int .i64 2)]]),(237,[.os 1 3 [.sc (.int .i64 0),.sc (.int .i64 2),.sc (.int .i64 1)]],.tup [],[.os 1 3 [.sc (.int .i64 0),.sc (.int .i64 1),.sc (.int .i64 2)]]),(237,[.os 1 3 [.sc (.int .i64 1),.sc (.int .i64 0),.sc (.int .i64 2)]],.tup [],[.os 1 3 [.sc (.int .i64 0),.sc (.int .i64 1),.sc (.int .i64 2)]]),(237,[.os 1 3 [.sc (.int .i64 1),.sc (.int .i64 2),.sc (.int .i64 0)]],.tup [],[.os 1 3 [.sc (.int .i64 0),.sc (.int .i64 1),.sc (.int .i64 2)]]),(237,[.os 1 3 [.sc (.int .i64 2),.sc (.int .i64 0),.sc (.int .i64 1)]],.tup [],[.os 1 3 [.sc (.int .i64 0),.sc (.int .i64 1),.sc (.int .i64 2)]]),(237,[.os 1 3 [.sc (.int .i64 2),.sc (.int .i64 1),.sc (.int .i64 0)]],.tup [],[.os 1 3 [.sc (.int .i64 0),.sc (.int .i64 1),.sc (.int .i64 2)]])]
theorem zvE:∀x∈zvF,L x.1 x.2.1=some x.2.2:=by
 simp only[zvF,XS]
 exact⟨e50,so0,so1,so2,so3,so4,so5,fun x h=>by cases h⟩
theorem cKl:zkP Tryz.prog xt zlh (tab zvF) 24 18 []=some (.sc (.bool true),[]):=by kernel_rfl
theorem cK:L 18 []=some (.sc (.bool true),[]):=zxP zvF 24 cKl zvE
def zn2:Option Bool:=some true
instance:Ok zn2 (fun r=>L 18 []=some (.sc (.bool r),[])):=⟨fun r h=>by cases h;exact cK⟩
end
section
open Go Go.IntKind
noncomputable section
set_option maxRecDepth 100000
set_option maxHeartbeats 6000000
abbrev z3C(v30:Int)(v33:List Int):Int->Option (Int⊕Bool)
 |w35=>
 if w35<(v33.length:Int) then
 (atI v33 w35).bind fun x=>
 if x<1 then
 z0f<|
 some false
 else
 if 3<x then
 z0f<|
 some false
 else
 if v30=1 then none else if v30=2 then none else z0d (i64.wrap (w35+1))
 else
 z0f<|
 (zn2).bind fun v38=>
 some v38
variable{v30:Int}
instance{v33:List Int}:Hd (z3C v30 v33):=⟨fun w35=>([(54,xI w35)],[])⟩
abbrev z3l(v30:Int)(v41:List Int):Int->Option (Int⊕Bool)
 |w43=>
 if w43<(v41.length:Int) then
 (atI v41 w43).bind fun x=>
 if x<1 then
 z0f<|
 some false
 else
 if 3<x then
 z0f<|
 some false
 else
 if v30=1 then if x=1 then if v30=2 then none else z0d (i64.wrap (w43+1)) else z0f (some false) else none
 else
 z0f<|
 (zn2).bind fun v46=>
 some v46
instance{v41:List Int}:Hd (z3l v30 v41):=⟨fun w43=>([(54,xI w43)],[])⟩
abbrev z3k(v30:Int)(v49:List Int):Int->Option (Int⊕Bool)
 |w51=>
 if w51<(v49.length:Int) then
 (atI v49 w51).bind fun x=>
 if x<1 then
 z0f<|
 some false
 else
 if 3<x then
 z0f<|
 some false
 else
 if v30=1 then none else if v30=2 then if x=3 then z0f (some false) else z0d (i64.wrap (w51+1)) else z0d (i64.wrap (w51+1))
 else
 z0f<|
 (zn2).bind fun v54=>
 some v54
instance{v49:List Int}:Hd (z3k v30 v49):=⟨fun w51=>([(54,xI w51)],[])⟩
def z6h(a0:List Int)(a1:Int):Option (Bool):=
 (zcJ a0).bind fun v28=>
 (z4S v28).bind fun v29=>
 (zb7 a1 3).bind fun v30=>
 if v30=0 then
 (z5e v29.2 v29.1 5).bind fun v31=>
 (z4C v31.1).bind fun v32=>
 (z3u v32.1.casc).bind fun v33=>
 if v32.2=0 then
 if(v33.length:Int)=(v32.1.casc.sizes.length:Int) then
 z0h (z3C v30 v33) LFm 0
 else
 some false
 else
 some false
 else
 if v30=1 then
 (z2q v29.2 v29.1 5).bind fun v39=>
 (z4C v39.1).bind fun v40=>
 (z3u v40.1.casc).bind fun v41=>
 if v40.2=0 then
 if(v41.length:Int)=(v40.1.casc.sizes.length:Int) then
 z0h (z3l v30 v41) LFm 0
 else
 some false
 else
 some false
 else
 (z4b v29.2 v29.1 5).bind fun v47=>
 (z4C v47.1).bind fun v48=>
 (z3u v48.1.casc).bind fun v49=>
 if v48.2=0 then
 if(v49.length:Int)=(v48.1.casc.sizes.length:Int) then
 z0h (z3k v30 v49) LFm 0
 else
 some false
 else
 some false
theorem z9U{a0:List Int}{a1:Int}{r:Bool}(h:z6h a0 a1=some r):L 7 [(tI a0),.sc (.int .i64 a1)]=some (.sc (.bool r),[.dead,.dead]):=by
 have h:=z4s h;unfold z6h at h;exact z5l rfl Tryz.func7 (bdy Tryz.f7 rfl)
end
end
section
open Go
set_option maxRecDepth 100000
theorem zdK{K:List Int}{b:Int->Option (Int⊕Bool)}(hl:K.length<=24)(st:∀k,k<K.length->b (k:Int)=z0d (IntKind.i64.wrap ((k:Int)+1)))(e:b (K.length:Int)=z0f (some true)):z0h b LFm 0=some true:=by
 refine z0q (s:=(0:Int)) K.length (fun k=>(k:Int)) rfl (by simp only[LFm];omega) (fun k hk=> ?_) e
 rw[st k hk,z0V (by omega)]
theorem zzO(l:List Int)(w0:l.length<=maxLen)(z0:∀x∈l,(Lit.int .i64 x).wf=true)(k:Int)(z1:(Lit.int .i64 k).wf=true):∃outs,L 7 [.sl l.length (l.map fun x=>.sc (.int .i64 x)),.sc (.int .i64 k)]=some (bT true,outs):=by
 obtain⟨t0,e0,h0⟩:=zzy l
 obtain⟨m,t1,e1,m1,m2,h1⟩:=zq0 h0
 obtain⟨v,e2,v0,v1⟩:=zg4 k 3 (by omega) (by omega)
 refine⟨_,z9U (r:=true) ?_⟩
 unfold z6h
 rw[e0,Z0,e1,Z0,e2,Z0]
 simp only
 by_cases hv:v=0
 · obtain⟨d,t2,n,e3,hd,hn,_⟩:=zwH h1 m 5 (by omega) (by omega)
   have e3':z5e t1 (m:Int) 5=some (d,t2):=e3
   obtain⟨c,K,c1,c2,c3,c4,c5⟩:=zgA hd hn m2
   rw[if_pos hv,e3',Z0]
   simp only
   rw[c1,Z0]
   simp only
   rw[c2,Z0,if_pos trivial,if_pos (by omega)]
   refine zdK c4 (fun j hj=> ?_) ?_
   · obtain⟨a1,a2,a3⟩:=c5 j hj
     simp only[z3C]
     rw[if_pos (by omega),za4 0 hj,Z0,if_neg (by omega),if_neg (by omega),if_neg (by omega),if_neg (by omega)]
   · simp only[z3C]
     rw[if_neg (by omega)]
     rfl
 · rw[if_neg hv]
   by_cases hv1:v=1
   · obtain⟨d,t2,n,e3,hd,hn,_,hP⟩:=zsb h1 m 5 (by omega) (by omega)
     have e3':z2q t1 (m:Int) 5=some (d,t2):=e3
     obtain⟨c,K,c1,c2,c3,c4,c5⟩:=zgA hd hn m2
     rw[if_pos hv1,e3',Z0]
     simp only
     rw[c1,Z0]
     simp only
     rw[c2,Z0,if_pos trivial,if_pos (by omega)]
     refine zdK c4 (fun j hj=> ?_) ?_
     · obtain⟨a1,a2,a3⟩:=c5 j hj
       have a4:=a3 hP
       simp only[z3l]
       rw[if_pos (by omega),za4 0 hj,Z0,if_neg (by omega),if_neg (by omega),if_pos hv1,if_pos a4,if_neg (by omega)]
     · simp only[z3l]
       rw[if_neg (by omega)]
       rfl
   · obtain⟨d,t2,n,e3,hd,hn,_,hR⟩:=zmd h1 m 5 (by omega) (by omega)
     have e3':z4b t1 (m:Int) 5=some (d,t2):=e3
     obtain⟨c,K,c1,c2,c3,c4,c5⟩:=zgA hd hn m2
     rw[if_neg hv1,e3',Z0]
     simp only
     rw[c1,Z0]
     simp only
     rw[c2,Z0,if_pos trivial,if_pos (by omega)]
     refine zdK c4 (fun j hj=> ?_) ?_
     · obtain⟨a1,a2,a3⟩:=c5 j hj
       have a4:=a2 hR
       simp only[z3k]
       rw[if_pos (by omega),za4 0 hj,Z0,if_neg (by omega),if_neg (by omega),if_neg (by omega)]
       by_cases hv2:v=2
       · rw[if_pos hv2,if_neg a4]
       · rw[if_neg hv2]
     · simp only[z3k]
       rw[if_neg (by omega)]
       rfl
end
section
open Go.RowKit
def zgv(P:Program):Nat->TypeId->Bool
 |0,_=>false
 |m+1,t=>
  match P.underlying t with
  |some (.slice e)=>P.cellsOf e !=0&&zgv P m e
  |some (.pointer e)=>zgv P m e
  |some (.struct fs)=>fs.toList.all fun f=>zgv P m f.type
  |some (.array _ e)=>zgv P m e
  |some (.map _ e)=>zgv P m e
  |_=>true
section
variable {H:Type} {enc:TypeId×Value->H} {P:Program} {w:World} {base:Nat}
theorem zgT{m:Nat}{r r':TypeId->List Value->Option (DataW H×List MemPlace)}
 (hr:∀t cs x,zgv P m t=true->r t cs=some x->r' t cs=some x) {t:TypeId} {cs:List Value} {x:DataW H×List MemPlace} (hf:zgv P (m+1) t=true)
 (h:DataW.trodStep enc P w base (fun _=>true) true r t cs=some x):DataW.trodStep enc P w base (fun b=>decide (b<w.heap.size)) true r' t cs=some x:=by
 unfold DataW.trodStep at h⊢
 unfold zgv at hf
 split at h
 case h_1=>exact h
 case h_2=>exact h
 case h_3=>exact h
 case h_4=>exact h
 case h_5=>exact h
 case h_6 e a hu=>
  rw[hu] at hf
  simp only[Z4,Yv] at h⊢
  obtain⟨y,⟨cs',hc,hy⟩,rfl⟩:=h
  exact⟨y,⟨cs',hc,hr _ _ _ hf hy⟩,rfl⟩
 case h_7=>exact h
 case h_8 e a len cap hu=>
  rw[hu] at hf
  simp only[Z5,bne_iff_ne,ne_eq] at hf
  obtain⟨hcell,hfe⟩:=hf
  simp only at h⊢
  split at h
  · rename_i hc
    rw[if_pos hc]
    simp only[Z4,Yv,if_true] at h⊢
    obtain⟨elems,he,rest,hrest,rfl⟩:=h
    have one:∀(i:Nat) (y:DataW H×List MemPlace),(w.cells? base (a.add (i*P.cellsOf e)) (P.cellsOf e)).bind (r e)=some y->(w.cells? base (a.add (i*P.cellsOf e)) (P.cellsOf e)).bind (r' e)=some y:=by
     intro i y hv
     simp only[Yv] at hv⊢
     obtain⟨cs',hc',hy'⟩:=hv
     exact⟨cs',hc',hr _ _ _ hfe hy'⟩
    refine⟨elems,mapM_carry he (fun i y _ _ hy=>one i y hy),rest,?_,rfl⟩
    by_cases hb:a.block<w.heap.size
    · rw[if_pos (by simpa using hb)]
      exact mapM_carry hrest (fun j y _ _ hy=>one (len+j) y hy)
    · rw[if_neg (by simpa using hb)]
      have hz:cap-len=0:=by
       rcases XZ (cap-len) with h0|h0
       · exact h0
       · exfalso
         have hl:rest.length=cap-len:=by simpa using mapM_some_length hrest
         have h1:=mapM_some_get hrest 0 0 (by simp[h0])
         obtain⟨y,hy⟩:∃y,rest[0]? =some y:=⟨rest[0],Z1 (by omega)⟩
         rw[hy] at h1
         simp only[Yv] at h1
         obtain⟨cs',hc',_⟩:=h1
         have h2:=World.cells?_block hc' (by omega)
         have h3:(a.add ((len+0)*P.cellsOf e)).block=a.block:=by unfold Addr.add;split<;>rfl
         omega
      rw[hz] at hrest
      simpa using hrest
  · cases h
 case h_9 fs _ hu=>
  rw[hu] at hf
  split at h
  · rename_i hc
    rw[if_pos hc]
    simp only[Z4] at h⊢
    obtain⟨xs,hx,rfl⟩:=h
    exact⟨xs,mapM_carry hx (fun f y hin _ hv=>hr _ _ _ (Zt.1 hf f hin) hv),rfl⟩
  · cases h
 case h_10 n e _ hu=>
  rw[hu] at hf
  split at h
  · rename_i hc
    rw[if_pos hc]
    simp only[Z4] at h⊢
    obtain⟨xs,hx,rfl⟩:=h
    exact⟨xs,mapM_carry hx (fun f y _ _ hv=>hr _ _ _ hf hv),rfl⟩
  · cases h
 case h_11=>exact h
 case h_12=>exact h
 case h_13=>exact h
 case h_14 k e b hu=>
  rw[hu] at hf
  split at h
  · rename_i es clock hb
    split at h
    · rename_i hc
      simp only[Yv] at h
      obtain⟨entries,he,hd⟩:=h
      split at hd
      · rename_i hris
        have hx:=YK hd
        subst hx
        simp only[if_pos hc,Yv]
        refine⟨entries,mapM_carry he (fun x y _ hy hv=> ?_),by simp[hris]⟩
        simp only[Yv] at hv⊢
        obtain⟨key,hk,hz⟩:=hv
        refine⟨key,hk,?_⟩
        split at hz
        · rename_i hfm
          rw[if_pos hfm]
          simp only[Z4] at hz⊢
          obtain⟨q,hq,rfl⟩:=hz
          exact⟨q,hr _ _ _ hf hq,rfl⟩
        · cases hz
      · cases hd
    · cases h
  · cases h
 case h_15=>exact h
 case h_16=>exact h
 case h_17=>exact h
 case h_18=>exact h
 case h_19=>exact h
 case h_20=>exact h
 case h_21=>cases h
theorem zoY:∀(n m:Nat) (t:TypeId) (cs:List Value) (x:DataW H×List MemPlace),zgv P m t=true->
 DataW.trod enc P w base (fun _=>true) true n t cs=some x->DataW.trod enc P w base (fun b=>decide (b<w.heap.size)) true n t cs=some x:=by
 intro n
 induction n with
 |zero=>intro m t cs x _ h;simp[DataW.trod] at h
 |succ n ih=>
  intro m t cs x hf h
  cases m with
  |zero=>simp[zgv] at hf
  |succ m=>
   rw[DataW.trod_step] at h⊢
   exact zgT (m:=m) (fun t cs x hf hx=>ih m t cs x hf hx) hf h
theorem zkk{w':World}(hb:Below w.heap.size w w'){p:MemPlace}(hp:p.block<w.heap.size):w.sameAt w' p:=by
 cases p with
 |cell b off=>exact hb.cell (p:=⟨b,off,none⟩) hp
 |map b=>exact hb.block b hp
theorem zc8{w':World}(m:Nat)(hb:Below w.heap.size w w'):∀ {ts:List TypeId} {vs:List Value} {ds:List (DataW H)} {ps:List MemPlace},(ts.all (zgv P m))=true->
 DataW.TrodAll enc P w 0 (fun _=>true) true ts vs ds ps->DataW.TrodAll enc P w' 0 (fun b=>decide (b<w.heap.size)) true ts vs ds ps
 | [],[],[],ps,_,h=>h
 |t::ts,v::vs,d::ds,ps,hf,⟨p,q,⟨n,h1⟩,h2,e⟩=>by
  simp only[List.all_cons,Z5] at hf
  have h3:=zoY n m t _ _ hf.1 h1
  exact⟨p,q,⟨n,DataW.trod_carry n _ _ _ h3 (fun z hz=>zkk hb (DataW.trod_lt n _ _ _ h3 z hz))⟩,zc8 m hb hf.2 h2,e⟩
 | [],_::_,_,_,_,h=>by cases h
 | [],[],_::_,_,_,h=>by cases h
 |_::_,[],_,_,_,h=>by cases h
 |_::_,_::_,[],_,_,h=>by cases h
end
section
variable {H:Type} {enc:TypeId×Value->H} {P:Program} {w:World} {r:Reach} {b0:Nat}
open Go.ChangeShapes Go.WideShapes
open Go.Deep (open_bools)
theorem zu0(a:Addr)(j:Nat):(a.add j).block=a.block:=by unfold Addr.add;split<;>rfl
end
end
section
open Go.ChangeShapes Go.WideShapes Go.RowKit
def KZ:Nat->z0b:=fun _=> []
section
variable {H:Type} {enc:TypeId×Value->H} {P:Program} {w:World} {r:Reach} {b0:Nat}
theorem zsi{t e:TypeId}{v:Value}{d:DataW H}{ps:List MemPlace}(ht:P.underlying t=some (.slice e))(he:P.underlying e=some (.int .i64))(hc:P.cellsOf e=1)
 (hval:Value.okWide P w r b0 t v) (hd:DataW.Trod enc P w 0 (fun _=>true) true t v d ps):
 ∃xs:List Int,TRep w KZ [] v (.sl xs.length (xs.map fun x=>.sc (.int .i64 x)))/\xs.length<=maxLen/\ ∀x∈xs,(Lit.int .i64 x).wf=true:=by
 obtain⟨ga,n,cap,rfl⟩:=okWide_slice ht hval
 obtain⟨fuel,hf⟩:=hd
 rcases open_ints ht he hc hf with⟨hcs,_⟩|⟨a,len',cap',zs,hcs,_,hl,hm,hz,_,hcell,hwz⟩
 · simp[Value.cells] at hcs
   obtain⟨rfl,rfl,rfl⟩:=hcs
   exact⟨[],.emp _ _ _ (by decide),by decide,fun x hx=>by cases hx⟩
 · simp[Value.cells] at hcs
   obtain⟨rfl,rfl,rfl⟩:=hcs
   simp only[if_true] at hz
   refine⟨zs.take n,?_,by simp;omega,fun x hx=>hwz x (ZK hx)⟩
   have hln:(zs.take n).length=n:=by simp;omega
   rw[hln]
   by_cases h0:n=0
   · subst h0
     simp only[X7,Yy]
     exact .emp _ _ _ hm
   · have hc0:=hcell 0 (by omega)
     have hb:=World.block_lt_of_cell? w _ hc0
     rw[zu0] at hb
     have hsp:a.spot=none:=by
      have:a.add 0=a:=by simp[Addr.add]
      rw[this] at hc0
      unfold World.cell? at hc0
      split at hc0
      · split at hc0
        · cases hc0
        · rename_i hh
          simpa using hh
      · cases hc0
     obtain⟨g,o,sp⟩:=a
     simp only at hsp
     subst hsp
     refine .fro [] g o n cap _ (fun j=>.int .i64 (zs.getD j 0)) rfl hb hl hm (fun j hj=> ?_) (fun j t hj=> ?_)
     · have h1:=hcell j (by simp at hj;omega)
       have e:(⟨g,o,none⟩:Addr).add j=⟨g,o+j,none⟩:=by
        unfold Addr.add
        split
        · rename_i h;subst h;rfl
        · rfl
       rw[e] at h1
       exact h1
     · simp only[Zc,Z4] at hj
       obtain⟨x,hx,rfl⟩:=hj
       have hjn:j<n:=by
        have:=(Z6.1 hx).1
        simp at this;omega
       rw[X3 hjn] at hx
       simp only[List.getD,hx]
       exact .sc _ _ rfl
end
end
section
open Go Go.RowKit
set_option maxRecDepth 100000
set_option maxHeartbeats 4000000
def tab64:List Nat:= [0,1,56,2,57,49,28,3,61,58,42,50,38,29,17,4,62,47,59,36,45,43,51,22,53,39,33,30,24,18,12,5,63,55,48,27,60,41,37,16,46,35,44,21,52,32,23,11,54,26,40,15,34,20,31,10,25,14,19,9,13,8,7,6]
def tzI(k:Nat):Int:=IntKind.u64.wrap (bits BinOp.and IntKind.u64 (k:Int) (IntKind.u64.wrap (-(k:Int)))*285870213051353865)/288230376151711744
theorem zyQ:∀k:Fin 128,0<k.val->0<=tzI k.val/\tzI k.val<64/\wrap64 ((tab64[(tzI k.val).toNat]?.getD 0:Nat):Int)=(tzN k.val:Nat):=by decide+kernel
theorem zyR(k:Nat)(W:World)(hk:0<k/\k<128)(hT:∀i:Nat,i<64->W.cell? ⟨1,i,none⟩=some (.int .u8 ((tab64.getD i 0:Nat):Int))):Calls Tryz.prog 158 #[.int .u64 (k:Int)] W fun e w'=>e= .returned (.int .i64 (tzN k))/\w'=W:=by
 have h0:(0:Int)<(k:Int):=by omega
 have h1:¬(k:Int)=0:=by omega
 obtain⟨q1,q2,q3⟩:=zyQ ⟨k,hk.2⟩ hk.1
 have HQ:=Lib.hid q3
 have HQ1:=Lib.hid q1
 have HQ2:=Lib.hid q2
 clear q1 q2 q3
 go_enter Tryz.func158,Tryz.ntmps158
 go_wp2
 · go_ret
   exact⟨congrArg Ending.returned (congrArg (Value.int IntKind.i64) HQ.out),rfl⟩
 · rename_i hn
   exact absurd ⟨HQ1.out,HQ2.out⟩ hn
theorem zBW(k:Nat)(W:World)(hk:0<k/\k<128)(hT:∀i:Nat,i<64->W.cell? ⟨1,i,none⟩=some (.int .u8 ((tab64.getD i 0:Nat):Int))):Calls Tryz.prog 102 #[.int .u64 (k:Int)] W fun e w'=>e= .returned (.int .i64 (tzN k))/\w'=W:=by
 have HT:=Lib.hid hT
 clear hT
 go_enter Tryz.func102,Tryz.ntmps102
 go_wp2_with (go_at_call 158;refine(zyR k _ hk HT.out).mono ?_;rintro e w' ⟨rfl,rfl⟩)
 go_ret
 exact⟨rfl,rfl⟩
def zqJ(w:World)(K:Nat->z0b):Prop:=K 1= []/\1<w.heap.size/\ ∀i:Nat,i<64->w.cell? ⟨1,i,none⟩=some (.int .u8 ((tab64.getD i 0:Nat):Int))
theorem zA2:EnvS zqJ:=⟨fun {w K w' K'} h hs hk=>by
 obtain⟨h1,h2,h3⟩:=h
 obtain⟨k1,k2⟩:=hk 1 h2 h1
 exact⟨k1,by omega,fun i hi=>by rw[z1j k2];exact h3 i hi⟩⟩
theorem zqT{args:List T}{r:T}{outs:List T}(h:xTz args=some (r,outs)):CallOk Tryz.prog zqJ 102 args r outs:=by
 unfold xTz at h
 split at h
 case h_2=>cases h
 rename_i x
 unfold vTz at h
 split at h
 case isFalse=>cases h
 rename_i hx
 obtain⟨k,rfl⟩:∃k:Nat,x=(k:Int):=⟨x.toNat,by omega⟩
 simp only[ZO,Za,Prod.mk.injEq,Z2] at h
 obtain⟨rfl,rfl⟩:=h
 refine⟨fun vals w=> ?_,fun w K vals hs ha hI=> ?_⟩
 · have hb:∃c,Tryz.f102.body=some c:=⟨_,rfl⟩
   obtain⟨c,hb⟩:=hb
   have hname:Tryz.f102.name≠ "runtime.NumGoroutine" :=by decide
   simp[callFunc,program,Sem.run,Tryz.func102,hname,hb]
 · obtain⟨v,rfl⟩:∃v,vals= #[v]:=by
    obtain⟨l⟩:=vals
    match l,hs with
    | [v],_=>exact⟨v,rfl⟩
   have hv:TRep w K [] v (.sc (.int .u64 (k:Int))):=ha 0 _ rfl
   rw[hv.sc_eq]
   refine(zBW k w (by omega) hI.2.2).mono fun e w' ⟨he,hw⟩=> ?_
   subst hw
   refine⟨_,K,he,.sc _ _ rfl,fun i t hi hio=> ?_,Step.refl _ _⟩
   match i,hi with
   |0,hi=>cases hi;cases hio
end
section
open Go Go.RowKit Go.Sort
set_option maxRecDepth 100000
set_option maxHeartbeats 4000000
variable{os:Array Obj}{g n:Nat}{w:World}
def zqM(x:Fin 128):Value:=.int .i64 ((x.val:Nat):Int)
def cfS(p r:Fin 128):Int:=if Lib.compareInt (szN r.val) (szN p.val)≠0 then Lib.compareInt (szN r.val) (szN p.val) else Lib.compareInt (p.val:Nat) (r.val:Nat)
theorem zBd(k:Nat)(W:World)(hk:k<128):Calls Tryz.prog 228 #[.int .u64 (k:Int)] W fun e w'=>e= .returned (.int .i64 (szN k))/\w'=W:=by
 have h0:(0:Int)<=(k:Int):=by omega
 have h1:(k:Int)<128:=by omega
 go_enter Tryz.func228,Tryz.ntmps228
 go_wp2
 all_goals go_ret
 all_goals refine⟨congrArg Ending.returned (congrArg (Value.int IntKind.i64) ?_),rfl⟩
 clear h0 h1
 revert k
 decide+kernel
theorem zzs(k:Nat)(W:World)(hk:k<128):Calls Tryz.prog 207 #[.int .u64 (k:Int)] W fun e w'=>e= .returned (.int .i64 (szN k))/\w'=W:=by
 go_enter Tryz.func207,Tryz.ntmps207
 go_wp2_with (go_at_call 228;refine(zBd k _ hk).mono ?_;rintro e w' ⟨rfl,rfl⟩)
 go_ret
 exact⟨rfl,rfl⟩
theorem zwq(k:Nat)(W:World)(hk:k<128):Calls Tryz.prog 177 #[.int .i64 (k:Int)] W fun e w'=>e= .returned (.int .i64 (szN k))/\w'=W:=by
 have hw:IntKind.u64.wrap (k:Int)=(k:Int):=by rw[XC];omega
 go_enter Tryz.func177,Tryz.ntmps177
 go_wp2_with (go_at_call 207;refine(zzs k _ hk).mono ?_;rintro e w' ⟨rfl,rfl⟩)
 go_ret
 exact⟨rfl,rfl⟩
theorem or2(a b:Int)(g:Nat)(W:World)(ha:W.cell? ⟨g,0,none⟩=some (.int .i64 a))(hb:W.cell? ⟨g,1,none⟩=some (.int .i64 b)):Calls Tryz.prog 107 #[.slice (some ⟨g,0,none⟩) 2 2] W fun e w'=>e= .returned (.int .i64 (if a≠0 then a else b))/\w'=W:=by
 go_enter Tryz.func107,Tryz.ntmps107
 go_wp2
 go_loop [8] (fun vi=>∃k:Nat,k<=2/\vi= .int .i64 k/\(0<k->a=0)/\(1<k->b=0)) (fun vi=>2-(intOf vi).toNat)
 case atStart=>exact⟨0,by omega,rfl,by omega,by omega⟩
 case round=>
  obtain⟨k,hk,rfl,h1,h2⟩:=hrel
  rcases(by omega:k=0∨k=1∨k=2) with rfl|rfl|rfl
  · clear h1 h2
    by_cases h:a=0
    · subst h
      go_wp2
      go_round
      case rel=>exact⟨1,by omega,by go_num,by simp,by simp⟩
      case measure=>simp[intOf]
    · go_wp2
      go_ret
      simp[h]
  · have h1:=h1 (by omega)
    clear h2
    subst h1
    by_cases h:b=0
    · subst h
      go_wp2
      go_round
      case rel=>exact⟨2,by omega,by go_num,by simp,by simp⟩
      case measure=>simp[intOf]
    · go_wp2
      go_ret
      simp
  · have h1:=h1 (by omega)
    have h2:=h2 (by omega)
    subst h1 h2
    go_wp2
    go_ret
    simp
theorem zBA(x y:Fin 128)(W:World):Calls Tryz.prog 176 #[zqM x,zqM y] W fun e w'=>e= .returned (.int .i64 (cfS x y))/\ ∃q os',w'=grow (W.drewN q) os':=by
 obtain⟨x,hx⟩:=x
 obtain⟨y,hy⟩:=y
 unfold cfS zqM
 simp only
 generalize hc1:Lib.compareInt (szN y) (szN x)=c1
 generalize hc2:Lib.compareInt (x:Int) (y:Int)=c2
 have H1:=Lib.hid hc1
 have H2:=Lib.hid hc2
 clear hc1 hc2
 go_enter Tryz.func176,Tryz.ntmps176
 go_wp2_with (first|(go_at_call 177;first|(refine(zwq y _ hy).mono ?_;rintro e w' ⟨rfl,rfl⟩)|(refine(zwq x _ hx).mono ?_;rintro e w' ⟨rfl,rfl⟩))|(go_at_call 108;refine(Tryz.cmp_Compare_int _ _ _).mono ?_;rintro e w' ⟨rfl,rfl⟩;first|rw[H1.out]|rw[H2.out])|(go_at_call 107;refine(or2 c1 c2 _ _ ?_ ?_).mono ?_))
 · simp
 · simp
 all_goals go_ret
 all_goals exact⟨rfl,0,#[_],alloc_eq_grow _ _⟩
theorem zty(a b:Int):Lib.compareInt a b<0↔a<b:=by unfold Lib.compareInt;split<;>(try split)<;>omega
theorem zwI(a b:Int):Lib.compareInt a b=0↔a=b:=by unfold Lib.compareInt;split<;>(try split)<;>omega
theorem zwz(p r:Fin 128):ltOf cfS p r=true↔(szN r.val<szN p.val∨(szN r.val=szN p.val/\p.val<r.val)):=by
 unfold ltOf cfS
 rw[decide_eq_true_iff]
 split
 · rename_i h
   have:=(not_congr (zwI (szN r.val) (szN p.val))).1 h
   rw[zty]
   omega
 · rename_i h
   have:=(zwI (szN r.val) (szN p.val)).1 (by simpa using h)
   rw[zty]
   omega
theorem zsA(p r:Fin 128):ltOf cfS p r=false↔ ¬(szN r.val<szN p.val∨(szN r.val=szN p.val/\p.val<r.val)):=by
 rw[←zwz];simp
theorem zBX:SWO (ltOf cfS) where
 irrefl x:=by rw[zsA];omega
 trans x y z h1 h2:=by rw[zwz] at*;omega
 ntrans x y z h1 h2:=by rw[zsA] at*;omega
theorem ziF(a b:Int):leI a b=true↔(szN b.toNat<szN a.toNat∨(szN a.toNat=szN b.toNat/\a.toNat<=b.toNat)):=by
 unfold leI zwN;simp
theorem zgg(x:Int):∀l:List Int,(zvq x l).Perm (x::l)
 | []=>.refl _
 |y::l=>by
  unfold zvq
  split
  · exact .refl _
  · exact((zgg x l).cons y).trans (.swap x y l)
theorem zdD:∀l:List Int,(zcp l).Perm l
 | []=>.refl _
 |x::l=>(zgg x (zcp l)).trans ((zdD l).cons x)
theorem zgf(x:Int):∀l:List Int,l.Pairwise (fun a b=>leI a b=true)->(zvq x l).Pairwise (fun a b=>leI a b=true)
 | [],_=>by simp[zvq]
 |y::l,h=>by
  unfold zvq
  rw[ZA] at h
  split
  · rename_i hxy
    refine ZA.2 ⟨fun z hz=> ?_,ZA.2 h⟩
    rcases Zw.1 hz with rfl|hz
    · exact hxy
    · have:=h.1 z hz
      rw[ziF] at*
      omega
  · rename_i hxy
    refine ZA.2 ⟨fun z hz=> ?_,zgf x l h.2⟩
    rcases Zw.1 ((zgg x l).mem_iff.1 hz) with rfl|hz
    · rw[ziF] at*
      omega
    · exact h.1 z hz
theorem ze8:∀l:List Int,(zcp l).Pairwise (fun a b=>leI a b=true)
 | []=>by simp[zcp]
 |x::l=>zgf x _ (ze8 l)
theorem zbs:∀ {l1 l2:List Int},l1.Perm l2->(∀x∈l1,0<=x)->l1.Pairwise (fun a b=>leI a b=true)->l2.Pairwise (fun a b=>leI a b=true)->l1=l2
 | [],l2,h,_,_,_=>by rw[List.nil_perm] at h;exact h.symm
 |a::l1,[],h,_,_,_=>by simp at h
 |a::l1,b::l2,h,h0,h1,h2=>by
  have hab:a=b:=by
   rcases Zw.1 (h.mem_iff.1 (Zv ..)) with e|ha
   · exact e
   · rcases Zw.1 (h.mem_iff.2 (Zv ..)) with e|hb
     · exact e.symm
     · have e1:=(ZA.1 h2).1 a ha
       have e2:=(ZA.1 h1).1 b hb
       have p1:=h0 a (Zv ..)
       have p2:=h0 b (h.mem_iff.2 (Zv ..))
       rw[ziF] at e1 e2
       omega
  subst hab
  rw[zbs (List.perm_cons a|>.1 h) (fun x hx=>h0 x (Zl _ hx)) (ZA.1 h1).2 (ZA.1 h2).2]
def toF(x:Int):Fin 128:=⟨x.toNat%128,Nat.mod_lt _ (by decide)⟩
def ofF(f:Fin 128):Int:=(f.val:Int)
theorem zwh{x:Int}(h:0<=x/\x<128):ofF (toF x)=x:=by simp only[ofF,toF];omega
def zBf(B:Nat)(K:Nat->z0b)(b:Nat):z0b:=if B<=b then [0] else K b
theorem zlZ{xs:List Int}(hx:∀x∈xs,0<=x/\x<128){d':Array (Fin 128)}(hp:PermIn 0 (xs.map toF).toArray.size (xs.map toF).toArray d')(hs:SortedIn (ltOf cfS) 0 (xs.map toF).toArray.size d'):d'.toList.map ofF=zcp xs:=by
 obtain⟨h1,_,h3⟩:=hp
 have hsz:d'.size=xs.length:=by simpa using h1
 have e1:(xs.map toF).map ofF=xs:=by
  rw[Y5]
  conv=>rhs;rw[←YW xs]
  exact Zz fun x hxm=>zwh (hx x hxm)
 have hp2:d'.toList.Perm (xs.map toF):=by
  have:(d'.extract 0 (xs.map toF).toArray.size).toList=d'.toList:=by
   rw[←h1];simp
  rw[this] at h3
  simp at h3
  rwa [Yq (by simp)] at h3
 have hp3:(d'.toList.map ofF).Perm xs:=by
  have:=hp2.map ofF
  rwa [e1] at this
 refine zbs (hp3.trans (zdD xs).symm) (fun x hxm=>(hx x (hp3.mem_iff.1 hxm)).1) ?_ (ze8 xs)
 rw[ZH]
 intro i j hi hj hij
 simp only[Zg,Yk] at hi hj
 have:=hs i j (by omega) hij (by simp;omega)
 rw[zsA,getElem!_pos d' i hi,getElem!_pos d' j hj] at this
 rw[ziF]
 simp only[ZF,Xm,ofF,Z2]
 omega
theorem zo8{cur:Array Value}{e:TypeId}{fr:Nat×Nat}(d:Array (Fin 128))(hb:w.heap[g]? =some (.cells cur e fr)):(sortWorld zqM w g 0 n d os).heap[g]? =some (.cells (putCells zqM 0 d cur) e fr):=by
 unfold sortWorld
 rw[heap_grow_old _ _ (by rw[size_putRow];exact z1c hb)]
 simp[putRow,mapBlock,Sort.ahead,Yb,hb,onCells]
theorem zhW(d:Array (Fin 128)){b:Nat}(hb:b<w.heap.size)(hne:b≠g):(sortWorld zqM w g 0 n d os).heap[b]? =w.heap[b]? :=by
 unfold sortWorld
 rw[heap_grow_old _ _ (by rw[size_putRow];exact hb)]
 simp[putRow,mapBlock,Sort.ahead,Yb,Ne.symm hne]
theorem zuB(d:Array (Fin 128)):w.heap.size<=(sortWorld zqM w g 0 n d os).heap.size:=by
 unfold sortWorld
 rw[size_grow,size_putRow]
 show w.heap.size<=w.heap.size+_
 omega
theorem zlE{I:World->(Nat->z0b)->Prop}{args:List T}{r:T}{outs:List T}(h:zud 176 args=some (r,outs)):CallOk Tryz.prog I 175 args r outs:=by
 unfold zud at h
 split at h
 case h_2=>cases h
 rename_i n cs f fs gs
 split at h
 case isFalse=>cases h
 rename_i hfg
 obtain⟨rfl,hfs,hgs⟩:=hfg
 simp only[X8] at hfs hgs
 subst hfs hgs
 split at h
 case h_2=>cases h
 rename_i xs hxs
 split at h
 case isFalse=>cases h
 rename_i hn
 subst hn
 unfold zlM at h
 split at h
 case isFalse=>cases h
 rename_i hc
 obtain⟨hne,hlen,hall⟩:=hc
 have hx:∀x∈xs,0<=x/\x<128:=by simpa using hall
 obtain⟨rfl,rfl⟩:T.tup []=r/\ [T.os 1 (zcp xs).length ((zcp xs).map fun x=>.sc (.int .i64 x)),.dead]=outs:=by simpa using h
 have hcs:=z8C hxs
 subst hcs
 clear h hxs hall
 refine⟨fun vals w=> ?_,fun w K vals hs ha hI=> ?_⟩
 · have hb:∃c,Tryz.f175.body=some c:=⟨_,rfl⟩
   obtain⟨c,hb⟩:=hb
   have hname:Tryz.f175.name≠ "runtime.NumGoroutine" :=by decide
   simp[callFunc,program,Sem.run,Tryz.func175,hname,hb]
 · obtain⟨v,u,rfl⟩:∃v u,vals= #[v,u]:=by
    obtain⟨l⟩:=vals
    match l,hs with
    | [v,u],_=>exact⟨v,u,rfl⟩
   have hv:TRep w K (col 0) v (.os 1 xs.length (xs.map fun x=>.sc (.int .i64 x))):=ha 0 _ rfl
   have hu:TRep w K [] u (.sc (.func (.func 176) #[] #[])):=ha 1 _ rfl
   rw[hu.sc_eq]
   clear hu ha
   have hl0:0<xs.length:=ZJ.2 hne
   generalize hT:T.os 1 xs.length (xs.map fun x=>T.sc (.int .i64 x))=t at hv
   cases hv with
   |nil=>injection hT with _ e _;omega
   |own c g n cap size cs arr e fz F hfz hc0 hK hg hsz hl hz hn hcap hF hh=>
    injection hT with e1 e2 e3
    subst e1 e2 e3
    have hcell:∀j (hj:j<xs.length),arr[j]? =some (.int .i64 xs[j]):=fun j hj=>by
     rw[hF j (by simpa using hj)]
     have:=hh j (.sc (.int .i64 xs[j])) (by simp[hj])
     rw[this.sc_eq]
    have hH:Holds zqM w g 0 (xs.map toF).toArray:=fun j hj=>by
     have hj':j<xs.length:=by simpa using hj
     constructor
     · rw[Zs,z3Z hg,hcell j hj',getElem!_pos _ j hj]
       simp only[zqM,List.getElem_toArray,ZF]
       have:=zwh (hx _ (Zp hj'))
       unfold ofF at this
       rw[this]
     · unfold World.frozen?
       rw[Zs]
       simp only[hg]
       have:=hfz j (by omega)
       obtain⟨lo,hi⟩:=fz
       simp only at this⊢
       simp only[Xb,decide_eq_false_iff_not]
       omega
    have eg:∀args w,(callFunc 176 args).run Tryz.prog w= .ok (.enter 176 args) w:=enters_of Tryz.func176 (by kernel_rfl) rfl
    have hcmp:CmpLays1 Tryz.prog 176 #[] zqM cfS g 0 (xs.map toF).toArray.size w:=fun m os dk _ x y=>zBA x y _
    have hcon:=Tryz.slices_SortFunc_f175 zqM (fun _=>rfl) cfS zBX 176 #[] g 0 cap (xs.map toF).toArray w eg hcmp hH (z1c hg) (by simpa using hlen)
    have hsize:(xs.map toF).toArray.size=xs.length:=by simp
    rw[hsize] at hcon
    refine hcon.mono fun e' w' ⟨he,d',m,os,hp,hso,hw⟩=> ?_
    subst hw
    have hsort:=zlZ hx (by rw[hsize];exact hp) (by rw[hsize];exact hso)
    have hd:d'.size=xs.length:=by have:=hp.1;simpa using this
    have hys:(zcp xs).length=xs.length:=(zdD xs).length_eq
    refine⟨.tuple #[],zBf w.heap.size K,he,?_,fun i t hi hio=> ?_,rfl,rfl,rfl,zuB d',fun b hb hcb=>⟨by unfold zBf;rw[if_neg (by omega)],zhW d' hb ?_⟩,?_⟩
    · exact .tup _ #[] [] (fun _=>undef) rfl (fun j hj=>by simp at hj) (fun j t ht=>by simp at ht)
    · match i,hi with
      |0,hi=>
       refine⟨_,rfl,?_⟩
       show TRep _ _ (col 0) (.slice (some ⟨g,0,none⟩) xs.length cap) _
       rw[←hys]
       refine .own (col 0) g _ cap 1 _ (putCells zqM 0 d' arr) e fz (fun j=>.int .i64 ((zcp xs).getD j 0)) (fun i hi=>hfz i (by simpa[putCells] using hi)) (by simp[col]) (by unfold zBf;rw[if_neg (by have:=z1c hg;omega)];exact hK) (zo8 d' hg) (by simpa[putCells] using hsz) (by simp) (by omega) (by omega) hcap (fun j hj=> ?_) (fun j t ht=> ?_)
       · have hj':j<xs.length:=by simpa[hys] using hj
         have hja:j<arr.size:=(Y0.1 (hcell j hj')).1
         have hjd:j<d'.size:=by omega
         simp only[putCells,Xd,hcell j hj',ZO]
         rw[if_pos (by omega),YN,getElem!_pos d' j hjd]
         have:(zcp xs).getD j 0=ofF d'[j]:=by
          rw[←hsort];simp[List.getD,hjd]
         rw[this];rfl
       · simp only[Zc,Z4] at ht
         obtain⟨x,hx',rfl⟩:=ht
         simp only[List.getD,hx']
         exact .sc _ _ rfl
      |1,hi=>cases hi;cases hio
    · rintro rfl
      rw[hK] at hcb
      simp[col] at hcb
    · intro b arr0 e0 fz0 hb0
      by_cases hbg:b=g
      · subst hbg
        rw[hg] at hb0
        cases hb0
        exact⟨_,_,_,zo8 d' hg,by simp[putCells]⟩
      · exact⟨_,_,_,(zhW d' (z1c hb0) hbg).trans hb0,rfl⟩
   |_=>cases hT
theorem zqS:z8j Tryz.prog zqJ xtC:=by
 intro f args r outs h
 unfold xtC at h
 split at h
 case isTrue hf=>subst hf;exact zqT h
 split at h
 case isTrue hf=>subst hf;exact zlE h
 split at h
 case isTrue hf=>subst hf;exact zlF h
 split at h
 case isTrue hf=>subst hf;exact zjr h
 split at h
 case isTrue hf=>subst hf;exact zju h
 cases h
end
section
open Go Go.RowKit Go.Sort
set_option maxRecDepth 100000
set_option maxHeartbeats 4000000
variable{l:List (List Int×T)}{cs:List T}{n:Nat}{K:Nat->z0b}{v:Value}{w:World}{c:z0b}
theorem zbg(x y:List Int):za2 y x= -za2 x y:=by
 unfold za2
 by_cases h1:x.length<y.length
 · rw[if_neg (by omega),if_pos h1,if_pos h1];rfl
 · by_cases h2:y.length<x.length
   · rw[if_pos h2,if_neg h1,if_pos h2]
   · rw[if_neg h2,if_neg h1,if_neg h1,if_neg h2];exact z8L x y
theorem zmM(x y z:List Int)(h1:za2 x y<=0)(h2:za2 y z<=0):za2 x z<=0/\(za2 x z=0->za2 x y=0/\za2 y z=0):=by
 have key:=z8r x y z
 unfold za2 at h1 h2⊢
 by_cases a1:x.length<y.length
 · by_cases b1:y.length<z.length
   · rw[if_pos (show x.length<z.length by omega)];exact⟨by omega,fun e=>by omega⟩
   · rw[if_neg b1] at h2
     by_cases b2:z.length<y.length
     · rw[if_pos b2] at h2;omega
     · rw[if_pos (show x.length<z.length by omega)];exact⟨by omega,fun e=>by omega⟩
 · rw[if_neg a1] at h1
   by_cases a2:y.length<x.length
   · rw[if_pos a2] at h1;omega
   · rw[if_neg a2] at h1
     by_cases b1:y.length<z.length
     · rw[if_pos (show x.length<z.length by omega)];exact⟨by omega,fun e=>by omega⟩
     · rw[if_neg b1] at h2
       by_cases b2:z.length<y.length
       · rw[if_pos b2] at h2;omega
       · rw[if_neg b2] at h2
         rw[if_neg (show ¬x.length<z.length by omega),if_neg (show ¬z.length<x.length by omega),if_neg a1,if_neg a2,if_neg b1,if_neg b2]
         exact key h1 h2
theorem zvS(x y z:List Int)(h1:za2 x y<0)(h2:za2 y z<0):za2 x z<0:=by
 obtain⟨a,b⟩:=zmM x y z (by omega) (by omega)
 rcases Int.lt_or_eq_of_le a with h|h
 · exact h
 · have:=(b h).1;omega
theorem zCi(x y:List Int):(if Lib.compareInt (x.length:Int) (y.length:Int)≠0 then Lib.compareInt (x.length:Int) (y.length:Int) else z8M x y)=za2 x y:=by
 unfold za2 Lib.compareInt
 by_cases h1:x.length<y.length
 · simp[h1]
 · by_cases h2:y.length<x.length
   · simp[h1,h2]
   · simp[h1,h2]
theorem zuO(p q m1 m2:Value)(x y:List Int)(W:World)(h1:IntsAt W p x)(h2:IntsAt W q y):Calls Tryz.prog 106 #[.agg #[p,m1],.agg #[q,m2]] W fun e w'=>e= .returned (.int .i64 (za2 x y))/\ ∃q os',w'=grow (W.drewN q) os':=by
 obtain⟨ga,ca,e1,n1,-⟩:=h1.get
 obtain⟨gb,cb,e2,n2,-⟩:=h2.get
 have H1:=Lib.hid h1
 have H2:=Lib.hid h2
 rw[←zCi x y]
 generalize hc1:Lib.compareInt (x.length:Int) (y.length:Int)=c1
 generalize hc2:z8M x y=c2
 have H3:=Lib.hid hc1
 have H4:=Lib.hid hc2
 clear hc1 hc2 h1 h2
 subst e1 e2
 have CX:RowKit.Hid (∀w:World,Calls Tryz.prog 108 #[.int .i64 (x.length:Int),.int .i64 (y.length:Int)] w fun e w'=>e= .returned (.int .i64 c1)/\w'=w):=Lib.hid fun w=>(Tryz.cmp_Compare_int _ _ _).mono fun e w' ⟨h1,h2⟩=>⟨by rw[h1,H3.out],h2⟩
 have CS:RowKit.Hid (∀w:World,Below W.heap.size W w->Calls Tryz.prog 101 #[.slice ga x.length ca,.slice gb y.length cb] w fun e w'=>e= .returned (.int .i64 c2)/\w'=w):=Lib.hid fun w hb=>(zcq _ _ _ _ w (H1.out.below hb) (H2.out.below hb)).mono fun e w' ⟨h1,h2⟩=>⟨by rw[h1,H4.out],h2.symm⟩
 go_enter Tryz.func106,Tryz.ntmps106
 go_wp2
 refine(fun(W2:World) (hW2:_=W2)=>(?_:Code.wp _ _ _ _ W2)) _ rfl
 have hc1:W2.cell? ⟨W.heap.size,0,none⟩=some (.slice ga x.length ca):=by subst hW2;simp
 have hc2:W2.cell? ⟨W.heap.size+1,0,none⟩=some (.slice gb y.length cb):=by subst hW2;simp
 have hgr:∃os',W2=grow W os':=⟨#[_,_],by rw[←hW2,alloc_eq_grow,alloc_eq_grow,grow_grow];rfl⟩
 clear hW2
 have hgd:∃os',W2.drew=grow (W.drewN 1) os':=by obtain⟨os,e⟩:=hgr;exact⟨os,by rw[e];rfl⟩
 have hb3:Below W.heap.size W W2.drew:=by
  obtain⟨os,e⟩:=hgr
  subst e
  exact⟨rfl,rfl,rfl,by show W.heap.size<=(grow W os).heap.size;rw[size_grow];omega,fun b hb=>heap_grow_old _ _ hb⟩
 refine wp_region_still_tail 12 (by kernel_rfl) (by kernel_rfl) ?_
 simp only[Xo,X7,List.drop_succ_cons,List.drop_zero]
 repeat still_step
 still_call (CX.out _)
 repeat still_step
 still_call (CS.out _ hb3)
 refine wpStill_nil ?_
 change wpList _ _ _ _ _ W2.drew
 clear hb3 hgr hc1 hc2 CX CS H1 H2 H3 H4
 generalize W2.drew=W3 at*
 go_wp2_with (go_at_call 107;refine(or2 c1 c2 _ _ ?_ ?_).mono ?_)
 · simp
 · simp
 all_goals go_ret
 all_goals obtain⟨os,rfl⟩:=hgd
 all_goals exact⟨rfl,1,os++ #[_],by rw[alloc_eq_grow,grow_grow]⟩
theorem zx7{w':World}{K':Nat->z0b}{c':z0b}(h:TRep w K c v (.sl n cs))(hk:∀b,b<w.heap.size->K b= []->K' b= []/\w'.heap[b]? =w.heap[b]?)(hs:w.heap.size<=w'.heap.size):TRep w' K' c' v (.sl n cs):=by
 cases h with
 |emp c a cap hc=>exact .emp c' a cap hc
 |fro c g o n cap cs F hK hg hn hc hF hh=>
  obtain⟨k1,k2⟩:=hk g hg hK
  exact .fro c' g o _ cap _ F k1 (by omega) hn hc (fun j hj=>by rw[z1j k2];exact hF j hj) (fun j t ht=>(hh j t ht).move (fun _ _ _ hc=>absurd rfl hc) hk YV hs)
theorem zx8(h:TRep w K c v (.sl n cs)):v.oneCell'=true:=by
 cases h with
 |emp=>rfl
 |fro=>rfl
theorem zfT:∀(l:List (List Int×T)) (j:Nat),(l.flatMap z4D)[j]? =(l[j/2]?).bind fun r=>(z4D r)[j%2]?
 | [],j=>by simp
 |r::l,0=>by simp[z4D]
 |r::l,1=>by simp[z4D]
 |r::l,j+2=>by
  rw[ZG,Ya (by simp[z4D])]
  simp only[z4D,Zr,Yg,Zs,Nat.reduceAdd,Nat.add_sub_cancel]
  rw[show(j+2)/2=j/2+1 by omega,show(j+2)%2=j%2 by omega,ZU]
  exact zfT l j
theorem zcF:∀l:List (List Int×T),(l.flatMap z4D).length=l.length*2
 | []=>rfl
 |r::l=>by rw[ZG,Zb,zcF l];simp[z4D];omega
theorem zgc(x:List Int×T):∀l:List (List Int×T),(zu7 x l).Perm (x::l)
 | []=>.refl _
 |y::l=>by
  unfold zu7
  split
  · exact .refl _
  · exact((zgc x l).cons y).trans (.swap x y l)
theorem z7l:∀l:List (List Int×T),(z4X l).Perm l
 | []=>.refl _
 |x::l=>(zgc x (z4X l)).trans ((z7l l).cons x)
abbrev zmZ(l:List (List Int×T)):Prop:=l.Pairwise fun a b=>za2 a.1 b.1<=0
theorem zgb(x:List Int×T):∀l:List (List Int×T),zmZ l->zmZ (zu7 x l)
 | [],_=>by simp[zu7]
 |y::l,h=>by
  unfold zu7
  rw[zmZ,ZA] at h
  split
  · rename_i hxy
    refine ZA.2 ⟨fun z hz=> ?_,ZA.2 h⟩
    rcases Zw.1 hz with rfl|hz
    · omega
    · exact(zmM _ _ _ (by omega) (h.1 z hz)).1
  · rename_i hxy
    refine ZA.2 ⟨fun z hz=> ?_,zgb x l h.2⟩
    rcases Zw.1 ((zgc x l).mem_iff.1 hz) with rfl|hz
    · rw[zbg];omega
    · exact h.1 z hz
theorem z8T:∀l:List (List Int×T),zmZ (z4X l)
 | []=>by simp[z4X]
 |x::l=>zgb x _ (z8T l)
theorem zsq(h:(l.map (·.1)).Nodup):∀a∈l,∀b∈l,a.1=b.1->a=b:=by
 induction l with
 |nil=>intro a ha;cases ha
 |cons r l ih=>
  rw[Zn,YB] at h
  intro a ha b hb e
  rcases Zw.1 ha with ea|ha'
  · rcases Zw.1 hb with eb|hb'
    · rw[ea,eb]
    · exact absurd (Zj.2 ⟨b,hb',by rw[←e,ea]⟩) h.1
  · rcases Zw.1 hb with eb|hb'
    · exact absurd (Zj.2 ⟨a,ha',by rw[e,eb]⟩) h.1
    · exact ih h.2 a ha' b hb' e
theorem znr{r:List (List Int×T)}(hn:(l.map (·.1)).Nodup)(h:l.Perm r)(h1:zmZ l)(h2:zmZ r):l=r:=by
 refine Xz (le:=fun a b=>za2 a.1 b.1<=0) (fun a b ha hb h3 h4=> ?_) h1 h2 h
 rw[zbg] at h4
 exact zsq hn a ha b (h.mem_iff.2 hb) ((zgD a.1 b.1).1 (by omega))
def cfP(rows:List (List Int×T))(i j:Nat):Int:=za2 (rows.getD (rwN rows.length i) ([],.dead)).1 (rows.getD (rwN rows.length j) ([],.dead)).1
theorem zBZ(rows:List (List Int×T)):SWO (ltOf (cfP rows)) where
 irrefl x:=by
  unfold ltOf cfP
  rw[(zgD _ _).2 rfl];simp
 trans x y z h1 h2:=by
  unfold ltOf cfP at*
  simp only[decide_eq_true_eq] at*
  exact zvS _ _ _ h1 h2
 ntrans x y z h1 h2:=by
  unfold ltOf cfP at*
  simp only[decide_eq_false_iff_not] at*
  rw[zbg] at h1 h2⊢
  have:=(zmM (rows.getD (rwN rows.length z) ([],.dead)).1 (rows.getD (rwN rows.length y) ([],.dead)).1 (rows.getD (rwN rows.length x) ([],.dead)).1 (by omega) (by omega)).1
  omega
theorem zkc{rows:List (List Int×T)}(hn:(rows.map (·.1)).Nodup){d':Array Nat}(hp:PermIn 0 (List.range rows.length).toArray.size (List.range rows.length).toArray d')(hs:SortedIn (ltOf (cfP rows)) 0 (List.range rows.length).toArray.size d'):d'.size=rows.length/\(∀x∈d'.toList,x<rows.length)/\d'.toList.map (fun j=>rows.getD j ([],.dead))=z4X rows:=by
 obtain⟨h1,_,h3⟩:=hp
 have hsz:d'.size=rows.length:=by simpa using h1
 have hp2:d'.toList.Perm (List.range rows.length):=by
  have:(d'.extract 0 (List.range rows.length).toArray.size).toList=d'.toList:=by
   rw[←h1];simp
  rw[this] at h3
  simp at h3
  exact h3
 have hlt:∀x∈d'.toList,x<rows.length:=fun x hx=>Zi.1 (hp2.mem_iff.1 hx)
 have e1:(List.range rows.length).map (fun j=>rows.getD j ([],.dead))=rows:=by
  refine Ze (by simp) fun i h1 h2=> ?_
  simp[List.getD,h2]
 have hpp:(d'.toList.map (fun j=>rows.getD j ([],.dead))).Perm rows:=by
  have:=hp2.map (fun j=>rows.getD j ([],.dead))
  rwa [e1] at this
 refine⟨hsz,hlt,znr ?_ (hpp.trans (z7l rows).symm) ?_ (z8T rows)⟩
 · exact(hpp.map (·.1)).nodup_iff.2 hn
 · rw[zmZ,ZH]
   intro i j hi hj hij
   simp only[Zg,Yk] at hi hj
   have:=hs i j (by omega) hij (by simp;omega)
   rw[getElem!_pos d' i hi,getElem!_pos d' j hj] at this
   unfold ltOf cfP rwN at this
   simp only[decide_eq_false_iff_not] at this
   have l1:=hlt d'[i] (by simp)
   have l2:=hlt d'[j] (by simp)
   rw[if_pos l1,if_pos l2,zbg] at this
   simp only[ZF,Xm]
   omega
theorem ze5{I:World->(Nat->z0b)->Prop}{args:List T}{r:T}{outs:List T}(h:zjq 106 args=some (r,outs)):CallOk Tryz.prog I 105 args r outs:=by
 unfold zjq at h
 split at h
 case h_2=>cases h
 rename_i n cs f fs gs
 split at h
 case isFalse=>cases h
 rename_i hfg
 obtain⟨rfl,hfs,hgs⟩:=hfg
 simp only[X8] at hfs hgs
 subst hfs hgs
 split at h
 case h_2=>cases h
 rename_i xs hxs
 split at h
 case isFalse=>cases h
 rename_i hc
 obtain⟨hn,hlen,hnd⟩:=hc
 subst hn
 obtain⟨rfl,rfl⟩:T.tup []=r/\ [T.os 2 (z4X xs).length ((z4X xs).flatMap z4D),.dead]=outs:=by simpa using h
 obtain⟨hcs,hsl⟩:=zhJ hxs
 subst hcs
 clear h hxs
 have hys:(z4X xs).length=xs.length:=(z7l xs).length_eq
 refine⟨fun vals w=> ?_,fun w K vals hs ha hI=> ?_⟩
 · have hb:∃c,Tryz.f105.body=some c:=⟨_,rfl⟩
   obtain⟨c,hb⟩:=hb
   have hname:Tryz.f105.name≠ "runtime.NumGoroutine" :=by decide
   simp[callFunc,program,Sem.run,Tryz.func105,hname,hb]
 · obtain⟨v,u,rfl⟩:∃v u,vals= #[v,u]:=by
    obtain⟨l⟩:=vals
    match l,hs with
    | [v,u],_=>exact⟨v,u,rfl⟩
   have hv:TRep w K (col 0) v (.os 2 xs.length (xs.flatMap z4D)):=ha 0 _ rfl
   have hu:TRep w K [] u (.sc (.func (.func 106) #[] #[])):=ha 1 _ rfl
   rw[hu.sc_eq]
   clear hu ha
   have htup:∀(w':World) (K':Nat->z0b),TRep w' K' [0] (.tuple #[]) (.tup []):=fun w' K'=>.tup _ #[] [] (fun _=>undef) rfl (fun j hj=>by simp at hj) (fun j t ht=>by simp at ht)
   by_cases hl0:xs.length=0
   ·
    have hx0:xs= []:=ZX hl0
    subst hx0
    have hvs:∃p cap,v= .slice p 0 cap:=by
     generalize hT:T.os 2 ([]:List (List Int×T)).length (([]:List (List Int×T)).flatMap z4D)=t at hv
     cases hv with
     |nil=>exact⟨_,_,rfl⟩
     |own c g n cap=>injection hT with e1 e2 e3;simp at e2;subst e2;exact⟨_,_,rfl⟩
     |_=>cases hT
    obtain⟨p,cap,rfl⟩:=hvs
    refine(AnyF.slices_SortFunc_none Tryz.laysSlF06_f105 p cap _ w).mono fun e' w' ⟨he,hw⟩=> ?_
    subst hw
    refine⟨.tuple #[],K,he,htup _ _,fun i t hi hio=> ?_,Step.refl _ _⟩
    match i,hi with
    |0,hi=>cases hi;exact⟨_,rfl,hv⟩
    |1,hi=>cases hi;cases hio
   have hl1:0<xs.length:=by omega
   generalize hT:T.os 2 xs.length (xs.flatMap z4D)=t at hv
   cases hv with
   |nil=>injection hT with _ e _;omega
   |own c g n cap size cs arr e fz F hfz hc0 hK hg hsz hl hz hn hcap hF hh=>
    injection hT with e1 e2 e3
    subst e1 e2 e3
    have hpl:=zcF xs
    have hget:∀j (hj:j<xs.length) (k:Nat),k<2->(xs.flatMap z4D)[2*j+k]? =(z4D xs[j])[k]? :=fun j hj k hk=>by
     rw[zfT,show(2*j+k)/2=j by omega,show(2*j+k)%2=k by omega,Z1 hj];rfl
    have hrow:∀j (hj:j<xs.length),TRep w K (col 0++ [2*j]) (F (2*j)) (zeo xs[j].1):=fun j hj=>hh (2*j) _ (by rw[show 2*j=2*j+0 by omega,hget j hj 0 (by omega)];rfl)
    have hmap:∀j (hj:j<xs.length),TRep w K (col 0++ [2*j+1]) (F (2*j+1)) xs[j].2:=fun j hj=>hh (2*j+1) _ (by rw[hget j hj 1 (by omega)];rfl)
    have hcell:∀j,j<xs.length*2->arr[j]? =some (F j):=fun j hj=>hF j (by omega)
    let enc:Nat->List Value:=fun j=> [F (2*rwN xs.length j),F (2*rwN xs.length j+1)]
    have hrw:∀j,rwN xs.length j<xs.length:=fun j=>by unfold rwN;split<;>omega
    have hdg:∀j,j<xs.length->(List.range xs.length).toArray[j]! =j:=fun j hj=>by
     rw[getElem!_pos _ j (by simpa using hj)];simp
    have hflat:∀(d:Array Nat) (hd:∀x∈d.toList,x<xs.length) (j:Nat),j<d.size*2->(flatK enc 2 d)[j]! =F (2*d[j/2]! +j%2):=fun d hd j hj=>by
     rw[get_flatK enc 2 d j hj]
     have h2:j/2<d.size:=by omega
     have h3:d[j/2]! <xs.length:=by rw[getElem!_pos d _ h2];exact hd _ (by simp)
     show [F (2*rwN xs.length d[j/2]!),F (2*rwN xs.length d[j/2]! +1)][j%2]! =_
     rw[rwN,if_pos h3]
     rcases Nat.mod_two_eq_zero_or_one j with e|e<;>rw[e]<;>simp
    have hsize:(List.range xs.length).toArray.size=xs.length:=by simp
    have hH:HoldsK enc 2 w g 0 (List.range xs.length).toArray:=fun j hj=>by
     rw[size_flatK,hsize] at hj
     constructor
     · rw[Zs,z3Z hg,hcell j hj,hflat _ (fun x hx=>by simpa using hx) j (by rw[hsize];exact hj),hdg _ (by omega),show 2*(j/2)+j%2=j by omega]
       rfl
     · unfold World.frozen?
       rw[Zs]
       simp only[hg]
       have hja:j<arr.size:=(Y0.1 (hcell j hj)).1
       have:=hfz j hja
       obtain⟨lo,hi⟩:=fz
       simp only at this⊢
       simp only[Xb,decide_eq_false_iff_not]
       omega
    have eg:∀args w,(callFunc 106 args).run Tryz.prog w= .ok (.enter 106 args) w:=enters_of Tryz.func106 (by kernel_rfl) rfl
    have esw:∀(m:Nat) (d:Array Nat) (os:Array Obj),sortWorldK enc 2 w g 0 m d os=sortWorld (id:Value->Value) w g 0 m (flatK enc 2 d) os:=fun _ _ _=>rfl
    have hlay:∀(d:Array Nat) (m:Nat) (os:Array Obj) (b:Nat),b<w.heap.size->K b= []->K b= []/\(sortWorldK enc 2 w g 0 m d os).heap[b]? =w.heap[b]? :=fun d m os b hb hk=>⟨hk,by rw[esw];exact z5I _ hb (by rintro rfl;rw[hK] at hk;simp[col] at hk)⟩
    have hcmp:CmpLays Tryz.prog 106 #[] enc 2 (cfP xs) g 0 (List.range xs.length).toArray.size w:=fun m os dk _ x y=>by
     have k1:=(zb0 (c':= []) (hrow _ (hrw x)) (hlay dk m os) (by rw[esw];exact z6P _)).2
     have k2:=(zb0 (c':= []) (hrow _ (hrw y)) (hlay dk m os) (by rw[esw];exact z6P _)).2
     have:=zuO _ _ (F (2*rwN xs.length x+1)) (F (2*rwN xs.length y+1)) _ _ _ k1 k2
     have e1:cfP xs x y=za2 (xs[rwN xs.length x]'(hrw x)).1 (xs[rwN xs.length y]'(hrw y)).1:=by
      unfold cfP
      rw[List.getD,Z1 (hrw x),List.getD,Z1 (hrw y)];rfl
     rw[e1]
     exact this
    have hcon:=Tryz.slices_SortFunc_f105 (fun _=>rfl) (fun _=>rfl) enc (fun _=>rfl) (fun x v hv=>by
     rcases Zw.1 hv with rfl|hv
     · exact znB (hrow _ (hrw x))
     · rcases Zw.1 hv with rfl|hv
       · obtain⟨m,ds,e⟩:=hsl _ (Zp (hrw x))
         have:=hmap _ (hrw x)
         rw[e] at this
         exact zx8 this
       · cases hv) (cfP xs) (zBZ xs) 106 #[] g 0 cap (List.range xs.length).toArray w eg hcmp hH (z1c hg) (by simpa using hlen)
    rw[hsize] at hcon
    refine hcon.mono fun e' w' ⟨he,d',m,os,hp,hso,hw⟩=> ?_
    subst hw
    obtain⟨hd,hdl,hsort⟩:=zkc hnd (by rw[hsize];exact hp) (by rw[hsize];exact hso)
    have hfs:(flatK enc 2 d').size=xs.length*2:=by rw[size_flatK,hd]
    refine⟨.tuple #[],zkG w.heap.size K,he,htup _ _,fun i t hi hio=> ?_,rfl,rfl,rfl,by rw[esw];exact z6P _,fun b hb hcb=>⟨by unfold zkG;rw[if_neg (by omega)],by rw[esw];exact z5I _ hb (by rintro rfl;rw[hK] at hcb;simp[col] at hcb)⟩,?_⟩
    · match i,hi with
      |0,hi=>
       refine⟨_,rfl,?_⟩
       show TRep _ _ (col 0) (.slice (some ⟨g,0,none⟩) xs.length cap) _
       rw[←hys]
       refine .own (col 0) g _ cap 2 _ (putCells id 0 (flatK enc 2 d') arr) e fz (fun j=>F (2*d'.toList.getD (j/2) 0+j%2)) (fun i hi=>hfz i (by simpa[putCells] using hi)) (by simp[col]) (by unfold zkG;rw[if_neg (by have:=z1c hg;omega)];exact hK) (by rw[esw];exact z9u _ hg) (by simpa[putCells] using hsz) (by rw[zcF]) (by omega) (by omega) hcap (fun j hj=> ?_) (fun j t ht=> ?_)
       · have hj':j<xs.length*2:=by rw[zcF,hys] at hj;exact hj
         have hja:j<arr.size:=(Y0.1 (hcell j hj')).1
         have hjd:j/2<d'.size:=by omega
         simp only[putCells,Xd,hcell j hj',ZO]
         rw[if_pos (by omega),YN]
         show some (flatK enc 2 d')[j]! =_
         rw[hflat d' hdl j (by omega),getElem!_pos d' _ hjd]
         simp[List.getD,hjd]
       · rw[zfT] at ht
         have hjs:j/2<(z4X xs).length:=by
          rcases Yu (j/2) (z4X xs).length with h|h
          · exact h
          · rw[YJ h] at ht;cases ht
         rw[Z1 hjs] at ht
         have hjd:j/2<d'.toList.length:=by rw[Yk];omega
         have hjl:=hdl d'.toList[j/2] (Zp hjd)
         have ex:(z4X xs)[j/2]=xs[d'.toList[j/2]]:=by
          have h1:(d'.toList.map fun j=>xs.getD j ([],.dead))[j/2]? =some (z4X xs)[j/2]:=by rw[hsort];exact Z1 hjs
          rw[Zc,Z1 hjd,ZO,List.getD,Z1 hjl] at h1
          exact(YK h1).symm
         have e2:d'.toList.getD (j/2) 0=d'.toList[j/2]:=by rw[List.getD,Z1 hjd,Z7]
         rw[e2]
         rw[ex] at ht
         simp only[Z0] at ht
         have hmv:∀b,b<w.heap.size->K b= []->zkG w.heap.size K b= []/\(sortWorldK enc 2 w g 0 m d' os).heap[b]? =w.heap[b]? :=fun b hb hk=>⟨by unfold zkG;rw[if_neg (by omega)];exact hk,(hlay d' m os b hb hk).2⟩
         have hsz':w.heap.size<=(sortWorldK enc 2 w g 0 m d' os).heap.size:=by rw[esw];exact z6P _
         rcases Nat.mod_two_eq_zero_or_one j with e|e
         · rw[e] at ht⊢
           obtain rfl:zeo (xs[d'.toList[j/2]]).1=t:=by simpa[z4D] using ht
           exact(zb0 (hrow _ hjl) hmv hsz').1
         · rw[e] at ht⊢
           obtain rfl:(xs[d'.toList[j/2]]).2=t:=by simpa[z4D] using ht
           obtain⟨m2,ds,e3⟩:=hsl _ (Zp hjl)
           have h4:=hmap _ hjl
           rw[e3] at h4⊢
           exact zx7 h4 hmv hsz'
      |1,hi=>cases hi;cases hio
    · intro b arr0 e0 fz0 hb0
      by_cases hbg:b=g
      · subst hbg
        rw[hg] at hb0
        cases hb0
        exact⟨_,_,_,by rw[esw];exact z9u _ hg,by simp[putCells]⟩
      · exact⟨_,_,_,by rw[esw];exact(z5I _ (z1c hb0) hbg).trans hb0,rfl⟩
   |_=>cases hT
end
section
def No1(c:z0b):Prop:=c.head?≠some 1
theorem Keep.frz1{w w':World}{K K':Nat->z0b}(k:Keep w w' K K' No1)(dep:Option Nat):Keep w w' (frz K dep) (frz K' dep) No1:=by
 have hn:∀b id,b<w.heap.size->(K b).head?=some (id+2)->K' b=K b/\w'.heap[b]? =w.heap[b]? :=fun b id hb e=>k.own b hb (by unfold No1;rw[e];simp)
 refine⟨fun b hb e=> ?_,fun b hb e=> ?_,k.size⟩
 · cases dep with
   |none=>exact k.fro b hb e
   |some id=>
    simp only[frz] at e⊢
    by_cases h:(K b).head?=some (id+2)
    · obtain⟨e1,e2⟩:=hn b id hb h
      rw[e1,if_pos h];exact⟨rfl,e2⟩
    · rw[if_neg h] at e
      obtain⟨e1,e2⟩:=k.fro b hb e
      rw[e1];exact⟨by simp,e2⟩
 · cases dep with
   |none=>exact k.own b hb e
   |some id=>
    simp only[frz] at e⊢
    by_cases h:(K b).head?=some (id+2)
    · obtain⟨e1,e2⟩:=hn b id hb h
      rw[e1];exact⟨rfl,e2⟩
    · rw[if_neg h] at e
      obtain⟨e1,e2⟩:=k.own b hb e
      rw[e1];exact⟨rfl,e2⟩
theorem ARep.keep1{w w':World}{K K':Nat->z0b}{R:Nat->Value}{ob:List (Nat×T)}{x:A}{u:Value}(h:ARep w K R ob x u)
 (hob:∀id t,z2d ob id=some t->TRep w K (col id) (R id) t) (k:Keep w w' K K' No1):ARep w' K' R ob x u:=by
 have k1:∀id (r:z0b) gb,K gb=col id++r->gb<w.heap.size->w'.heap[gb]? =w.heap[gb]? :=fun id r gb e hb=>(k.own gb hb (by unfold No1;rw[e];simp[col])).2
 cases x with
 |dead=>trivial
 |k v=>exact h
 |t dep x=>exact⟨TRep.keep h.1 (k.frz1 dep) (fun _ hc=>absurd rfl hc),h.2⟩
 |h id p=>
  obtain⟨h1,t,h2,h3⟩:=h
  refine⟨?_,t,h2,h3⟩
  rw[z6S (hob id t h2) (z1B id) h3 (fun r j s gb _ e hb=>z1j (k1 id r gb e hb) j)];exact h1
 |a id p off=>
  obtain⟨hv,g,h1,h4,h5,t,h2,h3⟩:=h
  refine⟨hv,g,?_,h4,h5,t,h2,h3⟩
  rw[z6S (hob id t h2) (z1B id) h3 (fun r j s gb _ e hb=>z1j (k1 id r gb e hb) j)];exact h1
 |tf n cs=>exact⟨h.1,TRep.keep h.2 (k.frz1 none) (fun _ hc=>absurd rfl hc)⟩
 |ea dep cs off=>
  obtain⟨g,o,F,h1,h2,h3,h4,h5,h6⟩:=h
  obtain⟨e1,e2⟩:=(k.frz1 dep).fro g h3 h2
  exact⟨g,o,F,h1,e1,Zy h3 k.size,fun j hj=>by rw[z1j e2];exact h4 j hj,fun j t ht=>(h5 j t ht).keep (k.frz1 dep) (fun _ hc=>absurd rfl hc),h6⟩
theorem FRep.keep1{w w':World}{K K':Nat->z0b}{R G:Nat->Value}{fr:Fr}{a:Act}(h:FRep w K R G fr a)(k:Keep w w' K K' No1):FRep w' K' R G fr a:=
 ⟨fun i=>(h.tm i).mono fun x u hx=>hx.keep1 h.ob k,fun id t ht=>(h.ob id t ht).keep k (fun s _=>by unfold No1;simp[col]),h.nt,h.df⟩
def itK(r:Nat)(K:Nat->z0b)(b:Nat):z0b:=if b=r then [1] else K b
theorem FRep.put1{w:World}{K:Nat->z0b}{R G:Nat->Value}{fr:Fr}{a:Act}(h:FRep w K R G fr a){d:Nat}{x:A}{v:Value}(hd:d<fr.nt)(hx:ARep w K R fr.ob x v):
 FRep w K R G {fr with tm:=z8l fr.tm d (.one x)} (a.put (some d) v):=h.put hd hx
theorem zuS{P:Program}{w:World}{K:Nat->z0b}{R G:Nat->Value}{fr:Fr}{a:Act}{o:Oper}{x:Operand}{d:Nat}{ty ke e:TypeId}{kk:Option IntKind}{ks:List Value}{cs:List T}{next:Act->World->Prop}{Q:Exit->Act->World->Prop}
 (h:FRep w K R G fr a) (hop:o.op= .range ty x) (hd:o.dst=some d) (hdn:d<fr.nt) (hx:opE fr x= .one (.t none (.ms kk ks cs))) (ht:P.underlying ty=some (.map ke e))
 (hn:∀(bm:Nat) (ents:Array MapEntry) (clock:Nat) (F:Nat->Value),w.heap[bm]? =some (.map ents clock)->K bm= []->MapTs kk ents clock ks cs.length F->(∀j t,cs[j]? =some t->TRep w K [] (F j) t)->
   FRep (w.alloc (.mapIter (some bm) clock #[] clock)) (itK w.heap.size K) R G {fr with tm:=z8l fr.tm d (.one (.k (.pointer (some ⟨w.heap.size,0,none⟩))))} (a.put (some d) (.pointer (some ⟨w.heap.size,0,none⟩)))->
   Step w K (w.alloc (.mapIter (some bm) clock #[] clock)) (itK w.heap.size K)->next (a.put (some d) (.pointer (some ⟨w.heap.size,0,none⟩))) (w.alloc (.mapIter (some bm) clock #[] clock))):o.wp P a w next Q:=by
 have hr:=h.opE x
 rw[hx] at hr
 obtain⟨hr,-⟩:=hr
 generalize hu:a.eval x=u at hr
 have hr':TRep w K [] u (.ms kk ks cs):=hr
 clear hr
 cases hr' with
 |ms c g kk ks cs ents clock F hK hg hh hc=>
  have hrun:=run_range_map (P:=P) w ty ke e g ents clock ht hg
  have hold:∀b,b<w.heap.size->(w.alloc (.mapIter (some g) clock #[] clock)).heap[b]? =w.heap[b]? :=fun b hb=>heap_alloc_old w _ hb
  have hsz:w.heap.size<=(w.alloc (.mapIter (some g) clock #[] clock)).heap.size:=by simp
  have hik:∀b,b<w.heap.size->itK w.heap.size K b=K b:=fun b hb=>by unfold itK;rw[if_neg (by omega)]
  have hk:Keep w (w.alloc (.mapIter (some g) clock #[] clock)) K (itK w.heap.size K) (fun _=>True):=⟨fun b hb e=>⟨by rw[hik b hb];exact e,hold b hb⟩,fun b hb _=>⟨hik b hb,hold b hb⟩,hsz⟩
  unfold Oper.wp
  have hrun2:(execOp a.eval o).run P w= .ok (.value (.pointer (some ⟨w.heap.size,0,none⟩))) (w.alloc (.mapIter (some g) clock #[] clock)):=by
   simp only[execOp,hop,hu,Zd,hrun,Z3,Zk]
  rw[hrun2]
  simp only[Oper.upon,hd]
  exact hn g ents clock F hg hK hh hc ((h.keep hk).put hdn rfl) ⟨rfl,rfl,rfl,hsz,fun b hb _=>⟨hik b hb,hold b hb⟩,.olds hold⟩
structure ItStep(r:Nat)(w w':World):Prop where
 os:w'.os=w.os
 tape:w'.tape=w.tape
 output:w'.output=w.output
 size:w'.heap.size=w.heap.size
 other:∀b,b≠r->w'.heap[b]? =w.heap[b]?
variable{a:Act}{next:Act->World->Prop}{es:Array MapEntry}{seen:Array Nat}{Q:Exit->Act->World->Prop}{fr:Fr}{vis:List Nat}{e:MapEntry}{r since:Nat}{G R:Nat->Value}{K:Nat->z0b}{o:Oper}{x:Operand}{P:Program}{w w':World}
theorem ItStep.later{w0:World}{K0:Nat->z0b}(h:ItStep r w w')(s:Step w0 K0 w K)(hr:w0.heap.size<=r):Step w0 K0 w' K:=
 ⟨h.os.trans s.os,h.tape.trans s.tape,h.output.trans s.output,by rw[h.size];exact s.size,fun b hb hc=>⟨(s.old b hb hc).1,(h.other b (by omega)).trans (s.old b hb hc).2⟩,
  fun b arr e fz hb=>by
   obtain⟨a1,e1,f1,h1,h2⟩:=s.sz b arr e fz hb
   exact⟨a1,e1,f1,by rw[h.other b (by have:=z1c hb;omega)];exact h1,h2⟩⟩
theorem FRep.itStep(h:FRep w K R G fr a)(hr:K r= [1])(s:ItStep r w w'):FRep w' K R G fr a:=
 h.keep1 ⟨fun b hb e=>⟨e,s.other b (by rintro rfl;rw[hr] at e;cases e)⟩,fun b hb e=>⟨rfl,s.other b (by rintro rfl;unfold No1 at e;rw[hr] at e;simp at e)⟩,by rw[s.size];exact Z8 _⟩
theorem zq2(w w1:World)(r:Nat)(o:Obj)(h:w1=w∨w1=w.drew)(hlt:r<w.heap.size):ItStep r w (ChangeMaps.setBlock w1 r o)/\(ChangeMaps.setBlock w1 r o).heap[r]? =some o:=by
 have e:w1.heap=w.heap:=by rcases h with rfl|rfl<;>rfl
 refine⟨⟨?_,?_,?_,?_,fun b hb=> ?_⟩,?_⟩
 · rcases h with rfl|rfl<;>rfl
 · rcases h with rfl|rfl<;>rfl
 · rcases h with rfl|rfl<;>rfl
 · simp[ChangeMaps.setBlock,e]
 · simp[ChangeMaps.setBlock,e,Y4,Ne.symm hb]
 · simp[ChangeMaps.setBlock,e,hlt]
theorem zlN{vs:Array Value}{cs:List T}(hl:vs.size=cs.length)(h:∀j t,cs[j]? =some t->TRep w K [] (vs.getD j undef) t):TRep w K [] (.tuple vs) (.tup cs):=
 .tup [] vs cs (fun j=>vs.getD j undef) hl (fun j hj=>by simp[Z9,show j<vs.size by omega]) (fun j t ht=>by simpa[ext] using h j t ht)
theorem zxD{d bm:Nat}
 (h:FRep w K R G fr a) (hop:o.op= .next x false) (hd:o.dst=some d) (hdn:d<fr.nt) (hx:opE fr x= .one (.k (.pointer (some ⟨r,0,none⟩)))) (hK:K r= [1])
 (hr:w.heap[r]? =some (.mapIter (some bm) since seen since)) (hb:w.heap[bm]? =some (.map es since)) (hold:∀x∈es.toList,x.born<since)
 (h0:(leftOf es seen).size=0->FRep w K R G {fr with tm:=z8l fr.tm d (.one (.t none (.tup [.sc (.bool false)])))} (a.put (some d) (.tuple #[.bool false]))->next (a.put (some d) (.tuple #[.bool false])) w)
 (h1:∀e∈(leftOf es seen).toList,∀w',ItStep r w w'->w'.heap[r]? =some (.mapIter (some bm) since (seen.push e.born) since)->
   FRep w' K R G {fr with tm:=z8l fr.tm d (.one (.t none (.tup [.sc (.bool true),.dead,.dead])))} (a.put (some d) (.tuple #[.bool true,e.key,e.val]))->next (a.put (some d) (.tuple #[.bool true,e.key,e.val])) w'):o.wp P a w next Q:=by
 have hv:a.eval x= .pointer (some ⟨r,0,none⟩):=by
  have:=h.opE x
  rw[hx] at this
  exact this
 rcases run_next_at (P:=P) w o.type r bm since since seen es since hr hb hold (Z8 _) with⟨hz,hrun⟩|⟨e,he,w1,hw1,hrun⟩
 · unfold Oper.wp
   have hrun2:(execOp a.eval o).run P w= .ok (.value (.tuple #[.bool false])) w:=by
    simp only[execOp,hop,hv,Zd,hrun,Z3,Zk]
   rw[hrun2]
   simp only[Oper.upon,hd]
   refine h0 hz (h.put1 hdn ⟨?_,fun _ e=>by cases e⟩)
   refine zlN rfl fun j t ht=> ?_
   match j,ht with
   |0,ht=>cases ht;exact .sc _ _ rfl
 · obtain⟨hs,hg⟩:=zq2 w w1 r (.mapIter (some bm) since (seen.push e.born) since) hw1 (z1c hr)
   unfold Oper.wp
   have hrun2:(execOp a.eval o).run P w= .ok (.value (.tuple #[.bool true,e.key,e.val])) (ChangeMaps.setBlock w1 r (.mapIter (some bm) since (seen.push e.born) since)):=by
    simp only[execOp,hop,hv,Zd,hrun,Z3,Zk]
   rw[hrun2]
   simp only[Oper.upon,hd]
   refine h1 e he _ hs hg ((h.itStep hK hs).put1 hdn ⟨?_,fun _ e=>by cases e⟩)
   refine zlN rfl fun j t ht=> ?_
   match j,ht with
   |0,ht=>cases ht;exact .sc _ _ rfl
   |1,ht=>cases ht;exact .dead _ _
   |2,ht=>cases ht;exact .dead _ _
theorem zvI{d bm:Nat}{tk t:T}
 (h:FRep w K R G fr a) (hop:o.op= .entry x) (hd:o.dst=some d) (hdn:d<fr.nt) (hx:opE fr x= .one (.k (.pointer (some ⟨r,0,none⟩))))
 (hr:w.heap[r]? =some (.mapIter (some bm) since (seen.push e.born) since)) (hb:w.heap[bm]? =some (.map es since)) (he:e∈es.toList) (hnd:(es.toList.map (·.born)).Nodup) (htk:TRep w K [] e.key tk) (ht:TRep w K [] e.val t)
 (hn:FRep w K R G {fr with tm:=z8l fr.tm d (.one (.t none (.tup [tk,t])))} (a.put (some d) (.tuple #[e.key,e.val]))->next (a.put (some d) (.tuple #[e.key,e.val])) w):o.wp P a w next Q:=by
 have hv:a.eval x= .pointer (some ⟨r,0,none⟩):=by
  have:=h.opE x
  rw[hx] at this
  exact this
 have hrun:=run_entry_at (P:=P) w r bm since seen es since e hr hb he hnd
 unfold Oper.wp
 have hrun2:(execOp a.eval o).run P w= .ok (.value (.tuple #[e.key,e.val])) w:=by
  simp only[execOp,hop,hv,Zd,hrun,Z3,Zk]
 rw[hrun2]
 simp only[Oper.upon,hd]
 refine hn (h.put1 hdn ⟨?_,fun _ e=>by cases e⟩)
 refine zlN rfl fun j t' ht'=> ?_
 match j,ht' with
 |0,ht'=>cases ht';exact htk
 |1,ht'=>cases ht';exact ht
section
variable {kk:Option IntKind} {ents:Array MapEntry} {clock:Nat} {ks:List Value} {n:Nat} {F:Nat->Value}
theorem MapTs.size(h:MapTs kk ents clock ks n F):ents.size=n:=by
 obtain⟨h1,h2,_⟩:=h
 have:=congrArg List.length h1
 simpa[h2] using this
theorem MapTs.old(h:MapTs kk ents clock ks n F):∀x∈ents.toList,x.born<clock:=fun x hx=>by
 obtain⟨j,hj,e⟩:=Zq hx
 obtain⟨_,_,_,_,h5,_⟩:=h
 exact h5 j x (by rw[←Zx,Z1 hj,e])
theorem MapTs.nodup(h:MapTs kk ents clock ks n F):(ents.toList.map (·.born)).Nodup:=by
 obtain⟨_,_,_,_,_,h6⟩:=h
 rw[List.nodup_iff_pairwise_ne,ZH]
 intro i j hi hj hij e
 simp only[Zg] at hi hj
 simp only[ZF] at e
 have:=h6 i j _ _ (by rw[←Zx,Z1 hi]) (by rw[←Zx,Z1 hj]) e
 omega
def za0(ents:Array MapEntry)(vis:List Nat):Array Nat:=(vis.map fun i=>(ents[i]?.map (·.born)).getD 0).toArray
theorem zlW(vis:List Nat)(i:Nat)(he:ents[i]? =some e):(za0 ents vis).push e.born=za0 ents (vis++ [i]):=by
 simp[za0,he]
theorem zvf(h:MapTs kk ents clock ks n F)(hv:∀i∈vis,i<n)(he:e∈(leftOf ents (za0 ents vis)).toList):∃i,i<n/\ents[i]? =some e/\i∉vis/\e.val=F i:=by
 have hm:e∈ents/\ ¬e.born∈za0 ents vis:=by
  simpa[leftOf] using he
 obtain⟨hm,hns⟩:=hm
 obtain⟨i,hi,rfl⟩:=Array.getElem_of_mem hm
 have hs:=h.size
 obtain⟨h1,h2,h3,h4,h5,h6⟩:=h
 refine⟨i,by omega,by simp[hi],fun hin=>hns ?_,h4 i _ (by simp[hi])⟩
 simp only[za0,List.mem_toArray,Zj]
 exact⟨i,hin,by simp[hi]⟩
theorem zsG(h:MapTs kk ents clock ks n F)(hv:∀i∈vis,i<n)(hz:(leftOf ents (za0 ents vis)).size=0):∀i,i<n->i∈vis:=fun i hi=>by
 have hs:=h.size
 obtain⟨h1,h2,h3,h4,h5,h6⟩:=h
 have he:leftOf ents (za0 ents vis)= #[]:=Array.eq_empty_of_size_eq_zero hz
 rw[leftOf,Array.filter_eq_empty_iff] at he
 have:=he (ents[i]'(by omega)) (Array.getElem_mem _)
 simp only[ZS,Bool.not_eq_false',XD,Bool.not_eq_false] at this
 have hc:(ents[i]'(by omega)).born∈za0 ents vis:=by simpa using this
 simp only[za0,List.mem_toArray,Zj] at hc
 obtain⟨j,hj,e⟩:=hc
 have hjn:=hv j hj
 have hje:ents[j]? =some (ents[j]'(by omega)):=by simp[show j<ents.size by omega]
 rw[hje] at e
 have hie:ents[i]? =some (ents[i]'(by omega)):=by simp[show i<ents.size by omega]
 have e':(ents[j]'(by omega)).born=(ents[i]'(by omega)).born:=by simpa using e
 have:=h6 j i _ _ hje hie e'
 rw[←this];exact hj
end
theorem zpN{n:Nat}(hn:vis.Nodup)(hv:∀i∈vis,i<n)(ha:∀i,i<n->i∈vis):vis.Perm (List.range n):=by
 refine(List.perm_ext_iff_of_nodup hn YC).2 fun i=> ?_
 rw[Zi]
 exact⟨hv i,ha i⟩
theorem zeg:∀ {n:Nat} {vis:List Nat},vis.Nodup->(∀i∈vis,i<n)->vis.length<=n
 |0,vis,hn,hv=>by
  cases vis with
  |nil=>simp
  |cons a l=>exact absurd (hv a (by simp)) (by omega)
 |n+1,vis,hn,hv=>by
  have h1:(vis.erase n).Nodup:=hn.erase n
  have h2:=zeg (n:=n) h1 fun i hi=>by
   have:=(hn.mem_erase_iff).1 hi
   have:=hv i this.2
   omega
  rw[List.length_erase] at h2
  split at h2<;>omega
theorem zn4{ops:Array Oper}{l:List Oper}(hg:o.guard=none)(h:∀Kk:Act->World->Prop,(∀a w,wpList P ops Q l a w->Kk a w)->o.wp P a w Kk Q):wpList P ops Q (o::l) a w:=by
 refine wpList_step fun Kk hK=> ?_
 simp only[Region.wanted,hg,if_true]
 exact h Kk hK
theorem zfG{C:z0e}{cf:Cfg}{LF:Nat}{x y:Code}{fr':Fr}(h:z2E P C cf LF (.seq x y) fr=some (.n,fr')):∃f1,z2E P C cf LF x fr=some (.n,f1)/\z2E P C cf LF y f1=some (.n,fr'):=by
 simp only[z2E] at h
 split at h
 · rename_i f1 h1
   exact⟨f1,h1,h⟩
 · rename_i hne
   exact absurd h (hne _)
end
section
open Go
set_option maxRecDepth 100000
set_option maxHeartbeats 4000000
variable{rs:List (List Int×T)}{vis:List Nat}{args:List T}{i r:Nat}
noncomputable def znC:Code:=zd7 (zd7 (zd7 (zd7 zh3)))
noncomputable def c24:Code:=zjk (zjk znC)
noncomputable def lpR:Code:=lpC (blC (zd7 (zjk znC)))
noncomputable def c25:Code:=zjk lpR
noncomputable def c26:Code:=zjk (blC (zd7 (zd7 lpR)))
noncomputable def c27:Code:=zd7 (blC (zd7 (zd7 lpR)))
noncomputable def c28:Code:=zjk (zd7 znC)
noncomputable def c29:Code:=zjk (zd7 (zd7 znC))
theorem zvW:zh3= .seq (zjk zh3) (.seq (zjk (zd7 zh3)) (.seq (zjk (zd7 (zd7 zh3))) (.seq (zjk (zd7 (zd7 (zd7 zh3)))) (.seq (.seq c24 (.block 6 (.loop (.seq c25 (.seq (.cond (.tmp 79) .skip (.exit 6)) (.block 7 (.seq c26 c27))))))) (.seq c28 (.seq c29 .ret)))))):=rfl
theorem zAc:c24= .region 24 (rgO c24) false:=rfl
theorem zAb:c25= .region 25 (rgO c25) false:=rfl
theorem zAa:c26= .region 26 (rgO c26) false:=rfl
def zej(rs:List (List Int×T))(vis:List Nat):List T:=(vis.map fun i=>rs.getD i ([],.sl 0 [])).flatMap z4D
def HR(rs:List (List Int×T))(r:Nat)(vis:List Nat):Fr:=⟨89,[(16,.one (.h 16 [])),(77,.one (.k (.pointer (some ⟨r,0,none⟩)))),(999999,.one .dead)],[(16,.os 2 vis.length (zej rs vis))]⟩
def cS:z0e:=fun f args=>if f=105 then zjq 106 args else none
theorem zmS{r:List Int×T}(hi:rs[i]? =some r):zej rs (vis++ [i])=zej rs vis++z4D r:=by
 simp[zej,List.getD,hi]
theorem zyY{p:List Int}{m:Nat}{ds:List T}(hi:rs[i]? =some (p,.sl m ds))(hdm:ds.map z1U=ds)(hk:vis.length+1<=4611686018427387904)(hk2:(vis.length+1)*48<=140737488355328):
 ∃f1,zep Tryz.prog cS cfRw.wio (rgO c26) ((rgO c26).toList.drop 1) {HR rs r vis with tm:=z8l (z8l (z8l (HR rs r vis).tm 78 (.one (.t none (.tup [.sc (.bool true),.dead,.dead])))) 79 (.one (.t none (.sc (.bool true))))) 80 (.one (.t none (.tup [.dead,.agg (z4D (p,.sl m ds))])))}=some f1/\
  ∃f2,z2E Tryz.prog cS cfRw LFm c27 f1=some (.n,f2)/\z9C (some [16,77,999999]) f2=HR rs r (vis++ [i]):=by
 have key:∀(fr:Fr) (Q:Fr->Prop),zm6 Tryz.prog cS cfRw.wio c26 1 fr Q->∃f1,zep Tryz.prog cS cfRw.wio (rgO c26) ((rgO c26).toList.drop 1) fr=some f1/\Q f1:=fun fr Q h=>by
  unfold zm6 at h
  exact zcv h
 refine key _ _ ?_
 simp only[HR,z8l,z4D,zeo]
 refine zfO rfl rfl fun Q' hQ=> ?_;simp[*,cfRw];refine hQ.out _ ?_;clear hQ;clear Q'
 refine zfO rfl rfl fun Q' hQ=> ?_;simp[*,cfRw];refine hQ.out _ ?_;clear hQ;clear Q'
 refine zfO rfl rfl fun Q' hQ=> ?_;simp[*,cfRw];refine hQ.out _ ?_;clear hQ;clear Q'
 refine zin (by decide) ?_
 have key2:∀(fr:Fr) (Q:Fr->Prop),wpC Tryz.prog cS cfRw LFm c27 fr (fun x f=>x= .n/\Q f)->∃f2,z2E Tryz.prog cS cfRw LFm c27 fr=some (.n,f2)/\Q f2:=fun fr Q h=>by
  unfold wpC at h
  obtain⟨x,f,h1,h2,h3⟩:=h
  subst h2
  exact⟨f,h1,h3⟩
 refine key2 _ _ ?_
 refine zip rfl rfl rfl fun Q' hQ=> ?_;simp[*,cfRw];refine hQ.out _ ?_;clear hQ;clear Q'
 refine⟨rfl,?_⟩
 simp[HR,zmS hi,z4D,zeo]
theorem zwi(b:Bool)(l:List T):zep Tryz.prog cS cfRw.wio (rgO c25) ((rgO c25).toList.drop 1) {HR rs r vis with tm:=z8l (HR rs r vis).tm 78 (.one (.t none (.tup (.sc (.bool b)::l))))}=some {HR rs r vis with tm:=z8l (z8l (HR rs r vis).tm 78 (.one (.t none (.tup (.sc (.bool b)::l))))) 79 (.one (.t none (.sc (.bool b))))}:=by
 have key:∀(fr f2:Fr),zm6 Tryz.prog cS cfRw.wio c25 1 fr (fun f=>f=f2)->zep Tryz.prog cS cfRw.wio (rgO c25) ((rgO c25).toList.drop 1) fr=some f2:=fun fr f2 h=>by
  unfold zm6 at h
  obtain⟨f,h1,h2⟩:=zcv h
  rw[h1,h2]
 refine key _ _ ?_
 simp only[HR,z8l]
 refine zfO rfl rfl fun Q' hQ=> ?_;simp[*,cfRw];refine hQ.out _ ?_;clear hQ;clear Q'
 refine zin (by decide) ?_
 rfl
theorem zyX{n:Nat}{cs:List T}(hx:cS 105 [.os 2 vis.length (zej rs vis),.sc (.func (.func 106) #[] #[])]=some (.tup [],[.os 2 n cs,.dead]))(hcs:cs.map z1U=cs)(x y:E):
 wpC Tryz.prog cS cfRw LFm (.seq c28 (.seq c29 .ret)) {HR rs r vis with tm:=z8l (z8l (HR rs r vis).tm 78 (.one (.t none (.tup [.sc (.bool false)])))) 79 (.one (.t none (.sc (.bool false))))} (zti Tryz.prog Tryz.f50 [] (.sl n cs) []):=by
 simp only[HR,z8l]
 repeat' (first|refine z0a ?_|refine z6g ?_|refine z9N ?_|refine z2f ?_|refine z2n rfl ?_|refine zgH rfl ?_|refine zbi ?_|refine zxL ?_|refine zxM ?_|refine zuT ?_|refine zuU ?_|refine zzb rfl ?_|refine zs7 rfl ?_|(refine zs6 rfl rfl (by simp[*,cfRw,hx,hcs];rfl) ?_)|(refine zip rfl rfl rfl fun Q' hQ=> ?_;simp[*,cfRw,hx,hcs];(refine hQ.out _ ?_;clear hQ;clear Q'))|(refine zAZ rfl fun Q1 Q2 h1 h2=> ?_;simp[*,zc7,zah,zAq,zAt,zAp,zAs,z7a,zeW,z2X,opE,rdV,scE,zgB];(try (repeat' (first|refine And.intro ?_ ?_|intro _)));all_goals (first|(exfalso;omega)|(refine h1.out ?_;clear h1 h2;clear Q1 Q2)|(refine h2.out ?_;clear h1 h2;clear Q1 Q2)))|refine z7S rfl ?_|refine zcx rfl ?_|refine z5E rfl ?_|refine zs5 rfl ?_|refine z9P rfl rfl rfl rfl ?_|(refine z5b rfl fun Q' hQ=> ?_;simp[*,cfRw,hx,hcs];(refine hQ.out _ ?_;clear hQ;clear Q'))|(refine z5R rfl rfl fun Q' hQ=> ?_;simp[*,cfRw,hx,hcs];(refine hQ.out _ ?_;clear hQ;clear Q'))|(refine zcy rfl rfl fun Q1 Q2 h1 h2=> ?_;simp[*,zc7,zah,zAq,zAt,zAp,zAs,zsZ,zeW,z2X,opE,rdV,scE,zgB];(try (repeat' (first|refine And.intro ?_ ?_|intro _)));all_goals (first|(exfalso;omega)|((first|(exfalso;omega)|(refine h1.out ?_;clear h1 h2;clear Q1 Q2)|(refine h2.out ?_;clear h1 h2;clear Q1 Q2));intro Q' hQ;simp[*,cfRw,hx,hcs];(refine hQ.out _ ?_;clear hQ;clear Q'))))|refine zs4 rfl rfl rfl ?_|(refine zin (by decide) ?_)|(refine zfO rfl rfl fun Q' hQ=> ?_;simp[*,cfRw,hx,hcs];(refine hQ.out _ ?_;clear hQ;clear Q'))|(refine zpG rfl rfl fun Q1 Q2 h1 h2=> ?_;simp[*,zc7,zah,zAq,zAt,zAp,zAs,zsZ,zeW,z2X,opE,rdV,scE,zgB];(try (repeat' (first|refine And.intro ?_ ?_|intro _)));all_goals (first|(exfalso;omega)|((first|(exfalso;omega)|(refine h1.out ?_;clear h1 h2;clear Q1 Q2)|(refine h2.out ?_;clear h1 h2;clear Q1 Q2));intro Q' hQ;simp[*,cfRw,hx,hcs];(refine hQ.out _ ?_;clear hQ;clear Q')))))
 all_goals (simp[zti, *];done)
theorem zw7:∀(i:Nat) (t:T),args.all (fun t=> !z6N t)=true->args[i]? =some t->z6N t=true->False:=fun i t ha hi hio=>by
 rw[Zt] at ha
 have:=ha t (ZT hi)
 rw[hio] at this
 cases this
theorem zj8(hd:∀r∈rs,z1U r.2=r.2):((rs).flatMap z4D).map z1U=rs.flatMap z4D:=by
 induction rs with
 |nil=>rfl
 |cons r l ih=>
  rw[ZG,Y3,ih fun q hq=>hd q (Zl _ hq)]
  simp[z4D,zeo,hd r (Zv ..)]
theorem zjs{I:World->(Nat->z0b)->Prop}{C:z0e}(hI:EnvS I)(hC:z8j Tryz.prog I C)(hS:z8j Tryz.prog I cS)(hsort:∀l1 l2:List (List Int×T),l1.Perm l2->(l2.map (·.1)).Nodup->z4X l1=z4X l2)(hperm:∀l:List (List Int×T),(z4X l).Perm l){r:T}{outs:List T}(h:zjt C args=some (r,outs)):CallOk Tryz.prog I 50 args r outs:=by
 have hm:Tryz.prog.follows .mixedOrders=true:=by kernel_rfl
 unfold zjt at h
 split at h
 case h_2=>cases h
 rename_i fr hcode
 split at h
 case h_2=>cases h
 rename_i kk ks cs h5 h16 ho16
 split at h
 case h_2=>cases h
 rename_i rs hrs
 split at h
 case isFalse=>cases h
 rename_i hc
 obtain⟨hnd,hby,hal,hio,hnt,hdm⟩:=hc
 obtain⟨rfl,rfl⟩:T.sl (z4X rs).length ((z4X rs).flatMap z4D)=r/\(args.map fun _=>T.dead)=outs:=by simpa using h
 obtain⟨hcs,hsl⟩:=zhF hrs
 clear h hrs
 have hb:Tryz.f50.body=some zh3:=rfl
 refine⟨fun vals w=> ?_,fun w K vals hs ha hIw=> ?_⟩
 · have hname:Tryz.f50.name≠ "runtime.NumGoroutine" :=by decide
   simp[callFunc,program,Sem.run,Tryz.func50,hname,hb]
 have hent:=zl8 (nt:=89) hs ha hal
 obtain⟨f0,e0,hcode⟩:=zfG hcode
 obtain⟨f1,e1,hcode⟩:=zfG hcode
 obtain⟨f2,e2,e3⟩:=zfG hcode
 have ok:okC cfRw (zuY zh3)=true:=by kernel_rfl
 simp only[zuY,okC,Z5] at ok
 obtain⟨ok0,ok1,ok2,ok3⟩:=ok
 refine calls_of_wp Tryz.func50 hb ?_
 rw[zvW]
 refine wp_seq (zc0 hI hC hm _ ok0 hent hIw e0 fun a1 w1 K1 R1 h1 s1=> ?_)
 refine wp_seq (zc0 hI hC hm _ ok1 h1 (hI.step hIw s1) e1 fun a2 w2 K2 R2 h2 s2=> ?_)
 have s2:=s1.trans s2
 refine wp_seq (zc0 hI hC hm _ ok2 h2 (hI.step hIw s2) e2 fun a3 w3 K3 R3 h3 s3=> ?_)
 have s3:=s2.trans s3
 refine wp_seq (zc0 hI hC hm _ ok3 h3 (hI.step hIw s3) e3 fun a4 w4 K4 R4 h4 s4=> ?_)
 have s4:=s3.trans s4
 clear h1 h2 h3 s1 s2 s3 e0 e1 e2 e3 hent
 have h5':=(h4.weaken (tm:= [(5,.one (.t none (.ms kk ks cs))),(16,.one (.h 16 []))]) fun i=>by
  simp only[z2X]
  split
  · rename_i e;subst e;exact .inl h5.symm
  · split
    · rename_i e;subst e;exact .inl h16.symm
    · exact .inr rfl).canon (some [5,16,999999])
 have e6:z9C (some [5,16,999999]) {fr with tm:= [(5,.one (.t none (.ms kk ks cs))),(16,.one (.h 16 []))]}=⟨89,[(5,.one (.t none (.ms kk ks cs))),(16,.one (.h 16 [])),(999999,.one .dead)],[(16,.os 2 0 [])]⟩:=by
  simp[ho16,hnt]
 rw[e6] at h5'
 clear h4 h5 h16 ho16 hnt e6
 obtain⟨o0,o1,ty,ke,el,q24,p0,d0,g0,p1,d1,g1,ht⟩:∃(o0 o1:Oper) (ty ke el:TypeId),(rgO c24).toList= [o0,o1]/\o0.op= .move (.tmp 5)/\o0.dst=some 76/\o0.guard=none/\o1.op= .range ty (.tmp 76)/\o1.dst=some 77/\o1.guard=none/\Tryz.prog.underlying ty=some (.map ke el):=⟨_,_,_,_,_,rfl,rfl,rfl,rfl,rfl,rfl,rfl,rfl⟩
 refine wp_seq (wp_seq ?_)
 rw[zAc]
 refine wp_region_list ?_
 rw[q24]
 refine zn4 g0 fun Kk hK=> ?_
 unfold Oper.wp
 rw[show(execOp a4.eval o0).run Tryz.prog w4= .ok (.value (a4.eval (.tmp 5))) w4 by simp[execOp,p0]]
 simp only[Oper.upon,d0]
 refine hK _ _ ?_
 clear hK
 have h7:=h5'.put (d:=76) (x:=.one (.t none (.ms kk ks cs))) (v:=a4.eval (.tmp 5)) (show 76<89 by decide) (h5'.opE (.tmp 5))
 refine zn4 g1 fun Kk hK=> ?_
 refine zuS h7 p1 d1 (show 77<89 by decide) rfl ht fun bm ents clock F hg hKb hmt htr h8 s8=>hK _ _ (wpList_nil ?_)
 have hln:cs.length=rs.length:=by rw[hcs];simp
 rw[hln] at hmt
 have hkid:∀i (hi:i<rs.length),TRep w4 K4 [] (F i) (.agg (z4D rs[i])):=fun i hi=>htr i _ (by rw[hcs,Zc,Z1 hi];rfl)
 clear hK h7 h5' q24 p0 d0 g0 p1 d1 g1 ht htr Kk hcs
 have h9:=h8.canon (some [16,77,999999])
 have e9:∀rr,z9C (some [16,77,999999]) {(⟨89,z8l [(5,.one (.t none (.ms kk ks cs))),(16,.one (.h 16 [])),(999999,.one .dead)] 76 (.one (.t none (.ms kk ks cs))),[(16,.os 2 0 [])]⟩:Fr) with tm:=z8l (z8l [(5,.one (.t none (.ms kk ks cs))),(16,.one (.h 16 [])),(999999,.one .dead)] 76 (.one (.t none (.ms kk ks cs)))) 77 (.one (.k (.pointer (some ⟨rr,0,none⟩))))}=HR rs rr []:=fun rr=>by
  simp[HR,zej]
 rw[e9] at h9
 clear e9 h8 hln
 generalize hr:w4.heap.size=rr at h9 s8
 have hKrr:itK rr K4 rr= [1]:=by simp[itK]
 have hitr:(w4.alloc (.mapIter (some bm) clock #[] clock)).heap[rr]? =some (.mapIter (some bm) clock (za0 ents []) clock):=by
  rw[←hr,heap_alloc_new];rfl
 show(Code.block 6 _).wp _ _ _ _
 refine wp_block ?_
 refine zjw (fun n a1 w1=>∃K1 R1 vis,FRep w1 K1 R1 (fun i=>vals.getD (i-(89+1000)) undef) (HR rs rr vis) a1/\Step w4 K4 w1 K1/\K1 rr= [1]/\w1.heap[rr]? =some (.mapIter (some bm) clock (za0 ents vis) clock)/\vis.Nodup/\(∀i∈vis,i<rs.length)/\vis.length+n=rs.length) ?_ (n:=rs.length) ⟨_,_,[],h9,s8,hKrr,hitr,List.nodup_nil,(fun i hi=>by cases hi),by simp⟩
 clear h9 s8 hitr hKrr
 rintro n a5 w5 ⟨K5,R5,vis,h5,s5,hKr,hit,hnv,hlt,hlen⟩
 have hbm:w5.heap[bm]? =some (.map ents clock):=(s5.old bm (z1c hg) (.inl hKb)).2.trans hg
 have hKb5:K5 bm= []:=(s5.old bm (z1c hg) (.inl hKb)).1.trans hKb
 have hI5:I w5 K5:=hI.step hIw (s4.trans s5)
 refine wp_seq ?_
 rw[zAb]
 refine wp_region_list ?_
 obtain⟨o0,o1,q25,p0,d0,g0,x1⟩:∃(o0 o1:Oper),(rgO c25).toList= [o0,o1]/\o0.op= .next (.tmp 77) false/\o0.dst=some 78/\o0.guard=none/\(rgO c25).toList.drop 1= [o1]:=⟨_,_,rfl,rfl,rfl,rfl,rfl⟩
 rw[q25]
 refine zn4 g0 fun Kk hK=> ?_
 refine zxD h5 p0 d0 (show 78<89 by decide) rfl hKr hit hbm hmt.old (fun hz h6=> ?_) (fun e he w6 hst hit6 h6=> ?_)
 ·
  refine hK _ _ ?_
  clear hK
  have hreg:zep Tryz.prog cS cfRw.wio (rgO c25) [o1] {HR rs rr vis with tm:=z8l (HR rs rr vis).tm 78 (.one (.t none (.tup [.sc (.bool false)])))}=some {HR rs rr vis with tm:=z8l (z8l (HR rs rr vis).tm 78 (.one (.t none (.tup [.sc (.bool false)])))) 79 (.one (.t none (.sc (.bool false))))}:=by
   rw[←x1];exact zwi false []
  refine zhH hI hS h6 hI5 hreg fun a7 w7 K7 R7 h7 s7=> ?_
  have s7:=s5.trans s7
  refine wp_seq (wp_cond_false (z1r (h7.opE (.tmp 79)) rfl).1 (wp_exit ?_))
  simp only[Exit.then,Exit.inBlock,if_true]
  have hvp:=zpN hnv hlt (zsG hmt hlt hz)
  have hvl:vis.length=rs.length:=by simpa using hvp.length_eq
  have e1:(List.range rs.length).map (fun i=>rs.getD i ([],.sl 0 []))=rs:=by
   refine Ze (by simp) fun i h1 h2=> ?_
   simp[List.getD,h2]
  have hvr:(vis.map fun i=>rs.getD i ([],.sl 0 [])).Perm rs:=by
   have:=hvp.map (fun i=>rs.getD i ([],.sl 0 []))
   rwa [e1] at this
  have hso:z4X (vis.map fun i=>rs.getD i ([],.sl 0 []))=z4X rs:=hsort _ _ hvr hnd
  have hx:cS 105 [.os 2 vis.length (zej rs vis),.sc (.func (.func 106) #[] #[])]=some (.tup [],[.os 2 (z4X rs).length ((z4X rs).flatMap z4D),.dead]):=by
   have hpi:=zfU (vis.map fun i=>rs.getD i ([],.sl 0 [])) fun r hr=>hsl r (hvr.mem_iff.1 hr)
   have hnd':((vis.map fun i=>rs.getD i ([],.sl 0 [])).map (·.1)).Nodup:=(hvr.map (·.1)).nodup_iff.2 hnd
   unfold cS
   rw[if_pos rfl]
   unfold zjq zej
   simp only[XX,and_self,if_true,hpi]
   rw[if_pos ⟨by simp,by simp;omega,hnd'⟩,hso]
  have hcd:((z4X rs).flatMap z4D).map z1U=(z4X rs).flatMap z4D:=zj8 fun r hr=>hdm r ((hperm rs).mem_iff.1 hr)
  have htl:=zyX (r:=rr) hx hcd (.one .dead) (.one .dead)
  unfold wpC at htl
  obtain⟨x,f8,hco,hex⟩:=htl
  have okt:okC cfRw (.seq c28 (.seq c29 .ret))=true:=by kernel_rfl
  refine zc0 hI hS hm _ okt h7 (hI.step hIw (s4.trans s7)) hco fun a8 w8 K8 R8 h8 s8=> ?_
  have s8:=s7.trans s8
  have hfin:∀r0,zdT Tryz.prog Tryz.f50 [] f8=some (r0,[])->z1U r0=T.sl (z4X rs).length ((z4X rs).flatMap z4D)->a8.defers= []/\ ∃v,(results Tryz.f50 a8.tmps).run Tryz.prog w8= .ok v w8/\ ∃v' K',Ending.returned v= .returned v'/\TRep w8 K' [0] v' (T.sl (z4X rs).length ((z4X rs).flatMap z4D))/\(∀i t,args[i]? =some t->z6N t=true->∃t',(args.map fun _=>T.dead)[i]? =some t'/\TRep w8 K' (col i) (vals.getD i undef) t')/\Step w K w8 K':=fun r0 hx0 hd0=>by
   obtain⟨v,K9,r1,r2,-,r4⟩:=zth h8 hx0 (by simp)
   refine⟨h8.df,v,r1,v,fun b=>dz (K9 b),rfl,?_,fun i t hi hio'=>(zw7 i t hio hi hio').elim,((s4.trans s8).trans r4).trans ⟨rfl,rfl,rfl,Z8 _,fun b hb hcc=>⟨by
    show dz (K9 b)=K9 b
    rcases hcc with q|q<;>rw[q]<;>rfl,rfl⟩,.same rfl⟩⟩
   rw[←hd0]
   exact r2.freeze (fun b s hb hcc hK=>⟨by show dz (K9 b)= [];rw[hK];rfl,rfl⟩) (fun b hb hK=>⟨by show dz (K9 b)= [];rw[hK];rfl,rfl⟩) (Z8 _) [0]
  have hgo:(zdT Tryz.prog Tryz.f50 [] f8).map (fun x=>(z1U x.1,x.2))=some (T.sl (z4X rs).length ((z4X rs).flatMap z4D),[])->∃r0,zdT Tryz.prog Tryz.f50 [] f8=some (r0,[])/\z1U r0=T.sl (z4X rs).length ((z4X rs).flatMap z4D):=fun h=>by
   rw[Z4] at h
   obtain⟨⟨r0,o0⟩,h1,h2⟩:=h
   have e1:z1U r0=_:=congrArg Prod.fst h2
   have e2:o0= []:=congrArg Prod.snd h2
   subst e2
   exact⟨r0,h1,e1⟩
  cases x with
  |n=>
   obtain⟨r0,h1,h2⟩:=hgo hex
   exact hfin r0 h1 h2
  |r=>
   obtain⟨r0,h1,h2⟩:=hgo hex
   exact hfin r0 h1 h2
  |x id=>exact hex.elim
 ·
  obtain⟨i,hi,hei,hiv,hev⟩:=zvf hmt hlt he
  refine hK _ _ ?_
  clear hK
  have s6:Step w4 K4 w6 K5:=hst.later s5 (by omega)
  have hI6:I w6 K5:=hI.step hIw (s4.trans s6)
  have hreg:zep Tryz.prog cS cfRw.wio (rgO c25) [o1] {HR rs rr vis with tm:=z8l (HR rs rr vis).tm 78 (.one (.t none (.tup [.sc (.bool true),.dead,.dead])))}=some {HR rs rr vis with tm:=z8l (z8l (HR rs rr vis).tm 78 (.one (.t none (.tup [.sc (.bool true),.dead,.dead])))) 79 (.one (.t none (.sc (.bool true))))}:=by
   rw[←x1];exact zwi true [.dead,.dead]
  refine zhH hI hS h6 hI6 hreg fun a7 w7 K7 R7 h7 s7=> ?_
  have hr7:=s7.old rr (z1c hit6) (.inr hKr)
  have hb7:=(s6.trans s7).old bm (z1c hg) (.inl hKb)
  have s7:=s6.trans s7
  refine wp_seq (wp_cond_true (z1r (h7.opE (.tmp 79)) rfl).1 (wp_skip ?_))
  show(Code.block 7 _).wp _ _ _ _
  refine wp_block (wp_seq ?_)
  rw[zAa]
  refine wp_region_list ?_
  obtain⟨o2,l2,q26,p2,d2,g2,x2⟩:∃(o2:Oper) (l2:List Oper),(rgO c26).toList=o2::l2/\o2.op= .entry (.tmp 77)/\o2.dst=some 80/\o2.guard=none/\(rgO c26).toList.drop 1=l2:=⟨_,_,rfl,rfl,rfl,rfl,rfl⟩
  rw[q26]
  refine zn4 g2 fun Kk hK=> ?_
  obtain⟨m,ds,e2⟩:=hsl rs[i] (Zp hi)
  have hri:rs[i]? =some (rs[i].1,.sl m ds):=by rw[Z1 hi];rw[←e2]
  have hdd:ds.map z1U=ds:=by
   have:=hdm rs[i] (Zp hi)
   rw[e2,z1U,z4c] at this
   injection this
  have hkt:TRep w7 K7 [] e.val (.agg (z4D (rs[i].1,.sl m ds))):=by
   rw[hev,←e2]
   exact(hkid i hi).move (fun b s hb hc=>absurd rfl hc) (fun b hb e=>⟨(s7.old b hb (.inl e)).1.trans e,(s7.old b hb (.inl e)).2⟩) YV s7.size
  refine zvI h7 p2 d2 (show 80<89 by decide) rfl (hr7.2.trans hit6) (hb7.2.trans hg) (by rw[←Zx] at hei;exact ZT hei) hmt.nodup (.dead _ _) hkt fun h8=>hK _ _ ?_
  clear hK
  have hl1:vis.length+1<=rs.length:=by
   have:=zeg (vis:=i::vis) (n:=rs.length) (YB.2 ⟨hiv,hnv⟩) fun j hj=>by
    rcases Zw.1 hj with rfl|hj
    · exact hi
    · exact hlt j hj
   simpa using this
  obtain⟨f1,t1,f2,t2,t3⟩:=zyY (r:=rr) (vis:=vis) hri hdd (by omega) (by omega)
  rw[x2] at t1
  have hI7:I w7 K7:=hI.step hIw (s4.trans s7)
  refine zhH hI hS h8 hI7 t1 fun a9 w9 K9 R9 h9 s9=> ?_
  have ok27:okC cfRw c27=true:=by kernel_rfl
  refine zc0 hI hS hm _ ok27 h9 (hI.step hI7 s9) t2 fun a10 w10 K10 R10 h10 s10=> ?_
  have s10:=s9.trans s10
  have h11:=h10.canon (some [16,77,999999])
  rw[t3] at h11
  have hr10:=s10.old rr (by have:=s7.size;have:=z1c (hr7.2.trans hit6);omega) (.inr (hr7.1.trans hKr))
  refine⟨n-1,by omega,K10,R10,vis++ [i],h11,s7.trans s10,hr10.1.trans (hr7.1.trans hKr),?_,?_,?_,?_⟩
  · rw[hr10.2,hr7.2,hit6,zlW vis i hei]
  · exact Ym.2 ⟨hnv,by simp,fun a ha b hb=>by
     rw[Zh] at hb
     subst hb
     rintro rfl
     exact hiv ha⟩
  · intro j hj
    rcases Zf.1 hj with hj|hj
    · exact hlt j hj
    · rw[Zh] at hj;omega
  · simp;omega
end
section
open Go
theorem zvV{I:World->(Nat->z0b)->Prop}:z8j Tryz.prog I cS:=by
 intro f args r outs h
 unfold cS at h
 split at h
 case isTrue hf=>subst hf;exact ze5 h
 cases h
theorem zpz{l1 l2:List (List Int×T)}(hp:l1.Perm l2)(hn:(l2.map (·.1)).Nodup):z4X l1=z4X l2:=
 znr ((((z7l l1).trans hp).map (·.1)).nodup_iff.2 hn) (((z7l l1).trans hp).trans (z7l l2).symm) (z8T l1) (z8T l2)
theorem zqR:∀C,z8j Tryz.prog zqJ C->z8j Tryz.prog zqJ (xtF C):=by
 intro C hC f args r outs h
 unfold xtF at h
 split at h
 case isTrue hf=>subst hf;exact ze5 h
 split at h
 case isTrue hf=>subst hf;exact zjs zA2 hC zvV (fun _ _=>zpz) z7l h
 exact zqS f args r outs h
end
section
open Go.ChangeShapes Go.WideShapes Go.ChangeAt Go.RowKit
set_option maxRecDepth 100000
theorem zpZ{P:Program}{I:World->(Nat->z0b)->Prop}{Xc:z0e->z0e}{cf:FuncId->Option Cfg}{f:FuncId}{args:List T}{outs:List T}(hI:EnvS I)(hX:∀C,z8j P I C->z8j P I (Xc C))(hm:P.follows .mixedOrders=true)(hf:∀f c,cf f=some c->zgS P f c=true)
 (h:Lim P Xc cf f args=some (.sc (.bool true),outs)) (hio:args.all (fun t=> !z6N t)=true) (W:World) (hIW:I W KZ) (vals:Array Value) (hs:vals.size=args.length)
 (ha:∀i t,args[i]? =some t->TRep W KZ [] (vals.getD i undef) t):Calls P f vals W fun e W'=>e= .returned (.bool true)/\Below W.heap.size W W':=by
 have hc:=zzM (I:=I) hI hX hm hf h
 refine(hc.calls W KZ vals hs (fun i t hi=> ?_) hIW).mono fun e W' ⟨v,K',he,hv,_,hst⟩=> ?_
 · have h1:=Zt.1 hio t (ZT hi)
   unfold zi9
   rw[if_neg (by simpa using h1)]
   exact ha i t hi
 · generalize hT:T.sc (.bool true)=t at hv
   cases hv with
   |sc c v hb=>cases hT;exact⟨he,hst.os,hst.tape,hst.output,hst.size,fun b hb=>(hst.old b hb (.inl rfl)).2⟩
   |_=>cases hT
theorem znj{W:World}(h:laidMetH Tryz.prog Rows.decomposeOfRow.laid W)(r:Nat)(hr:r<64):W.cell? ⟨1,r,none⟩=some (.int .u8 ((tab64.getD r 0:Nat):Int)):=by
 have h:=h.filter fun x=>x.1== "math/bits.deBruijn64tab"
 rw[MakeChecks.laidMetH_plain _ _ _ (by kernel_rfl)] at h
 obtain⟨ps,⟨g,t,cs,fuel,p,q,hg,ht,hv,hd,_,_⟩,_,_⟩:=h
 obtain rfl:=YK ((show Tryz.prog.globalNamed "math/bits.deBruijn64tab" =some 1 by kernel_rfl).symm.trans hg)
 obtain⟨t1,ht1,e,hu,hu5,hce⟩:∃t1,(Tryz.prog.globals[1]?).map (·.type)=some t1/\ ∃e,Tryz.prog.underlying t1=some (.array 64 e)/\Tryz.prog.underlying e=some (.int .u8)/\Tryz.prog.cellsOf e=1:=⟨201,by kernel_rfl,5,by kernel_rfl,by kernel_rfl,by kernel_rfl⟩
 obtain rfl:=YK (ht1.symm.trans ht)
 obtain⟨xs,m,_,ex,_,hl,hel⟩:=DataW.trod_array hu hd
 have hE:=hel r hr
 rw[hce,Nat.mul_one,Z1 (by omega)] at hE
 obtain⟨z,e1,e2,_⟩:=DataW.trod_int hu5 hE
 have hlen:tab64.length=64:=by kernel_rfl
 have e3:(xs.map (·.1))=tab64.map fun(n:Nat)=>.lit (.int .u8 (n:Int)):=(DataW.agg.inj (Prod.mk.inj ex).1).symm
 have e4:(xs.map (·.1))[r]? =(tab64.map fun(n:Nat)=>(DataW.lit (.int .u8 (n:Int)):DataW Unit))[r]? :=by rw[e3]
 rw[Zc,Zc,Z1 (by omega:r<xs.length),Z1 (by omega:r<tab64.length),e2] at e4
 have hz:z=((tab64.getD r 0:Nat):Int):=by
  simp only[ZO,Za,DataW.lit.injEq,Lit.int.injEq,true_and] at e4
  rw[e4,List.getD,Z1 (by omega:r<tab64.length)];rfl
 rw[World.var?_cell hg hv r,←hz]
 have:cs.toList[r]? =some (.int .u8 z):=by
  have h0:((cs.toList.drop r).take 1)[0]? =some (.int .u8 z):=by rw[e1];rfl
  simpa using h0
 simpa using this
theorem zyc{W:World}(h:laidMetH Tryz.prog Rows.decomposeOfRow.laid W):zqJ W KZ:=
 ⟨rfl,World.block_lt_of_cell? W _ (znj h 0 (by decide)),fun i hi=>znj h i hi⟩
end
section
structure StOk(ops:Array Oper)(t:SchT)(L:Array Bool)(d:Nat)(ns:List Nat):Prop where
 ord:z4F .any ops true t L=true
 dep:t.depth=d
 nx:∀z∈t.nexts,z∈ns
structure BrOk(ops:Array Oper)(t:SchT)(L:Array Bool)(d:Nat)(ns hs:List Nat):Prop where
 ord:z4F .any ops false t L=true
 dep:t.depth=d
 nx:∀z∈t.nexts,z∈ns
 hd:∀i∈hs,i∈t.heads
variable{L':Array Bool}{ops:Array Oper}{c:Code}{hs ns ns':List Nat}{d k m n:Nat}{a b rest:SchT}
theorem zwm{L:Array Bool}(h:decide (Region.ready .any ops L= [])=true):StOk ops .nil L 0 []:=⟨by simp only[z4F,h,Bool.and_true],rfl,fun z hz=>by simp[SchT.nexts] at hz⟩
theorem zC0{L:Array Bool}(h:StOk ops rest L' d ns)(hL:L.setIfInBounds k true=L')
 (hc:((m==0||m==3)&&(Region.ready .any ops L).contains k&&Region.free .any ops L k&& !(ns.contains k)&&(m==3||ns.all fun z=>(zys .any ops ops.size [z]).contains k))=true):StOk ops (.op k m rest) L (d+1) ns:=by
 simp only[Z5,Y2,ZS,beq_iff_eq] at hc
 obtain⟨⟨⟨⟨h1,h2⟩,h3⟩,h4⟩,h5⟩:=hc
 have hm2:¬m=2:=by omega
 have hk:k∉ns:=by simpa using h4
 refine⟨?_,by simp only[SchT.depth,h.dep],fun z hz=>h.nx z (by simpa only[SchT.nexts,if_neg hm2] using hz)⟩
 simp only[z4F]
 rw[if_pos (by simpa using h1),hL,h.ord,h2,h3]
 have h6:rest.nexts.contains k=false:=by
  rw[Bool.eq_false_iff]
  intro hh
  exact hk (h.nx k (by simpa using hh))
 rw[h6]
 simp only[XT,Bool.and_self,YE,Bool.and_true,Y2,beq_iff_eq]
 rcases h5 with h5|h5
 · exact .inl h5
 · exact .inr (Zt.2 fun z hz=>Zt.1 h5 z (h.nx z hz))
theorem zC1{L:Array Bool}(h:StOk ops rest L' d ns)(hL:L.setIfInBounds k true=L')
 (hc:((m==1||m==2)&&decide (Region.ready .any ops L= [k]))=true) (hn:(if m=2 then [k] else ns)=ns'):StOk ops (.op k m rest) L (d+1) ns':=by
 subst hn
 simp only[Z5,Y2,beq_iff_eq] at hc
 obtain⟨h1,h2⟩:=hc
 refine⟨?_,by simp only[SchT.depth,h.dep],fun z hz=> ?_⟩
 · simp only[z4F]
   rw[if_neg (by omega),hL,h.ord,h2]
   simp[h1]
 · simp only[SchT.nexts] at hz
   split at hz
   · rename_i e;rw[if_pos e];exact hz
   · rename_i e;rw[if_neg e];exact h.nx z hz
theorem zCF{L:Array Bool}(h:StOk ops rest L' d ns)(hL:L.setIfInBounds k true=L')
 (hc:((m==1||m==2)&&(Region.ready .any ops L).contains k)=true) (hn:(if m=2 then [k] else ns)=ns'):BrOk ops (.op k m rest) L (d+1) ns' [k]:=by
 subst hn
 simp only[Z5,Y2,beq_iff_eq] at hc
 obtain⟨h1,h2⟩:=hc
 refine⟨?_,by simp only[SchT.depth,h.dep],fun z hz=> ?_,fun i hi=>by simpa[SchT.heads] using hi⟩
 · simp only[z4F]
   rw[if_neg (by simp),hL,h.ord,h2]
   simp[h1]
 · simp only[SchT.nexts] at hz
   split at hz
   · rename_i e;rw[if_pos e];exact hz
   · rename_i e;rw[if_neg e];exact h.nx z hz
theorem z0o{L:Array Bool}{n1 n2 h1 h2:List Nat}(ha:BrOk ops a L d n1 h1)(hb:BrOk ops b L d n2 h2):BrOk ops (.alt a b) L d (n1++n2) (h1++h2):=by
 refine⟨?_,by simp only[SchT.depth,ha.dep],fun z hz=> ?_,fun i hi=> ?_⟩
 · simp only[z4F,ha.ord,hb.ord,ha.dep,hb.dep];simp
 · simp only[SchT.nexts,Zf] at hz⊢
   exact hz.imp (ha.nx z) (hb.nx z)
 · simp only[SchT.heads,Zf] at hi⊢
   exact hi.imp (ha.hd i) (hb.hd i)
theorem zz3{L:Array Bool}(h:BrOk ops (.alt a b) L d ns hs)(hc:((Region.ready .any ops L).all fun i=>hs.contains i)=true)(hn:(ns.all fun z=>ns'.contains z)=true):StOk ops (.alt a b) L d ns':=by
 refine⟨?_,h.dep,fun z hz=>by simpa using Zt.1 hn z (h.nx z hz)⟩
 have:=h.ord
 simp only[z4F,Z5,decide_eq_true_eq] at this⊢
 obtain⟨⟨⟨h1,h2⟩,h3⟩,h4⟩:=this
 refine⟨⟨⟨?_,h2⟩,h3⟩,h4⟩
 simp only[Xh,Xi,decide_eq_true_eq]
 intro i hi
 have:=Zt.1 hc i hi
 exact h.hd i (by simpa using this)
def zgI:Nat->Nat->List Bool
 |0,_=> []
 |n+1,k=>(k%2==1)::zgI n (k/2)
def mB(n k:Nat):Array Bool:=⟨zgI n k⟩
theorem zoH:∀n k,(zgI n k).length=n
 |0,_=>rfl
 |n+1,k=>by simp[zgI,zoH n]
theorem zjc:∀n k i (h:i<(zgI n k).length),(zgI n k)[i]=k.testBit i
 |0,k,i,h=>by simp[zgI] at h
 |n+1,k,0,h=>by simp only[zgI,List.getElem_cons_zero,Nat.testBit_zero];rfl
 |n+1,k,i+1,h=>by
  simp only[zgI,List.getElem_cons_succ]
  rw[zjc n (k/2) i,Nat.testBit_succ]
theorem zrD{a:Nat}:(mB n a).setIfInBounds k true=mB n (a|||2^k):=by
 apply Array.ext
 · simp[mB,zoH]
 · intro i h1 h2
   have e1:i<(zgI n a).length:=by simpa[mB] using h1
   have e2:i<(zgI n (a|||2^k)).length:=by simpa[mB] using h2
   have b1:=zjc n a i e1
   have b2:=zjc n (a|||2^k) i e2
   rw[Array.getElem_setIfInBounds]
   simp only[mB,List.getElem_toArray] at b1 b2⊢
   rw[b1,b2,YH,Yi]
   · by_cases h:k=i
     · simp[h]
     · simp[h]
   · simpa[mB] using e1
theorem sq{a:Nat}(h:StOk ops rest (mB n (a|||2^k)) d ns)
 (hc:((m==0||m==3)&&(Region.ready .any ops (mB n a)).contains k&&Region.free .any ops (mB n a) k&& !(ns.contains k)&&(m==3||ns.all fun z=>(zys .any ops ops.size [z]).contains k))=true:=by kernel_rfl):StOk ops (.op k m rest) (mB n a) (d+1) ns:=zC0 h zrD hc
theorem se{a:Nat}(h:StOk ops rest (mB n (a|||2^k)) d ns)
 (hc:((m==1||m==2)&&decide (Region.ready .any ops (mB n a)= [k]))=true:=by kernel_rfl) (hn:(if m=2 then [k] else ns)=ns':=by rfl):StOk ops (.op k m rest) (mB n a) (d+1) ns':=zC1 h zrD hc hn
theorem be{a:Nat}(h:StOk ops rest (mB n (a|||2^k)) d ns)
 (hc:((m==1||m==2)&&(Region.ready .any ops (mB n a)).contains k)=true:=by kernel_rfl) (hn:(if m=2 then [k] else ns)=ns':=by rfl):BrOk ops (.op k m rest) (mB n a) (d+1) ns' [k]:=zCF h zrD hc hn
theorem sa{L:Array Bool}(h:BrOk ops (.alt a b) L d ns hs)(hc:((Region.ready .any ops L).all fun i=>hs.contains i)=true:=by kernel_rfl)(hn:(ns.all fun z=>ns'.contains z)=true:=by rfl):StOk ops (.alt a b) L d ns':=zz3 h hc hn
def zmh(cf:Cfg)(sk:Nat->Bool):Code->Bool
 | .region id ops draw=>sk id||(!draw||(match cf.dt id with|some t=>zbP ops t|none=>(match cf.dr id with|some sch=>zsl ops sch|none=>true)))
 | .seq a b=>zmh cf sk a&&zmh cf sk b
 | .cond _ x y=>zmh cf sk x&&zmh cf sk y
 | .block _ c=>zmh cf sk c
 | .loop c=>zmh cf sk c
 | .scope c=>zmh cf sk c
 |_=>true
def z6l(i:Nat):Code->List (Array Oper)
 | .region id ops _=>if Nat.beq id i then [ops] else []
 | .seq a b=>z6l i a++z6l i b
 | .cond _ x y=>z6l i x++z6l i y
 | .block _ c=>z6l i c
 | .loop c=>z6l i c
 | .scope c=>z6l i c
 |_=> []
noncomputable def zks(i:Nat)(c:Code):Array Oper:=match z6l i c with|x::_=>x| []=> #[]
theorem zef{cf:Cfg}{sk:Nat->Bool}:∀(c:Code),zmh cf sk c=true->(∀i,sk i=true->∃t,cf.dt i=some t/\ ∀o∈z6l i c,zbP o t=true)->okC cf c=true
 | .region id ops draw,h,hs=>by
   simp only[zmh,Y2] at h
   simp only[okC,Y2]
   rcases h with h|h
   · right
     obtain⟨t,h1,h2⟩:=hs id h
     rw[h1]
     exact h2 ops (by simp[z6l])
   · exact h
 | .seq a b,h,hs=>by
   simp only[zmh,Z5] at h
   simp only[okC,Z5]
   exact⟨zef a h.1 fun i hi=>by obtain⟨t,h1,h2⟩:=hs i hi;exact⟨t,h1,fun o ho=>h2 o (by simp only[z6l,Zf];exact .inl ho)⟩,
    zef b h.2 fun i hi=>by obtain⟨t,h1,h2⟩:=hs i hi;exact⟨t,h1,fun o ho=>h2 o (by simp only[z6l,Zf];exact .inr ho)⟩⟩
 | .cond _ a b,h,hs=>by
   simp only[zmh,Z5] at h
   simp only[okC,Z5]
   exact⟨zef a h.1 fun i hi=>by obtain⟨t,h1,h2⟩:=hs i hi;exact⟨t,h1,fun o ho=>h2 o (by simp only[z6l,Zf];exact .inl ho)⟩,
    zef b h.2 fun i hi=>by obtain⟨t,h1,h2⟩:=hs i hi;exact⟨t,h1,fun o ho=>h2 o (by simp only[z6l,Zf];exact .inr ho)⟩⟩
 | .block _ c,h,hs=>by simp only[okC];exact zef c (by simpa only[zmh] using h) (by simpa only[z6l] using hs)
 | .loop c,h,hs=>by simp only[okC];exact zef c (by simpa only[zmh] using h) (by simpa only[z6l] using hs)
 | .scope c,h,hs=>by simp only[okC];exact zef c (by simpa only[zmh] using h) (by simpa only[z6l] using hs)
 | .skip,_,_=>rfl
 | .label ..,_,_=>rfl
 | .exit ..,_,_=>rfl
 | .ret,_,_=>rfl
 | .rangeFunc ..,_,_=>rfl
 | .goto _,_,_=>rfl
 | .refuse _,_,_=>rfl
theorem zrt{i:Nat}{t:SchT}{L:Array Bool}(hr:(z6l i c).length=1)(hs:StOk (zks i c) t L n ns)(hL:L=Array.replicate (zks i c).toList.length false)(hd:(decide (n=(zks i c).toList.length)&&Region.noSelect (zks i c))=true):∀o∈z6l i c,zbP o t=true:=by
 intro o ho
 obtain⟨x,hx⟩:∃x,z6l i c= [x]:=XF.1 hr
 have e:zks i c=x:=by unfold zks;rw[hx]
 rw[hx] at ho
 obtain rfl:o=x:=by simpa using ho
 rw[e] at hs hL hd
 subst hL
 simp only[Z5,decide_eq_true_eq] at hd
 unfold zbP
 simp only[Z5,decide_eq_true_eq]
 exact⟨⟨hs.dep.trans hd.1,hd.2⟩,hs.ord⟩
theorem zsk{P:Program}{f:FuncId}{cf:Cfg}{fn:Func}(l:List Nat)(hf:P.funcs[f]? =some fn)(hb:fn.body=some c)(hn:(fn.name != "runtime.NumGoroutine")=true)(h2:zmh cf l.contains c=true)
 (ht:∀i∈l,∃t,cf.dt i=some t/\ ∀o∈z6l i c,zbP o t=true):zgS P f cf=true:=by
 unfold zgS
 simp only[hf,hb,hn,YE]
 exact zef c h2 fun j hj=>ht j (by simpa using hj)
end
section
open Go
set_option maxRecDepth 100000
noncomputable abbrev z0n:Array Oper:=(zks 7 (zoG Tryz.f32))
theorem zpa:StOk z0n zjK (mB 17 131071) 0 []:=zwm (by kernel_rfl)
theorem zpb:StOk z0n zjL (mB 17 65535) 1 [16]:=se zpa
theorem zpc:StOk z0n zjM (mB 17 32767) 2 [16]:=sq zpb
theorem zpd:StOk z0n zjN (mB 17 16383) 3 [14]:=se zpc
theorem zhe:StOk z0n zf9 (mB 17 12287) 4 [12]:=se zpd
theorem zhf:StOk z0n zfa (mB 17 10239) 5 [12]:=se zhe
theorem zhg:StOk z0n zfb (mB 17 4095) 5 [12]:=sq zhe
theorem zaS:StOk z0n zai (mB 17 4031) 6 [6]:=se zhg
theorem zhh:StOk z0n zfc (mB 17 3839) 6 [8]:=se zhg
theorem zpe:StOk z0n zjO (mB 17 9215) 6 [12]:=se zhf
theorem zhi:StOk z0n zfd (mB 17 2047) 6 [12]:=sq zhf
theorem zdl:StOk z0n zca (mB 17 4029) 7 [1]:=se zaS
theorem zaT:StOk z0n zaj (mB 17 3999) 7 [6]:=se zaS
theorem zdm:StOk z0n zcb (mB 17 3775) 7 [6,8]:=sa (z0o (be zhh) (be zaS))
theorem zaU:StOk z0n zak (mB 17 1983) 7 [6]:=sa (z0o (be zhi) (be zaS))
theorem zhj:StOk z0n zfe (mB 17 1791) 7 [8]:=sa (z0o (be zhi) (be zhh))
theorem zhk:StOk z0n zff (mB 17 1023) 7 [12]:=sq zpe
theorem zdn:StOk z0n zcc (mB 17 3997) 8 [1]:=sa (z0o (be zaT) (be zdl))
theorem zhl:StOk z0n zfg (mB 17 3773) 8 [1,8]:=sa (z0o (be zdm) (be zdl))
theorem zdo:StOk z0n zcd (mB 17 1981) 8 [1]:=sa (z0o (be zaU) (be zdl))
theorem zpf:StOk z0n zjP (mB 17 3983) 8 [6]:=sq zaT
theorem zdp:StOk z0n zce (mB 17 3743) 8 [6,8]:=sa (z0o (be zdm) (be zaT))
theorem zaV:StOk z0n zal (mB 17 1951) 8 [6]:=sa (z0o (be zaU) (be zaT))
theorem zdq:StOk z0n zcf (mB 17 1727) 8 [6,8]:=sa (z0o (be zhj) (z0o (be zaU) (be zdm)))
theorem zdr:StOk z0n zcg (mB 17 959) 8 [6]:=sa (z0o (be zhk) (be zaU))
theorem zpg:StOk z0n zjQ (mB 17 767) 8 [8]:=sa (z0o (be zhk) (be zhj))
theorem zph:StOk z0n zjR (mB 17 3981) 9 [1]:=sq zdn
theorem zhm:StOk z0n zfh (mB 17 3741) 9 [1,8]:=sa (z0o (be zdp) (z0o (be zhl) (be zdn)))
theorem zds:StOk z0n zch (mB 17 1949) 9 [1]:=sa (z0o (be zaV) (z0o (be zdo) (be zdn)))
theorem zhn:StOk z0n zfi (mB 17 1725) 9 [1,8]:=sa (z0o (be zdq) (z0o (be zdo) (be zhl)))
theorem zho:StOk z0n zfj (mB 17 957) 9 [1]:=sa (z0o (be zdr) (be zdo))
theorem zdt:StOk z0n zci (mB 17 3975) 9 [6]:=se zpf
theorem zpi:StOk z0n zjS (mB 17 3727) 9 [6,8]:=sq zdp
theorem zpj:StOk z0n zjT (mB 17 1935) 9 [6]:=sq zaV
theorem zdu:StOk z0n zcj (mB 17 1695) 9 [6,8]:=sa (z0o (be zdq) (z0o (be zaV) (be zdp)))
theorem zdv:StOk z0n zck (mB 17 927) 9 [6]:=sa (z0o (be zdr) (be zaV))
theorem zhp:StOk z0n zfk (mB 17 703) 9 [6,8]:=sa (z0o (be zpg) (z0o (be zdr) (be zdq)))
theorem zhq:StOk z0n zfl (mB 17 3973) 10 [1]:=sa (z0o (be zdt) (be zph))
theorem zpk:StOk z0n zjU (mB 17 3725) 10 [1,8]:=sq zhm
theorem zpl:StOk z0n zjV (mB 17 1933) 10 [1]:=sq zds
theorem zhr:StOk z0n zfm (mB 17 1693) 10 [1,8]:=sa (z0o (be zdu) (z0o (be zhn) (z0o (be zds) (be zhm))))
theorem zhs:StOk z0n zfn (mB 17 925) 10 [1]:=sa (z0o (be zdv) (z0o (be zho) (be zds)))
theorem zpm:StOk z0n zjW (mB 17 701) 10 [1,8]:=sa (z0o (be zhp) (z0o (be zho) (be zhn)))
theorem zht:StOk z0n zfo (mB 17 3719) 10 [6,8]:=sa (z0o (be zpi) (be zdt))
theorem zdw:StOk z0n zcl (mB 17 1927) 10 [6]:=sa (z0o (be zpj) (be zdt))
theorem zpn:StOk z0n zjX (mB 17 1679) 10 [6,8]:=sq zdu
theorem zpo:StOk z0n zjY (mB 17 911) 10 [6]:=sq zdv
theorem zhu:StOk z0n zfp (mB 17 671) 10 [6,8]:=sa (z0o (be zhp) (z0o (be zdv) (be zdu)))
theorem zpp:StOk z0n zjZ (mB 17 3717) 11 [1,8]:=sa (z0o (be zht) (z0o (be zpk) (be zhq)))
theorem zhv:StOk z0n zfq (mB 17 1925) 11 [1]:=sa (z0o (be zdw) (z0o (be zpl) (be zhq)))
theorem zpq:StOk z0n zk0 (mB 17 1677) 11 [1,8]:=sq zhr
theorem zpr:StOk z0n zk1 (mB 17 909) 11 [1]:=sq zhs
theorem zps:StOk z0n zk2 (mB 17 669) 11 [1,8]:=sa (z0o (be zhu) (z0o (be zpm) (z0o (be zhs) (be zhr))))
theorem zhw:StOk z0n zfr (mB 17 1671) 11 [6,8]:=sa (z0o (be zpn) (z0o (be zdw) (be zht)))
theorem zhx:StOk z0n zfs (mB 17 903) 11 [6]:=sa (z0o (be zpo) (be zdw))
theorem zr2:StOk z0n zn6 (mB 17 655) 11 [6,8]:=sq zhu
theorem zr3:StOk z0n zn7 (mB 17 1669) 12 [1,8]:=sa (z0o (be zhw) (z0o (be zpq) (z0o (be zhv) (be zpp))))
theorem zr4:StOk z0n zn8 (mB 17 901) 12 [1]:=sa (z0o (be zhx) (z0o (be zpr) (be zhv)))
theorem zr5:StOk z0n zn9 (mB 17 653) 12 [1,8]:=sq zps
theorem zr6:StOk z0n zna (mB 17 647) 12 [6,8]:=sa (z0o (be zr2) (z0o (be zhx) (be zhw)))
theorem zr7:StOk z0n znb (mB 17 645) 13 [1,8]:=sa (z0o (be zr6) (z0o (be zr5) (z0o (be zr4) (be zr3))))
theorem zr8:StOk z0n znc (mB 17 133) 14 [1,8]:=sq zr7
theorem zr9:StOk z0n znd (mB 17 5) 15 [1,8]:=sq zr8
theorem zra:StOk z0n zne (mB 17 1) 16 [1,8]:=sq zr9
theorem zrb:StOk z0n znf (mB 17 0) 17 [1,8]:=sq zra
set_option maxHeartbeats 0 in
theorem zBz:zgS Tryz.prog 32 cf32=true:=zsk [7] Tryz.func32 (bdy Tryz.f32 rfl) rfl (by kernel_rfl) (by simp only[XS];exact⟨⟨_,rfl,zrt (by kernel_rfl) zrb (by kernel_rfl) (by kernel_rfl)⟩,fun _ h=>by cases h⟩)
noncomputable abbrev z0E:Array Oper:=(zks 10 (zoG Tryz.f79))
theorem zlO:StOk z0E zh9 (mB 14 16383) 0 []:=zwm (by kernel_rfl)
theorem zeY:StOk z0E zda (mB 14 8191) 1 [13]:=se zlO
theorem z9H:StOk z0E z9h (mB 14 6143) 2 [13]:=sq zeY
theorem zlP:StOk z0E zha (mB 14 4095) 2 [13]:=se zeY
theorem z9I:StOk z0E z9i (mB 14 6127) 3 [13]:=se z9H
theorem z9J:StOk z0E z9j (mB 14 6079) 3 [13]:=se z9H
theorem z9K:StOk z0E z9k (mB 14 5887) 3 [13]:=se z9H
theorem z9L:StOk z0E z9l (mB 14 5119) 3 [13]:=se z9H
theorem z9M:StOk z0E z9m (mB 14 2047) 3 [13]:=sq zlP
theorem zbB:StOk z0E zaI (mB 14 6063) 4 [13]:=sa (z0o (be z9J) (be z9I))
theorem zbC:StOk z0E zaJ (mB 14 5871) 4 [13]:=sa (z0o (be z9K) (be z9I))
theorem zbD:StOk z0E zaK (mB 14 5103) 4 [13]:=sa (z0o (be z9L) (be z9I))
theorem zbE:StOk z0E zaL (mB 14 2031) 4 [13]:=sa (z0o (be z9M) (be z9I))
theorem zbF:StOk z0E zaM (mB 14 5823) 4 [13]:=sa (z0o (be z9K) (be z9J))
theorem zbG:StOk z0E zaN (mB 14 5055) 4 [13]:=sa (z0o (be z9L) (be z9J))
theorem zbH:StOk z0E zaO (mB 14 1983) 4 [13]:=sa (z0o (be z9M) (be z9J))
theorem zbI:StOk z0E zaP (mB 14 4863) 4 [13]:=sa (z0o (be z9L) (be z9K))
theorem zbJ:StOk z0E zaQ (mB 14 1791) 4 [13]:=sa (z0o (be z9M) (be z9K))
theorem zbK:StOk z0E zaR (mB 14 1023) 4 [13]:=sa (z0o (be z9M) (be z9L))
theorem zeZ:StOk z0E zdb (mB 14 5807) 5 [13]:=sa (z0o (be zbF) (z0o (be zbC) (be zbB)))
theorem zf0:StOk z0E zdc (mB 14 5039) 5 [13]:=sa (z0o (be zbG) (z0o (be zbD) (be zbB)))
theorem zf1:StOk z0E zdd (mB 14 1967) 5 [13]:=sa (z0o (be zbH) (z0o (be zbE) (be zbB)))
theorem zf2:StOk z0E zde (mB 14 4847) 5 [13]:=sa (z0o (be zbI) (z0o (be zbD) (be zbC)))
theorem zf3:StOk z0E zdf (mB 14 1775) 5 [13]:=sa (z0o (be zbJ) (z0o (be zbE) (be zbC)))
theorem zf4:StOk z0E zdg (mB 14 1007) 5 [13]:=sa (z0o (be zbK) (z0o (be zbE) (be zbD)))
theorem zf5:StOk z0E zdh (mB 14 4799) 5 [13]:=sa (z0o (be zbI) (z0o (be zbG) (be zbF)))
theorem zf6:StOk z0E zdi (mB 14 1727) 5 [13]:=sa (z0o (be zbJ) (z0o (be zbH) (be zbF)))
theorem zf7:StOk z0E zdj (mB 14 959) 5 [13]:=sa (z0o (be zbK) (z0o (be zbH) (be zbG)))
theorem zf8:StOk z0E zdk (mB 14 767) 5 [13]:=sa (z0o (be zbK) (z0o (be zbJ) (be zbI)))
theorem zlQ:StOk z0E zhb (mB 14 4783) 6 [13]:=sa (z0o (be zf5) (z0o (be zf2) (z0o (be zf0) (be zeZ))))
theorem zlR:StOk z0E zhc (mB 14 1711) 6 [13]:=sa (z0o (be zf6) (z0o (be zf3) (z0o (be zf1) (be zeZ))))
theorem zlS:StOk z0E zhd (mB 14 943) 6 [13]:=sa (z0o (be zf7) (z0o (be zf4) (z0o (be zf1) (be zf0))))
theorem zp0:StOk z0E zjA (mB 14 751) 6 [13]:=sa (z0o (be zf8) (z0o (be zf4) (z0o (be zf3) (be zf2))))
theorem zp1:StOk z0E zjB (mB 14 703) 6 [13]:=sa (z0o (be zf8) (z0o (be zf7) (z0o (be zf6) (be zf5))))
theorem zp2:StOk z0E zjC (mB 14 687) 7 [13]:=sa (z0o (be zp1) (z0o (be zp0) (z0o (be zlS) (z0o (be zlR) (be zlQ)))))
theorem zp3:StOk z0E zjD (mB 14 175) 8 [13]:=sq zp2
theorem zp4:StOk z0E zjE (mB 14 47) 9 [13]:=sq zp3
theorem zp5:StOk z0E zjF (mB 14 15) 10 [13]:=sq zp4
theorem zp6:StOk z0E zjG (mB 14 7) 11 [13]:=sq zp5
theorem zp7:StOk z0E zjH (mB 14 3) 12 [13]:=sq zp6
theorem zp8:StOk z0E zjI (mB 14 1) 13 [13]:=sq zp7
theorem zp9:StOk z0E zjJ (mB 14 0) 14 [13]:=sq zp8
set_option maxHeartbeats 0 in
theorem zBy:zgS Tryz.prog 79 cf79=true:=zsk [10] Tryz.func79 (bdy Tryz.f79 rfl) rfl (by kernel_rfl) (by simp only[XS];exact⟨⟨_,rfl,zrt (by kernel_rfl) zp9 (by kernel_rfl) (by kernel_rfl)⟩,fun _ h=>by cases h⟩)
theorem zCD:(cg0.all fun x=>zgS Tryz.prog x.1 x.2)=true:=by kernel_rfl
theorem zCC:(cg1.all fun x=>zgS Tryz.prog x.1 x.2)=true:=by kernel_rfl
theorem zCB:(cg2.all fun x=>zgS Tryz.prog x.1 x.2)=true:=by kernel_rfl
theorem zCA:(cg3.all fun x=>zgS Tryz.prog x.1 x.2)=true:=by kernel_rfl
theorem zCz:(cg4.all fun x=>zgS Tryz.prog x.1 x.2)=true:=by kernel_rfl
theorem zCy:(cg5.all fun x=>zgS Tryz.prog x.1 x.2)=true:=by kernel_rfl
theorem zCx:(cg6.all fun x=>zgS Tryz.prog x.1 x.2)=true:=by kernel_rfl
theorem zCw:(cg7.all fun x=>zgS Tryz.prog x.1 x.2)=true:=by kernel_rfl
theorem zCv:(cg8.all fun x=>zgS Tryz.prog x.1 x.2)=true:=by kernel_rfl
theorem zCu:(cg9.all fun x=>zgS Tryz.prog x.1 x.2)=true:=by kernel_rfl
theorem zBD:(cg10.all fun x=>zgS Tryz.prog x.1 x.2)=true:=by
 simp only[cg10,List.all_cons,List.all_nil,Bool.and_true,Z5]
 exact⟨zBz,zBy⟩
theorem zCE:∀f c,zlh f=some c->zgS Tryz.prog f c=true:=by
 intro f c h
 unfold zlh at h
 rw[Z4] at h
 obtain⟨x,h1,rfl⟩:=h
 have h2:=List.mem_of_find?_eq_some h1
 have h3:=List.find?_some h1
 simp only[beq_iff_eq] at h3
 subst h3
 have key:((cg0++cg1++cg2++cg3++cg4++cg5++cg6++cg7++cg8++cg9++cg10).all fun x=>zgS Tryz.prog x.1 x.2)=true:=by simp only[List.all_append,Z5];exact⟨⟨⟨⟨⟨⟨⟨⟨⟨⟨zCD,zCC⟩,zCB⟩,zCA⟩,zCz⟩,zCy⟩,zCx⟩,zCw⟩,zCv⟩,zCu⟩,zBD⟩
 exact Zt.1 key x h2
end
end Go.Proofs.YtiobkcdgggbljaaGreatDoor
