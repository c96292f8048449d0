/- Proved pO: the law DecomposeMinimal returns true for every input, and its arguments read afterwards as before; the row's listed tables are tied to the program's text by the given tie. No other condition. -/
import Derived.Test.YtiobkcdgggbljaaGreatDoorMMI5
import Derived.ChangeOld
import Derived.ChangeReads
import Derived.Below
import Derived.ChangeSlices
import Derived.Deep.Grids
import Derived.WideShapes
import Derived.WalkKit
import Derived.ProofKit
import Derived.Shelf.SlSortCmp.NoneTotal
import Derived.StillTailTactics
import Derived.Maps.RangeRun
import Derived.Test.YtiobkcdgggbljaaGreatDoorRows
import Derived.OpenShut
import Derived.LaidMore
import Derived.LaidSub
import Derived.Lay
import Derived.ShutString
import Derived.Deep.DeepHandedRow
set_option linter.unusedVariables false
set_option linter.unusedSimpArgs false
set_option linter.unusedSectionVars false
set_option maxRecDepth 100000
set_option maxHeartbeats 6000000
namespace Go.Proofs.YtiobkcdgggbljaaGreatDoor
section
open Go
def exD:DFA:=⟨1,0,[true,false,false],[[1],[2],[0]]⟩
def exX:Imgs:=⟨[7,1,2,4],[0,1,1,1],[1,0,0,0],[[1,2,3],[],[],[]],[ByteArray.empty,ByteArray.empty,⟨#[97]⟩,⟨#[97,97]⟩],[ByteArray.empty,ByteArray.empty,⟨#[97,97]⟩,⟨#[97]⟩]⟩
def exF:Frm:=⟨exD,exX,[0,-1,-1,-1],[3],[[1,2,3],[],[],[]],[[0],[2],[3],[1]]⟩
theorem zD4:zfF exF [[0],[1],[2]]=some [⟨[],[[1,2,0]]⟩]:=by kernel_rfl
def zG9:T:=.pr [.sc (.int .i64 1),.sc (.int .i64 0),.sl 3 [.sc (.bool true),.sc (.bool false),.sc (.bool false)],.sl 3 [.sl 1 [.sc (.int .i64 1)],.sl 1 [.sc (.int .i64 2)],.sl 1 [.sc (.int .i64 0)]],.sl 4 [.sc (.int .i64 7),.sc (.int .i64 1),.sc (.int .i64 2),.sc (.int .i64 4)],.sl 4 [.sc (.int .i64 0),.sc (.int .i64 1),.sc (.int .i64 1),.sc (.int .i64 1)],.sl 4 [.sc (.int .i64 1),.sc (.int .i64 0),.sc (.int .i64 0),.sc (.int .i64 0)],.sl 4 [.sl 3 [.sc (.int .i64 1),.sc (.int .i64 2),.sc (.int .i64 3)],.sl 0 [],.sl 0 [],.sl 0 []],.sl 4 [.sc (.string ByteArray.empty),.sc (.string ByteArray.empty),.sc (.string ⟨#[97]⟩),.sc (.string ⟨#[97,97]⟩)],.sl 4 [.sc (.string ByteArray.empty),.sc (.string ByteArray.empty),.sc (.string ⟨#[97,97]⟩),.sc (.string ⟨#[97]⟩)],.sl 4 [.sc (.int .i64 0),.sc (.int .i64 (-1)),.sc (.int .i64 (-1)),.sc (.int .i64 (-1))],.sl 1 [.sc (.int .i64 3)],.sl 4 [.sl 3 [.sc (.int .i64 1),.sc (.int .i64 2),.sc (.int .i64 3)],.sl 0 [],.sl 0 [],.sl 0 []],.sl 4 [.sl 1 [.sc (.int .i64 0)],.sl 1 [.sc (.int .i64 2)],.sl 1 [.sc (.int .i64 3)],.sl 1 [.sc (.int .i64 1)]]]
def zG7:T:=.sl 3 [.sl 1 [.sc (.int .i64 0)],.sl 1 [.sc (.int .i64 1)],.sl 1 [.sc (.int .i64 2)]]
def zG8:T:=.sl 1 [.sl 0 [],.sl 1 [.sl 3 [.sc (.int .i64 1),.sc (.int .i64 2),.sc (.int .i64 0)]]]
theorem e50:L 50 [zG9,zG7]=some (zG8,[.dead,.dead]):=(vRowsC_okI (a0:=exF) (a1:= [[0],[1],[2]])).ok _ zD4
instance:XMo xt:=inferInstanceAs (XMo xtF)
theorem so0:L 237 [.os 1 3 [.sc (.int .i64 0),.sc (.int .i64 1),.sc (.int .i64 2)]]=some (.tup [],[.os 1 3 [.sc (.int .i64 0),.sc (.int .i64 1),.sc (.int .i64 2)]]):=z8Q (a0:= [0,1,2]) (r:= [0,1,2]) (by
 unfold zav
 rw[if_pos ⟨by simp,by simp⟩]
 simp[List.mergeSort,List.MergeSort.Internal.splitInTwo,List.splitAt,List.splitAt.go,List.merge])
theorem so1:L 237 [.os 1 3 [.sc (.int .i64 0),.sc (.int .i64 2),.sc (.int .i64 1)]]=some (.tup [],[.os 1 3 [.sc (.int .i64 0),.sc (.int .i64 1),.sc (.int .i64 2)]]):=z8Q (a0:= [0,2,1]) (r:= [0,1,2]) (by
 unfold zav
 rw[if_pos ⟨by simp,by simp⟩]
 simp[List.mergeSort,List.MergeSort.Internal.splitInTwo,List.splitAt,List.splitAt.go,List.merge])
theorem so2:L 237 [.os 1 3 [.sc (.int .i64 1),.sc (.int .i64 0),.sc (.int .i64 2)]]=some (.tup [],[.os 1 3 [.sc (.int .i64 0),.sc (.int .i64 1),.sc (.int .i64 2)]]):=z8Q (a0:= [1,0,2]) (r:= [0,1,2]) (by
 unfold zav
 rw[if_pos ⟨by simp,by simp⟩]
 simp[List.mergeSort,List.MergeSort.Internal.splitInTwo,List.splitAt,List.splitAt.go,List.merge])
theorem so3:L 237 [.os 1 3 [.sc (.int .i64 1),.sc (.int .i64 2),.sc (.int .i64 0)]]=some (.tup [],[.os 1 3 [.sc (.int .i64 0),.sc (.int .i64 1),.sc (.int .i64 2)]]):=z8Q (a0:= [1,2,0]) (r:= [0,1,2]) (by
 unfold zav
 rw[if_pos ⟨by simp,by simp⟩]
 simp[List.mergeSort,List.MergeSort.Internal.splitInTwo,List.splitAt,List.splitAt.go,List.merge])
theorem so4:L 237 [.os 1 3 [.sc (.int .i64 2),.sc (.int .i64 0),.sc (.int .i64 1)]]=some (.tup [],[.os 1 3 [.sc (.int .i64 0),.sc (.int .i64 1),.sc (.int .i64 2)]]):=z8Q (a0:= [2,0,1]) (r:= [0,1,2]) (by
 unfold zav
 rw[if_pos ⟨by simp,by simp⟩]
 simp[List.mergeSort,List.MergeSort.Internal.splitInTwo,List.splitAt,List.splitAt.go,List.merge])
theorem so5:L 237 [.os 1 3 [.sc (.int .i64 2),.sc (.int .i64 1),.sc (.int .i64 0)]]=some (.tup [],[.os 1 3 [.sc (.int .i64 0),.sc (.int .i64 1),.sc (.int .i64 2)]]):=z8Q (a0:= [2,1,0]) (r:= [0,1,2]) (by
 unfold zav
 rw[if_pos ⟨by simp,by simp⟩]
 simp[List.mergeSort,List.MergeSort.Internal.splitInTwo,List.splitAt,List.splitAt.go,List.merge])
def zy2:List (FuncId×List T×T×List T):= [(50,[zG9,zG7],zG8,[.dead,.dead]),(237,[.os 1 3 [.sc (.int .i64 0),.sc (.int .i64 1),.sc (.int .i64 2)]],.tup [],[.os 1 3 [.sc (.int .i64 0),.sc (.int .i64 1),.sc (.int .i64 2)]]),(237,[.os 1 3 [.sc (.int .i64 0),.sc (.int .i64 2),.sc (.int .i64 1)]],.tup [],[.os 1 3 [.sc (.int .i64 0),.sc (.int .i64 1),.sc (.int .i64 2)]]),(237,[.os 1 3 [.sc (.int .i64 1),.sc (.int .i64 0),.sc (.int .i64 2)]],.tup [],[.os 1 3 [.sc (.int .i64 0),.sc (.int .i64 1),.sc (.int .i64 2)]]),(237,[.os 1 3 [.sc (.int .i64 1),.sc (.int .i64 2),.sc (.int .i64 0)]],.tup [],[.os 1 3 [.sc (.int .i64 0),.sc (.int .i64 1),.sc (.int .i64 2)]]),(237,[.os 1 3 [.sc (.int .i64 2),.sc (.int .i64 0),.sc (.int .i64 1)]],.tup [],[.os 1 3 [.sc (.int .i64 0),.sc (.int .i64 1),.sc (.int .i64 2)]]),(237,[.os 1 3 [.sc (.int .i64 2),.sc (.int .i64 1),.sc (.int .i64 0)]],.tup [],[.os 1 3 [.sc (.int .i64 0),.sc (.int .i64 1),.sc (.int .i64 2)]])]
theorem zy1:∀x∈zy2,L x.1 x.2.1=some x.2.2:=by
 simp only[zy2,XV]
 exact⟨e50,so0,so1,so2,so3,so4,so5,fun x h=>by cases h⟩
theorem cKl:zlK Tryz.prog xt zmb (tab zy2) 24 18 []=some (.sc (.bool true),[]):=by kernel_rfl
theorem cK:L 18 []=some (.sc (.bool true),[]):=zAH zy2 24 cKl zy1
def zyB:Option Bool:=some true
instance:Ok zyB (fun r=>L 18 []=some (.sc (.bool r),[])):=⟨fun r h=>by cases h;exact cK⟩
end
section
open Go Go.IntKind
noncomputable section
attribute [-simp] Nat.mul_lt_mul_right Option.not_isSome
attribute [simp] zAv zz7
def zat(a0:DFA)(a1:ByteArray):Option (Bool):=
 (zhm a0 a0.start a1).bind fun v3=>
 if 0<=v3 then
 (atI a0.final v3).bind fun v4=>
 some v4
 else
 some false
instance{a0:DFA}{a1:ByteArray}:Ok (zat a0 a1) (fun r=>L 37 [.agg [.sc (.int .i64 a0.letters),.sc (.int .i64 a0.start),(tB a0.final),(tR a0.next)],.sc (.string a1)]=some (.sc (.bool r),[.dead,.dead])):=⟨fun r h=>by have h:=z3c h;unfold zat at h;exact z4b rfl Tryz.func37 (bdy Tryz.f37 rfl)⟩
def z5N(a0:List Int)(a1:List Int):Option (Bool):=
 (zbE a0).bind fun v13=>
 (z5h v13).bind fun v14=>
 (z6q v14.2 v14.1 5).bind fun v15=>
 (zbE a1).bind fun v16=>
 (z6C v16 v15.1.letters 40).bind fun v17=>
 (z5A v15.1).bind fun v18=>
 (z5p v18).bind fun v19=>
 (z3M v19.1 v17.1).bind fun v20=>
 if v19.2=0 then
 if v20.2=0 then
 if v20.1<0 then
 some false
 else
 if(v18.final.length:Int)<=v20.1 then
 some false
 else
 (z4R v18).bind fun v21=>
 (atI v18.final v20.1).bind fun v22=>
 (zat v15.1 v17.1).bind fun v23=>
 if(v22==v23)=true then
 if v21.2=0 then
 if(v21.1.length:Int)=(v19.1.casc.sizes.length:Int) then
 (zyB).bind fun v24=>
 some v24
 else
 some false
 else
 some false
 else
 some false
 else
 some false
 else
 some false
theorem z9D{a0:List Int}{a1:List Int}{r:Bool}(h:z5N a0 a1=some r):L 8 [(tI a0),(tI a1)]=some (.sc (.bool r),[.dead,.dead]):=by
 have h:=z3c h;unfold z5N at h;exact z4b rfl Tryz.func8 (bdy Tryz.f8 rfl)
end
end
section
open Go
set_option linter.unusedSectionVars false
theorem zBa{d:DFA}{m n:Nat}(hd:DfaOk d m n)(hm:m<=2)(hs:n<=5∨(n=7/\m=2/\d.next=defT)):∃c G,z5p d=some (c,0)/\z4R d=some (G,0)/\G.length=c.casc.sizes.length/\ ∀w,zf2 m w->z3M c w=some (((z6y d d.start.toNat w.data.toList:Nat):Int),0):=by
 have hn:n<=7:=by omega
 have hS:=z8j hd
 have hH:=zdr hd hn
 have gC:∀x∈z2a d m n,x≠0:=fun x hx=>zbw hd hx
 obtain⟨h0,hf⟩:=zbL hd hn
 have gE:∀i k,i<(z2a d m n).length->k<(z2a d m n).length->zaA (z2a d m n) k=true->z6Y d m n (z2a d m n) i k=true->zaA (z2a d m n) i=true:=fun i k hi hk hz h=>zmi hd hn hi hk hz h
 obtain⟨O,c,hO,h24,h32,hG,hc,q9⟩:=zBb hd hm hs
 obtain⟨Y,W,hC⟩:=zyc hd hn hS hH hO gC h24 h32 h0 q9
 have gO:c.casc.sizes=zqz d m n (z2a d m n) O:=by rw[hC.eq]
 exact⟨c,_,hc,hG,by rw[gO,zeh,Zg],fun w hw=>zzO hd hn hS hH hO gC gE hf h24 hC h0 hw⟩
theorem zCS(l:List Int)(w0:l.length<=maxLen)(z0:∀x∈l,(Lit.int .i64 x).wf=true)(w:List Int)(w1:w.length<=maxLen)(z1:∀x∈w,(Lit.int .i64 x).wf=true):∃outs,L 8 [.sl l.length (l.map fun x=>.sc (.int .i64 x)),.sl w.length (w.map fun x=>.sc (.int .i64 x))]=some (bT true,outs):=by
 obtain⟨t0,e0,h0⟩:=zz8 l
 obtain⟨m,t1,e1,m1,m2,h1⟩:=zr3 h0
 obtain⟨d,t2,n,e2,hd,hn,h2,h32,hs⟩:=zBr h1 m 5 ⟨m1,m2⟩ (by omega)
 obtain⟨t3,e3,h3⟩:=zz8 w
 obtain⟨u,t4,e4,u1,u2,_⟩:=zzx h3 (m:Int) 40 (by omega) (by omega)
 obtain⟨M,k,p1,hM,hk,gG⟩:=zqW hd hs
 obtain⟨c,G,c1,c2,c3,c4⟩:=zBa hM m2 (.inl hk)
 have e2':z6q t1 (m:Int) 5=some (d,t2):=e2
 have hu:zf2 m u:=⟨by omega,fun z hz=>by
  obtain⟨k,hk,rfl⟩:=Zn hz
  have hk':k<u.size:=by rw[ZZ] at hk;exact hk
  have:=u1 k hk'
  have e:u[k]=u.data.toList[k]:=by rw[za3 hk',List.getD,Z1 hk,Z4]
  rw[e] at this
  omega⟩
 have yW:=zdI hM (w:=u.data.toList) (q:=M.start.toNat) (by have:=hM.s1;have:=hM.s0;omega) hu.2
 have pV:=zdI hd (w:=u.data.toList) (q:=d.start.toNat) (by have:=hd.s1;have:=hd.s0;omega) hu.2
 have hMf:=hM.fin
 have hdf:=hd.fin
 refine⟨_,z9D (r:=true) ?_⟩
 unfold z5N
 rw[e0,Z0,e1,Z0]
 simp only
 rw[e2',Z0]
 simp only
 rw[hd.lt,e3,Z0,e4,Z0]
 simp only
 rw[p1,Z0,c1,Z0]
 simp only
 rw[c4 u hu,Z0]
 simp only[if_true]
 rw[if_neg (by omega),if_neg (by omega),c2,Z0,z5q false (by omega),Z0]
 unfold zat
 rw[zvA hd hn hu,Z0,if_pos (by omega),z5q false (by omega),Z0,Z0,gG _ hu.2,if_pos (by simp)]
 simp only[if_true]
 rw[if_pos (by rw[c3])]
 rfl
end
section
open Go.RowKit
def zhf(P:Program):Nat->TypeId->Bool
 |0,_=>false
 |m+1,t=>
  match P.underlying t with
  |some (.slice e)=>P.cellsOf e !=0&&zhf P m e
  |some (.pointer e)=>zhf P m e
  |some (.struct fs)=>fs.toList.all fun f=>zhf P m f.type
  |some (.array _ e)=>zhf P m e
  |some (.map _ e)=>zhf P m e
  |_=>true
section
variable {H:Type} {enc:TypeId×Value->H} {P:Program} {w:World} {base:Nat}
theorem zhL{m:Nat}{r r':TypeId->List Value->Option (DataW H×List MemPlace)}
 (hr:∀t cs x,zhf P m t=true->r t cs=some x->r' t cs=some x) {t:TypeId} {cs:List Value} {x:DataW H×List MemPlace} (hf:zhf P (m+1) t=true)
 (h:DataW.trodStep enc P w base (fun _=>true) true r t cs=some x):DataW.trodStep enc P w base (fun b=>decide (b<w.heap.size)) true r' t cs=some x:=by
 unfold DataW.trodStep at h⊢
 unfold zhf at hf
 split at h
 case h_1=>exact h
 case h_2=>exact h
 case h_3=>exact h
 case h_4=>exact h
 case h_5=>exact h
 case h_6 e a hu=>
  rw[hu] at hf
  simp only[Z5,Yv] at h⊢
  obtain⟨y,⟨cs',hc,hy⟩,rfl⟩:=h
  exact⟨y,⟨cs',hc,hr _ _ _ hf hy⟩,rfl⟩
 case h_7=>exact h
 case h_8 e a len cap hu=>
  rw[hu] at hf
  simp only[Z6,bne_iff_ne,ne_eq] at hf
  obtain⟨gI,vT⟩:=hf
  simp only at h⊢
  split at h
  · rename_i hc
    rw[if_pos hc]
    simp only[Z5,Yv,if_true] at h⊢
    obtain⟨elems,he,rest,jB,rfl⟩:=h
    have one:∀(i:Nat) (y:DataW H×List MemPlace),(w.cells? base (a.add (i*P.cellsOf e)) (P.cellsOf e)).bind (r e)=some y->(w.cells? base (a.add (i*P.cellsOf e)) (P.cellsOf e)).bind (r' e)=some y:=by
     intro i y hv
     simp only[Yv] at hv⊢
     obtain⟨cs',hc',hy'⟩:=hv
     exact⟨cs',hc',hr _ _ _ vT hy'⟩
    refine⟨elems,mapM_carry he (fun i y _ _ hy=>one i y hy),rest,?_,rfl⟩
    by_cases hb:a.block<w.heap.size
    · rw[if_pos (by simpa using hb)]
      exact mapM_carry jB (fun j y _ _ hy=>one (len+j) y hy)
    · rw[if_neg (by simpa using hb)]
      have hz:cap-len=0:=by
       rcases XZ (cap-len) with h0|h0
       · exact h0
       · exfalso
         have hl:rest.length=cap-len:=by simpa using mapM_some_length jB
         have h1:=mapM_some_get jB 0 0 (by simp[h0])
         obtain⟨y,hy⟩:∃y,rest[0]? =some y:=⟨rest[0],Z1 (by omega)⟩
         rw[hy] at h1
         simp only[Yv] at h1
         obtain⟨cs',hc',_⟩:=h1
         have h2:=World.cells?_block hc' (by omega)
         have h3:(a.add ((len+0)*P.cellsOf e)).block=a.block:=by unfold Addr.add;split<;>rfl
         omega
      rw[hz] at jB
      simpa using jB
  · cases h
 case h_9 fs _ hu=>
  rw[hu] at hf
  split at h
  · rename_i hc
    rw[if_pos hc]
    simp only[Z5] at h⊢
    obtain⟨xs,hx,rfl⟩:=h
    exact⟨xs,mapM_carry hx (fun f y gP _ hv=>hr _ _ _ (Zr.1 hf f gP) hv),rfl⟩
  · cases h
 case h_10 n e _ hu=>
  rw[hu] at hf
  split at h
  · rename_i hc
    rw[if_pos hc]
    simp only[Z5] at h⊢
    obtain⟨xs,hx,rfl⟩:=h
    exact⟨xs,mapM_carry hx (fun f y _ _ hv=>hr _ _ _ hf hv),rfl⟩
  · cases h
 case h_11=>exact h
 case h_12=>exact h
 case h_13=>exact h
 case h_14 k e b hu=>
  rw[hu] at hf
  split at h
  · rename_i es clock hb
    split at h
    · rename_i hc
      simp only[Yv] at h
      obtain⟨entries,he,hd⟩:=h
      split at hd
      · rename_i pB
        have hx:=YF hd
        subst hx
        simp only[if_pos hc,Yv]
        refine⟨entries,mapM_carry he (fun x y _ hy hv=> ?_),by simp[pB]⟩
        simp only[Yv] at hv⊢
        obtain⟨key,hk,hz⟩:=hv
        refine⟨key,hk,?_⟩
        split at hz
        · rename_i yJ
          rw[if_pos yJ]
          simp only[Z5] at hz⊢
          obtain⟨q,hq,rfl⟩:=hz
          exact⟨q,hr _ _ _ hf hq,rfl⟩
        · cases hz
      · cases hd
    · cases h
  · cases h
 case h_15=>exact h
 case h_16=>exact h
 case h_17=>exact h
 case h_18=>exact h
 case h_19=>exact h
 case h_20=>exact h
 case h_21=>cases h
theorem zpW:∀(n m:Nat) (t:TypeId) (cs:List Value) (x:DataW H×List MemPlace),zhf P m t=true->
 DataW.trod enc P w base (fun _=>true) true n t cs=some x->DataW.trod enc P w base (fun b=>decide (b<w.heap.size)) true n t cs=some x:=by
 intro n
 induction n with
 |zero=>intro m t cs x _ h;simp[DataW.trod] at h
 |succ n ih=>
  intro m t cs x hf h
  cases m with
  |zero=>simp[zhf] at hf
  |succ m=>
   rw[DataW.trod_step] at h⊢
   exact zhL (m:=m) (fun t cs x hf hx=>ih m t cs x hf hx) hf h
theorem zlf{w':World}(hb:Below w.heap.size w w'){p:MemPlace}(hp:p.block<w.heap.size):w.sameAt w' p:=by
 cases p with
 |cell b off=>exact hb.cell (p:=⟨b,off,none⟩) hp
 |map b=>exact hb.block b hp
theorem zcL{w':World}(m:Nat)(hb:Below w.heap.size w w'):∀ {ts:List TypeId} {vs:List Value} {ds:List (DataW H)} {ps:List MemPlace},(ts.all (zhf P m))=true->
 DataW.TrodAll enc P w 0 (fun _=>true) true ts vs ds ps->DataW.TrodAll enc P w' 0 (fun b=>decide (b<w.heap.size)) true ts vs ds ps
 | [],[],[],ps,_,h=>h
 |t::ts,v::vs,d::ds,ps,hf,⟨p,q,⟨n,h1⟩,h2,e⟩=>by
  simp only[XI,Z6] at hf
  have h3:=zpW n m t _ _ hf.1 h1
  exact⟨p,q,⟨n,DataW.trod_carry n _ _ _ h3 (fun z hz=>zlf hb (DataW.trod_lt n _ _ _ h3 z hz))⟩,zcL m hb hf.2 h2,e⟩
 | [],_::_,_,_,_,h=>by cases h
 | [],[],_::_,_,_,h=>by cases h
 |_::_,[],_,_,_,h=>by cases h
 |_::_,_::_,[],_,_,h=>by cases h
end
section
variable {H:Type} {enc:TypeId×Value->H} {P:Program} {w:World} {r:Reach} {b0:Nat}
open Go.ChangeShapes Go.WideShapes
open Go.Deep (open_bools)
theorem zwe(a:Addr)(j:Nat):(a.add j).block=a.block:=by unfold Addr.add;split<;>rfl
end
end
section
open Go.ChangeShapes Go.WideShapes Go.RowKit
def KZ:Nat->z0a:=fun _=> []
section
variable {H:Type} {enc:TypeId×Value->H} {P:Program} {w:World} {r:Reach} {b0:Nat}
theorem zlz{t e:TypeId}{v:Value}{d:DataW H}{ps:List MemPlace}(ht:P.underlying t=some (.slice e))(he:P.underlying e=some (.int .i64))(hc:P.cellsOf e=1)
 (kE:Value.okWide P w r b0 t v) (hd:DataW.Trod enc P w 0 (fun _=>true) true t v d ps):
 ∃xs:List Int,TRep w KZ [] v (.sl xs.length (xs.map fun x=>.sc (.int .i64 x)))/\xs.length<=maxLen/\ ∀x∈xs,(Lit.int .i64 x).wf=true:=by
 obtain⟨ga,n,cap,rfl⟩:=okWide_slice ht kE
 obtain⟨fuel,hf⟩:=hd
 rcases open_ints ht he hc hf with⟨gV,_⟩|⟨a,len',cap',zs,gV,_,hl,hm,hz,_,gI,yO⟩
 · simp[Value.cells] at gV
   obtain⟨rfl,rfl,rfl⟩:=gV
   exact⟨[],.emp _ _ _ (by decide),by decide,fun x hx=>by cases hx⟩
 · simp[Value.cells] at gV
   obtain⟨rfl,rfl,rfl⟩:=gV
   simp only[if_true] at hz
   refine⟨zs.take n,?_,by simp;omega,fun x hx=>yO x (ZK hx)⟩
   have kI:(zs.take n).length=n:=by simp;omega
   rw[kI]
   by_cases h0:n=0
   · subst h0
     simp only[XA,Yt]
     exact .emp _ _ _ hm
   · have hc0:=gI 0 (by omega)
     have hb:=World.block_lt_of_cell? w _ hc0
     rw[zwe] at hb
     have uU:a.spot=none:=by
      have:a.add 0=a:=by simp[Addr.add]
      rw[this] at hc0
      unfold World.cell? at hc0
      split at hc0
      · split at hc0
        · cases hc0
        · rename_i hh
          simpa using hh
      · cases hc0
     obtain⟨g,o,sp⟩:=a
     simp only at uU
     subst uU
     refine .fro [] g o n cap _ (fun j=>.int .i64 (zs.getD j 0)) rfl hb hl hm (fun j hj=> ?_) (fun j t hj=> ?_)
     · have h1:=gI j (by simp at hj;omega)
       have e:(⟨g,o,none⟩:Addr).add j=⟨g,o+j,none⟩:=by
        unfold Addr.add
        split
        · rename_i h;subst h;rfl
        · rfl
       rw[e] at h1
       exact h1
     · simp only[Zd,Z5] at hj
       obtain⟨x,hx,rfl⟩:=hj
       have uA:j<n:=by
        have:=(Za.1 hx).1
        simp at this;omega
       rw[Xf uA] at hx
       simp only[List.getD,hx]
       exact .sc _ _ rfl
end
end
section
open Go Go.RowKit
def tab64:List Nat:= [0,1,56,2,57,49,28,3,61,58,42,50,38,29,17,4,62,47,59,36,45,43,51,22,53,39,33,30,24,18,12,5,63,55,48,27,60,41,37,16,46,35,44,21,52,32,23,11,54,26,40,15,34,20,31,10,25,14,19,9,13,8,7,6]
def tzI(k:Nat):Int:=IntKind.u64.wrap (bits BinOp.and IntKind.u64 (k:Int) (IntKind.u64.wrap (-(k:Int)))*285870213051353865)/288230376151711744
theorem zBP:∀k:Fin 128,0<k.val->0<=tzI k.val/\tzI k.val<64/\wrap64 ((tab64[(tzI k.val).toNat]?.getD 0:Nat):Int)=(tzN k.val:Nat):=by decide+kernel
theorem zBQ(k:Nat)(W:World)(hk:0<k/\k<128)(hT:∀i:Nat,i<64->W.cell? ⟨1,i,none⟩=some (.int .u8 ((tab64.getD i 0:Nat):Int))):Calls Tryz.prog 158 #[.int .u64 (k:Int)] W fun e w'=>e= .returned (.int .i64 (tzN k))/\w'=W:=by
 have h0:(0:Int)<(k:Int):=by omega
 have h1:¬(k:Int)=0:=by omega
 obtain⟨q1,q2,q3⟩:=zBP ⟨k,hk.2⟩ hk.1
 have HQ:=Lib.hid q3
 have HQ1:=Lib.hid q1
 have HQ2:=Lib.hid q2
 clear q1 q2 q3
 go_enter Tryz.func158,Tryz.ntmps158
 go_wp2
 · go_ret
   exact⟨congrArg Ending.returned (congrArg (Value.int IntKind.i64) HQ.out),rfl⟩
 · rename_i hn
   exact absurd ⟨HQ1.out,HQ2.out⟩ hn
theorem zGX(k:Nat)(W:World)(hk:0<k/\k<128)(hT:∀i:Nat,i<64->W.cell? ⟨1,i,none⟩=some (.int .u8 ((tab64.getD i 0:Nat):Int))):Calls Tryz.prog 102 #[.int .u64 (k:Int)] W fun e w'=>e= .returned (.int .i64 (tzN k))/\w'=W:=by
 have HT:=Lib.hid hT
 clear hT
 go_enter Tryz.func102,Tryz.ntmps102
 go_wp2_with (go_at_call 158;refine(zBQ k _ hk HT.out).mono ?_;rintro e w' ⟨rfl,rfl⟩)
 go_ret
 exact⟨rfl,rfl⟩
def zrO(w:World)(K:Nat->z0a):Prop:=K 1= []/\1<w.heap.size/\ ∀i:Nat,i<64->w.cell? ⟨1,i,none⟩=some (.int .u8 ((tab64.getD i 0:Nat):Int))
theorem zD8:EnvS zrO:=⟨fun {w K w' K'} h hs hk=>by
 obtain⟨h1,h2,h3⟩:=h
 obtain⟨k1,k2⟩:=hk 1 h2 h1
 exact⟨k1,by omega,fun i hi=>by rw[z1m k2];exact h3 i hi⟩⟩
theorem zrY{args:List T}{r:T}{outs:List T}(h:xTz args=some (r,outs)):CallOk Tryz.prog zrO 102 args r outs:=by
 unfold xTz at h
 split at h
 case h_2=>cases h
 rename_i x
 unfold vTz at h
 split at h
 case isFalse=>cases h
 rename_i hx
 obtain⟨k,rfl⟩:∃k:Nat,x=(k:Int):=⟨x.toNat,by omega⟩
 simp only[ZN,Z9,Prod.mk.injEq,Z2] at h
 obtain⟨rfl,rfl⟩:=h
 refine⟨fun vals w=> ?_,fun w K vals hs ha hI=> ?_⟩
 · have hb:∃c,Tryz.f102.body=some c:=⟨_,rfl⟩
   obtain⟨c,hb⟩:=hb
   have gT:Tryz.f102.name≠ "runtime.NumGoroutine" :=by decide
   simp[callFunc,program,Sem.run,Tryz.func102,gT,hb]
 · obtain⟨v,rfl⟩:∃v,vals= #[v]:=by
    obtain⟨l⟩:=vals
    match l,hs with
    | [v],_=>exact⟨v,rfl⟩
   have hv:TRep w K [] v (.sc (.int .u64 (k:Int))):=ha 0 _ rfl
   rw[hv.sc_eq]
   refine(zGX k w (by omega) hI.2.2).mono fun e w' ⟨he,hw⟩=> ?_
   subst hw
   refine⟨_,K,he,.sc _ _ rfl,fun i t hi jI=> ?_,Step.refl _ _⟩
   match i,hi with
   |0,hi=>cases hi;cases jI
end
section
open Go Go.RowKit Go.Sort
variable{os:Array Obj}{g n:Nat}{w:World}
def zrR(x:Fin 128):Value:=.int .i64 ((x.val:Nat):Int)
def cfS(p r:Fin 128):Int:=if Lib.compareInt (szN r.val) (szN p.val)≠0 then Lib.compareInt (szN r.val) (szN p.val) else Lib.compareInt (p.val:Nat) (r.val:Nat)
theorem zFn(k:Nat)(W:World)(hk:k<128):Calls Tryz.prog 228 #[.int .u64 (k:Int)] W fun e w'=>e= .returned (.int .i64 (szN k))/\w'=W:=by
 have h0:(0:Int)<=(k:Int):=by omega
 have h1:(k:Int)<128:=by omega
 go_enter Tryz.func228,Tryz.ntmps228
 go_wp2
 all_goals go_ret
 all_goals refine⟨congrArg Ending.returned (congrArg (Value.int IntKind.i64) ?_),rfl⟩
 clear h0 h1
 revert k
 decide+kernel
theorem zCw(k:Nat)(W:World)(hk:k<128):Calls Tryz.prog 207 #[.int .u64 (k:Int)] W fun e w'=>e= .returned (.int .i64 (szN k))/\w'=W:=by
 go_enter Tryz.func207,Tryz.ntmps207
 go_wp2_with (go_at_call 228;refine(zFn k _ hk).mono ?_;rintro e w' ⟨rfl,rfl⟩)
 go_ret
 exact⟨rfl,rfl⟩
theorem zyY(k:Nat)(W:World)(hk:k<128):Calls Tryz.prog 177 #[.int .i64 (k:Int)] W fun e w'=>e= .returned (.int .i64 (szN k))/\w'=W:=by
 have hw:IntKind.u64.wrap (k:Int)=(k:Int):=by rw[Xr];omega
 go_enter Tryz.func177,Tryz.ntmps177
 go_wp2_with (go_at_call 207;refine(zCw k _ hk).mono ?_;rintro e w' ⟨rfl,rfl⟩)
 go_ret
 exact⟨rfl,rfl⟩
theorem or2(a b:Int)(g:Nat)(W:World)(ha:W.cell? ⟨g,0,none⟩=some (.int .i64 a))(hb:W.cell? ⟨g,1,none⟩=some (.int .i64 b)):Calls Tryz.prog 107 #[.slice (some ⟨g,0,none⟩) 2 2] W fun e w'=>e= .returned (.int .i64 (if a≠0 then a else b))/\w'=W:=by
 go_enter Tryz.func107,Tryz.ntmps107
 go_wp2
 go_loop [8] (fun vi=>∃k:Nat,k<=2/\vi= .int .i64 k/\(0<k->a=0)/\(1<k->b=0)) (fun vi=>2-(intOf vi).toNat)
 case atStart=>exact⟨0,by omega,rfl,by omega,by omega⟩
 case round=>
  obtain⟨k,hk,rfl,h1,h2⟩:=hrel
  rcases(by omega:k=0∨k=1∨k=2) with rfl|rfl|rfl
  · clear h1 h2
    by_cases h:a=0
    · subst h
      go_wp2
      go_round
      case rel=>exact⟨1,by omega,by go_num,by simp,by simp⟩
      case measure=>simp[intOf]
    · go_wp2
      go_ret
      simp[h]
  · have h1:=h1 (by omega)
    clear h2
    subst h1
    by_cases h:b=0
    · subst h
      go_wp2
      go_round
      case rel=>exact⟨2,by omega,by go_num,by simp,by simp⟩
      case measure=>simp[intOf]
    · go_wp2
      go_ret
      simp
  · have h1:=h1 (by omega)
    have h2:=h2 (by omega)
    subst h1 h2
    go_wp2
    go_ret
    simp
theorem zFP(x y:Fin 128)(W:World):Calls Tryz.prog 176 #[zrR x,zrR y] W fun e w'=>e= .returned (.int .i64 (cfS x y))/\ ∃q os',w'=grow (W.drewN q) os':=by
 obtain⟨x,hx⟩:=x
 obtain⟨y,hy⟩:=y
 unfold cfS zrR
 simp only
 generalize hc1:Lib.compareInt (szN y) (szN x)=c1
 generalize hc2:Lib.compareInt (x:Int) (y:Int)=c2
 have H1:=Lib.hid hc1
 have H2:=Lib.hid hc2
 clear hc1 hc2
 go_enter Tryz.func176,Tryz.ntmps176
 go_wp2_with (first|(go_at_call 177;first|(refine(zyY y _ hy).mono ?_;rintro e w' ⟨rfl,rfl⟩)|(refine(zyY x _ hx).mono ?_;rintro e w' ⟨rfl,rfl⟩))|(go_at_call 108;refine(Tryz.cmp_Compare_int _ _ _).mono ?_;rintro e w' ⟨rfl,rfl⟩;first|rw[H1.out]|rw[H2.out])|(go_at_call 107;refine(or2 c1 c2 _ _ ?_ ?_).mono ?_))
 · simp
 · simp
 all_goals go_ret
 all_goals exact⟨rfl,0,#[_],alloc_eq_grow _ _⟩
theorem zvJ(a b:Int):Lib.compareInt a b<0↔a<b:=by unfold Lib.compareInt;split<;>(try split)<;>omega
theorem zzm(a b:Int):Lib.compareInt a b=0↔a=b:=by unfold Lib.compareInt;split<;>(try split)<;>omega
theorem zza(p r:Fin 128):ltOf cfS p r=true↔(szN r.val<szN p.val∨(szN r.val=szN p.val/\p.val<r.val)):=by
 unfold ltOf cfS
 rw[decide_eq_true_iff]
 split
 · rename_i h
   have:=(not_congr (zzm (szN r.val) (szN p.val))).1 h
   rw[zvJ]
   omega
 · rename_i h
   have:=(zzm (szN r.val) (szN p.val)).1 (by simpa using h)
   rw[zvJ]
   omega
theorem ztQ(p r:Fin 128):ltOf cfS p r=false↔ ¬(szN r.val<szN p.val∨(szN r.val=szN p.val/\p.val<r.val)):=by
 rw[←zza];simp
theorem zH5:SWO (ltOf cfS) where
 irrefl x:=by rw[ztQ];omega
 trans x y z h1 h2:=by rw[zza] at*;omega
 ntrans x y z h1 h2:=by rw[ztQ] at*;omega
theorem zjs(a b:Int):leI a b=true↔(szN b.toNat<szN a.toNat∨(szN a.toNat=szN b.toNat/\a.toNat<=b.toNat)):=by
 unfold leI zzs;simp
theorem zgZ(x:Int):∀l:List Int,(zxH x l).Perm (x::l)
 | []=>.refl _
 |y::l=>by
  unfold zxH
  split
  · exact .refl _
  · exact((zgZ x l).cons y).trans (.swap x y l)
theorem zeg:∀l:List Int,(zd1 l).Perm l
 | []=>.refl _
 |x::l=>(zgZ x (zd1 l)).trans ((zeg l).cons x)
theorem zgY(x:Int):∀l:List Int,l.Pairwise (fun a b=>leI a b=true)->(zxH x l).Pairwise (fun a b=>leI a b=true)
 | [],_=>by simp[zxH]
 |y::l,h=>by
  unfold zxH
  rw[ZC] at h
  split
  · rename_i kL
    refine ZC.2 ⟨fun z hz=> ?_,ZC.2 h⟩
    rcases Zv.1 hz with rfl|hz
    · exact kL
    · have:=h.1 z hz
      rw[zjs] at*
      omega
  · rename_i kL
    refine ZC.2 ⟨fun z hz=> ?_,zgY x l h.2⟩
    rcases Zv.1 ((zgZ x l).mem_iff.1 hz) with rfl|hz
    · rw[zjs] at*
      omega
    · exact h.1 z hz
theorem zeN:∀l:List Int,(zd1 l).Pairwise (fun a b=>leI a b=true)
 | []=>by simp[zd1]
 |x::l=>zgY x _ (zeN l)
theorem zc2:∀ {l1 l2:List Int},l1.Perm l2->(∀x∈l1,0<=x)->l1.Pairwise (fun a b=>leI a b=true)->l2.Pairwise (fun a b=>leI a b=true)->l1=l2
 | [],l2,h,_,_,_=>by rw[List.nil_perm] at h;exact h.symm
 |a::l1,[],h,_,_,_=>by simp at h
 |a::l1,b::l2,h,h0,h1,h2=>by
  have jG:a=b:=by
   rcases Zv.1 (h.mem_iff.1 (Zz ..)) with e|ha
   · exact e
   · rcases Zv.1 (h.mem_iff.2 (Zz ..)) with e|hb
     · exact e.symm
     · have e1:=(ZC.1 h2).1 a ha
       have e2:=(ZC.1 h1).1 b hb
       have p1:=h0 a (Zz ..)
       have p2:=h0 b (h.mem_iff.2 (Zz ..))
       rw[zjs] at e1 e2
       omega
  subst jG
  rw[zc2 (List.perm_cons a|>.1 h) (fun x hx=>h0 x (Zo _ hx)) (ZC.1 h1).2 (ZC.1 h2).2]
def toF(x:Int):Fin 128:=⟨x.toNat%128,Nat.mod_lt _ (by decide)⟩
def ofF(f:Fin 128):Int:=(f.val:Int)
theorem zyQ{x:Int}(h:0<=x/\x<128):ofF (toF x)=x:=by simp only[ofF,toF];omega
def zFq(B:Nat)(K:Nat->z0a)(b:Nat):z0a:=if B<=b then [0] else K b
theorem zmR{xs:List Int}(hx:∀x∈xs,0<=x/\x<128){d':Array (Fin 128)}(hp:PermIn 0 (xs.map toF).toArray.size (xs.map toF).toArray d')(hs:SortedIn (ltOf cfS) 0 (xs.map toF).toArray.size d'):d'.toList.map ofF=zd1 xs:=by
 obtain⟨h1,_,h3⟩:=hp
 have gO:d'.size=xs.length:=by simpa using h1
 have e1:(xs.map toF).map ofF=xs:=by
  rw[Ya]
  conv=>rhs;rw[←X2 xs]
  exact ZA fun x pJ=>zyQ (hx x pJ)
 have hp2:d'.toList.Perm (xs.map toF):=by
  have:(d'.extract 0 (xs.map toF).toArray.size).toList=d'.toList:=by
   rw[←h1];simp
  rw[this] at h3
  simp at h3
  rwa [Ym (by simp)] at h3
 have hp3:(d'.toList.map ofF).Perm xs:=by
  have:=hp2.map ofF
  rwa [e1] at this
 refine zc2 (hp3.trans (zeg xs).symm) (fun x pJ=>(hx x (hp3.mem_iff.1 pJ)).1) ?_ (zeN xs)
 rw[ZG]
 intro i j hi hj j8
 simp only[Zg,ZZ] at hi hj
 have:=hs i j (by omega) j8 (by simp;omega)
 rw[ztQ,getElem!_pos d' i hi,getElem!_pos d' j hj] at this
 rw[zjs]
 simp only[Zw,X7,ofF,Z2]
 omega
theorem zp8{cur:Array Value}{e:TypeId}{fr:Nat×Nat}(d:Array (Fin 128))(hb:w.heap[g]? =some (.cells cur e fr)):(sortWorld zrR w g 0 n d os).heap[g]? =some (.cells (putCells zrR 0 d cur) e fr):=by
 unfold sortWorld
 rw[heap_grow_old _ _ (by rw[size_putRow];exact z1d hb)]
 simp[putRow,mapBlock,Sort.ahead,Yf,hb,onCells]
theorem ziM(d:Array (Fin 128)){b:Nat}(hb:b<w.heap.size)(gK:b≠g):(sortWorld zrR w g 0 n d os).heap[b]? =w.heap[b]? :=by
 unfold sortWorld
 rw[heap_grow_old _ _ (by rw[size_putRow];exact hb)]
 simp[putRow,mapBlock,Sort.ahead,Yf,Ne.symm gK]
theorem zwT(d:Array (Fin 128)):w.heap.size<=(sortWorld zrR w g 0 n d os).heap.size:=by
 unfold sortWorld
 rw[size_grow,size_putRow]
 show w.heap.size<=w.heap.size+_
 omega
theorem zmv{I:World->(Nat->z0a)->Prop}{args:List T}{r:T}{outs:List T}(h:zws 176 args=some (r,outs)):CallOk Tryz.prog I 175 args r outs:=by
 unfold zws at h
 split at h
 case h_2=>cases h
 rename_i n cs f fs gs
 split at h
 case isFalse=>cases h
 rename_i pE
 obtain⟨rfl,kK,k7⟩:=pE
 simp only[Xl] at kK k7
 subst kK k7
 split at h
 case h_2=>cases h
 rename_i xs kR
 split at h
 case isFalse=>cases h
 rename_i hn
 subst hn
 unfold zmD at h
 split at h
 case isFalse=>cases h
 rename_i hc
 obtain⟨gK,gD,jC⟩:=hc
 have hx:∀x∈xs,0<=x/\x<128:=by simpa using jC
 obtain⟨rfl,rfl⟩:T.tup []=r/\ [T.os 1 (zd1 xs).length ((zd1 xs).map fun x=>.sc (.int .i64 x)),.dead]=outs:=by simpa using h
 have gV:=z8Y kR
 subst gV
 clear h kR jC
 refine⟨fun vals w=> ?_,fun w K vals hs ha hI=> ?_⟩
 · have hb:∃c,Tryz.f175.body=some c:=⟨_,rfl⟩
   obtain⟨c,hb⟩:=hb
   have gT:Tryz.f175.name≠ "runtime.NumGoroutine" :=by decide
   simp[callFunc,program,Sem.run,Tryz.func175,gT,hb]
 · obtain⟨v,u,rfl⟩:∃v u,vals= #[v,u]:=by
    obtain⟨l⟩:=vals
    match l,hs with
    | [v,u],_=>exact⟨v,u,rfl⟩
   have hv:TRep w K (col 0) v (.os 1 xs.length (xs.map fun x=>.sc (.int .i64 x))):=ha 0 _ rfl
   have hu:TRep w K [] u (.sc (.func (.func 176) #[] #[])):=ha 1 _ rfl
   rw[hu.sc_eq]
   clear hu ha
   have hl0:0<xs.length:=ZM.2 gK
   generalize hT:T.os 1 xs.length (xs.map fun x=>T.sc (.int .i64 x))=t at hv
   cases hv with
   |nil=>injection hT with _ e _;omega
   |own c g n cap size cs arr e fz F k9 hc0 hK hg gO hl hz hn kH hF hh=>
    injection hT with e1 e2 e3
    subst e1 e2 e3
    have gI:∀j (hj:j<xs.length),arr[j]? =some (.int .i64 xs[j]):=fun j hj=>by
     rw[hF j (by simpa using hj)]
     have:=hh j (.sc (.int .i64 xs[j])) (by simp[hj])
     rw[this.sc_eq]
    have hH:Holds zrR w g 0 (xs.map toF).toArray:=fun j hj=>by
     have hj':j<xs.length:=by simpa using hj
     constructor
     · rw[Zs,z4j hg,gI j hj',getElem!_pos _ j hj]
       simp only[zrR,List.getElem_toArray,Zw]
       have:=zyQ (hx _ (Zm hj'))
       unfold ofF at this
       rw[this]
     · unfold World.frozen?
       rw[Zs]
       simp only[hg]
       have:=k9 j (by omega)
       obtain⟨lo,hi⟩:=fz
       simp only at this⊢
       simp only[YO,decide_eq_false_iff_not]
       omega
    have eg:∀args w,(callFunc 176 args).run Tryz.prog w= .ok (.enter 176 args) w:=enters_of Tryz.func176 (by kernel_rfl) rfl
    have j9:CmpLays1 Tryz.prog 176 #[] zrR cfS g 0 (xs.map toF).toArray.size w:=fun m os dk _ x y=>zFP x y _
    have jR:=Tryz.slices_SortFunc_f175 zrR (fun _=>rfl) cfS zH5 176 #[] g 0 cap (xs.map toF).toArray w eg j9 hH (z1d hg) (by simpa using gD)
    have gN:(xs.map toF).toArray.size=xs.length:=by simp
    rw[gN] at jR
    refine jR.mono fun e' w' ⟨he,d',m,os,hp,kW,hw⟩=> ?_
    subst hw
    have gZ:=zmR hx (by rw[gN];exact hp) (by rw[gN];exact kW)
    have hd:d'.size=xs.length:=by have:=hp.1;simpa using this
    have qC:(zd1 xs).length=xs.length:=(zeg xs).length_eq
    refine⟨.tuple #[],zFq w.heap.size K,he,?_,fun i t hi jI=> ?_,rfl,rfl,rfl,zwT d',fun b hb qJ=>⟨by unfold zFq;rw[if_neg (by omega)],ziM d' hb ?_⟩,?_⟩
    · exact .tup _ #[] [] (fun _=>undef) rfl (fun j hj=>by simp at hj) (fun j t ht=>by simp at ht)
    · match i,hi with
      |0,hi=>
       refine⟨_,rfl,?_⟩
       show TRep _ _ (col 0) (.slice (some ⟨g,0,none⟩) xs.length cap) _
       rw[←qC]
       refine .own (col 0) g _ cap 1 _ (putCells zrR 0 d' arr) e fz (fun j=>.int .i64 ((zd1 xs).getD j 0)) (fun i hi=>k9 i (by simpa[putCells] using hi)) (by simp[col]) (by unfold zFq;rw[if_neg (by have:=z1d hg;omega)];exact hK) (zp8 d' hg) (by simpa[putCells] using gO) (by simp) (by omega) (by omega) kH (fun j hj=> ?_) (fun j t ht=> ?_)
       · have hj':j<xs.length:=by simpa[qC] using hj
         have pP:j<arr.size:=(ZY.1 (gI j hj')).1
         have jW:j<d'.size:=by omega
         simp only[putCells,Xn,gI j hj',ZN]
         rw[if_pos (by omega),YR,getElem!_pos d' j jW]
         have:(zd1 xs).getD j 0=ofF d'[j]:=by
          rw[←gZ];simp[List.getD,jW]
         rw[this];rfl
       · simp only[Zd,Z5] at ht
         obtain⟨x,hx',rfl⟩:=ht
         simp only[List.getD,hx']
         exact .sc _ _ rfl
      |1,hi=>cases hi;cases jI
    · rintro rfl
      rw[hK] at qJ
      simp[col] at qJ
    · intro b arr0 e0 fz0 hb0
      by_cases qG:b=g
      · subst qG
        rw[hg] at hb0
        cases hb0
        exact⟨_,_,_,zp8 d' hg,by simp[putCells]⟩
      · exact⟨_,_,_,(ziM d' (z1d hb0) qG).trans hb0,rfl⟩
   |_=>cases hT
theorem zrX:z8E Tryz.prog zrO xtC:=by
 intro f args r outs h
 unfold xtC at h
 split at h
 case isTrue hf=>subst hf;exact zrY h
 split at h
 case isTrue hf=>subst hf;exact zmv h
 split at h
 case isTrue hf=>subst hf;exact zmw h
 split at h
 case isTrue hf=>subst hf;exact zki h
 split at h
 case isTrue hf=>subst hf;exact zkl h
 cases h
end
section
open Go Go.RowKit Go.Sort
variable{l:List (List Int×T)}{cs:List T}{n:Nat}{K:Nat->z0a}{v:Value}{w:World}{c:z0a}
theorem zbQ(x y:List Int):z9k y x= -z9k x y:=by
 unfold z9k
 by_cases h1:x.length<y.length
 · rw[if_neg (by omega),if_pos h1,if_pos h1];rfl
 · by_cases h2:y.length<x.length
   · rw[if_pos h2,if_neg h1,if_pos h2]
   · rw[if_neg h2,if_neg h1,if_neg h1,if_neg h2];exact z9f x y
theorem znM(x y z:List Int)(h1:z9k x y<=0)(h2:z9k y z<=0):z9k x z<=0/\(z9k x z=0->z9k x y=0/\z9k y z=0):=by
 have key:=z8K x y z
 unfold z9k at h1 h2⊢
 by_cases a1:x.length<y.length
 · by_cases b1:y.length<z.length
   · rw[if_pos (show x.length<z.length by omega)];exact⟨by omega,fun e=>by omega⟩
   · rw[if_neg b1] at h2
     by_cases b2:z.length<y.length
     · rw[if_pos b2] at h2;omega
     · rw[if_pos (show x.length<z.length by omega)];exact⟨by omega,fun e=>by omega⟩
 · rw[if_neg a1] at h1
   by_cases a2:y.length<x.length
   · rw[if_pos a2] at h1;omega
   · rw[if_neg a2] at h1
     by_cases b1:y.length<z.length
     · rw[if_pos (show x.length<z.length by omega)];exact⟨by omega,fun e=>by omega⟩
     · rw[if_neg b1] at h2
       by_cases b2:z.length<y.length
       · rw[if_pos b2] at h2;omega
       · rw[if_neg b2] at h2
         rw[if_neg (show ¬x.length<z.length by omega),if_neg (show ¬z.length<x.length by omega),if_neg a1,if_neg a2,if_neg b1,if_neg b2]
         exact key h1 h2
theorem zyg(x y z:List Int)(h1:z9k x y<0)(h2:z9k y z<0):z9k x z<0:=by
 obtain⟨a,b⟩:=znM x y z (by omega) (by omega)
 rcases Int.lt_or_eq_of_le a with h|h
 · exact h
 · have:=(b h).1;omega
theorem zHq(x y:List Int):(if Lib.compareInt (x.length:Int) (y.length:Int)≠0 then Lib.compareInt (x.length:Int) (y.length:Int) else z8D x y)=z9k x y:=by
 unfold z9k Lib.compareInt
 by_cases h1:x.length<y.length
 · simp[h1]
 · by_cases h2:y.length<x.length
   · simp[h1,h2]
   · simp[h1,h2]
theorem zx7(p q m1 m2:Value)(x y:List Int)(W:World)(h1:IntsAt W p x)(h2:IntsAt W q y):Calls Tryz.prog 106 #[.agg #[p,m1],.agg #[q,m2]] W fun e w'=>e= .returned (.int .i64 (z9k x y))/\ ∃q os',w'=grow (W.drewN q) os':=by
 obtain⟨ga,ca,e1,n1,-⟩:=h1.get
 obtain⟨gb,cb,e2,n2,-⟩:=h2.get
 have H1:=Lib.hid h1
 have H2:=Lib.hid h2
 rw[←zHq x y]
 generalize hc1:Lib.compareInt (x.length:Int) (y.length:Int)=c1
 generalize hc2:z8D x y=c2
 have H3:=Lib.hid hc1
 have H4:=Lib.hid hc2
 clear hc1 hc2 h1 h2
 subst e1 e2
 have CX:RowKit.Hid (∀w:World,Calls Tryz.prog 108 #[.int .i64 (x.length:Int),.int .i64 (y.length:Int)] w fun e w'=>e= .returned (.int .i64 c1)/\w'=w):=Lib.hid fun w=>(Tryz.cmp_Compare_int _ _ _).mono fun e w' ⟨h1,h2⟩=>⟨by rw[h1,H3.out],h2⟩
 have CS:RowKit.Hid (∀w:World,Below W.heap.size W w->Calls Tryz.prog 101 #[.slice ga x.length ca,.slice gb y.length cb] w fun e w'=>e= .returned (.int .i64 c2)/\w'=w):=Lib.hid fun w hb=>(zd2 _ _ _ _ w (H1.out.below hb) (H2.out.below hb)).mono fun e w' ⟨h1,h2⟩=>⟨by rw[h1,H4.out],h2.symm⟩
 go_enter Tryz.func106,Tryz.ntmps106
 go_wp2
 refine(fun(W2:World) (hW2:_=W2)=>(?_:Code.wp _ _ _ _ W2)) _ rfl
 have hc1:W2.cell? ⟨W.heap.size,0,none⟩=some (.slice ga x.length ca):=by subst hW2;simp
 have hc2:W2.cell? ⟨W.heap.size+1,0,none⟩=some (.slice gb y.length cb):=by subst hW2;simp
 have pK:∃os',W2=grow W os':=⟨#[_,_],by rw[←hW2,alloc_eq_grow,alloc_eq_grow,grow_grow];rfl⟩
 clear hW2
 have yQ:∃os',W2.drew=grow (W.drewN 1) os':=by obtain⟨os,e⟩:=pK;exact⟨os,by rw[e];rfl⟩
 have hb3:Below W.heap.size W W2.drew:=by
  obtain⟨os,e⟩:=pK
  subst e
  exact⟨rfl,rfl,rfl,by show W.heap.size<=(grow W os).heap.size;rw[size_grow];omega,fun b hb=>heap_grow_old _ _ hb⟩
 refine wp_region_still_tail 12 (by kernel_rfl) (by kernel_rfl) ?_
 simp only[Xd,XA,List.drop_succ_cons,List.drop_zero]
 repeat still_step
 still_call (CX.out _)
 repeat still_step
 still_call (CS.out _ hb3)
 refine wpStill_nil ?_
 change wpList _ _ _ _ _ W2.drew
 clear hb3 pK hc1 hc2 CX CS H1 H2 H3 H4
 generalize W2.drew=W3 at*
 go_wp2_with (go_at_call 107;refine(or2 c1 c2 _ _ ?_ ?_).mono ?_)
 · simp
 · simp
 all_goals go_ret
 all_goals obtain⟨os,rfl⟩:=yQ
 all_goals exact⟨rfl,1,os++ #[_],by rw[alloc_eq_grow,grow_grow]⟩
theorem zzM{w':World}{K':Nat->z0a}{c':z0a}(h:TRep w K c v (.sl n cs))(hk:∀b,b<w.heap.size->K b= []->K' b= []/\w'.heap[b]? =w.heap[b]?)(hs:w.heap.size<=w'.heap.size):TRep w' K' c' v (.sl n cs):=by
 cases h with
 |emp c a cap hc=>exact .emp c' a cap hc
 |fro c g o n cap cs F hK hg hn hc hF hh=>
  obtain⟨k1,k2⟩:=hk g hg hK
  exact .fro c' g o _ cap _ F k1 (by omega) hn hc (fun j hj=>by rw[z1m k2];exact hF j hj) (fun j t ht=>(hh j t ht).move (fun _ _ _ hc=>absurd rfl hc) hk X1 hs)
theorem zzN(h:TRep w K c v (.sl n cs)):v.oneCell'=true:=by
 cases h with
 |emp=>rfl
 |fro=>rfl
theorem zgC:∀(l:List (List Int×T)) (j:Nat),(l.flatMap z4Q)[j]? =(l[j/2]?).bind fun r=>(z4Q r)[j%2]?
 | [],j=>by simp
 |r::l,0=>by simp[z4Q]
 |r::l,1=>by simp[z4Q]
 |r::l,j+2=>by
  rw[Y5,Y2 (by simp[z4Q])]
  simp only[z4Q,Zq,Ys,Zs,Nat.reduceAdd,Nat.add_sub_cancel]
  rw[show(j+2)/2=j/2+1 by omega,show(j+2)%2=j%2 by omega,ZT]
  exact zgC l j
theorem zdc:∀l:List (List Int×T),(l.flatMap z4Q).length=l.length*2
 | []=>rfl
 |r::l=>by rw[Y5,Z7,zdc l];simp[z4Q];omega
theorem zgV(x:List Int×T):∀l:List (List Int×T),(zwl x l).Perm (x::l)
 | []=>.refl _
 |y::l=>by
  unfold zwl
  split
  · exact .refl _
  · exact((zgV x l).cons y).trans (.swap x y l)
theorem z7C:∀l:List (List Int×T),(z5o l).Perm l
 | []=>.refl _
 |x::l=>(zgV x (z5o l)).trans ((z7C l).cons x)
abbrev znW(l:List (List Int×T)):Prop:=l.Pairwise fun a b=>z9k a.1 b.1<=0
theorem zgU(x:List Int×T):∀l:List (List Int×T),znW l->znW (zwl x l)
 | [],_=>by simp[zwl]
 |y::l,h=>by
  unfold zwl
  rw[znW,ZC] at h
  split
  · rename_i kL
    refine ZC.2 ⟨fun z hz=> ?_,ZC.2 h⟩
    rcases Zv.1 hz with rfl|hz
    · omega
    · exact(znM _ _ _ (by omega) (h.1 z hz)).1
  · rename_i kL
    refine ZC.2 ⟨fun z hz=> ?_,zgU x l h.2⟩
    rcases Zv.1 ((zgV x l).mem_iff.1 hz) with rfl|hz
    · rw[zbQ];omega
    · exact h.1 z hz
theorem z9o:∀l:List (List Int×T),znW (z5o l)
 | []=>by simp[z5o]
 |x::l=>zgU x _ (z9o l)
theorem ztF(h:(l.map (·.1)).Nodup):∀a∈l,∀b∈l,a.1=b.1->a=b:=by
 induction l with
 |nil=>intro a ha;cases ha
 |cons r l ih=>
  rw[Zt,YG] at h
  intro a ha b hb e
  rcases Zv.1 ha with ea|ha'
  · rcases Zv.1 hb with eb|hb'
    · rw[ea,eb]
    · exact absurd (Zh.2 ⟨b,hb',by rw[←e,ea]⟩) h.1
  · rcases Zv.1 hb with eb|hb'
    · exact absurd (Zh.2 ⟨a,ha',by rw[e,eb]⟩) h.1
    · exact ih h.2 a ha' b hb' e
theorem zoo{r:List (List Int×T)}(hn:(l.map (·.1)).Nodup)(h:l.Perm r)(h1:znW l)(h2:znW r):l=r:=by
 refine XJ (le:=fun a b=>z9k a.1 b.1<=0) (fun a b ha hb h3 h4=> ?_) h1 h2 h
 rw[zbQ] at h4
 exact ztF hn a ha b (h.mem_iff.2 hb) ((za0 a.1 b.1).1 (by omega))
def cfP(rows:List (List Int×T))(i j:Nat):Int:=z9k (rows.getD (rwN rows.length i) ([],.dead)).1 (rows.getD (rwN rows.length j) ([],.dead)).1
theorem zH7(rows:List (List Int×T)):SWO (ltOf (cfP rows)) where
 irrefl x:=by
  unfold ltOf cfP
  rw[(za0 _ _).2 rfl];simp
 trans x y z h1 h2:=by
  unfold ltOf cfP at*
  simp only[decide_eq_true_eq] at*
  exact zyg _ _ _ h1 h2
 ntrans x y z h1 h2:=by
  unfold ltOf cfP at*
  simp only[decide_eq_false_iff_not] at*
  rw[zbQ] at h1 h2⊢
  have:=(znM (rows.getD (rwN rows.length z) ([],.dead)).1 (rows.getD (rwN rows.length y) ([],.dead)).1 (rows.getD (rwN rows.length x) ([],.dead)).1 (by omega) (by omega)).1
  omega
theorem zl5{rows:List (List Int×T)}(hn:(rows.map (·.1)).Nodup){d':Array Nat}(hp:PermIn 0 (List.range rows.length).toArray.size (List.range rows.length).toArray d')(hs:SortedIn (ltOf (cfP rows)) 0 (List.range rows.length).toArray.size d'):d'.size=rows.length/\(∀x∈d'.toList,x<rows.length)/\d'.toList.map (fun j=>rows.getD j ([],.dead))=z5o rows:=by
 obtain⟨h1,_,h3⟩:=hp
 have gO:d'.size=rows.length:=by simpa using h1
 have hp2:d'.toList.Perm (List.range rows.length):=by
  have:(d'.extract 0 (List.range rows.length).toArray.size).toList=d'.toList:=by
   rw[←h1];simp
  rw[this] at h3
  simp at h3
  exact h3
 have gF:∀x∈d'.toList,x<rows.length:=fun x hx=>Zj.1 (hp2.mem_iff.1 hx)
 have e1:(List.range rows.length).map (fun j=>rows.getD j ([],.dead))=rows:=by
  refine Zf (by simp) fun i h1 h2=> ?_
  simp[List.getD,h2]
 have uH:(d'.toList.map (fun j=>rows.getD j ([],.dead))).Perm rows:=by
  have:=hp2.map (fun j=>rows.getD j ([],.dead))
  rwa [e1] at this
 refine⟨gO,gF,zoo ?_ (uH.trans (z7C rows).symm) ?_ (z9o rows)⟩
 · exact(uH.map (·.1)).nodup_iff.2 hn
 · rw[znW,ZG]
   intro i j hi hj j8
   simp only[Zg,ZZ] at hi hj
   have:=hs i j (by omega) j8 (by simp;omega)
   rw[getElem!_pos d' i hi,getElem!_pos d' j hj] at this
   unfold ltOf cfP rwN at this
   simp only[decide_eq_false_iff_not] at this
   have l1:=gF d'[i] (by simp)
   have l2:=gF d'[j] (by simp)
   rw[if_pos l1,if_pos l2,zbQ] at this
   simp only[Zw,X7]
   omega
theorem zeK{I:World->(Nat->z0a)->Prop}{args:List T}{r:T}{outs:List T}(h:zkh 106 args=some (r,outs)):CallOk Tryz.prog I 105 args r outs:=by
 unfold zkh at h
 split at h
 case h_2=>cases h
 rename_i n cs f fs gs
 split at h
 case isFalse=>cases h
 rename_i pE
 obtain⟨rfl,kK,k7⟩:=pE
 simp only[Xl] at kK k7
 subst kK k7
 split at h
 case h_2=>cases h
 rename_i xs kR
 split at h
 case isFalse=>cases h
 rename_i hc
 obtain⟨hn,gD,gJ⟩:=hc
 subst hn
 obtain⟨rfl,rfl⟩:T.tup []=r/\ [T.os 2 (z5o xs).length ((z5o xs).flatMap z4Q),.dead]=outs:=by simpa using h
 obtain⟨gV,jU⟩:=ziB kR
 subst gV
 clear h kR
 have qC:(z5o xs).length=xs.length:=(z7C xs).length_eq
 refine⟨fun vals w=> ?_,fun w K vals hs ha hI=> ?_⟩
 · have hb:∃c,Tryz.f105.body=some c:=⟨_,rfl⟩
   obtain⟨c,hb⟩:=hb
   have gT:Tryz.f105.name≠ "runtime.NumGoroutine" :=by decide
   simp[callFunc,program,Sem.run,Tryz.func105,gT,hb]
 · obtain⟨v,u,rfl⟩:∃v u,vals= #[v,u]:=by
    obtain⟨l⟩:=vals
    match l,hs with
    | [v,u],_=>exact⟨v,u,rfl⟩
   have hv:TRep w K (col 0) v (.os 2 xs.length (xs.flatMap z4Q)):=ha 0 _ rfl
   have hu:TRep w K [] u (.sc (.func (.func 106) #[] #[])):=ha 1 _ rfl
   rw[hu.sc_eq]
   clear hu ha
   have kT:∀(w':World) (K':Nat->z0a),TRep w' K' [0] (.tuple #[]) (.tup []):=fun w' K'=>.tup _ #[] [] (fun _=>undef) rfl (fun j hj=>by simp at hj) (fun j t ht=>by simp at ht)
   by_cases hl0:xs.length=0
   ·
    have hx0:xs= []:=Y3 hl0
    subst hx0
    have yN:∃p cap,v= .slice p 0 cap:=by
     generalize hT:T.os 2 ([]:List (List Int×T)).length (([]:List (List Int×T)).flatMap z4Q)=t at hv
     cases hv with
     |nil=>exact⟨_,_,rfl⟩
     |own c g n cap=>injection hT with e1 e2 e3;simp at e2;subst e2;exact⟨_,_,rfl⟩
     |_=>cases hT
    obtain⟨p,cap,rfl⟩:=yN
    refine(AnyF.slices_SortFunc_none Tryz.laysSlF06_f105 p cap _ w).mono fun e' w' ⟨he,hw⟩=> ?_
    subst hw
    refine⟨.tuple #[],K,he,kT _ _,fun i t hi jI=> ?_,Step.refl _ _⟩
    match i,hi with
    |0,hi=>cases hi;exact⟨_,rfl,hv⟩
    |1,hi=>cases hi;cases jI
   have hl1:0<xs.length:=by omega
   generalize hT:T.os 2 xs.length (xs.flatMap z4Q)=t at hv
   cases hv with
   |nil=>injection hT with _ e _;omega
   |own c g n cap size cs arr e fz F k9 hc0 hK hg gO hl hz hn kH hF hh=>
    injection hT with e1 e2 e3
    subst e1 e2 e3
    have qQ:=zdc xs
    have qA:∀j (hj:j<xs.length) (k:Nat),k<2->(xs.flatMap z4Q)[2*j+k]? =(z4Q xs[j])[k]? :=fun j hj k hk=>by
     rw[zgC,show(2*j+k)/2=j by omega,show(2*j+k)%2=k by omega,Z1 hj];rfl
    have gM:∀j (hj:j<xs.length),TRep w K (col 0++ [2*j]) (F (2*j)) (zf4 xs[j].1):=fun j hj=>hh (2*j) _ (by rw[show 2*j=2*j+0 by omega,qA j hj 0 (by omega)];rfl)
    have jT:∀j (hj:j<xs.length),TRep w K (col 0++ [2*j+1]) (F (2*j+1)) xs[j].2:=fun j hj=>hh (2*j+1) _ (by rw[qA j hj 1 (by omega)];rfl)
    have gI:∀j,j<xs.length*2->arr[j]? =some (F j):=fun j hj=>hF j (by omega)
    let enc:Nat->List Value:=fun j=> [F (2*rwN xs.length j),F (2*rwN xs.length j+1)]
    have jF:∀j,rwN xs.length j<xs.length:=fun j=>by unfold rwN;split<;>omega
    have vY:∀j,j<xs.length->(List.range xs.length).toArray[j]! =j:=fun j hj=>by
     rw[getElem!_pos _ j (by simpa using hj)];simp
    have jX:∀(d:Array Nat) (hd:∀x∈d.toList,x<xs.length) (j:Nat),j<d.size*2->(flatK enc 2 d)[j]! =F (2*d[j/2]! +j%2):=fun d hd j hj=>by
     rw[get_flatK enc 2 d j hj]
     have h2:j/2<d.size:=by omega
     have h3:d[j/2]! <xs.length:=by rw[getElem!_pos d _ h2];exact hd _ (by simp)
     show [F (2*rwN xs.length d[j/2]!),F (2*rwN xs.length d[j/2]! +1)][j%2]! =_
     rw[rwN,if_pos h3]
     rcases Nat.mod_two_eq_zero_or_one j with e|e<;>rw[e]<;>simp
    have gN:(List.range xs.length).toArray.size=xs.length:=by simp
    have hH:HoldsK enc 2 w g 0 (List.range xs.length).toArray:=fun j hj=>by
     rw[size_flatK,gN] at hj
     constructor
     · rw[Zs,z4j hg,gI j hj,jX _ (fun x hx=>by simpa using hx) j (by rw[gN];exact hj),vY _ (by omega),show 2*(j/2)+j%2=j by omega]
       rfl
     · unfold World.frozen?
       rw[Zs]
       simp only[hg]
       have pP:j<arr.size:=(ZY.1 (gI j hj)).1
       have:=k9 j pP
       obtain⟨lo,hi⟩:=fz
       simp only at this⊢
       simp only[YO,decide_eq_false_iff_not]
       omega
    have eg:∀args w,(callFunc 106 args).run Tryz.prog w= .ok (.enter 106 args) w:=enters_of Tryz.func106 (by kernel_rfl) rfl
    have esw:∀(m:Nat) (d:Array Nat) (os:Array Obj),sortWorldK enc 2 w g 0 m d os=sortWorld (id:Value->Value) w g 0 m (flatK enc 2 d) os:=fun _ _ _=>rfl
    have kF:∀(d:Array Nat) (m:Nat) (os:Array Obj) (b:Nat),b<w.heap.size->K b= []->K b= []/\(sortWorldK enc 2 w g 0 m d os).heap[b]? =w.heap[b]? :=fun d m os b hb hk=>⟨hk,by rw[esw];exact z6b _ hb (by rintro rfl;rw[hK] at hk;simp[col] at hk)⟩
    have j9:CmpLays Tryz.prog 106 #[] enc 2 (cfP xs) g 0 (List.range xs.length).toArray.size w:=fun m os dk _ x y=>by
     have k1:=(zby (c':= []) (gM _ (jF x)) (kF dk m os) (by rw[esw];exact z7b _)).2
     have k2:=(zby (c':= []) (gM _ (jF y)) (kF dk m os) (by rw[esw];exact z7b _)).2
     have:=zx7 _ _ (F (2*rwN xs.length x+1)) (F (2*rwN xs.length y+1)) _ _ _ k1 k2
     have e1:cfP xs x y=z9k (xs[rwN xs.length x]'(jF x)).1 (xs[rwN xs.length y]'(jF y)).1:=by
      unfold cfP
      rw[List.getD,Z1 (jF x),List.getD,Z1 (jF y)];rfl
     rw[e1]
     exact this
    have jR:=Tryz.slices_SortFunc_f105 (fun _=>rfl) (fun _=>rfl) enc (fun _=>rfl) (fun x v hv=>by
     rcases Zv.1 hv with rfl|hv
     · exact zoy (gM _ (jF x))
     · rcases Zv.1 hv with rfl|hv
       · obtain⟨m,ds,e⟩:=jU _ (Zm (jF x))
         have:=jT _ (jF x)
         rw[e] at this
         exact zzN this
       · cases hv) (cfP xs) (zH7 xs) 106 #[] g 0 cap (List.range xs.length).toArray w eg j9 hH (z1d hg) (by simpa using gD)
    rw[gN] at jR
    refine jR.mono fun e' w' ⟨he,d',m,os,hp,kW,hw⟩=> ?_
    subst hw
    obtain⟨hd,uC,gZ⟩:=zl5 gJ (by rw[gN];exact hp) (by rw[gN];exact kW)
    have kK:(flatK enc 2 d').size=xs.length*2:=by rw[size_flatK,hd]
    refine⟨.tuple #[],zlB w.heap.size K,he,kT _ _,fun i t hi jI=> ?_,rfl,rfl,rfl,by rw[esw];exact z7b _,fun b hb qJ=>⟨by unfold zlB;rw[if_neg (by omega)],by rw[esw];exact z6b _ hb (by rintro rfl;rw[hK] at qJ;simp[col] at qJ)⟩,?_⟩
    · match i,hi with
      |0,hi=>
       refine⟨_,rfl,?_⟩
       show TRep _ _ (col 0) (.slice (some ⟨g,0,none⟩) xs.length cap) _
       rw[←qC]
       refine .own (col 0) g _ cap 2 _ (putCells id 0 (flatK enc 2 d') arr) e fz (fun j=>F (2*d'.toList.getD (j/2) 0+j%2)) (fun i hi=>k9 i (by simpa[putCells] using hi)) (by simp[col]) (by unfold zlB;rw[if_neg (by have:=z1d hg;omega)];exact hK) (by rw[esw];exact z9U _ hg) (by simpa[putCells] using gO) (by rw[zdc]) (by omega) (by omega) kH (fun j hj=> ?_) (fun j t ht=> ?_)
       · have hj':j<xs.length*2:=by rw[zdc,qC] at hj;exact hj
         have pP:j<arr.size:=(ZY.1 (gI j hj')).1
         have jW:j/2<d'.size:=by omega
         simp only[putCells,Xn,gI j hj',ZN]
         rw[if_pos (by omega),YR]
         show some (flatK enc 2 d')[j]! =_
         rw[jX d' uC j (by omega),getElem!_pos d' _ jW]
         simp[List.getD,jW]
       · rw[zgC] at ht
         have u6:j/2<(z5o xs).length:=by
          rcases Yy (j/2) (z5o xs).length with h|h
          · exact h
          · rw[YN h] at ht;cases ht
         rw[Z1 u6] at ht
         have jW:j/2<d'.toList.length:=by rw[ZZ];omega
         have kN:=uC d'.toList[j/2] (Zm jW)
         have ex:(z5o xs)[j/2]=xs[d'.toList[j/2]]:=by
          have h1:(d'.toList.map fun j=>xs.getD j ([],.dead))[j/2]? =some (z5o xs)[j/2]:=by rw[gZ];exact Z1 u6
          rw[Zd,Z1 jW,ZN,List.getD,Z1 kN] at h1
          exact(YF h1).symm
         have e2:d'.toList.getD (j/2) 0=d'.toList[j/2]:=by rw[List.getD,Z1 jW,Z4]
         rw[e2]
         rw[ex] at ht
         simp only[Z0] at ht
         have kQ:∀b,b<w.heap.size->K b= []->zlB w.heap.size K b= []/\(sortWorldK enc 2 w g 0 m d' os).heap[b]? =w.heap[b]? :=fun b hb hk=>⟨by unfold zlB;rw[if_neg (by omega)];exact hk,(kF d' m os b hb hk).2⟩
         have qB:w.heap.size<=(sortWorldK enc 2 w g 0 m d' os).heap.size:=by rw[esw];exact z7b _
         rcases Nat.mod_two_eq_zero_or_one j with e|e
         · rw[e] at ht⊢
           obtain rfl:zf4 (xs[d'.toList[j/2]]).1=t:=by simpa[z4Q] using ht
           exact(zby (gM _ kN) kQ qB).1
         · rw[e] at ht⊢
           obtain rfl:(xs[d'.toList[j/2]]).2=t:=by simpa[z4Q] using ht
           obtain⟨m2,ds,e3⟩:=jU _ (Zm kN)
           have h4:=jT _ kN
           rw[e3] at h4⊢
           exact zzM h4 kQ qB
      |1,hi=>cases hi;cases jI
    · intro b arr0 e0 fz0 hb0
      by_cases qG:b=g
      · subst qG
        rw[hg] at hb0
        cases hb0
        exact⟨_,_,_,by rw[esw];exact z9U _ hg,by simp[putCells]⟩
      · exact⟨_,_,_,by rw[esw];exact(z6b _ (z1d hb0) qG).trans hb0,rfl⟩
   |_=>cases hT
end
section
def No1(c:z0a):Prop:=c.head?≠some 1
theorem Keep.frz1{w w':World}{K K':Nat->z0a}(k:Keep w w' K K' No1)(dep:Option Nat):Keep w w' (frz K dep) (frz K' dep) No1:=by
 have hn:∀b id,b<w.heap.size->(K b).head?=some (id+2)->K' b=K b/\w'.heap[b]? =w.heap[b]? :=fun b id hb e=>k.own b hb (by unfold No1;rw[e];simp)
 refine⟨fun b hb e=> ?_,fun b hb e=> ?_,k.size⟩
 · cases dep with
   |none=>exact k.fro b hb e
   |some id=>
    simp only[frz] at e⊢
    by_cases h:(K b).head?=some (id+2)
    · obtain⟨e1,e2⟩:=hn b id hb h
      rw[e1,if_pos h];exact⟨rfl,e2⟩
    · rw[if_neg h] at e
      obtain⟨e1,e2⟩:=k.fro b hb e
      rw[e1];exact⟨by simp,e2⟩
 · cases dep with
   |none=>exact k.own b hb e
   |some id=>
    simp only[frz] at e⊢
    by_cases h:(K b).head?=some (id+2)
    · obtain⟨e1,e2⟩:=hn b id hb h
      rw[e1];exact⟨rfl,e2⟩
    · rw[if_neg h] at e
      obtain⟨e1,e2⟩:=k.own b hb e
      rw[e1];exact⟨rfl,e2⟩
theorem ARep.keep1{w w':World}{K K':Nat->z0a}{R:Nat->Value}{ob:List (Nat×T)}{x:A}{u:Value}(h:ARep w K R ob x u)
 (uZ:∀id t,z2i ob id=some t->TRep w K (col id) (R id) t) (k:Keep w w' K K' No1):ARep w' K' R ob x u:=by
 have k1:∀id (r:z0a) gb,K gb=col id++r->gb<w.heap.size->w'.heap[gb]? =w.heap[gb]? :=fun id r gb e hb=>(k.own gb hb (by unfold No1;rw[e];simp[col])).2
 cases x with
 |dead=>trivial
 |k v=>exact h
 |t dep x=>exact⟨TRep.keep h.1 (k.frz1 dep) (fun _ hc=>absurd rfl hc),h.2⟩
 |h id p=>
  obtain⟨h1,t,h2,h3⟩:=h
  refine⟨?_,t,h2,h3⟩
  rw[z7g (uZ id t h2) (z1F id) h3 (fun r j s gb _ e hb=>z1m (k1 id r gb e hb) j)];exact h1
 |a id p off=>
  obtain⟨hv,g,h1,h4,h5,t,h2,h3⟩:=h
  refine⟨hv,g,?_,h4,h5,t,h2,h3⟩
  rw[z7g (uZ id t h2) (z1F id) h3 (fun r j s gb _ e hb=>z1m (k1 id r gb e hb) j)];exact h1
 |tf n cs=>exact⟨h.1,TRep.keep h.2 (k.frz1 none) (fun _ hc=>absurd rfl hc)⟩
 |ea dep cs off=>
  obtain⟨g,o,F,h1,h2,h3,h4,h5,h6⟩:=h
  obtain⟨e1,e2⟩:=(k.frz1 dep).fro g h3 h2
  exact⟨g,o,F,h1,e1,Zy h3 k.size,fun j hj=>by rw[z1m e2];exact h4 j hj,fun j t ht=>(h5 j t ht).keep (k.frz1 dep) (fun _ hc=>absurd rfl hc),h6⟩
theorem FRep.keep1{w w':World}{K K':Nat->z0a}{R G:Nat->Value}{fr:Fr}{a:Act}(h:FRep w K R G fr a)(k:Keep w w' K K' No1):FRep w' K' R G fr a:=
 ⟨fun i=>(h.tm i).mono fun x u hx=>hx.keep1 h.ob k,fun id t ht=>(h.ob id t ht).keep k (fun s _=>by unfold No1;simp[col]),h.nt,h.df⟩
def itK(r:Nat)(K:Nat->z0a)(b:Nat):z0a:=if b=r then [1] else K b
theorem FRep.put1{w:World}{K:Nat->z0a}{R G:Nat->Value}{fr:Fr}{a:Act}(h:FRep w K R G fr a){d:Nat}{x:A}{v:Value}(hd:d<fr.nt)(hx:ARep w K R fr.ob x v):
 FRep w K R G {fr with tm:=z8G fr.tm d (.one x)} (a.put (some d) v):=h.put hd hx
theorem zxb{P:Program}{w:World}{K:Nat->z0a}{R G:Nat->Value}{fr:Fr}{a:Act}{o:Oper}{x:Operand}{d:Nat}{ty ke e:TypeId}{kk:Option IntKind}{ks:List Value}{cs:List T}{next:Act->World->Prop}{Q:Exit->Act->World->Prop}
 (h:FRep w K R G fr a) (kO:o.op= .range ty x) (hd:o.dst=some d) (kP:d<fr.nt) (hx:opE fr x= .one (.t none (.ms kk ks cs))) (ht:P.underlying ty=some (.map ke e))
 (hn:∀(bm:Nat) (ents:Array MapEntry) (clock:Nat) (F:Nat->Value),w.heap[bm]? =some (.map ents clock)->K bm= []->MapTs kk ents clock ks cs.length F->(∀j t,cs[j]? =some t->TRep w K [] (F j) t)->
   FRep (w.alloc (.mapIter (some bm) clock #[] clock)) (itK w.heap.size K) R G {fr with tm:=z8G fr.tm d (.one (.k (.pointer (some ⟨w.heap.size,0,none⟩))))} (a.put (some d) (.pointer (some ⟨w.heap.size,0,none⟩)))->
   Step w K (w.alloc (.mapIter (some bm) clock #[] clock)) (itK w.heap.size K)->next (a.put (some d) (.pointer (some ⟨w.heap.size,0,none⟩))) (w.alloc (.mapIter (some bm) clock #[] clock))):o.wp P a w next Q:=by
 have hr:=h.opE x
 rw[hx] at hr
 obtain⟨hr,-⟩:=hr
 generalize hu:a.eval x=u at hr
 have hr':TRep w K [] u (.ms kk ks cs):=hr
 clear hr
 cases hr' with
 |ms c g kk ks cs ents clock F hK hg hh hc=>
  have jD:=run_range_map (P:=P) w ty ke e g ents clock ht hg
  have gX:∀b,b<w.heap.size->(w.alloc (.mapIter (some g) clock #[] clock)).heap[b]? =w.heap[b]? :=fun b hb=>heap_alloc_old w _ hb
  have gO:w.heap.size<=(w.alloc (.mapIter (some g) clock #[] clock)).heap.size:=by simp
  have pG:∀b,b<w.heap.size->itK w.heap.size K b=K b:=fun b hb=>by unfold itK;rw[if_neg (by omega)]
  have hk:Keep w (w.alloc (.mapIter (some g) clock #[] clock)) K (itK w.heap.size K) (fun _=>True):=⟨fun b hb e=>⟨by rw[pG b hb];exact e,gX b hb⟩,fun b hb _=>⟨pG b hb,gX b hb⟩,gO⟩
  unfold Oper.wp
  have gR:(execOp a.eval o).run P w= .ok (.value (.pointer (some ⟨w.heap.size,0,none⟩))) (w.alloc (.mapIter (some g) clock #[] clock)):=by
   simp only[execOp,kO,hu,Zc,jD,Z3,Zk]
  rw[gR]
  simp only[Oper.upon,hd]
  exact hn g ents clock F hg hK hh hc ((h.keep hk).put kP rfl) ⟨rfl,rfl,rfl,gO,fun b hb _=>⟨pG b hb,gX b hb⟩,.olds gX⟩
structure ItStep(r:Nat)(w w':World):Prop where
 os:w'.os=w.os
 tape:w'.tape=w.tape
 output:w'.output=w.output
 size:w'.heap.size=w.heap.size
 other:∀b,b≠r->w'.heap[b]? =w.heap[b]?
variable{a:Act}{next:Act->World->Prop}{es:Array MapEntry}{seen:Array Nat}{Q:Exit->Act->World->Prop}{fr:Fr}{vis:List Nat}{e:MapEntry}{r since:Nat}{G R:Nat->Value}{K:Nat->z0a}{o:Oper}{x:Operand}{P:Program}{w w':World}
theorem ItStep.later{w0:World}{K0:Nat->z0a}(h:ItStep r w w')(s:Step w0 K0 w K)(hr:w0.heap.size<=r):Step w0 K0 w' K:=
 ⟨h.os.trans s.os,h.tape.trans s.tape,h.output.trans s.output,by rw[h.size];exact s.size,fun b hb hc=>⟨(s.old b hb hc).1,(h.other b (by omega)).trans (s.old b hb hc).2⟩,
  fun b arr e fz hb=>by
   obtain⟨a1,e1,f1,h1,h2⟩:=s.sz b arr e fz hb
   exact⟨a1,e1,f1,by rw[h.other b (by have:=z1d hb;omega)];exact h1,h2⟩⟩
theorem FRep.itStep(h:FRep w K R G fr a)(hr:K r= [1])(s:ItStep r w w'):FRep w' K R G fr a:=
 h.keep1 ⟨fun b hb e=>⟨e,s.other b (by rintro rfl;rw[hr] at e;cases e)⟩,fun b hb e=>⟨rfl,s.other b (by rintro rfl;unfold No1 at e;rw[hr] at e;simp at e)⟩,by rw[s.size];exact Z8 _⟩
theorem zr5(w w1:World)(r:Nat)(o:Obj)(h:w1=w∨w1=w.drew)(gF:r<w.heap.size):ItStep r w (ChangeMaps.setBlock w1 r o)/\(ChangeMaps.setBlock w1 r o).heap[r]? =some o:=by
 have e:w1.heap=w.heap:=by rcases h with rfl|rfl<;>rfl
 refine⟨⟨?_,?_,?_,?_,fun b hb=> ?_⟩,?_⟩
 · rcases h with rfl|rfl<;>rfl
 · rcases h with rfl|rfl<;>rfl
 · rcases h with rfl|rfl<;>rfl
 · simp[ChangeMaps.setBlock,e]
 · simp[ChangeMaps.setBlock,e,Y6,Ne.symm hb]
 · simp[ChangeMaps.setBlock,e,gF]
theorem zmE{vs:Array Value}{cs:List T}(hl:vs.size=cs.length)(h:∀j t,cs[j]? =some t->TRep w K [] (vs.getD j undef) t):TRep w K [] (.tuple vs) (.tup cs):=
 .tup [] vs cs (fun j=>vs.getD j undef) hl (fun j hj=>by simp[Zb,show j<vs.size by omega]) (fun j t ht=>by simpa[ext] using h j t ht)
theorem zAw{d bm:Nat}
 (h:FRep w K R G fr a) (kO:o.op= .next x false) (hd:o.dst=some d) (kP:d<fr.nt) (hx:opE fr x= .one (.k (.pointer (some ⟨r,0,none⟩)))) (hK:K r= [1])
 (hr:w.heap[r]? =some (.mapIter (some bm) since seen since)) (hb:w.heap[bm]? =some (.map es since)) (gX:∀x∈es.toList,x.born<since)
 (h0:(leftOf es seen).size=0->FRep w K R G {fr with tm:=z8G fr.tm d (.one (.t none (.tup [.sc (.bool false)])))} (a.put (some d) (.tuple #[.bool false]))->next (a.put (some d) (.tuple #[.bool false])) w)
 (h1:∀e∈(leftOf es seen).toList,∀w',ItStep r w w'->w'.heap[r]? =some (.mapIter (some bm) since (seen.push e.born) since)->
   FRep w' K R G {fr with tm:=z8G fr.tm d (.one (.t none (.tup [.sc (.bool true),.dead,.dead])))} (a.put (some d) (.tuple #[.bool true,e.key,e.val]))->next (a.put (some d) (.tuple #[.bool true,e.key,e.val])) w'):o.wp P a w next Q:=by
 have hv:a.eval x= .pointer (some ⟨r,0,none⟩):=by
  have:=h.opE x
  rw[hx] at this
  exact this
 rcases run_next_at (P:=P) w o.type r bm since since seen es since hr hb gX (Z8 _) with⟨hz,jD⟩|⟨e,he,w1,hw1,jD⟩
 · unfold Oper.wp
   have gR:(execOp a.eval o).run P w= .ok (.value (.tuple #[.bool false])) w:=by
    simp only[execOp,kO,hv,Zc,jD,Z3,Zk]
   rw[gR]
   simp only[Oper.upon,hd]
   refine h0 hz (h.put1 kP ⟨?_,fun _ e=>by cases e⟩)
   refine zmE rfl fun j t ht=> ?_
   match j,ht with
   |0,ht=>cases ht;exact .sc _ _ rfl
 · obtain⟨hs,hg⟩:=zr5 w w1 r (.mapIter (some bm) since (seen.push e.born) since) hw1 (z1d hr)
   unfold Oper.wp
   have gR:(execOp a.eval o).run P w= .ok (.value (.tuple #[.bool true,e.key,e.val])) (ChangeMaps.setBlock w1 r (.mapIter (some bm) since (seen.push e.born) since)):=by
    simp only[execOp,kO,hv,Zc,jD,Z3,Zk]
   rw[gR]
   simp only[Oper.upon,hd]
   refine h1 e he _ hs hg ((h.itStep hK hs).put1 kP ⟨?_,fun _ e=>by cases e⟩)
   refine zmE rfl fun j t ht=> ?_
   match j,ht with
   |0,ht=>cases ht;exact .sc _ _ rfl
   |1,ht=>cases ht;exact .dead _ _
   |2,ht=>cases ht;exact .dead _ _
theorem zy3{d bm:Nat}{tk t:T}
 (h:FRep w K R G fr a) (kO:o.op= .entry x) (hd:o.dst=some d) (kP:d<fr.nt) (hx:opE fr x= .one (.k (.pointer (some ⟨r,0,none⟩))))
 (hr:w.heap[r]? =some (.mapIter (some bm) since (seen.push e.born) since)) (hb:w.heap[bm]? =some (.map es since)) (he:e∈es.toList) (gJ:(es.toList.map (·.born)).Nodup) (yS:TRep w K [] e.key tk) (ht:TRep w K [] e.val t)
 (hn:FRep w K R G {fr with tm:=z8G fr.tm d (.one (.t none (.tup [tk,t])))} (a.put (some d) (.tuple #[e.key,e.val]))->next (a.put (some d) (.tuple #[e.key,e.val])) w):o.wp P a w next Q:=by
 have hv:a.eval x= .pointer (some ⟨r,0,none⟩):=by
  have:=h.opE x
  rw[hx] at this
  exact this
 have jD:=run_entry_at (P:=P) w r bm since seen es since e hr hb he gJ
 unfold Oper.wp
 have gR:(execOp a.eval o).run P w= .ok (.value (.tuple #[e.key,e.val])) w:=by
  simp only[execOp,kO,hv,Zc,jD,Z3,Zk]
 rw[gR]
 simp only[Oper.upon,hd]
 refine hn (h.put1 kP ⟨?_,fun _ e=>by cases e⟩)
 refine zmE rfl fun j t' ht'=> ?_
 match j,ht' with
 |0,ht'=>cases ht';exact yS
 |1,ht'=>cases ht';exact ht
section
variable {kk:Option IntKind} {ents:Array MapEntry} {clock:Nat} {ks:List Value} {n:Nat} {F:Nat->Value}
theorem MapTs.size(h:MapTs kk ents clock ks n F):ents.size=n:=by
 obtain⟨h1,h2,_⟩:=h
 have:=congrArg List.length h1
 simpa[h2] using this
theorem MapTs.old(h:MapTs kk ents clock ks n F):∀x∈ents.toList,x.born<clock:=fun x hx=>by
 obtain⟨j,hj,e⟩:=Zn hx
 obtain⟨_,_,_,_,h5,_⟩:=h
 exact h5 j x (by rw[←Zx,Z1 hj,e])
theorem MapTs.nodup(h:MapTs kk ents clock ks n F):(ents.toList.map (·.born)).Nodup:=by
 obtain⟨_,_,_,_,_,h6⟩:=h
 rw[List.nodup_iff_pairwise_ne,ZG]
 intro i j hi hj j8 e
 simp only[Zg] at hi hj
 simp only[Zw] at e
 have:=h6 i j _ _ (by rw[←Zx,Z1 hi]) (by rw[←Zx,Z1 hj]) e
 omega
def zaw(ents:Array MapEntry)(vis:List Nat):Array Nat:=(vis.map fun i=>(ents[i]?.map (·.born)).getD 0).toArray
theorem zmO(vis:List Nat)(i:Nat)(he:ents[i]? =some e):(zaw ents vis).push e.born=zaw ents (vis++ [i]):=by
 simp[zaw,he]
theorem zxz(h:MapTs kk ents clock ks n F)(hv:∀i∈vis,i<n)(he:e∈(leftOf ents (zaw ents vis)).toList):∃i,i<n/\ents[i]? =some e/\i∉vis/\e.val=F i:=by
 have hm:e∈ents/\ ¬e.born∈zaw ents vis:=by
  simpa[leftOf] using he
 obtain⟨hm,vP⟩:=hm
 obtain⟨i,hi,rfl⟩:=Array.getElem_of_mem hm
 have hs:=h.size
 obtain⟨h1,h2,h3,h4,h5,h6⟩:=h
 refine⟨i,by omega,by simp[hi],fun gP=>vP ?_,h4 i _ (by simp[hi])⟩
 simp only[zaw,List.mem_toArray,Zh]
 exact⟨i,gP,by simp[hi]⟩
theorem zuO(h:MapTs kk ents clock ks n F)(hv:∀i∈vis,i<n)(hz:(leftOf ents (zaw ents vis)).size=0):∀i,i<n->i∈vis:=fun i hi=>by
 have hs:=h.size
 obtain⟨h1,h2,h3,h4,h5,h6⟩:=h
 have he:leftOf ents (zaw ents vis)= #[]:=Array.eq_empty_of_size_eq_zero hz
 rw[leftOf,Array.filter_eq_empty_iff] at he
 have:=he (ents[i]'(by omega)) (Array.getElem_mem _)
 simp only[ZX,Bool.not_eq_false',XK,Bool.not_eq_false] at this
 have hc:(ents[i]'(by omega)).born∈zaw ents vis:=by simpa using this
 simp only[zaw,List.mem_toArray,Zh] at hc
 obtain⟨j,hj,e⟩:=hc
 have uA:=hv j hj
 have uD:ents[j]? =some (ents[j]'(by omega)):=by simp[show j<ents.size by omega]
 rw[uD] at e
 have yP:ents[i]? =some (ents[i]'(by omega)):=by simp[show i<ents.size by omega]
 have e':(ents[j]'(by omega)).born=(ents[i]'(by omega)).born:=by simpa using e
 have:=h6 j i _ _ uD yP e'
 rw[←this];exact hj
end
theorem zqO{n:Nat}(hn:vis.Nodup)(hv:∀i∈vis,i<n)(ha:∀i,i<n->i∈vis):vis.Perm (List.range n):=by
 refine(List.perm_ext_iff_of_nodup hn YK).2 fun i=> ?_
 rw[Zj]
 exact⟨hv i,ha i⟩
theorem zeU:∀ {n:Nat} {vis:List Nat},vis.Nodup->(∀i∈vis,i<n)->vis.length<=n
 |0,vis,hn,hv=>by
  cases vis with
  |nil=>simp
  |cons a l=>exact absurd (hv a (by simp)) (by omega)
 |n+1,vis,hn,hv=>by
  have h1:(vis.erase n).Nodup:=hn.erase n
  have h2:=zeU (n:=n) h1 fun i hi=>by
   have:=(hn.mem_erase_iff).1 hi
   have:=hv i this.2
   omega
  rw[List.length_erase] at h2
  split at h2<;>omega
theorem zo0{ops:Array Oper}{l:List Oper}(hg:o.guard=none)(h:∀Kk:Act->World->Prop,(∀a w,wpList P ops Q l a w->Kk a w)->o.wp P a w Kk Q):wpList P ops Q (o::l) a w:=by
 refine wpList_step fun Kk hK=> ?_
 simp only[Region.wanted,hg,if_true]
 exact h Kk hK
theorem zgm{C:z0g}{cf:Cfg}{LF:Nat}{x y:Code}{fr':Fr}(h:z2H P C cf LF (.seq x y) fr=some (.n,fr')):∃f1,z2H P C cf LF x fr=some (.n,f1)/\z2H P C cf LF y f1=some (.n,fr'):=by
 simp only[z2H] at h
 split at h
 · rename_i f1 h1
   exact⟨f1,h1,h⟩
 · rename_i gK
   exact absurd h (gK _)
end
section
open Go
variable{rs:List (List Int×T)}{vis:List Nat}{args:List T}{i r:Nat}
noncomputable def zoz:Code:=zdJ (zdJ (zdJ (zdJ zhU)))
noncomputable def c24:Code:=zka (zka zoz)
noncomputable def lpR:Code:=lpC (blC (zdJ (zka zoz)))
noncomputable def c25:Code:=zka lpR
noncomputable def c26:Code:=zka (blC (zdJ (zdJ lpR)))
noncomputable def c27:Code:=zdJ (blC (zdJ (zdJ lpR)))
noncomputable def c28:Code:=zka (zdJ zoz)
noncomputable def c29:Code:=zka (zdJ (zdJ zoz))
theorem zyk:zhU= .seq (zka zhU) (.seq (zka (zdJ zhU)) (.seq (zka (zdJ (zdJ zhU))) (.seq (zka (zdJ (zdJ (zdJ zhU)))) (.seq (.seq c24 (.block 6 (.loop (.seq c25 (.seq (.cond (.tmp 79) .skip (.exit 6)) (.block 7 (.seq c26 c27))))))) (.seq c28 (.seq c29 .ret)))))):=rfl
theorem zEg:c24= .region 24 (rgO c24) false:=rfl
theorem zEf:c25= .region 25 (rgO c25) false:=rfl
theorem zEe:c26= .region 26 (rgO c26) false:=rfl
def zeY(rs:List (List Int×T))(vis:List Nat):List T:=(vis.map fun i=>rs.getD i ([],.sl 0 [])).flatMap z4Q
def HR(rs:List (List Int×T))(r:Nat)(vis:List Nat):Fr:=⟨89,[(16,.one (.h 16 [])),(77,.one (.k (.pointer (some ⟨r,0,none⟩)))),(999999,.one .dead)],[(16,.os 2 vis.length (zeY rs vis))]⟩
def cS:z0g:=fun f args=>if f=105 then zkh 106 args else none
theorem znQ{r:List Int×T}(hi:rs[i]? =some r):zeY rs (vis++ [i])=zeY rs vis++z4Q r:=by
 simp[zeY,List.getD,hi]
theorem zBW{p:List Int}{m:Nat}{ds:List T}(hi:rs[i]? =some (p,.sl m ds))(pQ:ds.map z1Z=ds)(hk:vis.length+1<=4611686018427387904)(hk2:(vis.length+1)*48<=140737488355328):
 ∃f1,zf5 Tryz.prog cS cfRw.wio (rgO c26) ((rgO c26).toList.drop 1) {HR rs r vis with tm:=z8G (z8G (z8G (HR rs r vis).tm 78 (.one (.t none (.tup [.sc (.bool true),.dead,.dead])))) 79 (.one (.t none (.sc (.bool true))))) 80 (.one (.t none (.tup [.dead,.agg (z4Q (p,.sl m ds))])))}=some f1/\
  ∃f2,z2H Tryz.prog cS cfRw LFm c27 f1=some (.n,f2)/\za2 (some [16,77,999999]) f2=HR rs r (vis++ [i]):=by
 have key:∀(fr:Fr) (Q:Fr->Prop),zn0 Tryz.prog cS cfRw.wio c26 1 fr Q->∃f1,zf5 Tryz.prog cS cfRw.wio (rgO c26) ((rgO c26).toList.drop 1) fr=some f1/\Q f1:=fun fr Q h=>by
  unfold zn0 at h
  exact zd4 h
 refine key _ _ ?_
 simp only[HR,z8G,z4Q,zf4]
 refine zgw rfl rfl fun Q' hQ=> ?_;simp[*,cfRw];refine hQ.out _ ?_;clear hQ;clear Q'
 refine zgw rfl rfl fun Q' hQ=> ?_;simp[*,cfRw];refine hQ.out _ ?_;clear hQ;clear Q'
 refine zgw rfl rfl fun Q' hQ=> ?_;simp[*,cfRw];refine hQ.out _ ?_;clear hQ;clear Q'
 refine zjb (by decide) ?_
 have key2:∀(fr:Fr) (Q:Fr->Prop),wpC Tryz.prog cS cfRw LFm c27 fr (fun x f=>x= .n/\Q f)->∃f2,z2H Tryz.prog cS cfRw LFm c27 fr=some (.n,f2)/\Q f2:=fun fr Q h=>by
  unfold wpC at h
  obtain⟨x,f,h1,h2,h3⟩:=h
  subst h2
  exact⟨f,h1,h3⟩
 refine key2 _ _ ?_
 refine zjd rfl rfl rfl fun Q' hQ=> ?_;simp[*,cfRw];refine hQ.out _ ?_;clear hQ;clear Q'
 refine⟨rfl,?_⟩
 simp[HR,znQ hi,z4Q,zf4]
theorem zyS(b:Bool)(l:List T):zf5 Tryz.prog cS cfRw.wio (rgO c25) ((rgO c25).toList.drop 1) {HR rs r vis with tm:=z8G (HR rs r vis).tm 78 (.one (.t none (.tup (.sc (.bool b)::l))))}=some {HR rs r vis with tm:=z8G (z8G (HR rs r vis).tm 78 (.one (.t none (.tup (.sc (.bool b)::l))))) 79 (.one (.t none (.sc (.bool b))))}:=by
 have key:∀(fr f2:Fr),zn0 Tryz.prog cS cfRw.wio c25 1 fr (fun f=>f=f2)->zf5 Tryz.prog cS cfRw.wio (rgO c25) ((rgO c25).toList.drop 1) fr=some f2:=fun fr f2 h=>by
  unfold zn0 at h
  obtain⟨f,h1,h2⟩:=zd4 h
  rw[h1,h2]
 refine key _ _ ?_
 simp only[HR,z8G]
 refine zgw rfl rfl fun Q' hQ=> ?_;simp[*,cfRw];refine hQ.out _ ?_;clear hQ;clear Q'
 refine zjb (by decide) ?_
 rfl
theorem zBV{n:Nat}{cs:List T}(hx:cS 105 [.os 2 vis.length (zeY rs vis),.sc (.func (.func 106) #[] #[])]=some (.tup [],[.os 2 n cs,.dead]))(gV:cs.map z1Z=cs)(x y:E):
 wpC Tryz.prog cS cfRw LFm (.seq c28 (.seq c29 .ret)) {HR rs r vis with tm:=z8G (z8G (HR rs r vis).tm 78 (.one (.t none (.tup [.sc (.bool false)])))) 79 (.one (.t none (.sc (.bool false))))} (zvs Tryz.prog Tryz.f50 [] (.sl n cs) []):=by
 simp only[HR,z8G]
 repeat' (first|refine z0m ?_|refine z8S ?_|refine zj4 ?_|refine z5V ?_|refine z4u rfl ?_|refine zhv rfl ?_|refine zpD ?_|refine zAD ?_|refine zAE ?_|refine zxc ?_|refine zxd ?_|refine zCe rfl ?_|refine zto rfl ?_|(refine ztn rfl rfl (by simp[*,cfRw,hx,gV];rfl) ?_)|(refine zjd rfl rfl rfl fun Q' hQ=> ?_;simp[*,cfRw,hx,gV];(refine hQ.out _ ?_;clear hQ;clear Q'))|(refine zF9 rfl fun Q1 Q2 h1 h2=> ?_;simp[*,zcK,zaL,zEx,zEB,zEw,zEA,z7o,zfE,z3g,opE,rdV,scE,zho];(try (repeat' (first|refine And.intro ?_ ?_|intro _)));all_goals (first|(exfalso;omega)|(refine h1.out ?_;clear h1 h2;clear Q1 Q2)|(refine h2.out ?_;clear h1 h2;clear Q1 Q2)))|refine zaU rfl ?_|refine zn2 rfl ?_|refine z8p rfl ?_|refine ztm rfl ?_|refine zal rfl rfl rfl rfl ?_|(refine z5s rfl fun Q' hQ=> ?_;simp[*,cfRw,hx,gV];(refine hQ.out _ ?_;clear hQ;clear Q'))|(refine z6k rfl rfl fun Q' hQ=> ?_;simp[*,cfRw,hx,gV];(refine hQ.out _ ?_;clear hQ;clear Q'))|(refine zd7 rfl rfl fun Q1 Q2 h1 h2=> ?_;simp[*,zcK,zaL,zEx,zEB,zEw,zEA,zv9,zfE,z3g,opE,rdV,scE,zho];(try (repeat' (first|refine And.intro ?_ ?_|intro _)));all_goals (first|(exfalso;omega)|((first|(exfalso;omega)|(refine h1.out ?_;clear h1 h2;clear Q1 Q2)|(refine h2.out ?_;clear h1 h2;clear Q1 Q2));intro Q' hQ;simp[*,cfRw,hx,gV];(refine hQ.out _ ?_;clear hQ;clear Q'))))|refine ztl rfl rfl rfl ?_|(refine zjb (by decide) ?_)|(refine zgw rfl rfl fun Q' hQ=> ?_;simp[*,cfRw,hx,gV];(refine hQ.out _ ?_;clear hQ;clear Q'))|(refine zqH rfl rfl fun Q1 Q2 h1 h2=> ?_;simp[*,zcK,zaL,zEx,zEB,zEw,zEA,zv9,zfE,z3g,opE,rdV,scE,zho];(try (repeat' (first|refine And.intro ?_ ?_|intro _)));all_goals (first|(exfalso;omega)|((first|(exfalso;omega)|(refine h1.out ?_;clear h1 h2;clear Q1 Q2)|(refine h2.out ?_;clear h1 h2;clear Q1 Q2));intro Q' hQ;simp[*,cfRw,hx,gV];(refine hQ.out _ ?_;clear hQ;clear Q')))))
 all_goals (simp[zvs, *];done)
theorem zyu:∀(i:Nat) (t:T),args.all (fun t=> !z7q t)=true->args[i]? =some t->z7q t=true->False:=fun i t ha hi jI=>by
 rw[Zr] at ha
 have:=ha t (ZS hi)
 rw[jI] at this
 cases this
theorem zjW(hd:∀r∈rs,z1Z r.2=r.2):((rs).flatMap z4Q).map z1Z=rs.flatMap z4Q:=by
 induction rs with
 |nil=>rfl
 |cons r l ih=>
  rw[Y5,ZI,ih fun q hq=>hd q (Zo _ hq)]
  simp[z4Q,zf4,hd r (Zz ..)]
theorem zkj{I:World->(Nat->z0a)->Prop}{C:z0g}(hI:EnvS I)(hC:z8E Tryz.prog I C)(hS:z8E Tryz.prog I cS)(gZ:∀l1 l2:List (List Int×T),l1.Perm l2->(l2.map (·.1)).Nodup->z5o l1=z5o l2)(qL:∀l:List (List Int×T),(z5o l).Perm l){r:T}{outs:List T}(h:zkk C args=some (r,outs)):CallOk Tryz.prog I 50 args r outs:=by
 have hm:Tryz.prog.follows .mixedOrders=true:=by kernel_rfl
 unfold zkk at h
 split at h
 case h_2=>cases h
 rename_i fr jA
 split at h
 case h_2=>cases h
 rename_i kk ks cs h5 h16 ho16
 split at h
 case h_2=>cases h
 rename_i rs pY
 split at h
 case isFalse=>cases h
 rename_i hc
 obtain⟨gJ,uF,yD,jI,qS,pQ⟩:=hc
 obtain⟨rfl,rfl⟩:T.sl (z5o rs).length ((z5o rs).flatMap z4Q)=r/\(args.map fun _=>T.dead)=outs:=by simpa using h
 obtain⟨gV,jU⟩:=zix pY
 clear h pY
 have hb:Tryz.f50.body=some zhU:=rfl
 refine⟨fun vals w=> ?_,fun w K vals hs ha jZ=> ?_⟩
 · have gT:Tryz.f50.name≠ "runtime.NumGoroutine" :=by decide
   simp[callFunc,program,Sem.run,Tryz.func50,gT,hb]
 have kU:=zm1 (nt:=89) hs ha yD
 obtain⟨f0,e0,jA⟩:=zgm jA
 obtain⟨f1,e1,jA⟩:=zgm jA
 obtain⟨f2,e2,e3⟩:=zgm jA
 have ok:okC cfRw (zxi zhU)=true:=by kernel_rfl
 simp only[zxi,okC,Z6] at ok
 obtain⟨ok0,ok1,ok2,ok3⟩:=ok
 refine calls_of_wp Tryz.func50 hb ?_
 rw[zyk]
 refine wp_seq (zcD hI hC hm _ ok0 kU jZ e0 fun a1 w1 K1 R1 h1 s1=> ?_)
 refine wp_seq (zcD hI hC hm _ ok1 h1 (hI.step jZ s1) e1 fun a2 w2 K2 R2 h2 s2=> ?_)
 have s2:=s1.trans s2
 refine wp_seq (zcD hI hC hm _ ok2 h2 (hI.step jZ s2) e2 fun a3 w3 K3 R3 h3 s3=> ?_)
 have s3:=s2.trans s3
 refine wp_seq (zcD hI hC hm _ ok3 h3 (hI.step jZ s3) e3 fun a4 w4 K4 R4 h4 s4=> ?_)
 have s4:=s3.trans s4
 clear h1 h2 h3 s1 s2 s3 e0 e1 e2 e3 kU
 have h5':=(h4.weaken (tm:= [(5,.one (.t none (.ms kk ks cs))),(16,.one (.h 16 []))]) fun i=>by
  simp only[z3g]
  split
  · rename_i e;subst e;exact .inl h5.symm
  · split
    · rename_i e;subst e;exact .inl h16.symm
    · exact .inr rfl).canon (some [5,16,999999])
 have e6:za2 (some [5,16,999999]) {fr with tm:= [(5,.one (.t none (.ms kk ks cs))),(16,.one (.h 16 []))]}=⟨89,[(5,.one (.t none (.ms kk ks cs))),(16,.one (.h 16 [])),(999999,.one .dead)],[(16,.os 2 0 [])]⟩:=by
  simp[ho16,qS]
 rw[e6] at h5'
 clear h4 h5 h16 ho16 qS e6
 obtain⟨o0,o1,ty,ke,el,q24,p0,d0,g0,p1,d1,g1,ht⟩:∃(o0 o1:Oper) (ty ke el:TypeId),(rgO c24).toList= [o0,o1]/\o0.op= .move (.tmp 5)/\o0.dst=some 76/\o0.guard=none/\o1.op= .range ty (.tmp 76)/\o1.dst=some 77/\o1.guard=none/\Tryz.prog.underlying ty=some (.map ke el):=⟨_,_,_,_,_,rfl,rfl,rfl,rfl,rfl,rfl,rfl,rfl⟩
 refine wp_seq (wp_seq ?_)
 rw[zEg]
 refine wp_region_list ?_
 rw[q24]
 refine zo0 g0 fun Kk hK=> ?_
 unfold Oper.wp
 rw[show(execOp a4.eval o0).run Tryz.prog w4= .ok (.value (a4.eval (.tmp 5))) w4 by simp[execOp,p0]]
 simp only[Oper.upon,d0]
 refine hK _ _ ?_
 clear hK
 have h7:=h5'.put (d:=76) (x:=.one (.t none (.ms kk ks cs))) (v:=a4.eval (.tmp 5)) (show 76<89 by decide) (h5'.opE (.tmp 5))
 refine zo0 g1 fun Kk hK=> ?_
 refine zxb h7 p1 d1 (show 77<89 by decide) rfl ht fun bm ents clock F hg qW kY uL h8 s8=>hK _ _ (wpList_nil ?_)
 have kI:cs.length=rs.length:=by rw[gV];simp
 rw[kI] at kY
 have pH:∀i (hi:i<rs.length),TRep w4 K4 [] (F i) (.agg (z4Q rs[i])):=fun i hi=>uL i _ (by rw[gV,Zd,Z1 hi];rfl)
 clear hK h7 h5' q24 p0 d0 g0 p1 d1 g1 ht uL Kk gV
 have h9:=h8.canon (some [16,77,999999])
 have e9:∀rr,za2 (some [16,77,999999]) {(⟨89,z8G [(5,.one (.t none (.ms kk ks cs))),(16,.one (.h 16 [])),(999999,.one .dead)] 76 (.one (.t none (.ms kk ks cs))),[(16,.os 2 0 [])]⟩:Fr) with tm:=z8G (z8G [(5,.one (.t none (.ms kk ks cs))),(16,.one (.h 16 [])),(999999,.one .dead)] 76 (.one (.t none (.ms kk ks cs)))) 77 (.one (.k (.pointer (some ⟨rr,0,none⟩))))}=HR rs rr []:=fun rr=>by
  simp[HR,zeY]
 rw[e9] at h9
 clear e9 h8 kI
 generalize hr:w4.heap.size=rr at h9 s8
 have qE:itK rr K4 rr= [1]:=by simp[itK]
 have kV:(w4.alloc (.mapIter (some bm) clock #[] clock)).heap[rr]? =some (.mapIter (some bm) clock (zaw ents []) clock):=by
  rw[←hr,heap_alloc_new];rfl
 show(Code.block 6 _).wp _ _ _ _
 refine wp_block ?_
 refine zkn (fun n a1 w1=>∃K1 R1 vis,FRep w1 K1 R1 (fun i=>vals.getD (i-(89+1000)) undef) (HR rs rr vis) a1/\Step w4 K4 w1 K1/\K1 rr= [1]/\w1.heap[rr]? =some (.mapIter (some bm) clock (zaw ents vis) clock)/\vis.Nodup/\(∀i∈vis,i<rs.length)/\vis.length+n=rs.length) ?_ (n:=rs.length) ⟨_,_,[],h9,s8,qE,kV,List.nodup_nil,(fun i hi=>by cases hi),by simp⟩
 clear h9 s8 kV qE
 rintro n a5 w5 ⟨K5,R5,vis,h5,s5,qM,vG,qZ,gF,gD⟩
 have yE:w5.heap[bm]? =some (.map ents clock):=(s5.old bm (z1d hg) (.inl qW)).2.trans hg
 have vO:K5 bm= []:=(s5.old bm (z1d hg) (.inl qW)).1.trans qW
 have hI5:I w5 K5:=hI.step jZ (s4.trans s5)
 refine wp_seq ?_
 rw[zEf]
 refine wp_region_list ?_
 obtain⟨o0,o1,q25,p0,d0,g0,x1⟩:∃(o0 o1:Oper),(rgO c25).toList= [o0,o1]/\o0.op= .next (.tmp 77) false/\o0.dst=some 78/\o0.guard=none/\(rgO c25).toList.drop 1= [o1]:=⟨_,_,rfl,rfl,rfl,rfl,rfl⟩
 rw[q25]
 refine zo0 g0 fun Kk hK=> ?_
 refine zAw h5 p0 d0 (show 78<89 by decide) rfl qM vG yE kY.old (fun hz h6=> ?_) (fun e he w6 gL jV h6=> ?_)
 ·
  refine hK _ _ ?_
  clear hK
  have kC:zf5 Tryz.prog cS cfRw.wio (rgO c25) [o1] {HR rs rr vis with tm:=z8G (HR rs rr vis).tm 78 (.one (.t none (.tup [.sc (.bool false)])))}=some {HR rs rr vis with tm:=z8G (z8G (HR rs rr vis).tm 78 (.one (.t none (.tup [.sc (.bool false)])))) 79 (.one (.t none (.sc (.bool false))))}:=by
   rw[←x1];exact zyS false []
  refine ziz hI hS h6 hI5 kC fun a7 w7 K7 R7 h7 s7=> ?_
  have s7:=s5.trans s7
  refine wp_seq (wp_cond_false (z1v (h7.opE (.tmp 79)) rfl).1 (wp_exit ?_))
  simp only[Exit.then,Exit.inBlock,if_true]
  have uW:=zqO qZ gF (zuO kY gF hz)
  have qN:vis.length=rs.length:=by simpa using uW.length_eq
  have e1:(List.range rs.length).map (fun i=>rs.getD i ([],.sl 0 []))=rs:=by
   refine Zf (by simp) fun i h1 h2=> ?_
   simp[List.getD,h2]
  have pC:(vis.map fun i=>rs.getD i ([],.sl 0 [])).Perm rs:=by
   have:=uW.map (fun i=>rs.getD i ([],.sl 0 []))
   rwa [e1] at this
  have kW:z5o (vis.map fun i=>rs.getD i ([],.sl 0 []))=z5o rs:=gZ _ _ pC gJ
  have hx:cS 105 [.os 2 vis.length (zeY rs vis),.sc (.func (.func 106) #[] #[])]=some (.tup [],[.os 2 (z5o rs).length ((z5o rs).flatMap z4Q),.dead]):=by
   have qR:=zgD (vis.map fun i=>rs.getD i ([],.sl 0 [])) fun r hr=>jU r (pC.mem_iff.1 hr)
   have q6:((vis.map fun i=>rs.getD i ([],.sl 0 [])).map (·.1)).Nodup:=(pC.map (·.1)).nodup_iff.2 gJ
   unfold cS
   rw[if_pos rfl]
   unfold zkh zeY
   simp only[XW,and_self,if_true,qR]
   rw[if_pos ⟨by simp,by simp;omega,q6⟩,kW]
  have y5:((z5o rs).flatMap z4Q).map z1Z=(z5o rs).flatMap z4Q:=zjW fun r hr=>pQ r ((qL rs).mem_iff.1 hr)
  have pW:=zBV (r:=rr) hx y5 (.one .dead) (.one .dead)
  unfold wpC at pW
  obtain⟨x,f8,jQ,jL⟩:=pW
  have okt:okC cfRw (.seq c28 (.seq c29 .ret))=true:=by kernel_rfl
  refine zcD hI hS hm _ okt h7 (hI.step jZ (s4.trans s7)) jQ fun a8 w8 K8 R8 h8 s8=> ?_
  have s8:=s7.trans s8
  have gG:∀r0,zey Tryz.prog Tryz.f50 [] f8=some (r0,[])->z1Z r0=T.sl (z5o rs).length ((z5o rs).flatMap z4Q)->a8.defers= []/\ ∃v,(results Tryz.f50 a8.tmps).run Tryz.prog w8= .ok v w8/\ ∃v' K',Ending.returned v= .returned v'/\TRep w8 K' [0] v' (T.sl (z5o rs).length ((z5o rs).flatMap z4Q))/\(∀i t,args[i]? =some t->z7q t=true->∃t',(args.map fun _=>T.dead)[i]? =some t'/\TRep w8 K' (col i) (vals.getD i undef) t')/\Step w K w8 K':=fun r0 hx0 hd0=>by
   obtain⟨v,K9,r1,r2,-,r4⟩:=zvr h8 hx0 (by simp)
   refine⟨h8.df,v,r1,v,fun b=>dz (K9 b),rfl,?_,fun i t hi pR=>(zyu i t jI hi pR).elim,((s4.trans s8).trans r4).trans ⟨rfl,rfl,rfl,Z8 _,fun b hb uQ=>⟨by
    show dz (K9 b)=K9 b
    rcases uQ with q|q<;>rw[q]<;>rfl,rfl⟩,.same rfl⟩⟩
   rw[←hd0]
   exact r2.freeze (fun b s hb uQ hK=>⟨by show dz (K9 b)= [];rw[hK];rfl,rfl⟩) (fun b hb hK=>⟨by show dz (K9 b)= [];rw[hK];rfl,rfl⟩) (Z8 _) [0]
  have vC:(zey Tryz.prog Tryz.f50 [] f8).map (fun x=>(z1Z x.1,x.2))=some (T.sl (z5o rs).length ((z5o rs).flatMap z4Q),[])->∃r0,zey Tryz.prog Tryz.f50 [] f8=some (r0,[])/\z1Z r0=T.sl (z5o rs).length ((z5o rs).flatMap z4Q):=fun h=>by
   rw[Z5] at h
   obtain⟨⟨r0,o0⟩,h1,h2⟩:=h
   have e1:z1Z r0=_:=congrArg Prod.fst h2
   have e2:o0= []:=congrArg Prod.snd h2
   subst e2
   exact⟨r0,h1,e1⟩
  cases x with
  |n=>
   obtain⟨r0,h1,h2⟩:=vC jL
   exact gG r0 h1 h2
  |r=>
   obtain⟨r0,h1,h2⟩:=vC jL
   exact gG r0 h1 h2
  |x id=>exact jL.elim
 ·
  obtain⟨i,hi,kJ,pX,vI⟩:=zxz kY gF he
  refine hK _ _ ?_
  clear hK
  have s6:Step w4 K4 w6 K5:=gL.later s5 (by omega)
  have hI6:I w6 K5:=hI.step jZ (s4.trans s6)
  have kC:zf5 Tryz.prog cS cfRw.wio (rgO c25) [o1] {HR rs rr vis with tm:=z8G (HR rs rr vis).tm 78 (.one (.t none (.tup [.sc (.bool true),.dead,.dead])))}=some {HR rs rr vis with tm:=z8G (z8G (HR rs rr vis).tm 78 (.one (.t none (.tup [.sc (.bool true),.dead,.dead])))) 79 (.one (.t none (.sc (.bool true))))}:=by
   rw[←x1];exact zyS true [.dead,.dead]
  refine ziz hI hS h6 hI6 kC fun a7 w7 K7 R7 h7 s7=> ?_
  have hr7:=s7.old rr (z1d jV) (.inr qM)
  have hb7:=(s6.trans s7).old bm (z1d hg) (.inl qW)
  have s7:=s6.trans s7
  refine wp_seq (wp_cond_true (z1v (h7.opE (.tmp 79)) rfl).1 (wp_skip ?_))
  show(Code.block 7 _).wp _ _ _ _
  refine wp_block (wp_seq ?_)
  rw[zEe]
  refine wp_region_list ?_
  obtain⟨o2,l2,q26,p2,d2,g2,x2⟩:∃(o2:Oper) (l2:List Oper),(rgO c26).toList=o2::l2/\o2.op= .entry (.tmp 77)/\o2.dst=some 80/\o2.guard=none/\(rgO c26).toList.drop 1=l2:=⟨_,_,rfl,rfl,rfl,rfl,rfl⟩
  rw[q26]
  refine zo0 g2 fun Kk hK=> ?_
  obtain⟨m,ds,e2⟩:=jU rs[i] (Zm hi)
  have yT:rs[i]? =some (rs[i].1,.sl m ds):=by rw[Z1 hi];rw[←e2]
  have y6:ds.map z1Z=ds:=by
   have:=pQ rs[i] (Zm hi)
   rw[e2,z1Z,z4m] at this
   injection this
  have vQ:TRep w7 K7 [] e.val (.agg (z4Q (rs[i].1,.sl m ds))):=by
   rw[vI,←e2]
   exact(pH i hi).move (fun b s hb hc=>absurd rfl hc) (fun b hb e=>⟨(s7.old b hb (.inl e)).1.trans e,(s7.old b hb (.inl e)).2⟩) X1 s7.size
  refine zy3 h7 p2 d2 (show 80<89 by decide) rfl (hr7.2.trans jV) (hb7.2.trans hg) (by rw[←Zx] at kJ;exact ZS kJ) kY.nodup (.dead _ _) vQ fun h8=>hK _ _ ?_
  clear hK
  have hl1:vis.length+1<=rs.length:=by
   have:=zeU (vis:=i::vis) (n:=rs.length) (YG.2 ⟨pX,qZ⟩) fun j hj=>by
    rcases Zv.1 hj with rfl|hj
    · exact hi
    · exact gF j hj
   simpa using this
  obtain⟨f1,t1,f2,t2,t3⟩:=zBW (r:=rr) (vis:=vis) yT y6 (by omega) (by omega)
  rw[x2] at t1
  have hI7:I w7 K7:=hI.step jZ (s4.trans s7)
  refine ziz hI hS h8 hI7 t1 fun a9 w9 K9 R9 h9 s9=> ?_
  have ok27:okC cfRw c27=true:=by kernel_rfl
  refine zcD hI hS hm _ ok27 h9 (hI.step hI7 s9) t2 fun a10 w10 K10 R10 h10 s10=> ?_
  have s10:=s9.trans s10
  have h11:=h10.canon (some [16,77,999999])
  rw[t3] at h11
  have hr10:=s10.old rr (by have:=s7.size;have:=z1d (hr7.2.trans jV);omega) (.inr (hr7.1.trans qM))
  refine⟨n-1,by omega,K10,R10,vis++ [i],h11,s7.trans s10,hr10.1.trans (hr7.1.trans qM),?_,?_,?_,?_⟩
  · rw[hr10.2,hr7.2,jV,zmO vis i kJ]
  · exact Yj.2 ⟨qZ,by simp,fun a ha b hb=>by
     rw[Zi] at hb
     subst hb
     rintro rfl
     exact pX ha⟩
  · intro j hj
    rcases Ze.1 hj with hj|hj
    · exact gF j hj
    · rw[Zi] at hj;omega
  · simp;omega
end
section
open Go
theorem zyj{I:World->(Nat->z0a)->Prop}:z8E Tryz.prog I cS:=by
 intro f args r outs h
 unfold cS at h
 split at h
 case isTrue hf=>subst hf;exact zeK h
 cases h
theorem zqw{l1 l2:List (List Int×T)}(hp:l1.Perm l2)(hn:(l2.map (·.1)).Nodup):z5o l1=z5o l2:=
 zoo ((((z7C l1).trans hp).map (·.1)).nodup_iff.2 hn) (((z7C l1).trans hp).trans (z7C l2).symm) (z9o l1) (z9o l2)
theorem zrW:∀C,z8E Tryz.prog zrO C->z8E Tryz.prog zrO (xtF C):=by
 intro C hC f args r outs h
 unfold xtF at h
 split at h
 case isTrue hf=>subst hf;exact zeK h
 split at h
 case isTrue hf=>subst hf;exact zkj zD8 hC zyj (fun _ _=>zqw) z7C h
 exact zrX f args r outs h
end
section
open Go.ChangeShapes Go.WideShapes Go.ChangeAt Go.RowKit
theorem zr2{P:Program}{I:World->(Nat->z0a)->Prop}{Xc:z0g->z0g}{cf:FuncId->Option Cfg}{f:FuncId}{args:List T}{outs:List T}(hI:EnvS I)(hX:∀C,z8E P I C->z8E P I (Xc C))(hm:P.follows .mixedOrders=true)(hf:∀f c,cf f=some c->zgG P f c=true)
 (h:Lim P Xc cf f args=some (.sc (.bool true),outs)) (jI:args.all (fun t=> !z7q t)=true) (W:World) (vU:I W KZ) (vals:Array Value) (hs:vals.size=args.length)
 (ha:∀i t,args[i]? =some t->TRep W KZ [] (vals.getD i undef) t):Calls P f vals W fun e W'=>e= .returned (.bool true)/\Below W.heap.size W W':=by
 have hc:=zCQ (I:=I) hI hX hm hf h
 refine(hc.calls W KZ vals hs (fun i t hi=> ?_) vU).mono fun e W' ⟨v,K',he,hv,_,gL⟩=> ?_
 · have h1:=Zr.1 jI t (ZS hi)
   unfold ziX
   rw[if_neg (by simpa using h1)]
   exact ha i t hi
 · generalize hT:T.sc (.bool true)=t at hv
   cases hv with
   |sc c v hb=>cases hT;exact⟨he,gL.os,gL.tape,gL.output,gL.size,fun b hb=>(gL.old b hb (.inl rfl)).2⟩
   |_=>cases hT
theorem zoh{W:World}(h:laidMetH Tryz.prog Rows.decomposeOfRow.laid W)(r:Nat)(hr:r<64):W.cell? ⟨1,r,none⟩=some (.int .u8 ((tab64.getD r 0:Nat):Int)):=by
 have h:=h.filter fun x=>x.1== "math/bits.deBruijn64tab"
 rw[MakeChecks.laidMetH_plain _ _ _ (by kernel_rfl)] at h
 obtain⟨ps,⟨g,t,cs,fuel,p,q,hg,ht,hv,hd,_,_⟩,_,_⟩:=h
 obtain rfl:=YF ((show Tryz.prog.globalNamed "math/bits.deBruijn64tab" =some 1 by kernel_rfl).symm.trans hg)
 obtain⟨t1,ht1,e,hu,hu5,vE⟩:∃t1,(Tryz.prog.globals[1]?).map (·.type)=some t1/\ ∃e,Tryz.prog.underlying t1=some (.array 64 e)/\Tryz.prog.underlying e=some (.int .u8)/\Tryz.prog.cellsOf e=1:=⟨201,by kernel_rfl,5,by kernel_rfl,by kernel_rfl,by kernel_rfl⟩
 obtain rfl:=YF (ht1.symm.trans ht)
 obtain⟨xs,m,_,ex,_,hl,qP⟩:=DataW.trod_array hu hd
 have hE:=qP r hr
 rw[vE,Nat.mul_one,Z1 (by omega)] at hE
 obtain⟨z,e1,e2,_⟩:=DataW.trod_int hu5 hE
 have gD:tab64.length=64:=by kernel_rfl
 have e3:(xs.map (·.1))=tab64.map fun(n:Nat)=>.lit (.int .u8 (n:Int)):=(DataW.agg.inj (Prod.mk.inj ex).1).symm
 have e4:(xs.map (·.1))[r]? =(tab64.map fun(n:Nat)=>(DataW.lit (.int .u8 (n:Int)):DataW Unit))[r]? :=by rw[e3]
 rw[Zd,Zd,Z1 (by omega:r<xs.length),Z1 (by omega:r<tab64.length),e2] at e4
 have hz:z=((tab64.getD r 0:Nat):Int):=by
  simp only[ZN,Z9,DataW.lit.injEq,Lit.int.injEq,true_and] at e4
  rw[e4,List.getD,Z1 (by omega:r<tab64.length)];rfl
 rw[World.var?_cell hg hv r,←hz]
 have:cs.toList[r]? =some (.int .u8 z):=by
  have h0:((cs.toList.drop r).take 1)[0]? =some (.int .u8 z):=by rw[e1];rfl
  simpa using h0
 simpa using this
theorem zB5{W:World}(h:laidMetH Tryz.prog Rows.decomposeOfRow.laid W):zrO W KZ:=
 ⟨rfl,World.block_lt_of_cell? W _ (zoh h 0 (by decide)),fun i hi=>zoh h i hi⟩
end
section
structure StOk(ops:Array Oper)(t:SchT)(L:Array Bool)(d:Nat)(ns:List Nat):Prop where
 ord:z4S .any ops true t L=true
 dep:t.depth=d
 nx:∀z∈t.nexts,z∈ns
structure BrOk(ops:Array Oper)(t:SchT)(L:Array Bool)(d:Nat)(ns hs:List Nat):Prop where
 ord:z4S .any ops false t L=true
 dep:t.depth=d
 nx:∀z∈t.nexts,z∈ns
 hd:∀i∈hs,i∈t.heads
variable{L':Array Bool}{ops:Array Oper}{c:Code}{hs ns ns':List Nat}{d k m n:Nat}{a b rest:SchT}
theorem zyW{L:Array Bool}(h:decide (Region.ready .any ops L= [])=true):StOk ops .nil L 0 []:=⟨by simp only[z4S,h,XY],rfl,fun z hz=>by simp[SchT.nexts] at hz⟩
theorem zH8{L:Array Bool}(h:StOk ops rest L' d ns)(hL:L.setIfInBounds k true=L')
 (hc:((m==0||m==3)&&(Region.ready .any ops L).contains k&&Region.free .any ops L k&& !(ns.contains k)&&(m==3||ns.all fun z=>(zBs .any ops ops.size [z]).contains k))=true):StOk ops (.op k m rest) L (d+1) ns:=by
 simp only[Z6,Y1,ZX,beq_iff_eq] at hc
 obtain⟨⟨⟨⟨h1,h2⟩,h3⟩,h4⟩,h5⟩:=hc
 have hm2:¬m=2:=by omega
 have hk:k∉ns:=by simpa using h4
 refine⟨?_,by simp only[SchT.depth,h.dep],fun z hz=>h.nx z (by simpa only[SchT.nexts,if_neg hm2] using hz)⟩
 simp only[z4S]
 rw[if_pos (by simpa using h1),hL,h.ord,h2,h3]
 have h6:rest.nexts.contains k=false:=by
  rw[Bool.eq_false_iff]
  intro hh
  exact hk (h.nx k (by simpa using hh))
 rw[h6]
 simp only[Xk,Bool.and_self,YJ,XY,Y1,beq_iff_eq]
 rcases h5 with h5|h5
 · exact .inl h5
 · exact .inr (Zr.2 fun z hz=>Zr.1 h5 z (h.nx z hz))
theorem zH9{L:Array Bool}(h:StOk ops rest L' d ns)(hL:L.setIfInBounds k true=L')
 (hc:((m==1||m==2)&&decide (Region.ready .any ops L= [k]))=true) (hn:(if m=2 then [k] else ns)=ns'):StOk ops (.op k m rest) L (d+1) ns':=by
 subst hn
 simp only[Z6,Y1,beq_iff_eq] at hc
 obtain⟨h1,h2⟩:=hc
 refine⟨?_,by simp only[SchT.depth,h.dep],fun z hz=> ?_⟩
 · simp only[z4S]
   rw[if_neg (by omega),hL,h.ord,h2]
   simp[h1]
 · simp only[SchT.nexts] at hz
   split at hz
   · rename_i e;rw[if_pos e];exact hz
   · rename_i e;rw[if_neg e];exact h.nx z hz
theorem zHO{L:Array Bool}(h:StOk ops rest L' d ns)(hL:L.setIfInBounds k true=L')
 (hc:((m==1||m==2)&&(Region.ready .any ops L).contains k)=true) (hn:(if m=2 then [k] else ns)=ns'):BrOk ops (.op k m rest) L (d+1) ns' [k]:=by
 subst hn
 simp only[Z6,Y1,beq_iff_eq] at hc
 obtain⟨h1,h2⟩:=hc
 refine⟨?_,by simp only[SchT.depth,h.dep],fun z hz=> ?_,fun i hi=>by simpa[SchT.heads] using hi⟩
 · simp only[z4S]
   rw[if_neg (by simp),hL,h.ord,h2]
   simp[h1]
 · simp only[SchT.nexts] at hz
   split at hz
   · rename_i e;rw[if_pos e];exact hz
   · rename_i e;rw[if_neg e];exact h.nx z hz
theorem z0s{L:Array Bool}{n1 n2 h1 h2:List Nat}(ha:BrOk ops a L d n1 h1)(hb:BrOk ops b L d n2 h2):BrOk ops (.alt a b) L d (n1++n2) (h1++h2):=by
 refine⟨?_,by simp only[SchT.depth,ha.dep],fun z hz=> ?_,fun i hi=> ?_⟩
 · simp only[z4S,ha.ord,hb.ord,ha.dep,hb.dep];simp
 · simp only[SchT.nexts,Ze] at hz⊢
   exact hz.imp (ha.nx z) (hb.nx z)
 · simp only[SchT.heads,Ze] at hi⊢
   exact hi.imp (ha.hd i) (hb.hd i)
theorem zC3{L:Array Bool}(h:BrOk ops (.alt a b) L d ns hs)(hc:((Region.ready .any ops L).all fun i=>hs.contains i)=true)(hn:(ns.all fun z=>ns'.contains z)=true):StOk ops (.alt a b) L d ns':=by
 refine⟨?_,h.dep,fun z hz=>by simpa using Zr.1 hn z (h.nx z hz)⟩
 have:=h.ord
 simp only[z4S,Z6,decide_eq_true_eq] at this⊢
 obtain⟨⟨⟨h1,h2⟩,h3⟩,h4⟩:=this
 refine⟨⟨⟨?_,h2⟩,h3⟩,h4⟩
 simp only[Xt,Xu,decide_eq_true_eq]
 intro i hi
 have:=Zr.1 hc i hi
 exact h.hd i (by simpa using this)
def zhw:Nat->Nat->List Bool
 |0,_=> []
 |n+1,k=>(k%2==1)::zhw n (k/2)
def mB(n k:Nat):Array Bool:=⟨zhw n k⟩
theorem zpE:∀n k,(zhw n k).length=n
 |0,_=>rfl
 |n+1,k=>by simp[zhw,zpE n]
theorem zk0:∀n k i (h:i<(zhw n k).length),(zhw n k)[i]=k.testBit i
 |0,k,i,h=>by simp[zhw] at h
 |n+1,k,0,h=>by simp only[zhw,List.getElem_cons_zero,Nat.testBit_zero];rfl
 |n+1,k,i+1,h=>by
  simp only[zhw,List.getElem_cons_succ]
  rw[zk0 n (k/2) i,Nat.testBit_succ]
theorem zsT{a:Nat}:(mB n a).setIfInBounds k true=mB n (a|||2^k):=by
 apply Array.ext
 · simp[mB,zpE]
 · intro i h1 h2
   have e1:i<(zhw n a).length:=by simpa[mB] using h1
   have e2:i<(zhw n (a|||2^k)).length:=by simpa[mB] using h2
   have b1:=zk0 n a i e1
   have b2:=zk0 n (a|||2^k) i e2
   rw[Array.getElem_setIfInBounds]
   simp only[mB,List.getElem_toArray] at b1 b2⊢
   rw[b1,b2,YL,Y9]
   · by_cases h:k=i
     · simp[h]
     · simp[h]
   · simpa[mB] using e1
theorem sq{a:Nat}(h:StOk ops rest (mB n (a|||2^k)) d ns)
 (hc:((m==0||m==3)&&(Region.ready .any ops (mB n a)).contains k&&Region.free .any ops (mB n a) k&& !(ns.contains k)&&(m==3||ns.all fun z=>(zBs .any ops ops.size [z]).contains k))=true:=by kernel_rfl):StOk ops (.op k m rest) (mB n a) (d+1) ns:=zH8 h zsT hc
theorem se{a:Nat}(h:StOk ops rest (mB n (a|||2^k)) d ns)
 (hc:((m==1||m==2)&&decide (Region.ready .any ops (mB n a)= [k]))=true:=by kernel_rfl) (hn:(if m=2 then [k] else ns)=ns':=by rfl):StOk ops (.op k m rest) (mB n a) (d+1) ns':=zH9 h zsT hc hn
theorem be{a:Nat}(h:StOk ops rest (mB n (a|||2^k)) d ns)
 (hc:((m==1||m==2)&&(Region.ready .any ops (mB n a)).contains k)=true:=by kernel_rfl) (hn:(if m=2 then [k] else ns)=ns':=by rfl):BrOk ops (.op k m rest) (mB n a) (d+1) ns' [k]:=zHO h zsT hc hn
theorem sa{L:Array Bool}(h:BrOk ops (.alt a b) L d ns hs)(hc:((Region.ready .any ops L).all fun i=>hs.contains i)=true:=by kernel_rfl)(hn:(ns.all fun z=>ns'.contains z)=true:=by rfl):StOk ops (.alt a b) L d ns':=zC3 h hc hn
def zna(cf:Cfg)(sk:Nat->Bool):Code->Bool
 | .region id ops draw=>sk id||(!draw||(match cf.dt id with|some t=>zcr ops t|none=>(match cf.dr id with|some sch=>ztB ops sch|none=>true)))
 | .seq a b=>zna cf sk a&&zna cf sk b
 | .cond _ x y=>zna cf sk x&&zna cf sk y
 | .block _ c=>zna cf sk c
 | .loop c=>zna cf sk c
 | .scope c=>zna cf sk c
 |_=>true
def z6A(i:Nat):Code->List (Array Oper)
 | .region id ops _=>if Nat.beq id i then [ops] else []
 | .seq a b=>z6A i a++z6A i b
 | .cond _ x y=>z6A i x++z6A i y
 | .block _ c=>z6A i c
 | .loop c=>z6A i c
 | .scope c=>z6A i c
 |_=> []
noncomputable def zlo(i:Nat)(c:Code):Array Oper:=match z6A i c with|x::_=>x| []=> #[]
theorem zeT{cf:Cfg}{sk:Nat->Bool}:∀(c:Code),zna cf sk c=true->(∀i,sk i=true->∃t,cf.dt i=some t/\ ∀o∈z6A i c,zcr o t=true)->okC cf c=true
 | .region id ops draw,h,hs=>by
   simp only[zna,Y1] at h
   simp only[okC,Y1]
   rcases h with h|h
   · right
     obtain⟨t,h1,h2⟩:=hs id h
     rw[h1]
     exact h2 ops (by simp[z6A])
   · exact h
 | .seq a b,h,hs=>by
   simp only[zna,Z6] at h
   simp only[okC,Z6]
   exact⟨zeT a h.1 fun i hi=>by obtain⟨t,h1,h2⟩:=hs i hi;exact⟨t,h1,fun o ho=>h2 o (by simp only[z6A,Ze];exact .inl ho)⟩,
    zeT b h.2 fun i hi=>by obtain⟨t,h1,h2⟩:=hs i hi;exact⟨t,h1,fun o ho=>h2 o (by simp only[z6A,Ze];exact .inr ho)⟩⟩
 | .cond _ a b,h,hs=>by
   simp only[zna,Z6] at h
   simp only[okC,Z6]
   exact⟨zeT a h.1 fun i hi=>by obtain⟨t,h1,h2⟩:=hs i hi;exact⟨t,h1,fun o ho=>h2 o (by simp only[z6A,Ze];exact .inl ho)⟩,
    zeT b h.2 fun i hi=>by obtain⟨t,h1,h2⟩:=hs i hi;exact⟨t,h1,fun o ho=>h2 o (by simp only[z6A,Ze];exact .inr ho)⟩⟩
 | .block _ c,h,hs=>by simp only[okC];exact zeT c (by simpa only[zna] using h) (by simpa only[z6A] using hs)
 | .loop c,h,hs=>by simp only[okC];exact zeT c (by simpa only[zna] using h) (by simpa only[z6A] using hs)
 | .scope c,h,hs=>by simp only[okC];exact zeT c (by simpa only[zna] using h) (by simpa only[z6A] using hs)
 | .skip,_,_=>rfl
 | .label ..,_,_=>rfl
 | .exit ..,_,_=>rfl
 | .ret,_,_=>rfl
 | .rangeFunc ..,_,_=>rfl
 | .goto _,_,_=>rfl
 | .refuse _,_,_=>rfl
theorem zsH{i:Nat}{t:SchT}{L:Array Bool}(hr:(z6A i c).length=1)(hs:StOk (zlo i c) t L n ns)(hL:L=Array.replicate (zlo i c).toList.length false)(hd:(decide (n=(zlo i c).toList.length)&&Region.noSelect (zlo i c))=true):∀o∈z6A i c,zcr o t=true:=by
 intro o ho
 obtain⟨x,hx⟩:∃x,z6A i c= [x]:=XM.1 hr
 have e:zlo i c=x:=by unfold zlo;rw[hx]
 rw[hx] at ho
 obtain rfl:o=x:=by simpa using ho
 rw[e] at hs hL hd
 subst hL
 simp only[Z6,decide_eq_true_eq] at hd
 unfold zcr
 simp only[Z6,decide_eq_true_eq]
 exact⟨⟨hs.dep.trans hd.1,hd.2⟩,hs.ord⟩
theorem ztA{P:Program}{f:FuncId}{cf:Cfg}{fn:Func}(l:List Nat)(hf:P.funcs[f]? =some fn)(hb:fn.body=some c)(hn:(fn.name != "runtime.NumGoroutine")=true)(h2:zna cf l.contains c=true)
 (ht:∀i∈l,∃t,cf.dt i=some t/\ ∀o∈z6A i c,zcr o t=true):zgG P f cf=true:=by
 unfold zgG
 simp only[hf,hb,hn,YJ]
 exact zeT c h2 fun j hj=>ht j (by simpa using hj)
end
section
open Go
noncomputable abbrev z0p:Array Oper:=(zlo 7 (zpC Tryz.f32))
theorem zq7:StOk z0p zkC (mB 17 131071) 0 []:=zyW (by kernel_rfl)
theorem zq8:StOk z0p zkD (mB 17 65535) 1 [16]:=se zq7
theorem zq9:StOk z0p zkE (mB 17 32767) 2 [16]:=sq zq8
theorem zqa:StOk z0p zkF (mB 17 16383) 3 [14]:=se zq9
theorem zi4:StOk z0p zfR (mB 17 12287) 4 [12]:=se zqa
theorem zi5:StOk z0p zfS (mB 17 10239) 5 [12]:=se zi4
theorem zi6:StOk z0p zfT (mB 17 4095) 5 [12]:=sq zi4
theorem zbs:StOk z0p zaM (mB 17 4031) 6 [6]:=se zi6
theorem zi7:StOk z0p zfU (mB 17 3839) 6 [8]:=se zi6
theorem zqb:StOk z0p zkG (mB 17 9215) 6 [12]:=se zi5
theorem zi8:StOk z0p zfV (mB 17 2047) 6 [12]:=sq zi5
theorem zdW:StOk z0p zcM (mB 17 4029) 7 [1]:=se zbs
theorem zbt:StOk z0p zaN (mB 17 3999) 7 [6]:=se zbs
theorem zdX:StOk z0p zcN (mB 17 3775) 7 [6,8]:=sa (z0s (be zi7) (be zbs))
theorem zbu:StOk z0p zaO (mB 17 1983) 7 [6]:=sa (z0s (be zi8) (be zbs))
theorem zi9:StOk z0p zfW (mB 17 1791) 7 [8]:=sa (z0s (be zi8) (be zi7))
theorem zia:StOk z0p zfX (mB 17 1023) 7 [12]:=sq zqb
theorem zdY:StOk z0p zcO (mB 17 3997) 8 [1]:=sa (z0s (be zbt) (be zdW))
theorem zib:StOk z0p zfY (mB 17 3773) 8 [1,8]:=sa (z0s (be zdX) (be zdW))
theorem zdZ:StOk z0p zcP (mB 17 1981) 8 [1]:=sa (z0s (be zbu) (be zdW))
theorem zqc:StOk z0p zkH (mB 17 3983) 8 [6]:=sq zbt
theorem ze0:StOk z0p zcQ (mB 17 3743) 8 [6,8]:=sa (z0s (be zdX) (be zbt))
theorem zbv:StOk z0p zaP (mB 17 1951) 8 [6]:=sa (z0s (be zbu) (be zbt))
theorem ze1:StOk z0p zcR (mB 17 1727) 8 [6,8]:=sa (z0s (be zi9) (z0s (be zbu) (be zdX)))
theorem ze2:StOk z0p zcS (mB 17 959) 8 [6]:=sa (z0s (be zia) (be zbu))
theorem zqd:StOk z0p zkI (mB 17 767) 8 [8]:=sa (z0s (be zia) (be zi9))
theorem zqe:StOk z0p zkJ (mB 17 3981) 9 [1]:=sq zdY
theorem zic:StOk z0p zfZ (mB 17 3741) 9 [1,8]:=sa (z0s (be ze0) (z0s (be zib) (be zdY)))
theorem ze3:StOk z0p zcT (mB 17 1949) 9 [1]:=sa (z0s (be zbv) (z0s (be zdZ) (be zdY)))
theorem zid:StOk z0p zg0 (mB 17 1725) 9 [1,8]:=sa (z0s (be ze1) (z0s (be zdZ) (be zib)))
theorem zie:StOk z0p zg1 (mB 17 957) 9 [1]:=sa (z0s (be ze2) (be zdZ))
theorem ze4:StOk z0p zcU (mB 17 3975) 9 [6]:=se zqc
theorem zqf:StOk z0p zkK (mB 17 3727) 9 [6,8]:=sq ze0
theorem zqg:StOk z0p zkL (mB 17 1935) 9 [6]:=sq zbv
theorem ze5:StOk z0p zcV (mB 17 1695) 9 [6,8]:=sa (z0s (be ze1) (z0s (be zbv) (be ze0)))
theorem ze6:StOk z0p zcW (mB 17 927) 9 [6]:=sa (z0s (be ze2) (be zbv))
theorem zif:StOk z0p zg2 (mB 17 703) 9 [6,8]:=sa (z0s (be zqd) (z0s (be ze2) (be ze1)))
theorem zig:StOk z0p zg3 (mB 17 3973) 10 [1]:=sa (z0s (be ze4) (be zqe))
theorem zqh:StOk z0p zkM (mB 17 3725) 10 [1,8]:=sq zic
theorem zqi:StOk z0p zkN (mB 17 1933) 10 [1]:=sq ze3
theorem zih:StOk z0p zg4 (mB 17 1693) 10 [1,8]:=sa (z0s (be ze5) (z0s (be zid) (z0s (be ze3) (be zic))))
theorem zii:StOk z0p zg5 (mB 17 925) 10 [1]:=sa (z0s (be ze6) (z0s (be zie) (be ze3)))
theorem zqj:StOk z0p zkO (mB 17 701) 10 [1,8]:=sa (z0s (be zif) (z0s (be zie) (be zid)))
theorem zij:StOk z0p zg6 (mB 17 3719) 10 [6,8]:=sa (z0s (be zqf) (be ze4))
theorem ze7:StOk z0p zcX (mB 17 1927) 10 [6]:=sa (z0s (be zqg) (be ze4))
theorem zqk:StOk z0p zkP (mB 17 1679) 10 [6,8]:=sq ze5
theorem zql:StOk z0p zkQ (mB 17 911) 10 [6]:=sq ze6
theorem zik:StOk z0p zg7 (mB 17 671) 10 [6,8]:=sa (z0s (be zif) (z0s (be ze6) (be ze5)))
theorem zqm:StOk z0p zkR (mB 17 3717) 11 [1,8]:=sa (z0s (be zij) (z0s (be zqh) (be zig)))
theorem zil:StOk z0p zg8 (mB 17 1925) 11 [1]:=sa (z0s (be ze7) (z0s (be zqi) (be zig)))
theorem zqn:StOk z0p zkS (mB 17 1677) 11 [1,8]:=sq zih
theorem zqo:StOk z0p zkT (mB 17 909) 11 [1]:=sq zii
theorem zqp:StOk z0p zkU (mB 17 669) 11 [1,8]:=sa (z0s (be zik) (z0s (be zqj) (z0s (be zii) (be zih))))
theorem zim:StOk z0p zg9 (mB 17 1671) 11 [6,8]:=sa (z0s (be zqk) (z0s (be ze7) (be zij)))
theorem zin:StOk z0p zga (mB 17 903) 11 [6]:=sa (z0s (be zql) (be ze7))
theorem zs9:StOk z0p zo3 (mB 17 655) 11 [6,8]:=sq zik
theorem zsa:StOk z0p zo4 (mB 17 1669) 12 [1,8]:=sa (z0s (be zim) (z0s (be zqn) (z0s (be zil) (be zqm))))
theorem zsb:StOk z0p zo5 (mB 17 901) 12 [1]:=sa (z0s (be zin) (z0s (be zqo) (be zil)))
theorem zsc:StOk z0p zo6 (mB 17 653) 12 [1,8]:=sq zqp
theorem zsd:StOk z0p zo7 (mB 17 647) 12 [6,8]:=sa (z0s (be zs9) (z0s (be zin) (be zim)))
theorem zse:StOk z0p zo8 (mB 17 645) 13 [1,8]:=sa (z0s (be zsd) (z0s (be zsc) (z0s (be zsb) (be zsa))))
theorem zsf:StOk z0p zo9 (mB 17 133) 14 [1,8]:=sq zse
theorem zsg:StOk z0p zoa (mB 17 5) 15 [1,8]:=sq zsf
theorem zsh:StOk z0p zob (mB 17 1) 16 [1,8]:=sq zsg
theorem zsi:StOk z0p zoc (mB 17 0) 17 [1,8]:=sq zsh
set_option maxHeartbeats 0 in
theorem zFN:zgG Tryz.prog 32 zFV=true:=ztA [7] Tryz.func32 (bdy Tryz.f32 rfl) rfl (by kernel_rfl) (by simp only[XV];exact⟨⟨_,rfl,zsH (by kernel_rfl) zsi (by kernel_rfl) (by kernel_rfl)⟩,fun _ h=>by cases h⟩)
noncomputable abbrev z0F:Array Oper:=(zlo 10 (zpC Tryz.f79))
theorem zmF:StOk z0F zhZ (mB 14 16383) 0 []:=zyW (by kernel_rfl)
theorem zfG:StOk z0F zdL (mB 14 8191) 1 [13]:=se zmF
theorem zab:StOk z0F z9G (mB 14 6143) 2 [13]:=sq zfG
theorem zmG:StOk z0F zi0 (mB 14 4095) 2 [13]:=se zfG
theorem zac:StOk z0F z9H (mB 14 6127) 3 [13]:=se zab
theorem zad:StOk z0F z9I (mB 14 6079) 3 [13]:=se zab
theorem zae:StOk z0F z9J (mB 14 5887) 3 [13]:=se zab
theorem zaf:StOk z0F z9K (mB 14 5119) 3 [13]:=se zab
theorem zag:StOk z0F z9L (mB 14 2047) 3 [13]:=sq zmG
theorem zca:StOk z0F zbi (mB 14 6063) 4 [13]:=sa (z0s (be zad) (be zac))
theorem zcb:StOk z0F zbj (mB 14 5871) 4 [13]:=sa (z0s (be zae) (be zac))
theorem zcc:StOk z0F zbk (mB 14 5103) 4 [13]:=sa (z0s (be zaf) (be zac))
theorem zcd:StOk z0F zbl (mB 14 2031) 4 [13]:=sa (z0s (be zag) (be zac))
theorem zce:StOk z0F zbm (mB 14 5823) 4 [13]:=sa (z0s (be zae) (be zad))
theorem zcf:StOk z0F zbn (mB 14 5055) 4 [13]:=sa (z0s (be zaf) (be zad))
theorem zcg:StOk z0F zbo (mB 14 1983) 4 [13]:=sa (z0s (be zag) (be zad))
theorem zch:StOk z0F zbp (mB 14 4863) 4 [13]:=sa (z0s (be zaf) (be zae))
theorem zci:StOk z0F zbq (mB 14 1791) 4 [13]:=sa (z0s (be zag) (be zae))
theorem zcj:StOk z0F zbr (mB 14 1023) 4 [13]:=sa (z0s (be zag) (be zaf))
theorem zfH:StOk z0F zdM (mB 14 5807) 5 [13]:=sa (z0s (be zce) (z0s (be zcb) (be zca)))
theorem zfI:StOk z0F zdN (mB 14 5039) 5 [13]:=sa (z0s (be zcf) (z0s (be zcc) (be zca)))
theorem zfJ:StOk z0F zdO (mB 14 1967) 5 [13]:=sa (z0s (be zcg) (z0s (be zcd) (be zca)))
theorem zfK:StOk z0F zdP (mB 14 4847) 5 [13]:=sa (z0s (be zch) (z0s (be zcc) (be zcb)))
theorem zfL:StOk z0F zdQ (mB 14 1775) 5 [13]:=sa (z0s (be zci) (z0s (be zcd) (be zcb)))
theorem zfM:StOk z0F zdR (mB 14 1007) 5 [13]:=sa (z0s (be zcj) (z0s (be zcd) (be zcc)))
theorem zfN:StOk z0F zdS (mB 14 4799) 5 [13]:=sa (z0s (be zch) (z0s (be zcf) (be zce)))
theorem zfO:StOk z0F zdT (mB 14 1727) 5 [13]:=sa (z0s (be zci) (z0s (be zcg) (be zce)))
theorem zfP:StOk z0F zdU (mB 14 959) 5 [13]:=sa (z0s (be zcj) (z0s (be zcg) (be zcf)))
theorem zfQ:StOk z0F zdV (mB 14 767) 5 [13]:=sa (z0s (be zcj) (z0s (be zci) (be zch)))
theorem zmH:StOk z0F zi1 (mB 14 4783) 6 [13]:=sa (z0s (be zfN) (z0s (be zfK) (z0s (be zfI) (be zfH))))
theorem zmI:StOk z0F zi2 (mB 14 1711) 6 [13]:=sa (z0s (be zfO) (z0s (be zfL) (z0s (be zfJ) (be zfH))))
theorem zmJ:StOk z0F zi3 (mB 14 943) 6 [13]:=sa (z0s (be zfP) (z0s (be zfM) (z0s (be zfJ) (be zfI))))
theorem zpX:StOk z0F zks (mB 14 751) 6 [13]:=sa (z0s (be zfQ) (z0s (be zfM) (z0s (be zfL) (be zfK))))
theorem zpY:StOk z0F zkt (mB 14 703) 6 [13]:=sa (z0s (be zfQ) (z0s (be zfP) (z0s (be zfO) (be zfN))))
theorem zpZ:StOk z0F zku (mB 14 687) 7 [13]:=sa (z0s (be zpY) (z0s (be zpX) (z0s (be zmJ) (z0s (be zmI) (be zmH)))))
theorem zq0:StOk z0F zkv (mB 14 175) 8 [13]:=sq zpZ
theorem zq1:StOk z0F zkw (mB 14 47) 9 [13]:=sq zq0
theorem zq2:StOk z0F zkx (mB 14 15) 10 [13]:=sq zq1
theorem zq3:StOk z0F zky (mB 14 7) 11 [13]:=sq zq2
theorem zq4:StOk z0F zkz (mB 14 3) 12 [13]:=sq zq3
theorem zq5:StOk z0F zkA (mB 14 1) 13 [13]:=sq zq4
theorem zq6:StOk z0F zkB (mB 14 0) 14 [13]:=sq zq5
set_option maxHeartbeats 0 in
theorem zFM:zgG Tryz.prog 79 zFU=true:=ztA [10] Tryz.func79 (bdy Tryz.f79 rfl) rfl (by kernel_rfl) (by simp only[XV];exact⟨⟨_,rfl,zsH (by kernel_rfl) zq6 (by kernel_rfl) (by kernel_rfl)⟩,fun _ h=>by cases h⟩)
theorem zHM:(cg0.all fun x=>zgG Tryz.prog x.1 x.2)=true:=by kernel_rfl
theorem zHL:(cg1.all fun x=>zgG Tryz.prog x.1 x.2)=true:=by kernel_rfl
theorem zHK:(cg2.all fun x=>zgG Tryz.prog x.1 x.2)=true:=by kernel_rfl
theorem zHJ:(cg3.all fun x=>zgG Tryz.prog x.1 x.2)=true:=by kernel_rfl
theorem zHI:(cg4.all fun x=>zgG Tryz.prog x.1 x.2)=true:=by kernel_rfl
theorem zHH:(cg5.all fun x=>zgG Tryz.prog x.1 x.2)=true:=by kernel_rfl
theorem zHG:(cg6.all fun x=>zgG Tryz.prog x.1 x.2)=true:=by kernel_rfl
theorem zHF:(cg7.all fun x=>zgG Tryz.prog x.1 x.2)=true:=by kernel_rfl
theorem zHE:(cg8.all fun x=>zgG Tryz.prog x.1 x.2)=true:=by kernel_rfl
theorem zHD:(cg9.all fun x=>zgG Tryz.prog x.1 x.2)=true:=by kernel_rfl
theorem zFT:(cg10.all fun x=>zgG Tryz.prog x.1 x.2)=true:=by kernel_rfl
theorem zFS:(cg11.all fun x=>zgG Tryz.prog x.1 x.2)=true:=by
 simp only[cg11,XI,List.all_nil,XY,Z6]
 exact⟨zFN,zFM⟩
theorem zHN:∀f c,zmb f=some c->zgG Tryz.prog f c=true:=by
 intro f c h
 unfold zmb at h
 rw[Z5] at h
 obtain⟨x,h1,rfl⟩:=h
 have h2:=List.mem_of_find?_eq_some h1
 have h3:=List.find?_some h1
 simp only[beq_iff_eq] at h3
 subst h3
 have key:((cg0++cg1++cg2++cg3++cg4++cg5++cg6++cg7++cg8++cg9++cg10++cg11).all fun x=>zgG Tryz.prog x.1 x.2)=true:=by simp only[List.all_append,Z6];exact⟨⟨⟨⟨⟨⟨⟨⟨⟨⟨⟨zHM,zHL⟩,zHK⟩,zHJ⟩,zHI⟩,zHH⟩,zHG⟩,zHF⟩,zHE⟩,zHD⟩,zFT⟩,zFS⟩
 exact Zr.1 key x h2
end
end Go.Proofs.YtiobkcdgggbljaaGreatDoor
