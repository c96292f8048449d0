/- Proved pO: a part of the proof of the law at yV, in one text: no condition. -/
import Derived.Test.YtiobkcdgggbljaaGreatDoorMMI4
import Derived.KernelRfl
set_option linter.unusedVariables false
set_option linter.unusedSimpArgs false
set_option linter.unusedSectionVars false
set_option maxRecDepth 100000
set_option maxHeartbeats 6000000
namespace Go.Proofs.YtiobkcdgggbljaaGreatDoor
section
open Go
theorem z9c{l:List (List Nat)}{i:Nat}(h:i<l.length):l.getD i []∈l:=by grind
def zc8(f g:List Nat):List Nat:=f.map fun y=>g.getD y 0
structure PermL(L:Nat)(p:List Nat):Prop where
 len:p.length=L
 nd:p.Nodup
 lt:∀x∈p,x<L
theorem zqJ(L:Nat):PermL L (List.range L):=⟨by simp,YK,fun x hx=>Zj.1 hx⟩
theorem zjU(f g:List Nat):(zc8 f g).length=f.length:=by simp[zc8]
theorem zvI{L:Nat}{f g:List Nat}(hf:PermL L f)(hg:PermL L g):PermL L (zc8 f g):=by
 refine⟨by rw[zjU,hf.len],z5z hf.nd fun x hx y hy e=> ?_,fun x hx=> ?_⟩
 · exact z7p hg.nd (by have:=hf.lt x hx;have:=hg.len;omega) (by have:=hf.lt y hy;have:=hg.len;omega) e
 · obtain⟨y,hy,rfl⟩:=Zh.1 hx
   exact hg.lt _ (z0i (by have:=hf.lt y hy;have:=hg.len;omega))
theorem zps{L:Nat}{g:List Nat}(hg:PermL L g):zc8 (List.range L) g=g:=by
 refine Zf (by rw[zjU,ZD,hg.len]) fun i h1 h2=> ?_
 simp[zc8,List.getD,h2]
theorem zrD{L:Nat}{f g h:List Nat}(hf:PermL L f)(hg:PermL L g):zc8 (zc8 f g) h=zc8 f (zc8 g h):=by
 unfold zc8
 rw[Ya]
 refine ZA fun y hy=> ?_
 have:y<g.length:=by have:=hf.lt y hy;have:=hg.len;omega
 simp[List.getD,this]
inductive RchG(L:Nat)(P:List (List Nat)):List Nat->Prop
 |one:RchG L P (List.range L)
 |step (e g) (h:RchG L P e) (hg:g∈P):RchG L P (zc8 e g)
theorem z9P{L:Nat}{P:List (List Nat)}(hP:∀g∈P,PermL L g){e:List Nat}(h:RchG L P e):PermL L e:=by
 induction h with
 |one=>exact zqJ L
 |step e g _ hg ih=>exact zvI ih (hP g hg)
theorem ztf{L:Nat}{P:List (List Nat)}(hP:∀g∈P,PermL L g){g:List Nat}(hg:g∈P):RchG L P g:=by
 have:=RchG.step _ g (.one (L:=L) (P:=P)) hg
 rwa [zps (hP g hg)] at this
theorem z8H{L:Nat}{P Q:List (List Nat)}(h:∀g∈Q,g∈P){e:List Nat}(he:RchG L Q e):RchG L P e:=by
 induction he with
 |one=>exact .one
 |step e g _ hg ih=>exact .step _ _ ih (h g hg)
theorem zBh{L:Nat}{e:List Nat}(h:PermL L e):zc8 e (List.range L)=e:=by
 refine Zf (zjU _ _) fun i h1 h2=> ?_
 have:=h.lt e[i] (Zm h2)
 simp[zc8,List.getD,this]
theorem zrq{L:Nat}{U E:List (List Nat)}(hU:∀g∈U,PermL L g)(hE:∀e∈E,PermL L e)(hc:∀e∈E,∀g∈U,zc8 e g∈E){x g:List Nat}(hx:x∈E)(hg:RchG L U g):zc8 x g∈E:=by
 induction hg with
 |one=>rw[zBh (hE x hx)];exact hx
 |step g' u hg' hu ih=>
  rw[←zrD (hE x hx) (z9P hU hg')]
  exact hc _ ih u hu
theorem zrB{f g:List Nat}(hl:f.length<=1000)(h:∀x∈f,x<g.length):z6v (toI f) (toI g)=some (toI (zc8 f g)):=by
 have e0:toI (zc8 f g)=(List.range f.length).map fun k=>((g.getD (f.getD k 0) 0:Nat):Int):=by
  refine Zf (by simp[toI,zc8]) fun i h1 h2=> ?_
  have hi:i<f.length:=by simpa[toI,zc8] using h1
  simp[toI,zc8,List.getD,hi]
 unfold z6v
 rw[z0b,z0e _ (by unfold z0D;omega),Z2,e0]
 refine z0q (s:=((0:Int),List.replicate f.length (0:Int))) f.length (fun k=>((k:Int),z9R f.length (fun k=>((g.getD (f.getD k 0) 0:Nat):Int)) (fun _=>0) k)) (by rw[z8V];congr 1;exact(Zf (by simp) fun i h1 h2=>by simp)) (by simp only[LFm];omega) (fun k hk=> ?_) ?_
 · have hx:=h _ (z0i hk)
   simp only[z6L]
   rw[if_pos (by rw[z0b];omega),z1q hk,Z0,z1q hx,Z0,z5P hk,Z0,z0H (by omega),Z2,z4c (f:=fun k=>((g.getD (f.getD k 0) 0:Nat):Int)) hk]
 · simp only[z6L]
   rw[if_neg (by rw[z0b];omega),z8U]
theorem zjy{p:List Nat}(hl:p.length<=1000)(hp:∀x∈p,x<256):z7I (toI p)=some (z1o (toI p)):=by
 unfold z7I
 rw[z0b,z0e _ (by unfold z0D;omega),Z2]
 have e0:toI p=(List.range p.length).map fun k=>((p.getD k 0:Nat):Int):=by
  refine Zf (by simp[toI]) fun i h1 h2=> ?_
  have hi:i<p.length:=by simpa[toI] using h1
  simp[toI,List.getD,hi]
 refine z0q (s:=((0:Int),List.replicate p.length (0:Int))) p.length (fun k=>((k:Int),z9R p.length (fun k=>((p.getD k 0:Nat):Int)) (fun _=>0) k)) (by rw[z8V];congr 1;exact(Zf (by simp) fun i h1 h2=>by simp)) (by simp only[LFm];omega) (fun k hk=> ?_) ?_
 · have hx:=hp _ (z0i hk)
   have hw:IntKind.u8.wrap ((p.getD k 0:Nat):Int)=((p.getD k 0:Nat):Int):=by rw[YQ];omega
   simp only[z8y]
   rw[if_pos (by rw[z0b];omega),z1q hk,Z0,z5P hk,Z0,z0H (by omega),Z2,hw,z4c (f:=fun k=>((p.getD k 0:Nat):Int)) hk]
 · simp only[z8y]
   rw[if_neg (by rw[z0b];omega),z8U,←e0]
theorem zh6:∀ {p q:List Nat},(∀x∈p,x<256)->(∀x∈q,x<256)->z1o (toI p)=z1o (toI q)->p=q:=by
 have key:∀ {p q:List Nat},(∀x∈p,x<256)->(∀x∈q,x<256)->(toI p).map (fun z:Int=>UInt8.ofNat z.toNat)=(toI q).map (fun z:Int=>UInt8.ofNat z.toNat)->p=q:=by
  intro p
  induction p with
  |nil=>
   intro q _ _ h
   cases q with
   |nil=>rfl
   |cons b q=>simp[toI] at h
  |cons a p ih=>
   intro q hp hq h
   cases q with
   |nil=>simp[toI] at h
   |cons b q=>
    simp only[toI,Zt,Xx] at h
    have ha:=hp a (Zz ..)
    have hb:=hq b (Zz ..)
    have g1:=congrArg UInt8.toNat h.1
    simp only[Z2,Xz] at g1
    have:a=b:=by omega
    subst this
    rw[ih (fun k hk=>hp k (Zo _ hk)) (fun k hk=>hq k (Zo _ hk)) h.2]
 intro p q hp hq h
 refine key hp hq ?_
 have:=congrArg ByteArray.data h
 simpa[z1o] using this
theorem zxL{L:Nat}(h1:1<=L)(h2:L<=32):z6z (L:Int)=some (toI (List.range L)):=by
 unfold z6z
 rw[if_neg (by omega),if_neg (by omega),z0e _ (by unfold z0D;omega),Z2]
 have e0:toI (List.range L)=(List.range L).map fun k:Nat=>(k:Int):=rfl
 refine z0q (s:=((0:Int),List.replicate L (0:Int))) L (fun k=>((k:Int),z9R L (fun k=>(k:Int)) (fun _=>0) k)) (by rw[z8V];congr 1;exact(Zf (by simp) fun i h1 h2=>by simp)) (by simp only[LFm];omega) (fun k hk=> ?_) ?_
 · simp only[z6i]
   rw[if_pos (by omega),z5P hk,Z0,z0H (by omega),Z2,z4c (f:=fun k=>(k:Int)) hk]
 · simp only[z6i]
   rw[if_neg (by omega),z8U,e0]
theorem zkp{L:Nat}{p:List Nat}(h:PermL L p)(h1:1<=L)(h2:L<=32):z7B (toI p)=some true:=by
 have hl:=h.len
 unfold z7B
 rw[z0b,if_neg (by omega),if_neg (by omega)]
 refine z0q (s:=(0:Int)) p.length (fun k=>(k:Int)) rfl (by simp only[LFm];omega) (fun k hk=> ?_) ?_
 · have:=h.lt _ (z0i hk)
   simp only[z7O]
   rw[z0b,if_pos (by omega),z1q hk,Z0,if_neg (by omega),if_neg (by omega),z0H (by omega)]
 · simp only[z7O]
   rw[z0b,if_neg (by omega)]
theorem zrC{l:List Int}(h:l.Nodup)(hl:l.length<=1000):z2J l=some l:=by
 unfold z2J
 by_cases h0:(l.length:Int)<2
 · rw[if_pos h0]
 · rw[if_neg h0]
   refine z0q (s:=(1:Int)) (l.length-1) (fun k=>((k+1:Nat):Int)) rfl (by simp only[LFm];omega) (fun k hk=> ?_) ?_
   · have w:IntKind.i64.wrap (((k+1:Nat):Int)-1)=(k:Int):=by rw[z2z (by omega) (by omega)];omega
     simp only[z4B]
     rw[if_pos (by omega),z0Q (show k+1<l.length by omega),Z0,w,z0Q (show k<l.length by omega),Z0,if_neg,z0H (by omega)]
     intro e
     have:=(List.getElem_inj h).1 e
     omega
   · grind
theorem zr6{L:Nat}{p:List Nat}(h:PermL L p)(h1:1<=L)(h2:L<=32):z4n (toI p)=some true:=by
 have hl:=h.len
 have gK:toI p≠ []:=fun e=>by have:=congrArg List.length e;rw[z0b,Ys] at this;omega
 have gJ:((toI p).mergeSort fun x y=>decide (x<=y)).Nodup:=(List.mergeSort_perm _ _).nodup_iff.2 (YA _ (fun a b (jG:a≠b)=>by intro e;exact jG (by omega)) h.nd)
 have gD:((toI p).mergeSort fun x y=>decide (x<=y)).length=p.length:=by rw[List.length_mergeSort,z0b]
 unfold z4n
 rw[zkp h h1 h2,Z0,if_pos rfl]
 unfold zbh zaa
 rw[zkp h h1 h2,Z0,if_pos rfl]
 unfold z9F zav
 rw[z0b,if_pos (by omega),Z0,if_pos ⟨gK,by rw[z0b];omega⟩,Z0,zrC gJ (by omega),Z0,Z0,gD,Z0]
 simp
theorem zts{L:Nat}{P:List (List Nat)}(hP:∀g∈P,PermL L g)(h1:1<=L)(h2:L<=32)(hl:P.length<=100000):z4K (P.map toI) (L:Int)=some true:=by
 unfold z4K
 refine z0q (s:=(0:Int)) P.length (fun k=>(k:Int)) rfl (by simp only[LFm];omega) (fun k hk=> ?_) ?_
 · have hk':=hP _ (Zm hk)
   have jE:atI (P.map toI) (k:Int)=some (toI P[k]):=by rw[z0Q (by simpa using hk)];simp
   simp only[z6c]
   rw[if_pos (by rw[Zg];omega),jE,Z0,z0b,if_pos (by rw[hk'.len]),zr6 hk' h1 h2,Z0,if_pos rfl,z0H (by omega)]
 · grind
def z9z:List (List Nat)->List (ByteArray×Bool):=List.foldl (fun mp q=>z8h (z1o (toI q)) true mp) []
theorem ziv(Q:List (List Nat))(p:List Nat):z9z (Q++ [p])=z8h (z1o (toI p)) true (z9z Q):=by
 unfold z9z;rw[YT];rfl
theorem zgn{p:List Nat}(hb:∀k∈p,k<256){Q:List (List Nat)}(hQ:∀q∈Q,∀k∈q,k<256):((z7r (z1o (toI p)) (z9z Q)).getD false)=true↔p∈Q:=by
 have key:∀(Q:List (List Nat)) (mp:List (ByteArray×Bool)),(∀q∈Q,∀k∈q,k<256)->(((z7r (z1o (toI p)) (Q.foldl (fun mp q=>z8h (z1o (toI q)) true mp) mp)).getD false)=true↔(p∈Q∨((z7r (z1o (toI p)) mp).getD false)=true)):=by
  intro Q
  induction Q with
  |nil=>intro mp _;simp
  |cons q Q ih=>
   intro mp hQ
   rw[Xw,ih _ (fun x hx=>hQ x (Zo _ hx)),zb1,Zv]
   have hq:=hQ q (Zz ..)
   by_cases e:q=p
   · grind
   · have:¬z1o (toI q)=z1o (toI p):=fun h=>e (zh6 hq hb h)
     rw[if_neg this]
     constructor
     · grind
     · grind
 have:=key Q [] hQ
 rw[show z9z Q=Q.foldl (fun mp q=>z8h (z1o (toI q)) true mp) [] from rfl,this]
 simp[z7r]
structure GInv(L:Nat)(P E:List (List Nat)):Prop where
 nd:E.Nodup
 rc:∀e∈E,RchG L P e
 on:List.range L∈E
section
variable {L:Nat} {P:List (List Nat)} (hP:∀g∈P,PermL L g) (h1:1<=L) (h2:L<=32) (hB:∀l:List (List Nat),l.Nodup->(∀e∈l,RchG L P e)->l.length<=2000)
include hP h1 h2 hB
theorem zd5{e:List Nat}(h:RchG L P e):∀k∈e,k<256:=fun k hk=>by
 have _u:=h1
 have _v:=hB
 have:=(z9P hP h).lt k hk;omega
theorem zCx{E U:List (List Nat)}{f:List Nat}(hE:GInv L (U++ [f]) E)(hU:∀g∈U++ [f],g∈P)(qD:U.length<=100000){i:Nat}(hi:i<E.length):
 ∃X,GInv L (U++ [f]) (E++X)/\(∀g∈U++ [f],zc8 (E.getD i []) g∈E++X)/\z0h (z4L (U.map toI) (toI f) (i:Int)) LFm (0,E.map toI,z9z E)=z0c (((i+1:Nat):Int),(E++X).map toI,z9z (E++X)):=by
 refine Exists.elim (z1r (b:=z4L (U.map toI) (toI f) (i:Int)) (fun z=>∃(k:Nat) (X:List (List Nat)),k<=U.length+1/\z=((k:Int),(E++X).map toI,z9z (E++X))/\GInv L (U++ [f]) (E++X)/\ ∀j,j<k->zc8 (E.getD i []) ((U++ [f]).getD j [])∈E++X) (fun z=>U.length+1-z.1.toNat)
  (fun r=>∃X,r= .inl (((i+1:Nat):Int),(E++X).map toI,z9z (E++X))/\GInv L (U++ [f]) (E++X)/\ ∀j,j<U.length+1->zc8 (E.getD i []) ((U++ [f]).getD j [])∈E++X) ?_ LFm (0,E.map toI,z9z E) ⟨0,[],by omega,by simp,by rw[Yc];exact hE,fun j hj=>by omega⟩ (by simp only[LFm];omega)) fun r h=> ?_
 · rintro z ⟨k,X,hk,rfl,hX,hc⟩
   have j7:∀e∈E++X,RchG L P e:=fun e he=>z8H hU (hX.rc e he)
   have gO:=hB _ hX.nd j7
   rw[Z7] at gO
   have gD:((E++X).map toI).length=E.length+X.length:=by grind
   simp only[z4L]
   rw[Zg]
   by_cases hk1:k<U.length+1
   · left
     have hg:(U++ [f]).getD k []∈U++ [f]:=z9c (by rw[Z7,ZE];exact hk1)
     have qX:=hP _ (hU _ hg)
     have kA:atI (U.map toI++ [toI f]) (k:Int)=some (toI ((U++ [f]).getD k [])):=by
      have e:U.map toI++ [toI f]=(U++ [f]).map toI:=by simp
      rw[e,z0Q (by simp;omega)]
      simp only[Zw]
      rw[List.getD,Z1 (by simp;omega),Z4]
     have kJ:E.getD i []∈E++X:=Ze.2 (.inl (z9c hi))
     have uP:=z9P hP (j7 _ kJ)
     have kG:atI ((E++X).map toI) (i:Int)=some (toI (E.getD i [])):=by
      rw[z0Q (by simp;omega)]
      simp only[Zw]
      rw[List.getElem_append_left hi,List.getD,Z1 hi,Z4]
     have vZ:RchG L (U++ [f]) (zc8 (E.getD i []) ((U++ [f]).getD k [])):=.step _ _ (hX.rc _ kJ) hg
     have uE:=z8H hU vZ
     have yH:=z9P hP uE
     have hc256:=zd5 hP h1 h2 hB uE
     have qI:z6v (toI (E.getD i [])) (toI ((U++ [f]).getD k []))=some (toI (zc8 (E.getD i []) ((U++ [f]).getD k []))):=zrB (by rw[uP.len];omega) (fun x hx=>by have:=uP.lt x hx;rw[qX.len];exact this)
     rw[if_pos (by omega),kA,Z0,kG,Z0,qI,Z0,zjy (by rw[yH.len];omega) hc256,Z0]
     have jY:=zgn hc256 (Q:=E++X) (fun q hq=>zd5 hP h1 h2 hB (j7 q hq))
     generalize vL:zc8 (E.getD i []) ((U++ [f]).getD k [])=c at*
     by_cases gP:c∈E++X
     · rw[if_pos (jY.2 gP),z0H (by omega)]
       refine⟨_,rfl,⟨k+1,X,by omega,rfl,hX,fun j hj=> ?_⟩,by simp only;omega⟩
       by_cases e:j=k
       · subst e;rw[vL];exact gP
       · exact hc j (by omega)
     · have hX':GInv L (U++ [f]) (E++(X++ [c])):=by
        rw[←Zu]
        refine⟨Yj.2 ⟨hX.nd,by simp,fun a ha b hb=> ?_⟩,fun e he=> ?_,Ze.2 (.inl hX.on)⟩
        · grind
        · rcases Ze.1 he with he|he
          · exact hX.rc e he
          · grind
       rw[if_neg (fun e=>gP (jY.1 e)),z0e _ (by unfold z1n;rw[gD];omega),z0H (by omega)]
       refine⟨_,rfl,⟨k+1,X++ [c],by omega,?_,hX',fun j hj=> ?_⟩,by simp only;omega⟩
       · rw[←Zu,ziv,ZI (f:=toI) (l₁:=E++X)];rfl
       · grind
   · right
     have hk2:k=U.length+1:=by omega
     rw[if_neg (by omega),if_neg (by rw[gD];omega),z0H (by omega)]
     exact⟨_,rfl,X,rfl,hX,fun j hj=>hc j (by omega)⟩
 · obtain⟨h3,X,rfl,hX,hc⟩:=h
   refine⟨X,hX,fun g hg=> ?_,h3⟩
   obtain⟨j,hj,rfl⟩:=Zn hg
   have:=hc j (by simpa using hj)
   have e:(U++ [f]).getD j []=(U++ [f])[j]:=by grind
   rwa [e] at this
theorem zEl{E U:List (List Nat)}{f:List Nat}{w:Nat}(hw:w<100000)(hE:GInv L (U++ [f]) E)(hU:∀g∈U++ [f],g∈P)(qD:U.length<=100000):
 ∃X,GInv L (U++ [f]) (E++X)/\(∀e∈E++X,∀g∈U++ [f],zc8 e g∈E++X)/\z0h (z4M (w:Int) (U.map toI) (toI f)) LFm (0,E.map toI,z9z E)=z0c (((w+1:Nat):Int),(E++X).map toI,z9z (E++X),(U++ [f]).map toI):=by
 refine Exists.elim (z1r (b:=z4M (w:Int) (U.map toI) (toI f)) (fun z=>∃(i:Nat) (X:List (List Nat)),i<=(E++X).length/\z=((i:Int),(E++X).map toI,z9z (E++X))/\GInv L (U++ [f]) (E++X)/\ ∀j,j<i->∀g∈U++ [f],zc8 ((E++X).getD j []) g∈E++X) (fun z=>2001-z.1.toNat)
  (fun r=>∃X,r= .inl (((w+1:Nat):Int),(E++X).map toI,z9z (E++X),(U++ [f]).map toI)/\GInv L (U++ [f]) (E++X)/\ ∀j,j<(E++X).length->∀g∈U++ [f],zc8 ((E++X).getD j []) g∈E++X) ?_ LFm (0,E.map toI,z9z E) ⟨0,[],by simp,by simp,by rw[Yc];exact hE,fun j hj=>by omega⟩ (by simp only[LFm];omega)) fun r h=> ?_
 · rintro z ⟨i,X,hi,rfl,hX,hc⟩
   have gO:=hB _ hX.nd (fun e he=>z8H hU (hX.rc e he))
   simp only[z4M]
   rw[Zg]
   by_cases hi1:i<(E++X).length
   · left
     obtain⟨Y,y1,y2,y3⟩:=zCx hP h1 h2 hB hX hU qD hi1
     rw[if_pos (by omega),y3]
     have e:E++X++Y=E++(X++Y):=Zu ..
     rw[e] at y1 y2
     have vV:=hB _ y1.nd (fun e he=>z8H hU (y1.rc e he))
     refine⟨_,rfl,⟨i+1,X++Y,by rw[←e,Z7];omega,by rw[e],y1,fun j hj g hg=> ?_⟩,by simp only;omega⟩
     by_cases ej:j=i
     · grind
     · have:=hc j (by omega) g hg
       rw[show(E++(X++Y)).getD j []=(E++X).getD j [] by rw[←e,List.getD,List.getD,ZH (by omega)],←e]
       exact Ze.2 (.inl this)
   · right
     have hi2:i=(E++X).length:=by omega
     rw[if_neg (by omega),z0H (by omega)]
     refine⟨_,rfl,X,by simp,hX,fun j hj=>hc j (by omega)⟩
 · obtain⟨h3,X,rfl,hX,hc⟩:=h
   refine⟨X,hX,fun e he g hg=> ?_,h3⟩
   obtain⟨j,hj,rfl⟩:=Zn he
   have:=hc j hj g hg
   have e:(E++X).getD j []=(E++X)[j]:=by grind
   rwa [e] at this
theorem zAU(gK:P≠ [])(hl:P.length<=10000):∃E:List (List Nat),z5L (P.map toI)=some (E.map toI,0)/\zyy (E.map toI)/\E.Nodup/\ ∀e,e∈E↔RchG L P e:=by
 have gC:=ZM.2 gK
 have hP0:=hP _ (Zm gC)
 have pS:atI (P.map toI) 0=some (toI P[0]):=by
  have:=z0Q (xs:=P.map toI) (k:=0) (by simpa using gC)
  simpa using this
 have h256:∀k∈List.range L,k<256:=fun k hk=>by have:=Zj.1 hk;omega
 unfold z5L
 rw[if_neg (by rw[Zg];omega),pS,Z0,z0b,hP0.len,zts hP h1 h2 (by omega),Z0,if_pos rfl,zxL h1 h2,Z0,zjy (by simp;omega) h256,Z0]
 refine Exists.elim (z1r (b:=z5R (P.map toI)) (fun z=>∃(k:Nat) (E U:List (List Nat)),k<=P.length/\z=((k:Int),E.map toI,z9z E,U.map toI)/\GInv L U E/\U.length<=k/\(∀g∈U,g∈P)/\(∀e∈E,∀g∈U,zc8 e g∈E)/\ ∀j,j<k->P.getD j []∈E) (fun z=>P.length+1-z.1.toNat)
  (fun r=>∃E:List (List Nat),r=(E.map toI,0)/\zyy (E.map toI)/\E.Nodup/\ ∀e,e∈E↔RchG L P e) ?_ LFm (0,[toI (List.range L)],z8h (z1o (toI (List.range L))) true ([]:List (ByteArray×Bool)),[]) ⟨0,[List.range L],[],by omega,rfl,⟨by simp,fun e he=>by obtain rfl:=Zi.1 he;exact .one,by simp⟩,by simp,by simp,by simp,fun j hj=>by omega⟩ (by simp only[LFm];omega)) fun r h=> ?_
 · rintro z ⟨k,E,U,hk,rfl,hE,qD,hU,gH,gP⟩
   have j7:∀e∈E,RchG L P e:=fun e he=>z8H hU (hE.rc e he)
   have gO:=hB _ hE.nd j7
   simp only[z5R]
   rw[Zg]
   by_cases hk1:k<P.length
   · left
     have hg:=z9c hk1
     have qX:=hP _ hg
     have kA:atI (P.map toI) (k:Int)=some (toI (P.getD k [])):=by
      rw[z0Q (by simpa using hk1)]
      simp[List.getD,hk1]
     have hg256:=zd5 hP h1 h2 hB (ztf hP hg)
     have jY:=zgn hg256 (Q:=E) (fun q hq=>zd5 hP h1 h2 hB (j7 q hq))
     rw[if_pos (by omega),kA,Z0,zjy (by rw[qX.len];omega) hg256,Z0]
     by_cases hm:P.getD k []∈E
     · rw[if_pos (jY.2 hm),z0H (by omega)]
       refine⟨_,rfl,⟨k+1,E,U,by omega,rfl,hE,by omega,hU,gH,fun j hj=> ?_⟩,by simp only;omega⟩
       by_cases e:j=k
       · rw[e];exact hm
       · exact gP j (by omega)
     · rw[if_neg (fun e=>hm (jY.1 e)),z0e _ (by unfold z1n;rw[Zg];omega)]
       have u9:∀g∈U++ [P.getD k []],g∈P:=fun g h=>by grind
       have hE2:GInv L (U++ [P.getD k []]) E:=⟨hE.nd,fun e he=>z8H (fun g hg=>Ze.2 (.inl hg)) (hE.rc e he),hE.on⟩
       obtain⟨X,x1,x2,x3⟩:=zEl hP h1 h2 hB (w:=k) (by omega) hE2 u9 (by omega)
       rw[x3]
       refine⟨_,rfl,⟨k+1,E++X,U++ [P.getD k []],by omega,rfl,x1,by simp;omega,u9,x2,fun j hj=> ?_⟩,by simp only;omega⟩
       · by_cases e:j=k
         · rw[e]
           have:=x2 _ x1.on (P.getD k []) (by simp)
           rwa [zps qX] at this
         · grind
   · right
     have hk2:k=P.length:=by omega
     rw[if_neg (by omega)]
     have pI:E.map toI≠ []:=fun e=>by
      have:=hE.on
      rw[List.map_eq_nil_iff] at e
      rw[e] at this;simp at this
     unfold zkr
     rw[if_pos ⟨pI,by rw[Zg];omega⟩,Z0]
     have hp:=z8F (E.map toI)
     have j6:∀e:List Nat,(toI e).map Int.toNat=e:=fun e=>by
      unfold toI;rw[Ya]
      have:(Int.toNat∘fun x:Nat=>(x:Int))=id:=by funext x;simp
      rw[this,X2]
     have hp2:((z9y (E.map toI)).map fun x=>x.map Int.toNat).Perm E:=by
      have:=hp.map fun x=>x.map Int.toNat
      rw[Ya] at this
      have e:((fun x:List Int=>x.map Int.toNat)∘toI)=id:=by funext x;exact j6 x
      rwa [e,X2] at this
     have vM:∀g∈U,PermL L g:=fun g hg=>hP g (hU g hg)
     have uS:((z9y (E.map toI)).map fun x=>x.map Int.toNat).map toI=z9y (E.map toI):=by
      rw[Ya]
      refine(ZA fun x hx=> ?_).trans (W4 _)
      obtain⟨e,he,rfl⟩:=Zh.1 (hp.mem_iff.1 hx)
      show toI ((toI e).map Int.toNat)=toI e
      rw[j6]
     refine⟨_,rfl,(z9y (E.map toI)).map fun x=>x.map Int.toNat,by rw[uS],by rw[uS];exact z9n _,hp2.nodup_iff.2 hE.nd,fun e=> ?_⟩
     · rw[hp2.mem_iff]
       refine⟨j7 e,fun h=> ?_⟩
       induction h with
       |one=>exact hE.on
       |step e g _ hg ih=>
        obtain⟨j,hj,rfl⟩:=Zn hg
        have hm:=gP j (by omega)
        rw[List.getD,Z1 hj,Z4] at hm
        exact zrq vM (fun x hx=>z9P hP (j7 x hx)) gH ih (hE.rc _ hm)
 · grind
end
end
section
open Go
variable{x:List Nat}
theorem zuS{p:List Nat}(hl:p.length<=1000)(hp:∀x∈p,x<256):z4g (toI p)=some (z1o (toI p)):=by
 unfold z4g
 rw[z0b,z0e _ (by unfold z0D;omega),Z2]
 have e0:toI p=(List.range p.length).map fun k=>((p.getD k 0:Nat):Int):=by
  refine Zf (by simp[toI]) fun i h1 h2=> ?_
  have hi:i<p.length:=by simpa[toI] using h1
  simp[toI,List.getD,hi]
 refine z0q (s:=((0:Int),List.replicate p.length (0:Int))) p.length (fun k=>((k:Int),z9R p.length (fun k=>((p.getD k 0:Nat):Int)) (fun _=>0) k)) (by rw[z8V];congr 1;exact(Zf (by simp) fun i h1 h2=>by simp)) (by simp only[LFm];omega) (fun k hk=> ?_) ?_
 · have hx:=hp _ (z0i hk)
   have hw:IntKind.u8.wrap ((p.getD k 0:Nat):Int)=((p.getD k 0:Nat):Int):=by rw[YQ];omega
   simp only[z6N]
   rw[if_pos (by rw[z0b];omega),z1q hk,Z0,z5P hk,Z0,z0H (by omega),Z2,hw,z4c (f:=fun k=>((p.getD k 0:Nat):Int)) hk]
 · simp only[z6N]
   rw[if_neg (by rw[z0b];omega),z8U,←e0]
section
variable {d:DFA} {m n:Nat} {S:List Nat} {O:List Nat}
theorem zyU(c:Nat):szO d m n S O c<=S.length:=by
 unfold szO z6Z
 split
 · simp
 · exact ZR (ZL _ _) (ZR (ZL _ _) (by simp))
theorem zo2(gW:S.length<=255)(hx:zeJ d m n S O x):∀k∈x,k<256:=fun k hk=>by
 obtain⟨j,hj,rfl⟩:=Zn hk
 have:=hx.2 j (by rw[←hx.1];exact hj)
 rw[List.getD,Z1 hj,Z4] at this
 have:=zyU (d:=d) (m:=m) (n:=n) (S:=S) (O:=O) j
 omega
end
def zmt(y:Nat->List Nat):Nat->Nat->List (List Nat)->Option (List (List Nat))
 |0,_,T=>some T
 |k+1,a,T=>if y a∈T then zmt y k (a+1) T else if T.length=2000 then none else zmt y k (a+1) (T++ [y a])
def zk2(st:Nat->List Nat->List Nat)(m:Nat):Nat->Nat->List (List Nat)->Option (List (List Nat))
 |0,_,T=>some T
 |f+1,i,T=>if i<T.length then(zmt (fun a=>st a (T.getD i [])) m 0 T).bind (zk2 st m f (i+1)) else some T
theorem zdF{y:Nat->List Nat}{P:List Nat->Prop}:∀(k a:Nat) (T T':List (List Nat)),(∀b,a<=b->b<a+k->P (y b))->(∀t∈T,P t)->T.Nodup->T.length<=2000->zmt y k a T=some T'->
 (∃X,T'=T++X)/\(∀t∈T',P t)/\T'.Nodup/\T'.length<=2000/\ ∀b,a<=b->b<a+k->y b∈T'
 |0,a,T,T',hy,hP,hn,hl,h=>by
  simp only[zmt,Z9] at h
  subst h
  exact⟨⟨[],by simp⟩,hP,hn,hl,fun b h1 h2=>by omega⟩
 |k+1,a,T,T',hy,hP,hn,hl,h=>by
  simp only[zmt] at h
  split at h
  · rename_i gP
    obtain⟨⟨X,e⟩,h2,h3,h4,h5⟩:=zdF k (a+1) T T' (fun b h1 h2=>hy b (by omega) (by omega)) hP hn hl h
    refine⟨⟨X,e⟩,h2,h3,h4,fun b h6 h7=> ?_⟩
    by_cases e2:b=a
    · rw[e2,e];exact Ze.2 (.inl gP)
    · exact h5 b (by omega) (by omega)
  · rename_i gP
    split at h
    · cases h
    · rename_i gF
      obtain⟨⟨X,e⟩,h2,h3,h4,h5⟩:=zdF k (a+1) (T++ [y a]) T' (fun b h1 h2=>hy b (by omega) (by omega)) (fun t ht=>by
       rcases Ze.1 ht with ht|ht
       · exact hP t ht
       · rw[Zi.1 ht];exact hy a (by omega) (by omega)) (Yj.2 ⟨hn,by simp,fun a ha b hb=>by obtain rfl:=Zi.1 hb;rintro rfl;exact gP ha⟩) (by rw[Z7,ZE];omega) h
      refine⟨⟨[y a]++X,by rw[e,Zu]⟩,h2,h3,h4,fun b h6 h7=> ?_⟩
      by_cases e2:b=a
      · rw[e2,e];simp
      · exact h5 b (by omega) (by omega)
def zG2(i:Nat):Option (List (List Nat))->(Int×List (List Int)×List (ByteArray×Bool))⊕(List (List Int)×Int)
 |none=>.inr ([],3)
 |some T=>.inl (((i+1:Nat):Int),T.map toI,z9z T)
def zEr:Option (List (List Nat))->List (List Int)×Int
 |none=>([],3)
 |some T=>(z9y (T.map toI),0)
section
variable {d:DFA} {m n:Nat} {S:List Nat} (hd:DfaOk d m n) (hn:n<=7) (hS:SetsP d m n S) {O:List Nat} (hH:zhI d m n S) (hO:OrdC d m n S O) (gC:∀x∈S,x≠0)
include hd hn hS hH hO gC
theorem zwP(gW:S.length<=1000)(h0:0<S.length)(hx:zeJ d m n S O x):z3E (z9i d m n S O) (toI x)=some ((tzN (S.getD (z7s d m n S O 0 0 x) 0):Nat):Int):=by
 have h128:2^n<=128:=Zl (n:=2) (by omega) hn
 have kB:O.length<=S.length:=by
  rw[hO.prm.length_eq]
  unfold zaX
  exact ZR (ZL _ _) (by rw[ZD];exact z6d (z2x d m n S) S.length)
 have he:=(zhl hd hn hS hH hO gC hx h0 x.length (Z8 _)).1
 rw[Yd] at he
 have gH:∀(y:List Nat) (c i:Nat),(zaz d m n S O c i y).length<=y.length:=fun y=>by
  induction y with
  |nil=>intro c i;simp[zaz]
  |cons s y ih=>
   intro c i
   have:=ih (c+1) (dnN d m n S O c i s)
   simp only[zaz,Z7,Zq]
   split<;>simp<;>omega
 have hcx:=gH x 0 0
 have vB:=hx.1
 have gY:=zpx (d:=d) (m:=m) (n:=n) (S:=S) (O:=O) x 0 0
 unfold z3E
 rw[zyh hd hn hS hH hO gC gW h0 hx,Z0,z0b]
 generalize hl:(0::zaz d m n S O 0 0 x)=l at*
 have hll:l.length=(zaz d m n S O 0 0 x).length+1:=by rw[←hl,Zq]
 have w:IntKind.i64.wrap ((l.length:Int)-1)=((l.length-1:Nat):Int):=by rw[z2z (by omega) (by omega)];omega
 have hg:l.getD (l.length-1) 0=z7s d m n S O 0 0 x:=by grind
 rw[w,z1q (by omega),Z0,hg,znC he,Z0]
 have hm:=z0i he
 have gF:=hS.lt _ hm
 have hp:=gC _ hm
 generalize S.getD (z7s d m n S O 0 0 x) 0=s at*
 have hw:IntKind.u64.wrap (s:Int)=(s:Int):=by rw[Xr];omega
 unfold vTz
 rw[hw,if_pos (by omega),Z0,Z2]
theorem zBR(gW:S.length<=255)(h0:0<S.length){T:List (List Nat)}(hT:∀t∈T,zeJ d m n S O t)(qV:T.length<=2000){i:Nat}(hi:i<T.length):
 z0h (z2w (z9i d m n S O) (i:Int)) LFm (0,T.map toI,z9z T)=some (zG2 i (zmt (fun a=>z5n d m n S O a (T.getD i [])) m 0 T)):=by
 have hm6:=hd.m6
 have gF:(z9i d m n S O).d.letters=m:=hd.lt
 have hx:zeJ d m n S O (T.getD i []):=hT _ (z9c hi)
 have h256:∀t,zeJ d m n S O t->∀k∈t,k<256:=fun t ht=>zo2 gW ht
 have kB:O.length<=S.length:=by
  rw[hO.prm.length_eq]
  unfold zaX
  exact ZR (ZL _ _) (by rw[ZD];exact z6d (z2x d m n S) S.length)
 generalize hX:T.getD i []=x at*
 generalize hR:zmt (fun a=>z5n d m n S O a x) m 0 T=R
 refine Exists.elim (z1r (b:=z2w (z9i d m n S O) (i:Int)) (fun z=>∃(a:Nat) (U:List (List Nat)),a<=m/\z=((a:Int),U.map toI,z9z U)/\zmt (fun a=>z5n d m n S O a x) (m-a) a U=R/\(∀t∈U,zeJ d m n S O t)/\U.length<=2000/\i<U.length/\U.getD i []=x) (fun z=>m+1-z.1.toNat)
  (fun r=>r=zG2 i R) ?_ LFm (0,T.map toI,z9z T) ⟨0,T,by omega,rfl,hR,hT,qV,hi,hX⟩ (by simp only[LFm];omega)) fun r h=> ?_
 · rintro z ⟨a,U,ha,rfl,hU,uX,qD,q7,uR⟩
   simp only[z2w]
   rw[gF]
   by_cases ha1:a<m
   · have jE:atI (U.map toI) (i:Int)=some (toI x):=by
      rw[z0Q (by simpa using q7)]
      rw[←uR]
      simp[List.getD,q7]
     obtain⟨y1,y2⟩:=zah hd hn hS hH hO gC (a:=a) hx h0
     have hy256:=h256 _ y1
     have vA:(z5n d m n S O a x).length<=1000:=by rw[y1.1];omega
     have jY:=zgn hy256 (Q:=U) (fun q hq=>h256 q (uX q hq))
     have vH:m-a=(m-(a+1))+1:=by omega
     rw[vH] at hU
     simp only[zmt] at hU
     rw[if_pos (by omega),jE,Z0,zsx hd hn hS hH hO gC (by omega) h0 ha1 hx,Z0]
     simp only
     rw[zuS vA hy256,Z0,z0H (by omega)]
     by_cases gP:z5n d m n S O a x∈U
     · left
       rw[if_pos gP] at hU
       rw[if_pos (jY.2 gP)]
       exact⟨_,rfl,⟨a+1,U,by omega,rfl,hU,uX,qD,q7,uR⟩,by simp only;omega⟩
     · rw[if_neg gP] at hU
       rw[if_neg (fun e=>gP (jY.1 e)),Zg]
       by_cases gS:U.length=2000
       · right
         rw[if_pos gS] at hU
         rw[if_pos (by omega)]
         exact⟨_,rfl,by rw[←hU];rfl⟩
       · left
         rw[if_neg gS] at hU
         rw[if_neg (by omega),Z0,z0e _ (by unfold z1n;omega)]
         refine⟨_,rfl,⟨a+1,U++ [z5n d m n S O a x],by omega,by rw[ziv,ZI];rfl,hU,fun t ht=> ?_,by rw[Z7,ZE];omega,by rw[Z7];omega,?_⟩,by simp only;omega⟩
         · grind
         · grind
   · right
     have:a=m:=by omega
     subst this
     rw[Nat.sub_self] at hU
     simp only[zmt] at hU
     rw[if_neg (by omega),z0H (by omega)]
     exact⟨_,rfl,by rw[←hU];rfl⟩
 · obtain⟨h3,rfl⟩:=h
   exact h3
theorem zs7(gW:S.length<=255)(h0:0<S.length):z1V (z9i d m n S O)=some (zEr (zk2 (z5n d m n S O) m 2001 0 [z3m d m n S O])):=by
 have gL:=zai hd hn hS hH hO gC h0
 have kB:O.length<=S.length:=by
  rw[hO.prm.length_eq]
  unfold zaX
  exact ZR (ZL _ _) (by rw[ZD];exact z6d (z2x d m n S) S.length)
 generalize hR:zk2 (z5n d m n S O) m 2001 0 [z3m d m n S O]=R
 unfold z1V
 rw[zom hd hn hS hH hO gC (by omega) h0,Z0,zuS (by rw[gL.1];omega) (zo2 gW gL),Z0]
 refine Exists.elim (z1r (b:=z3u (z9i d m n S O)) (fun z=>∃(i:Nat) (T:List (List Nat)),i<=T.length/\z=((i:Int),T.map toI,z9z T)/\zk2 (z5n d m n S O) m (2001-i) i T=R/\(∀t∈T,zeJ d m n S O t)/\T.Nodup/\T.length<=2000/\T≠ []) (fun z=>2001-z.1.toNat)
  (fun r=>r=zEr R) ?_ LFm (0,[toI (z3m d m n S O)],z8h (z1o (toI (z3m d m n S O))) true ([]:List (ByteArray×Bool))) ⟨0,[z3m d m n S O],by simp,rfl,hR,fun t ht=>by rw[Zi.1 ht];exact gL,by simp,by simp,by simp⟩ (by simp only[LFm];omega)) fun r h=> ?_
 · rintro z ⟨i,T,hi,rfl,hT,pA,yU,qV,uT⟩
   simp only[z3u]
   rw[Zg]
   have hf:2001-i=(2001-(i+1))+1:=by omega
   rw[hf] at hT
   simp only[zk2] at hT
   by_cases hi1:i<T.length
   · rw[if_pos hi1] at hT
     rw[if_pos (by omega),zBR hd hn hS hH hO gC gW h0 pA qV hi1]
     cases hb:zmt (fun a=>z5n d m n S O a (T.getD i [])) m 0 T with
     |none=>
      right
      rw[hb,Option.bind_none] at hT
      exact⟨_,rfl,by rw[←hT];rfl⟩
     |some T'=>
      left
      rw[hb,Z0] at hT
      have hx:zeJ d m n S O (T.getD i []):=pA _ (z9c hi1)
      obtain⟨⟨X,e⟩,h2,h3,h4,_⟩:=zdF m 0 T T' (fun b h1 h2=>(zah hd hn hS hH hO gC (a:=b) hx h0).1) pA yU qV hb
      refine⟨_,rfl,⟨i+1,T',by rw[e,Z7];omega,rfl,hT,h2,h3,h4,fun h=>uT ?_⟩,by simp only;omega⟩
      rw[h] at e
      exact(List.append_eq_nil_iff.1 e.symm).1
   · right
     rw[if_neg hi1] at hT
     have gK:T.map toI≠ []:=fun e=>uT (List.map_eq_nil_iff.1 e)
     rw[if_neg (by omega)]
     unfold zkr
     rw[if_pos ⟨gK,by rw[Zg];omega⟩,Z0]
     exact⟨_,rfl,by rw[←hT];rfl⟩
 · obtain⟨h3,rfl⟩:=h
   exact h3
end
end
section
theorem zG1(a b:Nat):(a+1+b=a+(b+1))=True:=by simp only[eq_iff_iff,iff_true];omega
end
section
open Go
section
variable {d:DFA} {m n:Nat} {S:List Nat} (hd:DfaOk d m n) (hn:n<=7) (hS:SetsP d m n S) {O:List Nat} (hH:zhI d m n S) (hO:OrdC d m n S O)
include hd hn hS hH hO
theorem zAm{c:Nat}(hc:c<O.length):O.getD c 0<(z6W d m n S).length/\z2j d m n S (O.getD c 0)<S.length:=by
 have _u:=hH
 have jJ:O.getD c 0∈O:=z0i hc
 have jN:=hO.prm.mem_iff.1 jJ
 unfold zaX at jN
 have h1:=Zj.1 (ZV.1 jN).1
 exact⟨h1,(z2S hd hn hS h1).2⟩
theorem zen:O.length<=S.length:=by
 have _u:=hH
 rw[hO.prm.length_eq]
 unfold zaX
 exact ZR (ZL _ _) (by rw[ZD];exact z6d (z2x d m n S) S.length)
omit hd hn hS hH hO
include hd hn hS hH hO
end
end
section
open Go Go.IntKind
noncomputable section
attribute [local simp] zG1
end
end
section
open Go Go.IntKind
noncomputable section
abbrev GIn:=Int⊕(List (List Int)×Int×List (List Int))
abbrev zHQ:=Unit⊕(Unit⊕(List (List Int)×Int×List (List Int)))
@[simp] def outH(a0:List (List Int))(d:List Int):zHQ->Fr
  | .inl _=>⟨60,[(0,.one (.t none (.sl a0.length (a0.map fun x0=>.sl x0.length (x0.map fun x1=>.sc (.int .i64 x1)))))),(5,.one (.tf 1 [.sl d.length (d.map fun x1=>.sc (.int .i64 x1))])),(6,.one (.t none (.sl 1 [.sl d.length (d.map fun x1=>.sc (.int .i64 x1))]))),(7,xI 0)],[]⟩
  | .inr (.inl _)=>⟨60,[(0,.one (.t none (.sl a0.length (a0.map fun x0=>.sl x0.length (x0.map fun x1=>.sc (.int .i64 x1)))))),(5,.one (.tf 1 [.sl d.length (d.map fun x1=>.sc (.int .i64 x1))])),(6,.one (.t none (.sl 1 [.sl d.length (d.map fun x1=>.sc (.int .i64 x1))]))),(7,xI 1)],[]⟩
  | .inr (.inr (s,i,l))=>⟨60,[(0,.one (.t none (.sl a0.length (a0.map fun x0=>.sl x0.length (x0.map fun x1=>.sc (.int .i64 x1)))))),(5,.one (.h 5 [])),(6,.one (.t none (.sl s.length (s.map fun x0=>.sl x0.length (x0.map fun x1=>.sc (.int .i64 x1)))))),(7,xI i)],[(5,.os 1 l.length (l.map fun x0=>.sl x0.length (x0.map fun x1=>.sc (.int .i64 x1))))]⟩
@[simp] def zHt(a0:List (List Int))(i:Int):List (List Int)×Int×List (List Int)->Fr
  |(s,j,l)=>⟨60,[(0,.one (.t none (.sl a0.length (a0.map fun x0=>.sl x0.length (x0.map fun x1=>.sc (.int .i64 x1)))))),(5,.one (.h 5 [])),(6,.one (.t none (.sl s.length (s.map fun x0=>.sl x0.length (x0.map fun x1=>.sc (.int .i64 x1)))))),(7,xI i),(30,.one (.t none (.sl a0.length (a0.map fun x0=>.sl x0.length (x0.map fun x1=>.sc (.int .i64 x1)))))),(31,xI (a0.length:Int)),(32,xI j)],[(5,.os 1 l.length (l.map fun x0=>.sl x0.length (x0.map fun x1=>.sc (.int .i64 x1))))]⟩
@[simp] def inA(a0:List (List Int))(d:List Int):GIn->Fr
  | .inl j=>⟨60,[(0,.one (.t none (.sl a0.length (a0.map fun x0=>.sl x0.length (x0.map fun x1=>.sc (.int .i64 x1)))))),(5,.one (.tf 1 [.sl d.length (d.map fun x1=>.sc (.int .i64 x1))])),(6,.one (.t none (.sl 1 [.sl d.length (d.map fun x1=>.sc (.int .i64 x1))]))),(7,xI 0),(30,.one (.t none (.sl a0.length (a0.map fun x0=>.sl x0.length (x0.map fun x1=>.sc (.int .i64 x1)))))),(31,xI (a0.length:Int)),(32,xI j)],[]⟩
  | .inr s=>zHt a0 0 s
end
end
section
theorem zHj(a:Nat):1+a=a+1:=Nat.add_comm 1 a
end
section
open Go Go.IntKind
noncomputable section
attribute [local simp] zHj zG1
end
end
section
open Go
theorem zvm{α β:Type}(a b:α->β):∀(xs:List α) (i:Nat) (v:α),(xs.set i v).flatMap (fun x=> [a x,b x])=((xs.flatMap fun x=> [a x,b x]).set (i*2) (a v)).set (i*2+1) (b v)
 | [],i,v=>by simp
 |x::xs,0,v=>by simp
 |x::xs,i+1,v=>by
  have ih:=zvm a b xs i v
  have e1:(i+1)*2=i*2+1+1:=by omega
  have e2:(i+1)*2+1=i*2+1+1+1:=by omega
  rw[List.set_cons_succ,Y5,Y5,ih,e2,e1]
  simp
end
section
open Go Go.IntKind
noncomputable section
attribute [-simp] Nat.mul_lt_mul_right
attribute [local simp] zvm
instance:IsS CRow:=⟨⟩
instance:IsS Casc:=⟨⟩
end
end
section
open Go
theorem zmK{a b:List Nat}(h:toI a=toI b):a=b:=by
 have:=congrArg (List.map Int.toNat) h
 unfold toI at this
 rw[Ya,Ya] at this
 have e:(Int.toNat∘fun x:Nat=>(x:Int))=id:=by funext x;simp
 rwa [e,X2,X2] at this
abbrev za7:=List Nat×List (List Nat)
def zeV(r:za7):CRow:=⟨toI r.1,r.2.map toI⟩
def z7N(x:List Nat)(f:Nat->List (List Nat))(k:Nat)(R:List za7):List za7:=(List.range k).foldl (fun R i=>if ∀r∈R,r.1≠x.take i then R++ [(x.take i,f i)] else R) R
theorem za5(x:List Nat)(f:Nat->List (List Nat))(k:Nat)(R:List za7):z7N x f (k+1) R=if ∀r∈z7N x f k R,r.1≠x.take k then z7N x f k R++ [(x.take k,f k)] else z7N x f k R:=by
 unfold z7N
 rw[YB,YT]
 rfl
structure RowsOk(f:List Nat->Nat->List (List Nat))(L:Nat)(M:List (List Nat))(R:List za7):Prop where
 nd:R.Pairwise fun r q=>r.1≠q.1
 of:∀r∈R,∃x∈M,∃i,i<L/\r=(x.take i,f x i)
 al:∀x∈M,∀i,i<L->∃r∈R,r.1=x.take i
theorem zpP{f:List Nat->Nat->List (List Nat)}{L:Nat}{M:List (List Nat)}{R:List za7}(h:RowsOk f L M R)(x:List Nat):∀k,k<=L->
 (z7N x (f x) k R).Pairwise (fun r q=>r.1≠q.1)/\(∀r∈z7N x (f x) k R,∃y∈M++ [x],∃i,i<L/\r=(y.take i,f y i))/\(∀r∈R,r∈z7N x (f x) k R)/\ ∀i,i<k->∃r∈z7N x (f x) k R,r.1=x.take i
 |0,_=>⟨h.nd,fun r hr=>by
    obtain⟨y,hy,i,hi,e⟩:=h.of r hr
    exact⟨y,Ze.2 (.inl hy),i,hi,e⟩,fun r hr=>hr,fun i hi=>by omega⟩
 |k+1,hk=>by
  obtain⟨h1,h2,h3,h4⟩:=zpP h x k (by omega)
  rw[za5]
  split
  · rename_i gQ
    refine⟨YD.2 ⟨h1,by simp,fun a ha b hb=>by rw[Zi.1 hb];exact gQ a ha⟩,fun r hr=> ?_,fun r hr=>Ze.2 (.inl (h3 r hr)),fun i hi=> ?_⟩
    · rcases Ze.1 hr with hr|hr
      · exact h2 r hr
      · exact⟨x,by simp,k,by omega,Zi.1 hr⟩
    · by_cases e:i=k
      · subst e;exact⟨_,Ze.2 (.inr (Zi.2 rfl)),rfl⟩
      · obtain⟨r,hr,e2⟩:=h4 i (by omega)
        exact⟨r,Ze.2 (.inl hr),e2⟩
  · rename_i gX
    refine⟨h1,h2,h3,fun i hi=> ?_⟩
    by_cases e:i=k
    · subst e
      obtain⟨r,hr⟩:=Classical.not_forall.1 gX
      obtain⟨hr,e2⟩:=Classical.not_imp.1 hr
      exact⟨r,hr,Classical.not_not.1 e2⟩
    · exact h4 i (by omega)
theorem zrK{f:List Nat->Nat->List (List Nat)}{L:Nat}{M:List (List Nat)}{R:List za7}(h:RowsOk f L M R)(x:List Nat):RowsOk f L (M++ [x]) (z7N x (f x) L R):=by
 obtain⟨h1,h2,h3,h4⟩:=zpP h x L (Z8 _)
 refine⟨h1,h2,fun y hy i hi=> ?_⟩
 rcases Ze.1 hy with hy|hy
 · obtain⟨r,hr,e⟩:=h.al y hy i hi
   exact⟨r,h3 r hr,e⟩
 · rw[Zi.1 hy];exact h4 i hi
end
section
open Go
variable{x:List Nat}{i:Nat}
def zBJ:Cover:=⟨⟨0,[],[]⟩,[],[],[],[]⟩
section
variable (d:DFA) (m n:Nat) (S O:List Nat)
def z2I(x:List Nat)(i:Nat):List (List Nat):=(List.range m).map fun a=>(z8i d m n S O a x).getD i []
def wC(x:List Nat)(a i:Nat):List (List Int):=(List.range a).map fun b=>toI ((z8i d m n S O b x).getD i [])
end
section
variable {d:DFA} {m n:Nat} {S:List Nat} (hd:DfaOk d m n) (hn:n<=7) (hS:SetsP d m n S) {O:List Nat} (hH:zhI d m n S) (hO:OrdC d m n S O) (gC:∀x∈S,x≠0) (gE:∀i k,i<S.length->k<S.length->zaA S k=true->z6Y d m n S i k=true->zaA S i=true)
theorem zzz:wC d m n S O x m i=(z2I d m n S O x i).map toI:=by
 unfold wC z2I
 rw[Ya];rfl
theorem zzy{a:Nat}:wC d m n S O x (a+1) i=wC d m n S O x a i++ [toI ((z8i d m n S O a x).getD i [])]:=by
 unfold wC
 rw[YB,ZI];rfl
theorem zBN{a:Nat}:(wC d m n S O x a i).length=a:=by simp[wC]
include hd hn hS hH hO gC
include gE
end
end
section
open Go
theorem zvH(x y:List Int):z9k y x= -z9k x y:=by
 have:=z9f x y
 unfold z9k
 split
 · split
   · omega
   · rfl
 · split
   · rfl
   · exact this
theorem ziS{x y z:List Int}(h1:z9k x y<0)(h2:z9k y z<0):z9k x z<0:=by
 unfold z9k at*
 have l1:x.length<=y.length:=by
  rcases Yy y.length x.length with hh|hh
  · rw[if_neg (by omega),if_pos hh] at h1;omega
  · exact hh
 have l2:y.length<=z.length:=by
  rcases Yy z.length y.length with hh|hh
  · rw[if_neg (by omega),if_pos hh] at h2;omega
  · exact hh
 by_cases b1:x.length<z.length
 · rw[if_pos b1];omega
 · rw[if_neg b1,if_neg (by omega)]
   rw[if_neg (by omega),if_neg (by omega)] at h1 h2
   have h3:=z8K x y z (by omega) (by omega)
   by_cases e:z8D x z=0
   · have:=h3.2 e;omega
   · omega
def ltR(r q:za7):Prop:=z9k (toI r.1) (toI q.1)<0
instance(r q:za7):Decidable (ltR r q):=by unfold ltR;exact inferInstance
theorem ztR{a b c:za7}(h1:ltR a b)(h2:ltR b c):ltR a c:=ziS h1 h2
theorem zCO{a b:za7}(gK:a.1≠b.1)(h:¬ltR a b):ltR b a:=by
 unfold ltR at*
 rw[zvH]
 have:z9k (toI a.1) (toI b.1)≠0:=fun e=>gK (zmK ((za0 _ _).1 e))
 omega
section
variable {d:DFA} {z1:List Int} {z2:List Hol×Int} {z3:List Int}
end
end
section
open Go
theorem zof(e:List Nat):(toI e).map Int.toNat=e:=by
 unfold toI;rw[Ya]
 have:(Int.toNat∘fun x:Nat=>(x:Int))=id:=by funext x;simp
 rw[this,X2]
section
variable {d:DFA} {m n:Nat} {S:List Nat} (hd:DfaOk d m n) (hn:n<=7) (hS:SetsP d m n S) {O:List Nat} (hH:zhI d m n S) (hO:OrdC d m n S O) (gC:∀x∈S,x≠0) (gE:∀i k,i<S.length->k<S.length->zaA S k=true->z6Y d m n S i k=true->zaA S i=true)
def zl4(d:DFA)(m n:Nat)(S O:List Nat)(x:List Nat):Nat:=tzN (S.getD (z7s d m n S O 0 0 x) 0)
include hd hn hS hH hO gC
structure CovOk(d:DFA)(m n:Nat)(S O:List Nat)(z1:List Int)(G:List Hol)(c:Cover):Prop where
 ex:∃T Y:List (List Nat),∃W:List za7,zk2 (z5n d m n S O) m 2001 0 [z3m d m n S O]=some T/\Y.map toI=z9y (T.map toI)/\Y.Perm T/\W.Pairwise ltR/\RowsOk (z2I d m n S O) O.length T W/\
  c=⟨⟨d.letters,z1,W.map zeV⟩,toI (z3m d m n S O),Y.map toI,toI (Y.map (zl4 d m n S O)),G⟩
theorem zmY{f:List Nat->Nat->List (List Nat)}{L:Nat}{M:List (List Nat)}{R W:List za7}(h:RowsOk f L M R)(hp:W.Perm R):RowsOk f L M W:=by
 have _u:=hd;have _v:=hn;have _w:=hS;have _x:=hH;have _y:=hO;have _z:=gC
 exact⟨(hp.pairwise_iff fun {a b} h e=>h e.symm).2 h.nd,fun r hr=>h.of r (hp.mem_iff.1 hr),fun x hx i hi=>by obtain⟨r,hr,e⟩:=h.al x hx i hi;exact⟨r,hp.mem_iff.2 hr,e⟩⟩
include gE
end
end
section
open Go
variable{l p:List Int}{N:Nat}
def zgK(N:Nat)(X:List Int):List Bool:=(List.range N).map fun x:Nat=>decide ((x:Int)∈X)
theorem zxu{X:List Int}:(zgK N X).length=N:=by simp[zgK]
theorem zCM:zgK N []=List.replicate N false:=by
 unfold zgK;exact Zf (by simp) fun i h1 h2=>by simp
theorem zAy{v:Nat}{X:List Int}(h:v<N):atI (zgK N X) (v:Int)=some (decide ((v:Int)∈X)):=by
 rw[z0Q (by rw[zxu];exact h)];simp[zgK]
theorem zxs{v:Nat}{X:List Int}(h:v<N):(zgK N X).set v true=zgK N (X++ [(v:Int)]):=by
 refine Zf (by simp[zgK]) fun i h1 h2=> ?_
 rw[Ye]
 simp only[zgK,Zw,ZJ,Ze,Zi]
 by_cases e:v=i
 · subst e;simp
 · rw[if_neg e]
   exact decide_eq_decide.2 ⟨fun h=>.inl h,fun h=>h.elim id fun h=>absurd h (by omega)⟩
theorem zwF{k:Nat}(h:k<l.length):l.take (k+1)=l.take k++ [l[k]]:=by rw[ZB h]
theorem ziE:l.Nodup↔ ∀k (h:k<l.length),l[k]∉l.take k:=by
 rw[List.nodup_iff_pairwise_ne,ZG]
 constructor
 · intro h k hk hm
   obtain⟨i,hi,e⟩:=Zn hm
   rw[Zp] at hi
   rw[XE] at e
   exact h i k (by omega) hk (by omega) e
 · intro h i j hi hj j8 e
   refine h j hj ?_
   have:i<(l.take j).length:=by rw[Zp];omega
   have h2:=Zm this
   rw[XE,e] at h2
   exact h2
def zgB(N:Nat)(p:List Int):Bool:=decide (p.length=N)&&(p.all (fun x=>decide (0<=x/\x<(N:Int)))&&decide p.Nodup)
theorem zjf:zgB N p=true↔p.length=N/\(∀x∈p,0<=x/\x<(N:Int))/\p.Nodup:=by
 simp[zgB]
def zBI(N:Nat)(p:List Int)(k:Nat):Bool:= !decide (0<=p.getD k 0/\p.getD k 0<(N:Int))||decide (p.getD k 0∈p.take k)
theorem zBp(hl:p.length=N):((List.range N).all fun k=> !zBI N p k)=zgB N p:=by
 rw[Yh,zjf,Zr]
 have hg:∀k (h:k<p.length),p.getD k 0=p[k]:=fun k h=>by rw[List.getD,Z1 h,Z4]
 constructor
 · intro h
   refine⟨hl,fun x hx=> ?_,ziE.2 fun k hk=> ?_⟩
   · obtain⟨k,hk,rfl⟩:=Zn hx
     have:=h k (Zj.2 (by omega))
     simp only[zBI,hg k hk] at this
     simp at this
     exact this.1
   · have:=h k (Zj.2 (by omega))
     simp only[zBI,hg k hk] at this
     simp at this
     exact this.2
 · rintro⟨_,h1,h2⟩ k hk
   have hk:=Zj.1 hk
   have a:=h1 _ (Zm (show k<p.length by omega))
   have b:=ziE.1 h2 k (by omega)
   simp only[zBI,hg k (by omega)]
   simp[a,b]
theorem zxf{Q:List (List Int)}(hN:N<=1000)(hQ:Q.length<4611686018427387904):z3D Q (N:Int)=some (Q.all (zgB N)):=by
 unfold z3D
 rw[zgO (b:=z2D Q (N:Int)) (l:=Q) [] (zgB N) (A:=some false) (B:=some true) hQ ?_ ?_]
 · cases Q.all (zgB N)<;>rfl
 · intro k hk
   have hg:Q.getD k []=Q[k]:=by rw[List.getD,Z1 hk,Z4]
   simp only[z2D]
   rw[if_pos (by omega),z0Q hk,Z0,hg]
   generalize Q[k]=p
   by_cases hl:p.length=N
   · rw[if_pos (by omega),z0e _ (by unfold z0D;omega),Z2,←zBp hl,
      z5C (s:=((0:Int),List.replicate N false)) N (fun t=>((t:Int),zgK N (p.take t))) (zBI N p) (fun _=>z0d (some false)) (x:=z0c ((k+1:Nat):Int)) (by rw[XA,zCM];rfl) (by simp only[LFm];omega) ?_ ?_]
     · rw[zdu]
     · intro t ht
       have ht':t<p.length:=by omega
       have vW:p.getD t 0=p[t]:=by rw[List.getD,Z1 ht',Z4]
       simp only[z3H,zBI,vW]
       rw[if_pos (by omega),z0Q ht',Z0,zwF ht']
       generalize p[t]=v
       by_cases c1:v<0
       · rw[if_pos c1,if_pos (by simp;omega)]
       · rw[if_neg c1]
         by_cases c2:(N:Int)<=v
         · rw[if_pos c2,if_pos (by simp;omega)]
         · obtain⟨u,rfl⟩:=ZF (show 0<=v by omega)
           rw[if_neg c2,zAy (by omega),Z0]
           by_cases c3:(u:Int)∈p.take t
           · rw[if_pos (by simpa using c3),if_pos (by simp[c3])]
           · rw[if_neg (by simpa using c3),if_neg (by simp[c3];omega),z0H (by omega),Z2,zxs (by omega)]
     · simp only[z3H]
       rw[if_neg (by omega),z0H (by omega)]
   · have:zgB N p=false:=by unfold zgB;rw[decide_eq_false hl];rfl
     rw[if_neg (by omega),this,if_neg (by simp)]
 · simp only[z2D]
   rw[if_neg (by omega)]
end
section
open Go Go.IntKind
def zyZ(n:Nat)(s:Int):Bool:=decide (0<=s/\s<((2^n:Nat):Int))
theorem zov{n:Nat}{s:Int}:zyZ n s=true↔0<=s/\s.toNat<2^n:=by
 unfold zyZ;rw[decide_eq_true_eq];omega
def zAJ(d:DFA)(h:Hol)(k:Nat):Bool:=decide (((z4D d h.set.toNat (h.words.getD k ByteArray.empty).data.toList:Nat):Int)=h.set)&&(List.range h.tiles.length).all fun i=>decide (((z4D d (h.tiles.getD i 0).toNat (h.words.getD k ByteArray.empty).data.toList:Nat):Int)=h.tiles.getD ((h.perms.getD k []).getD i 0).toNat 0)
def zFR(d:DFA)(m n:Nat)(h:Hol):Bool:=zyZ n h.set&&(decide (h.words.length=h.perms.length)&&(decide (1<=h.tiles.length/\h.tiles.length<=32)&&(h.tiles.all (zyZ n)&&((List.range h.words.length).all fun k=>decide (zf2 m (h.words.getD k ByteArray.empty))&&(zgB h.tiles.length (h.perms.getD k [])&&zAJ d h k)))))
section
variable {d:DFA} {m n:Nat} (hd:DfaOk d m n) (hn:n<=12) {h:Hol} (hs:zyZ n h.set=true) (hT:h.tiles.all (zyZ n)=true) (hl:h.tiles.length<=32)
include hd hn hs hT hl
end
end
section
open Go
theorem zvT{d:DFA}{m n:Nat}{h:Hol}:zFR d m n h=true↔zyZ n h.set=true/\h.words.length=h.perms.length/\(1<=h.tiles.length/\h.tiles.length<=32)/\h.tiles.all (zyZ n)=true/\ ∀k,k<h.words.length->zf2 m (h.words.getD k ByteArray.empty)/\zgB h.tiles.length (h.perms.getD k [])=true/\zAJ d h k=true:=by
 unfold zFR
 simp only[Z6,decide_eq_true_eq,Zr,Zj]
section
variable {d:DFA} {m n:Nat} (hd:DfaOk d m n) (hn:n<=12) {h:Hol} (hw:h.words.length<2^61) (hp:h.perms.length<2^61)
include hd hn hw hp
end
end
section
open Go
def zEy(a:Nat):ByteArray:=⟨#[UInt8.ofNat (IntKind.u8.wrap (IntKind.i64.wrap (97+(a:Int)))).toNat]⟩
def zqD(W:List ByteArray)(w:ByteArray):Nat->Option (List Int)
 |0=>some []
 |a+1=>match zqD W w a with
  |none=>none
  |some row=>if zaH w (zEy a) then(match z0h (z4v W (a:Int) row) LFm (w++zEy a,-1) with
   |some (.inl (x,r))=>if x=((a+1:Nat):Int) then some r else none
   |_=>none) else none
def zBH(m L:Nat):Bool:=match z7E m L with
 |none=>false
 |some W=>decide (1<=W.length)&&decide (W.length<=7)&&W.all fun w=>match zqD W w m with
  |none=>false
  |some r=>decide (r.length=m)&&r.all fun x=>decide (0<=x/\x<(W.length:Int))
theorem zBl:zBH 1 1=true/\zBH 1 2=true/\zBH 2 1=true/\zBH 2 2=true:=⟨by kernel_rfl,by kernel_rfl,by kernel_rfl,by kernel_rfl⟩
theorem zEh{m:Nat}{W:List ByteArray}{i:Int}{fs:List Bool}{rs:List (List Int)}{w:ByteArray}{v:Int×Tape}{r:List Int}(hm:m<=6)(h:zqD W w m=some r):
 z0h (z3A (m:Int) W i fs rs w v) LFm (0,[])=chk (z1n 24 (rs.length+1)) (z0c (IntKind.i64.wrap (i+1),v.2.l,v.2.at_,fs++ [decide (v.1=1)],rs++ [r])):=by
 have key:∀a,a<=m->∃r',zqD W w a=some r':=by
  have:∀j a,a+j=m->∃r',zqD W w a=some r':=by
   intro j
   induction j with
   |zero=>intro a ha;obtain rfl:a=m:=by omega
          exact⟨r,h⟩
   |succ j ih=>
    intro a ha
    obtain⟨r',hr'⟩:=ih (a+1) (by omega)
    rw[zqD] at hr'
    split at hr'
    · cases hr'
    · rename_i row gM;exact⟨row,gM⟩
  intro a ha
  exact this (m-a) a (by omega)
 refine z0q (s:=((0:Int),([]:List Int))) m (fun a=>((a:Int),(zqD W w a).getD [])) rfl (by simp only[LFm];omega) (fun a ha=> ?_) ?_
 · obtain⟨r1,h1⟩:=key a (by omega)
   obtain⟨r2,h2⟩:=key (a+1) (by omega)
   rw[h1,h2,Z4,Z4]
   rw[zqD,h1] at h2
   simp only[z3A]
   rw[if_pos (by omega)]
   dsimp only at h2
   split at h2
   case isFalse=>cases h2
   rename_i hc
   change chk (zaH w (zEy a)) (z0h (z4v W (a:Int) r1) LFm (w++zEy a,-1))=_
   rw[z0e _ hc]
   split at h2
   · rename_i x q hq
     split at h2
     · rename_i hx
       cases h2
       rw[←hx]
       exact hq
     · cases h2
   · cases h2
 · simp only[z3A]
   rw[if_neg (by omega),h,Z4]
end
section
open Go
def defT:List (List Int):= [[1,2],[3,4],[5,6],[3,4],[5,6],[3,4],[5,6]]
theorem zFJ(l s:Int)(f:List Bool):(z2a ⟨l,s,f,defT⟩ 2 7).length=10:=by kernel_rfl
def zBw(m L:Nat):Bool:=match z7E m L with
 |none=>true
 |some W=>decide (W.length<=4)||(decide (W.length=7)&&decide (m=2)&&decide ((W.map fun w=>zqD W w m)=defT.map some))
theorem zBX:zBw 1 1=true/\zBw 1 2=true/\zBw 2 1=true/\zBw 2 2=true:=⟨by kernel_rfl,by kernel_rfl,by kernel_rfl,by kernel_rfl⟩
theorem zso(m L:Nat):match z7E m L with
 |none=>True
 |some W=>1<=m/\m<=2->1<=L/\L<=2->W.length<=4∨(W.length=7/\m=2/\(W.map fun w=>zqD W w m)=defT.map some):=by
 cases hW:z7E m L with
 |none=>trivial
 |some W=>
  intro hm hL
  have h:zBw m L=true:=by
   obtain⟨c1,c2,c3,c4⟩:=zBX
   rcases(by omega:(m=1/\L=1)∨(m=1/\L=2)∨(m=2/\L=1)∨(m=2/\L=2)) with⟨rfl,rfl⟩|⟨rfl,rfl⟩|⟨rfl,rfl⟩|⟨rfl,rfl⟩
   · exact c1
   · exact c2
   · exact c3
   · exact c4
  unfold zBw at h
  rw[hW] at h
  simpa[and_assoc] using h
theorem zl8{d:DFA}{m n:Nat}(hd:DfaOk d m n)(hn:n<=5):(z2a d m n).length<=32:=by
 have hS:=z8j hd
 have:=z1C hS.nd hS.lt
 have h32:2^n<=32:=Zl (n:=2) (by omega) hn
 omega
theorem zm7{t:Tape}(ht:TapeOk t)(m:Nat)(hm:1<=m/\m<=2):∃d t' n,z4F t m=some (d,t')/\DfaOk d m n/\n<=7/\TapeOk t'/\(n<=4∨(n=7/\m=2/\d.next=defT)):=by
 unfold z4F
 obtain⟨v,t1,e1,v0,v1,ht1⟩:=z7f ht 2 (by omega) (by omega)
 simp only[e1,Z0]
 obtain⟨k,rfl⟩:=ZF v0
 have hw:IntKind.i64.wrap (1+(k:Int))=((k+1:Nat):Int):=by rw[z2z (by omega) (by omega)];omega
 rw[hw]
 have jK:zBH m (k+1)=true:=by
  obtain⟨c1,c2,c3,c4⟩:=zBl
  rcases(by omega:(m=1/\k=0)∨(m=1/\k=1)∨(m=2/\k=0)∨(m=2/\k=1)) with⟨rfl,rfl⟩|⟨rfl,rfl⟩|⟨rfl,rfl⟩|⟨rfl,rfl⟩
  · exact c1
  · exact c2
  · exact c3
  · exact c4
 have jP:=zso m (k+1)
 have yF:m=2/\k=1∨ ¬(m=2/\k=1):=Decidable.em _
 unfold zBH at jK
 split at jK
 · cases jK
 rename_i W hW
 simp only[Z6,decide_eq_true_eq,Zr] at jK
 obtain⟨⟨hW1,hW7⟩,gM⟩:=jK
 rw[hW,Z0]
 have gG:∀nx:List (List Int),nx.map some=(W.map fun w=>zqD W w m)->W.length<=4∨(W.length=7/\m=2/\nx=defT):=fun nx u7=>by
  rw[hW] at jP
  rcases jP hm (by omega) with h|⟨h1,h2,h3⟩
  · exact .inl h
  · refine .inr ⟨h1,h2,?_⟩
    rw[h3] at u7
    have:=congrArg (fun l=>l.map (fun o:Option (List Int)=>o.getD [])) u7
    simpa[Function.comp_def] using this
 refine Exists.elim (z1r (b:=z4E (m:Int) W) (fun z=>0<=z.1/\z.1<=W.length/\TapeOk ⟨z.2.1,z.2.2.1⟩/\(z.2.2.2.1.length:Int)=z.1/\(z.2.2.2.2.length:Int)=z.1/\(∀r∈z.2.2.2.2,za6 m W.length r)/\z.2.2.2.2.map some=(W.take z.1.toNat).map fun w=>zqD W w m) (fun z=>W.length+1-z.1.toNat)
  (fun r=>DfaOk r.1 m W.length/\TapeOk r.2/\r.1.next.map some=W.map fun w=>zqD W w m) ?_ LFm (0,t1.l,t1.at_,[],[]) ⟨by simp,by simp,ht1,by simp,by simp,by simp,by simp⟩ (by simp only[LFm];omega)) fun r h=>⟨r.1,r.2,W.length,h.1,h.2.1,hW7,h.2.2.1,gG r.1.next h.2.2.2⟩
 rintro⟨i,tl,ta,fs,rs⟩ ⟨i0,i1,i2,i3,i4,i5,i6⟩
 simp only at i0 i1 i2 i3 i4 i5 i6⊢
 obtain⟨i,rfl⟩:=ZF i0
 simp only[z4E]
 by_cases hi:(i:Int)<(W.length:Int)
 · left
   have hi':i<W.length:=by omega
   rw[if_pos hi,z0Q hi',Z0]
   obtain⟨u,t3,e3,u0,u1,ht3⟩:=z7f i2 2 (by omega) (by omega)
   rw[e3,Z0,z0e _ (by unfold z1n;omega)]
   have hr:=gM _ (Zm hi')
   split at hr
   · cases hr
   rename_i r hr0
   simp only[Z6,decide_eq_true_eq,Zr] at hr
   rw[zEh (by omega) hr0,z0e _ (by unfold z1n;omega),z2z (by omega) (by omega)]
   refine⟨_,rfl,⟨by simp only;omega,by simp only;omega,ht3,by simp only[Z7,ZE];omega,by simp only[Z7,ZE];omega,fun y hy=> ?_,?_⟩,by simp only;omega⟩
   rotate_left
   · rw[Z2] at i6
     have e:((i:Int)+1).toNat=i+1:=by omega
     rw[e,ZI,i6,ZB hi',ZI,Zt,Yt,Zt,Yt,hr0]
   rcases zdd.1 hy with h|rfl
   · exact i5 y h
   · exact⟨hr.1,fun x hx=>hr.2 x hx⟩
 · right
   rw[if_neg hi]
   exact⟨_,rfl,⟨rfl,by omega,by omega,by omega,by simp only;omega,by simp only;omega,by simp only;omega,by simp only;omega,i5⟩,i2,by rw[i6,show(i:Int).toNat=W.length by omega,Yd]⟩
end
section
open Go
structure HolOk(m n:Nat)(h:Hol):Prop where
 t1:1<=h.tiles.length
 t2:h.tiles.length<=32
 wp:h.words.length=h.perms.length
 wl:h.words.length<=1000
 wb:∀w∈h.words,w.size<=257
 pl:∀p∈h.perms,p.length=h.tiles.length
section
variable {d:DFA} {m n:Nat} {S:List Nat} (hd:DfaOk d m n) (hn:n<=7) (hS:SetsP d m n S)
include hd hn hS
theorem zv5{c:Nat}(hc:c<(z6W d m n S).length)(hz:szN (S.getD (z2j d m n S c) 0)≠1)(gC:∀x∈S,x≠0)(h32:S.length<=32):HolOk m n (zbX d m n S c)/\zFR d m n (zbX d m n S c)=true:=by
 have h128:2^n<=128:=Zl (n:=2) (by omega) hn
 have h6:=hd.m6
 have hk:=(z2S hd hn hS hc).2
 have hI:=zwd hd hn hS (c:=c) S.length (Z8 _)
 obtain⟨t1,t2⟩:=z8R hd hn hS hk
 have tl32:(z3i S (z2j d m n S c)).length<=S.length:=z7F t1 fun t ht=>(t2 t ht).1
 have vR:=hS.lt _ (z0i hk)
 have tpos:1<=(z3i S (z2j d m n S c)).length:=by
  have gK:=gC _ (z0i hk)
  obtain⟨q,hq⟩:∃q,(S.getD (z2j d m n S c) 0).testBit q=true:=by
   refine Y8 fun h=>gK (Y0 fun q=> ?_)
   rw[Xp]
   cases hh:(S.getD (z2j d m n S c) 0).testBit q with
   |false=>rfl
   |true=>exact absurd ⟨q,hh⟩ h
  obtain⟨t,ht,_⟩:=zgf hd hn hS hk hz hq
  have:=YI ht
  rw[ze9];omega
 have hB:S.length*m<=32*6:=XT h32 h6
 have yB:=hI.bd
 have kI:=hI.len
 have uV:(toI (z3i S (z2j d m n S c))).length=(z3i S (z2j d m n S c)).length:=z0b _
 refine⟨⟨by simp only[zbX];omega,by simp only[zbX];omega,by simp only[zbX,Zg];omega,by simp only[zbX];omega,fun w hw=> ?_,fun p hp=> ?_⟩,zvT.2 ⟨?_,by simp only[zbX,Zg];omega,by simp only[zbX];omega,?_,fun j hj=> ?_⟩⟩
 · simp only[zbX] at hw
   obtain⟨j,hj,rfl⟩:=Zn hw
   obtain⟨_,e,_⟩:=zdq hI hj
   rw[List.getD,Z1 hj,Z4] at e
   omega
 · simp only[zbX] at hp⊢
   obtain⟨y,hy,rfl⟩:=Zh.1 hp
   rw[z0b,z0b,zp5 hI y hy]
 · simp only[zbX];exact zov.2 ⟨by omega,by rw[Z2];exact vR⟩
 · simp only[zbX]
   refine Zr.2 fun x hx=> ?_
   obtain⟨t,ht,rfl⟩:=Zh.1 hx
   exact zov.2 ⟨by omega,by rw[Z2];exact(t2 t ht).2.2⟩
 · simp only[zbX] at hj⊢
   obtain⟨l1,l2,l3⟩:=zdq hI hj
   have hj2:j<(zkc d m n S (z3i S (z2j d m n S c)) c S.length).2.length:=by omega
   have ep:((zkc d m n S (z3i S (z2j d m n S c)) c S.length).2.map toI).getD j []=toI ((zkc d m n S (z3i S (z2j d m n S c)) c S.length).2.getD j []):=by
    simp[List.getD,hj2]
   rw[l3] at ep
   obtain⟨p1,p2,p3⟩:=zbB hd hn hS hk l1
   generalize hw:(zkc d m n S (z3i S (z2j d m n S c)) c S.length).1.getD j ByteArray.empty=w at*
   refine⟨⟨by omega,l1.hw⟩,?_,?_⟩
   · rw[ep,uV]
     refine zjf.2 ⟨by rw[z0b,zdb],fun x hx=> ?_,?_⟩
     · obtain⟨y,hy,rfl⟩:=Zh.1 hx
       have:=p2 y hy
       omega
     · exact YA _ (fun a b (jG:a≠b)=>by intro e;exact jG (by omega)) p1
   · unfold zAJ
     simp only[zbX]
     rw[hw,ep,uV,Z6,decide_eq_true_eq,Z2]
     refine⟨by rw[l1.run],Zr.2 fun i hi=> ?_⟩
     have hi:=Zj.1 hi
     have qR:i<(z3U d w.data.toList (z3i S (z2j d m n S c))).length:=by rw[zdb];exact hi
     have g1:(toI (z3i S (z2j d m n S c))).getD i 0=(((z3i S (z2j d m n S c)).getD i 0:Nat):Int):=by simp[toI,List.getD,hi]
     have g2:(toI (z3U d w.data.toList (z3i S (z2j d m n S c)))).getD i 0=(((z3U d w.data.toList (z3i S (z2j d m n S c))).getD i 0:Nat):Int):=by simp[toI,List.getD,qR]
     have gF:=p2 _ (z0i qR)
     have g3:(toI (z3i S (z2j d m n S c))).getD ((z3U d w.data.toList (z3i S (z2j d m n S c))).getD i 0) 0=(((z3i S (z2j d m n S c)).getD ((z3U d w.data.toList (z3i S (z2j d m n S c))).getD i 0) 0:Nat):Int):=by
      generalize (z3U d w.data.toList (z3i S (z2j d m n S c))).getD i 0=q at*
      simp[toI,List.getD,gF]
     rw[g1,g2,Z2,Z2,g3,p3 i hi,decide_eq_true_eq]
end
end
section
open Go
variable{v w:List UInt8}{c k:Nat}
theorem zAR{d:DFA}{m n:Nat}{S:List Nat}(h:0<z8e d m n S k):szN (S.getD k 0)≠1:=fun e=>by
 have hz:zaA S k=true:=by unfold zaA;rw[decide_eq_true e]
 unfold z8e znv at h
 cases hN:S.length with
 |zero=>rw[hN] at h;simp[zxN] at h
 |succ N=>rw[hN] at h;simp only[zxN] at h;rw[if_pos hz] at h;omega
def zrv(n:Nat):List Nat->Nat
 | []=>0
 |x::l=>x+n*zrv n l
theorem znH{n:Nat}:∀ {l:List Nat},(∀x∈l,x<n)->zrv n l<n^l.length
 | [],_=>by simp[zrv]
 |x::l,h=>by
  have h1:=h x (Zz ..)
  have h2:=znH (l:=l) (fun y hy=>h y (Zo _ hy))
  rw[zrv,Zq,Nat.pow_succ]
  have:n*zrv n l+n<=n^l.length*n:=by
   have:=Nat.mul_le_mul_left n h2
   rw[Nat.mul_succ] at this
   rwa [Nat.mul_comm (n^l.length)]
  omega
theorem zjP{n:Nat}:∀ {l r:List Nat},(∀x∈l,x<n)->(∀x∈r,x<n)->l.length=r.length->zrv n l=zrv n r->l=r
 | [],[],_,_,_,_=>rfl
 | [],_::_,_,_,h,_=>by simp at h
 |_::_,[],_,_,h,_=>by simp at h
 |x::l,y::r,hl,hr,gD,h=>by
  have h1:=hl x (Zz ..)
  have h2:=hr y (Zz ..)
  rw[zrv,zrv] at h
  have e1:x=y:=by
   have:=congrArg (·%n) h
   simpa[Nat.add_mul_mod_self_left,X8 h1,X8 h2] using this
  subst e1
  have e2:zrv n l=zrv n r:=Nat.eq_of_mul_eq_mul_left (show 0<n by omega) (by omega)
  rw[zjP (fun z hz=>hl z (Zo _ hz)) (fun z hz=>hr z (Zo _ hz)) (by simpa using gD) e2]
section
variable {d:DFA} {m n:Nat} {S:List Nat} (hd:DfaOk d m n) (hn:n<=7) (hS:SetsP d m n S)
include hd hn hS
theorem zxA(hk:k<S.length):Lead d m n (S.getD k 0) (S.getD k 0) []:=by
 have _u:=hd
 have _v:=hn
 exact⟨fun c hc=>by simp at hc,hS.lt _ (z0i hk),hS.lt _ (z0i hk),rfl,rfl⟩
theorem zxg(hk:k<S.length):z3U d [] (z3i S k)=List.range (z3i S k).length:=by
 obtain⟨h1,h2⟩:=z8R hd hn hS hk
 refine Zf (by simp[z3U]) fun i i1 i2=> ?_
 have hi:i<(z3i S k).length:=by simpa[z3U] using i1
 simp only[z3U,Zw,ZJ,z4D]
 have hm:(z3i S k)[i]∈z3i S k:=Zm hi
 have e:=z3R hm
 have e2:(z3i S k).getD i 0=(z3i S k)[i]:=by grind
 exact z7p h1 (z6F hm) hi (by rw[e,e2])
theorem zxh(hk:k<S.length)(h1:Lead d m n (S.getD k 0) (S.getD k 0) w):zc8 (z3U d w (z3i S k)) (z3U d v (z3i S k))=z3U d (w++v) (z3i S k):=by
 have hr:=zmL hd hn hS hk h1
 unfold zc8
 rw[show z3U d w (z3i S k)=(z3i S k).map fun t=>(z3i S k).idxOf (z4D d t w) from rfl,Ya]
 refine ZA fun t ht=> ?_
 have hm:=hr t ht
 show(z3U d v (z3i S k)).getD ((z3i S k).idxOf (z4D d t w)) 0=(z3i S k).idxOf (z4D d t (w++v))
 rw[ztt (z6F hm),z3R hm,←z7D]
def zha(d:DFA)(m n:Nat)(S:List Nat)(c:Nat):List (List Nat):=(zkc d m n S (z3i S (z2j d m n S c)) c S.length).2
theorem zlR{g:List Nat}(hg:g∈zha d m n S c):∃w,Lead d m n (S.getD (z2j d m n S c) 0) (S.getD (z2j d m n S c) 0) w/\g=z3U d w (z3i S (z2j d m n S c)):=by
 have hI:=zwd hd hn hS (c:=c) S.length (Z8 _)
 obtain⟨j,hj,rfl⟩:=Zn hg
 obtain⟨l1,l2,l3⟩:=zdq hI (j:=j) (by rw[hI.len];exact hj)
 have hj':j<(zkc d m n S (z3i S (z2j d m n S c)) c S.length).2.length:=hj
 rw[List.getD,Z1 hj',Z4] at l3
 exact⟨_,l1,l3⟩
theorem zuP(hk:k<S.length)(h:Lead d m n (S.getD k 0) (S.getD k 0) w):PermL (z3i S k).length (z3U d w (z3i S k)):=by
 obtain⟨p1,p2,_⟩:=zbB hd hn hS hk h
 exact⟨zdb _ _ _,p1,p2⟩
theorem zvd(gH:c<(z6W d m n S).length):∀g∈zha d m n S c,PermL (z3i S (z2j d m n S c)).length g:=fun g hg=>by
 obtain⟨w,h,rfl⟩:=zlR hd hn hS hg
 exact zuP hd hn hS (z2S hd hn hS gH).2 h
theorem ziA(gH:c<(z6W d m n S).length){e:List Nat}(h:RchG (z3i S (z2j d m n S c)).length (zha d m n S c) e):∃w,Lead d m n (S.getD (z2j d m n S c) 0) (S.getD (z2j d m n S c) 0) w/\e=z3U d w (z3i S (z2j d m n S c)):=by
 have hk:=(z2S hd hn hS gH).2
 induction h with
 |one=>exact⟨[],zxA hd hn hS hk,(zxg hd hn hS hk).symm⟩
 |step e g _ hg ih=>
  obtain⟨w,h1,rfl⟩:=ih
  obtain⟨v,h2,rfl⟩:=zlR hd hn hS hg
  exact⟨w++v,z9S h1 h2,zxh hd hn hS hk h1⟩
theorem zn7(hk:k<S.length)(hw:zf8 m w)(hv:zf8 m v)(h:zhW d n w=zhW d n v):z3U d w (z3i S k)=z3U d v (z3i S k):=by
 obtain⟨_,h2⟩:=z8R hd hn hS hk
 refine ZA fun t ht=> ?_
 have ha:∀i,i<n->z6y d i w=z6y d i v:=fun i hi=>by
  have:=congrArg (fun l=>l.getD i 0) h
  simpa[zhW,List.getD,hi] using this
 have e:z4D d t w=z4D d t v:=Y0 fun p=>by
  rw[Yh,zaj hd hw (h2 t ht).2.2,zaj hd hv (h2 t ht).2.2]
  refine exists_congr fun i=>and_congr_right fun hi=>and_congr_right fun _=> ?_
  rw[ha i hi]
 rw[e]
theorem ztg(gH:c<(z6W d m n S).length)(hn4:n<=4):∀l:List (List Nat),l.Nodup->(∀e∈l,RchG (z3i S (z2j d m n S c)).length (zha d m n S c) e)->l.length<=2000:=fun l gJ hl=>by
 have hk:=(z2S hd hn hS gH).2
 have jL:∀e∈l,∃w,zf8 m w/\e=z3U d w (z3i S (z2j d m n S c)):=fun e he=>by
  obtain⟨w,h1,h2⟩:=ziA hd hn hS gH (hl e he)
  exact⟨w,h1.hw,h2⟩
 obtain⟨wd,jH⟩:∃wd:List Nat->List UInt8,∀e∈l,zf8 m (wd e)/\e=z3U d (wd e) (z3i S (z2j d m n S c)):=by
  classical
  exact⟨fun e=>if h:∃w,zf8 m w/\e=z3U d w (z3i S (z2j d m n S c)) then h.choose else [],fun e he=>by
   simp only
   rw[dif_pos (jL e he)];exact(jL e he).choose_spec⟩
 have gF:∀e∈l,∀x∈zhW d n (wd e),x<n:=fun e he x hx=>by
  obtain⟨q,hq,rfl⟩:=Zh.1 hx
  exact zdI hd (Zj.1 hq) (jH e he).1
 have gD:∀e,(zhW d n (wd e)).length=n:=fun e=>by simp[zhW]
 have h1:(l.map fun e=>zrv n (zhW d n (wd e))).Nodup:=z5z gJ fun x hx y hy e=>by
  have:=zjP (gF x hx) (gF y hy) (by rw[gD x,gD y]) e
  rw[(jH x hx).2,(jH y hy).2,zn7 hd hn hS hk (jH x hx).1 (jH y hy).1 this]
 have h2:=z1C h1 (N:=n^n) fun x hx=>by
  obtain⟨e,he,rfl⟩:=Zh.1 hx
  have:=znH (gF e he)
  rwa [gD] at this
 rw[Zg] at h2
 have h3:n^n<=4^4:=ZR (Nat.pow_le_pow_left hn4 n) (Zl (by omega) hn4)
 omega
end
theorem zvB:∀a,a<2->∀b,b<2->∀q,q<7->((defT.getD (((defT.getD q []).getD a 0).toNat) []).getD b 0)=((defT.getD (((defT.getD 0 []).getD a 0).toNat) []).getD b 0):=by decide
theorem zBY:∀p,p<7->szN (2^p)=1:=by decide
section
variable {d:DFA} (hd:DfaOk d 2 7) (hT:d.next=defT)
include hd hT
omit hd in
theorem zvC{a b:UInt8}(h:zf8 2 (a::b::w)){q:Nat}(hq:q<7):z6y d q (a::b::w)=z6y d 0 (a::b::w):=by
 have ha:=(z8l h).2
 have hb:=(z8l (z8l h).1).2
 have:=zvB _ ha _ hb q hq
 have e:nxN d (nxN d q (a.toNat-97)) (b.toNat-97)=nxN d (nxN d 0 (a.toNat-97)) (b.toNat-97):=by
  unfold nxN;rw[hT,this]
 rw[z6y,z6y,z6y,z6y,e]
theorem zB9{K:Nat}(h:Lead d 2 7 K K w)(hw:w≠ [])(hK:K≠0):szN K=1:=by
 have h2:=z9S h h
 have jO:∀p q,K.testBit p=true->K.testBit q=true->p=q:=fun p q hp hq=>by
  have hr:∀p,K.testBit p=true->∃i,i<7/\z6y d i (w++w)=p:=fun p hp=>by
   have:(z4D d K (w++w)).testBit p=true:=by rw[h2.run];exact hp
   obtain⟨i,i1,_,i3⟩:=(zaj hd h2.hw h.hK).1 this
   exact⟨i,i1,i3⟩
  obtain⟨i,i1,i2⟩:=hr p hp
  obtain⟨j,j1,j2⟩:=hr q hq
  have hl:=h2.hw
  revert i2 j2 hl
  cases w with
  |nil=>exact absurd rfl hw
  |cons a w=>
   obtain⟨b,v,e⟩:∃b v,(a::w)++(a::w)=a::b::v:=by
    cases w with
    |nil=>exact⟨a,[],rfl⟩
    |cons b w=>exact⟨b,w++(a::b::w),rfl⟩
   rw[e]
   intro i2 j2 hl
   rw[←i2,←j2,zvC hT hl i1,zvC hT hl j1]
 obtain⟨p,hp⟩:∃p,K.testBit p=true:=by
  refine Y8 fun hh=>hK (Y0 fun q=> ?_)
  rw[Xp]
  cases hb:K.testBit q with
  |false=>rfl
  |true=>exact absurd ⟨q,hb⟩ hh
 have hp7:=zpF h.hK hp
 have e:K=2^p:=Y0 fun q=>by grind
 rw[e];exact zBY p hp7
end
theorem zy9{d:DFA}{m n:Nat}{S:List Nat}(hd:DfaOk d m n)(hn:n<=7)(hS:SetsP d m n S)(h7:n=7/\m=2/\d.next=defT)(gH:c<(z6W d m n S).length)(hz:szN (S.getD (z2j d m n S c) 0)≠1)(gC:∀x∈S,x≠0):zha d m n S c= []:=by
 obtain⟨rfl,rfl,hT⟩:=h7
 have hk:=(z2S hd hn hS gH).2
 have kZ:∀i a,i<S.length->a<2->clN d 2 7 S i=c->zhM d 2 7 S (z3i S (z2j d 2 7 S c)) i ([],[]) a=([],[]):=fun i a hi ha hc=>by
  unfold zhM
  split
  · rename_i hj
    obtain⟨l1,l2⟩:=znu hd hn hS hi ha hj
    have hf:z2j d 2 7 S c=z6e d 2 7 S i:=by unfold z2j;rw[←hc];rfl
    rw[←hf] at l1
    refine absurd (zB9 hd hT l1 (fun e=> ?_) (gC _ (z0i hk))) hz
    have:=congrArg List.length e
    unfold hwN at this
    rw[zdB,zdB,z8W] at this
    simp at this
  · rfl
 have gM:∀i,i<S.length->clN d 2 7 S i=c->∀a,a<=2->zmp d 2 7 S (z3i S (z2j d 2 7 S c)) i ([],[]) a=([],[]):=fun i hi hc a=>by
  induction a with
  |zero=>intro _;rfl
  |succ a ih=>intro ha;rw[zja,ih (by omega),kZ i a hi (by omega) hc]
 have jC:∀k,k<=S.length->zkc d 2 7 S (z3i S (z2j d 2 7 S c)) c k=([],[]):=fun k=>by
  induction k with
  |zero=>intro _;rfl
  |succ k ih=>
   intro hk
   rw[zpO,ih (by omega)]
   split
   · grind
   · rfl
 unfold zha
 rw[jC _ (Z8 _)]
theorem zB1{d:DFA}{m n:Nat}{S:List Nat}(hd:DfaOk d m n)(hn:n<=7)(hS:SetsP d m n S)(hs:n<=4∨(n=7/\m=2/\d.next=defT))(gH:c<(z6W d m n S).length)(hz:szN (S.getD (z2j d m n S c) 0)≠1)(gC:∀x∈S,x≠0):∀l:List (List Nat),l.Nodup->(∀e∈l,RchG (z3i S (z2j d m n S c)).length (zha d m n S c) e)->l.length<=2000:=by
 rcases hs with h4|h7
 · exact ztg hd hn hS gH h4
 · intro l gJ hl
   have hg:=zy9 hd hn hS h7 gH hz gC
   have jO:∀e∈l,e∈ [List.range (z3i S (z2j d m n S c)).length]:=fun e he=>by
    have:=hl e he
    rw[hg] at this
    rw[Zi]
    induction this with
    |one=>rfl
    |step e g _ hg _=>simp at hg
   have:=z7F gJ jO
   simp at this
   omega
end
section
open Go
variable{v w:List UInt8}{K c q:Nat}
def zeQ(n K:Nat):List Nat:=(List.range n).filter fun q=>K.testBit q
theorem zei{n:Nat}:q∈zeQ n K↔q<n/\K.testBit q=true:=by
 unfold zeQ;rw[ZV,Zj]
theorem ztq(n K:Nat):(zeQ n K).Nodup:=YE _ YK
theorem zAd(n K:Nat):(zeQ n K).length<=n:=ZR (ZL _ _) (by simp)
section
variable {d:DFA} {m n:Nat} (hd:DfaOk d m n) (hn:n<=7)
include hd hn
theorem zmX(hq:q<n)(hw:zf8 m w):z4D d (2^q) w=2^z6y d q w:=Y0 fun p=>by
 have _u:=hn
 rw[Yh,zaj hd hw (Yq (by omega) hq),Y9,decide_eq_true_eq]
 constructor
 · rintro⟨i,hi,h1,h2⟩
   rw[Y9,decide_eq_true_eq] at h1
   rw[h1,h2]
 · intro h
   exact⟨q,hq,by rw[Nat.testBit_two_pow_self],h⟩
theorem zpQ(h:Lead d m n K K w):((zeQ n K).map fun q=>z6y d q w).Nodup/\ ∀x∈(zeQ n K).map fun q=>z6y d q w,x∈zeQ n K:=by
 have kX:∀q,K.testBit q=true->z6H (2^q) K:=fun q hq=>z2e.2 fun p hp=>by
  rw[Y9,decide_eq_true_eq] at hp
  rw[←hp];exact hq
 refine⟨z5z (ztq n K) fun x hx y hy e=> ?_,fun x hx=> ?_⟩
 · obtain⟨x1,x2⟩:=zei.1 hx
   obtain⟨y1,y2⟩:=zei.1 hy
   have:=zdj hd hn h (kX x x2) (kX y y2) (by rw[zmX hd hn x1 h.hw,zmX hd hn y1 h.hw,e])
   exact(Nat.pow_right_inj (show 1<2 by omega)).1 this
 · obtain⟨q,hq,rfl⟩:=Zh.1 hx
   obtain⟨q1,q2⟩:=zei.1 hq
   have hb:(z4D d K w).testBit (z6y d q w)=true:=(zaj hd h.hw h.hK).2 ⟨q,q1,q2,rfl⟩
   rw[h.run] at hb
   exact zei.2 ⟨zdI hd q1 h.hw,hb⟩
theorem zwf(hw:Lead d m n K K w)(hv:Lead d m n K K v)(h5:n<=5)(h:((zeQ n K).take 4).map (fun q=>z6y d q w)=((zeQ n K).take 4).map fun q=>z6y d q v):∀q∈zeQ n K,z6y d q w=z6y d q v:=by
 obtain⟨w1,w2⟩:=zpQ hd hn hw
 obtain⟨v1,v2⟩:=zpQ hd hn hv
 have hl:=zAd n K
 intro q hq
 obtain⟨j,hj,rfl⟩:=Zn hq
 by_cases h4:j<4
 · have:=congrArg (fun l=>l.getD j 0) h
   simpa[List.getD,h4,hj] using this
 · have hj4:j=4:=by omega
   subst hj4
   have hl5:(zeQ n K).length=5:=by omega
   have jM:zeQ n K=(zeQ n K).take 4++ [(zeQ n K)[4]]:=by
    rw[←ZB hj]
    exact(Ym (by omega)).symm
   apply Y8
   intro gK
   have ew:(zeQ n K).map (fun q=>z6y d q w)=((zeQ n K).take 4).map (fun q=>z6y d q w)++ [z6y d (zeQ n K)[4] w]:=by
    have:=congrArg (List.map fun q=>z6y d q w) jM
    rw[ZI,Zt,Yt] at this
    exact this
   have ev:(zeQ n K).map (fun q=>z6y d q v)=((zeQ n K).take 4).map (fun q=>z6y d q w)++ [z6y d (zeQ n K)[4] v]:=by
    have:=congrArg (List.map fun q=>z6y d q v) jM
    rw[ZI,Zt,Yt] at this
    rw[h];exact this
   rw[ew] at w1 w2
   rw[ev] at v1 v2
   have gJ:(((zeQ n K).take 4).map (fun q=>z6y d q w)++ [z6y d (zeQ n K)[4] w,z6y d (zeQ n K)[4] v]).Nodup:=by
    have a1:=Yj.1 w1
    have a2:=Yj.1 v1
    refine Yj.2 ⟨a1.1,by simpa using gK,fun a ha b hb=> ?_⟩
    rcases Zv.1 hb with rfl|hb
    · exact a1.2.2 a ha _ (by simp)
    · obtain rfl:=Zi.1 hb
      exact a2.2.2 a ha _ (by simp)
   have:=z7F gJ (r:=zeQ n K) fun x hx=>by
    rcases Ze.1 hx with hx|hx
    · exact w2 x (Ze.2 (.inl hx))
    · rcases Zv.1 hx with rfl|hx
      · exact w2 _ (by simp)
      · obtain rfl:=Zi.1 hx
        exact v2 _ (by simp)
   simp only[Z7,Zg,Zp,Zq,Ys] at this
   omega
variable {S:List Nat} (hS:SetsP d m n S)
include hS
theorem zn6{k:Nat}(hk:k<S.length)(hw:zf8 m w)(hv:zf8 m v)(h:∀q∈zeQ n (S.getD k 0),z6y d q w=z6y d q v):z3U d w (z3i S k)=z3U d v (z3i S k):=by
 obtain⟨_,h2⟩:=z8R hd hn hS hk
 refine ZA fun t ht=> ?_
 have e:z4D d t w=z4D d t v:=Y0 fun p=>by
  rw[Yh,zaj hd hw (h2 t ht).2.2,zaj hd hv (h2 t ht).2.2]
  refine exists_congr fun i=>and_congr_right fun hi=>and_congr_right fun hb=> ?_
  rw[h i (zei.2 ⟨hi,z2e.1 (h2 t ht).2.1 i hb⟩)]
 rw[e]
theorem zqI(gH:c<(z6W d m n S).length)(h5:n<=5):∀l:List (List Nat),l.Nodup->(∀e∈l,RchG (z3i S (z2j d m n S c)).length (zha d m n S c) e)->l.length<=2000:=fun l gJ hl=>by
 have hk:=(z2S hd hn hS gH).2
 have jL:∀e∈l,∃w,Lead d m n (S.getD (z2j d m n S c) 0) (S.getD (z2j d m n S c) 0) w/\e=z3U d w (z3i S (z2j d m n S c)):=fun e he=>ziA hd hn hS gH (hl e he)
 obtain⟨wd,jH⟩:∃wd:List Nat->List UInt8,∀e∈l,Lead d m n (S.getD (z2j d m n S c) 0) (S.getD (z2j d m n S c) 0) (wd e)/\e=z3U d (wd e) (z3i S (z2j d m n S c)):=by
  classical
  exact⟨fun e=>if h:∃w,Lead d m n (S.getD (z2j d m n S c) 0) (S.getD (z2j d m n S c) 0) w/\e=z3U d w (z3i S (z2j d m n S c)) then h.choose else [],fun e he=>by
   simp only
   rw[dif_pos (jL e he)];exact(jL e he).choose_spec⟩
 let cd:=fun e=>((zeQ n (S.getD (z2j d m n S c) 0)).take 4).map fun q=>z6y d q (wd e)
 have gF:∀e∈l,∀x∈cd e,x<5:=fun e he x hx=>by
  obtain⟨q,hq,rfl⟩:=Zh.1 hx
  have:=zdI hd (zei.1 (ZK hq)).1 (jH e he).1.hw
  omega
 have gD:∀e f,(cd e).length=(cd f).length:=fun e f=>by simp[cd]
 have qK:∀e,(cd e).length<=4:=fun e=>by simp[cd];omega
 have h1:(l.map fun e=>zrv 5 (cd e)).Nodup:=z5z gJ fun x hx y hy e=>by
  have:=zjP (gF x hx) (gF y hy) (gD x y) e
  rw[(jH x hx).2,(jH y hy).2,zn6 hd hn hS hk (jH x hx).1.hw (jH y hy).1.hw (zwf hd hn (jH x hx).1 (jH y hy).1 h5 this)]
 have h2:=z1C h1 (N:=5^4) fun x hx=>by
  obtain⟨e,he,rfl⟩:=Zh.1 hx
  exact Zy (znH (gF e he)) (Zl (by omega) (qK e))
 rw[Zg] at h2
 omega
theorem zy0(hs:n<=5∨(n=7/\m=2/\d.next=defT))(gH:c<(z6W d m n S).length)(hz:szN (S.getD (z2j d m n S c) 0)≠1)(gC:∀x∈S,x≠0):∀l:List (List Nat),l.Nodup->(∀e∈l,RchG (z3i S (z2j d m n S c)).length (zha d m n S c) e)->l.length<=2000:=by
 rcases hs with h5|h7
 · exact zqI hd hn hS gH h5
 · exact zB1 hd hn hS (.inr h7) gH hz gC
end
end
section
open Go
def zqz(d:DFA)(m n:Nat)(S O:List Nat):List Int:=toI ((List.range O.length).map (szO d m n S O))
section
variable {d:DFA} {m n:Nat} {S:List Nat} (hd:DfaOk d m n) (hn:n<=7) (hS:SetsP d m n S) {O:List Nat} (hH:zhI d m n S) (hO:OrdC d m n S O) (gC:∀x∈S,x≠0) (gE:∀i k,i<S.length->k<S.length->zaA S k=true->z6Y d m n S i k=true->zaA S i=true)
include hd hn hS hH hO gC gE
end
end
section
open Go
variable{x y:List Nat}{k:Nat}
section
variable {d:DFA} {m n:Nat} {S O:List Nat}
theorem zon(a:Nat):∀(x:List Nat) (c o i k:Nat),(stN d m n S O a c o i x).take k=stN d m n S O a c o i (x.take k)
 | [],c,o,i,k=>by simp[stN]
 |s::x,c,o,i,0=>by simp[stN]
 |s::x,c,o,i,k+1=>by
  simp only[stN,Xd]
  rw[zon a x]
theorem zsz{a:Nat}(h:x.take k=y.take k)(hx:k<x.length)(hy:k<y.length):(z8i d m n S O a x).getD k []=(z8i d m n S O a y).getD k []:=by
 have e1:=(zl3 (d:=d) (m:=m) (n:=n) (S:=S) (O:=O) a x 0 0 0 k hx).1
 have e2:=(zl3 (d:=d) (m:=m) (n:=n) (S:=S) (O:=O) a y 0 0 0 k hy).1
 rw[←XX,zon] at e1 e2
 unfold z8i
 rw[e1,e2,h]
theorem zqX(h:x.take k=y.take k)(hx:k<x.length)(hy:k<y.length):z2I d m n S O x k=z2I d m n S O y k:=by
 unfold z2I
 exact ZA fun a _=>zsz h hx hy
theorem zqC{L:Nat}{M:List (List Nat)}{R:List za7}(h:RowsOk (z2I d m n S O) L M R)(hM:∀x∈M,x.length=L)(r:za7):r∈R↔ ∃x∈M,∃i,i<L/\r=(x.take i,z2I d m n S O x i):=by
 refine⟨h.of r,?_⟩
 rintro⟨x,hx,i,hi,rfl⟩
 obtain⟨r,hr,e⟩:=h.al x hx i hi
 obtain⟨y,hy,j,hj,e2⟩:=h.of r hr
 have vB:=hM x hx
 have vA:=hM y hy
 subst e2
 simp only at e
 have j8:j=i:=by
  have:=congrArg List.length e
  rw[Zp,Zp] at this
  omega
 subst j8
 rw[←e,←zqX e (by omega) (by omega)]
 exact hr
end
section
variable {d:DFA} {m n:Nat} {S:List Nat} (hd:DfaOk d m n) (hn:n<=7) (hS:SetsP d m n S) {O:List Nat} (hH:zhI d m n S) (hO:OrdC d m n S O) (gC:∀x∈S,x≠0)
include hd hn hS hH hO gC
theorem zk1(h0:0<S.length):∀(f i:Nat) (T T':List (List Nat)),(∀t∈T,zeJ d m n S O t)->T.Nodup->T.length<=2000->zk2 (z5n d m n S O) m f i T=some T'->(∀t∈T',zeJ d m n S O t)/\T'.Nodup/\T'.length<=2000/\ ∃X,T'=T++X
 |0,i,T,T',h1,h2,h3,h=>by
  simp only[zk2,Z9] at h
  subst h;exact⟨h1,h2,h3,[],by simp⟩
 |f+1,i,T,T',h1,h2,h3,h=>by
  simp only[zk2] at h
  split at h
  · rename_i hi
    cases hb:zmt (fun a=>z5n d m n S O a (T.getD i [])) m 0 T with
    |none=>rw[hb,Option.bind_none] at h;cases h
    |some U=>
     rw[hb,Z0] at h
     obtain⟨⟨X,e⟩,u2,u3,u4,_⟩:=zdF m 0 T U (fun b _ _=>(zah hd hn hS hH hO gC (a:=b) (h1 _ (z9c hi)) h0).1) h1 h2 h3 hb
     obtain⟨v1,v2,v3,Z,v4⟩:=zk1 h0 f (i+1) U T' u2 u3 u4 h
     exact⟨v1,v2,v3,X++Z,by rw[v4,e,Zu]⟩
  · simp only[Z9] at h
    subst h;exact⟨h1,h2,h3,[],by simp⟩
end
end
section
open Go
theorem zvy{L:Nat}{h:Hol}{Q:List (List Nat)}(et:h.tiles.length=L)(ep:h.perms=Q.map toI)(hQ:∀g∈Q,PermL L g)(h1:1<=L)(h2:L<=32)(hl:Q.length<=1000)
 (hB:∀l:List (List Nat),l.Nodup->(∀e∈l,RchG L Q e)->l.length<=2000):∃S,z3k h=some (S,0):=by
 have e0:toI (List.range L)=(List.range L).map fun k:Nat=>(k:Int):=rfl
 have yI:(Q.map toI).all (zgB L)=true:=Zr.2 fun x hx=>by
  obtain⟨g,hg,rfl⟩:=Zh.1 hx
  have:=hQ g hg
  refine zjf.2 ⟨by rw[z0b,this.len],fun y hy=> ?_,?_⟩
  · obtain⟨z,hz,rfl⟩:=Zh.1 hy
    have:=this.lt z hz
    omega
  · exact YA _ (fun a b (jG:a≠b)=>by intro e;exact jG (by omega)) this.nd
 have hH:z3k h=if Q= [] then some ([toI (List.range L)],0) else(z5L (Q.map toI)).bind fun v=>some (v.1,v.2):=by
  unfold z3k
  rw[et,ep,if_neg (by omega),if_neg (by omega),zxf (by omega) (by rw[Zg];omega),Z0,yI,if_pos rfl,z0e _ (by unfold z0D;omega),Z2]
  refine z0q (s:=((0:Int),List.replicate L (0:Int))) L (fun k=>((k:Int),z9R L (fun k=>(k:Int)) (fun _=>0) k)) (by rw[z8V];congr 1;exact(Zf (by simp) fun i h1 h2=>by simp)) (by simp only[LFm];omega) (fun k hk=> ?_) ?_
  · simp only[z5b]
    rw[et,if_pos (by omega),z5P hk,Z0,z0H (by omega),Z2,z4c (f:=fun k=>(k:Int)) hk]
  · simp only[z5b]
    rw[et,ep,if_neg (by omega),z8U,←e0,Zg]
    by_cases hq:Q= []
    · subst hq
      rw[if_pos (by simp),if_pos rfl]
    · rw[if_neg (by have:=ZM.2 hq;omega),if_neg hq]
 rw[hH]
 by_cases hq:Q= []
 · rw[if_pos hq];exact⟨_,rfl⟩
 · obtain⟨S,s1,_⟩:=zAU hQ h1 h2 hB hq (by omega)
   rw[if_neg hq,s1]
   exact⟨_,rfl⟩
section
variable {d:DFA} {m n:Nat} {S:List Nat} (hd:DfaOk d m n) (hn:n<=7) (hS:SetsP d m n S)
include hd hn hS
theorem zy5(hs:n<=5∨(n=7/\m=2/\d.next=defT)){c:Nat}(gH:c<(z6W d m n S).length)(hz:szN (S.getD (z2j d m n S c) 0)≠1)(gC:∀x∈S,x≠0)(h32:S.length<=32):
 ∃E,z3k (zbX d m n S c)=some (E,0):=by
 have hP:=zvd hd hn hS gH
 obtain⟨ho,_⟩:=zv5 hd hn hS gH hz gC h32
 have et:(zbX d m n S c).tiles.length=(z3i S (z2j d m n S c)).length:=z0b _
 have t1:=ho.t1
 have t2:=ho.t2
 have qQ:(zha d m n S c).length<=1000:=by
  have h1:=ho.wp
  have h2:=ho.wl
  have:(zbX d m n S c).perms.length=(zha d m n S c).length:=Zg _
  omega
 exact zvy et rfl hP (by omega) (by omega) qQ (zy0 hd hn hS hs gH hz gC)
end
end
section
open Go Go.IntKind
noncomputable section
variable{a0:Frm}{mp:List (ByteArray×CRow)}{a1:List (List Int)}
attribute [local simp] cfRw
abbrev RMs:=Option (List (List (List Int)))
abbrev zbx(v:List (List (List Int)))(w28:Int)(k:ByteArray)(c:List Int)(mp:List (ByteArray×CRow)):Int×List (List Int)->Option ((Int×List (List Int))⊕((Int×List (ByteArray×CRow)×RMs)⊕((Int×List (ByteArray×CRow))⊕List (ByteArray×CRow))))
 |(w54,acc)=>
 if w54<(v.length:Int) then
  (atI v w54).bind fun m=>
  (atI m w28).bind fun e=>
  chk (z1n 24 (acc.length+1))<|
  z0c (i64.wrap (w54+1),acc++ [e])
 else
  z0d<|
  z0c (i64.wrap (w28+1),z8h k ⟨c,acc⟩ mp,some v)
abbrev zcm(a0:Frm)(x:List Int)(w22:Int):Int×List (ByteArray×CRow)×RMs->Option ((Int×List (ByteArray×CRow)×RMs)⊕((Int×List (ByteArray×CRow))⊕List (ByteArray×CRow)))
 |(w28,mp,ms)=>
 if w28<(x.length:Int) then
  (z6B x 0 w28).bind fun p=>
  (z4g p).bind fun k=>
  (z7r k mp).elim
    (match ms with
    |some v=>
     chk (¬v.length=0)<|
     (z9F p).bind fun c=>
     z0h (zbx v w28 k c mp) LFm (0,[])
    |none=>
     (z2R a0 x).bind fun v=>
     (z9F p).bind fun c=>
     z0h (zbx v w28 k c mp) LFm (0,[]))
    fun _=>z0c (i64.wrap (w28+1),mp,ms)
 else
  z0d<|
  z0c (i64.wrap (w22+1),mp)
abbrev zj9(a0:Frm)(a1:List (List Int)):Int×List (ByteArray×CRow)->Option ((Int×List (ByteArray×CRow))⊕List (ByteArray×CRow))
 |(w22,mp)=>
 if w22<(a1.length:Int) then
  (atI a1 w22).bind fun x=>
  z0h (zcm a0 x w22) LFm (0,mp,none)
 else
  z0d<|
  chk (z0D 48 (mp.length:Int))<|
  some mp
abbrev zEv(mp:List (ByteArray×CRow)):T:=.mt none (mp.map fun x0=>.string x0.1) (mp.map fun x0=>.agg [.sl x0.2.pre.length (x0.2.pre.map fun x1=>.sc (.int .i64 x1)),.sl x0.2.maps.length (x0.2.maps.map fun x1=>.sl x1.length (x1.map fun x2=>.sc (.int .i64 x2)))])
theorem zsV(k:ByteArray)(c:List Int)(ms:List (List Int))(mp:List (ByteArray×CRow)):zaC (.string k) (.agg [.sl c.length (c.map fun x1=>.sc (.int .i64 x1)),.sl ms.length (ms.map fun x1=>.sl x1.length (x1.map fun x2=>.sc (.int .i64 x2)))]) (mp.map fun x0=>.string x0.1) (mp.map fun x0=>.agg [.sl x0.2.pre.length (x0.2.pre.map fun x1=>.sc (.int .i64 x1)),.sl x0.2.maps.length (x0.2.maps.map fun x1=>.sl x1.length (x1.map fun x2=>.sc (.int .i64 x2)))])=((z8h k ⟨c,ms⟩ mp).map (fun x0=>.string x0.1),(z8h k ⟨c,ms⟩ mp).map fun x0=>.agg [.sl x0.2.pre.length (x0.2.pre.map fun x1=>.sc (.int .i64 x1)),.sl x0.2.maps.length (x0.2.maps.map fun x1=>.sl x1.length (x1.map fun x2=>.sc (.int .i64 x2)))]):=
 zsU k ⟨c,ms⟩ (fun x0:ByteArray×CRow=>.agg [.sl x0.2.pre.length (x0.2.pre.map fun x1=>.sc (.int .i64 x1)),.sl x0.2.maps.length (x0.2.maps.map fun x1=>.sl x1.length (x1.map fun x2=>.sc (.int .i64 x2)))]) mp
attribute [local simp] zsV znD
instance{v:List (List (List Int))}{w28:Int}{k:ByteArray}{c:List Int}:Hd (zbx v w28 k c mp):=⟨fun(w54,acc)=>([(54,xI w54)],[(13,.vr [.os 1 c.length (c.map fun x1=>.sc (.int .i64 x1)),.os 1 acc.length (acc.map fun x1=>.sl x1.length (x1.map fun x2=>.sc (.int .i64 x2)))])])⟩
instance{x:List Int}{w22:Int}:Hd (zcm a0 x w22):=⟨fun(w28,mp,ms)=>([(28,xI w28),(8,match ms with|none=>.one (.k (.slice none 0 0))|some v=>.one (.t none (.sl v.length (v.map fun x0=>.sl x0.length (x0.map fun x1=>.sl x1.length (x1.map fun x2=>.sc (.int .i64 x2)))))))],[(5,zEv mp)])⟩
instance:Hd (zj9 a0 a1):=⟨fun(w22,mp)=>([(22,xI w22)],[(5,zEv mp)])⟩
def zt6(a0:Frm)(a1:List (List Int)):Option (List (ByteArray×CRow)):=z0h (zj9 a0 a1) LFm (0,[])
theorem zx3(h:zt6 a0 a1=some mp):wpC Tryz.prog L cfRw LFm (zxi zhU) (z8g 89 [.pr [.sc (.int .i64 a0.d.letters),.sc (.int .i64 a0.d.start),(tB a0.d.final),(tR a0.d.next),(tI a0.x.sets),(tI a0.x.class_),(tI a0.x.height),(tR a0.x.tiles),(tS a0.x.words),(tS a0.x.back),(tI a0.comp),(tI a0.sizes),(tR a0.tiles),(tR a0.next)],.sl a1.length (a1.map fun x0=>.sl x0.length (x0.map fun x1=>.sc (.int .i64 x1)))]) (fun x fr=>x= .n/\z3g fr.tm 5= .one (.t none (z1Z (zEv mp)))/\z3g fr.tm 16= .one (.h 16 [])/\z2i fr.ob 16=some (.os 2 0 [])/\fr.nt=89):=by
 have h:=z3c h
 unfold zt6 at h
 simp only[z8g,z8q,z8f,zay,z7q]
 exact zmy
def zzc(r:CRow):List CRow->List CRow
 | []=> [r]
 |q::l=>if z9k r.pre q.pre<0 then r::q::l else q::zzc r l
def zqx(l:List CRow):List CRow:=l.foldr zzc []
def zfF(a0:Frm)(a1:List (List Int)):Option (List CRow):=
 (zt6 a0 a1).bind fun mp=>if(mp.map fun e=>e.2.pre).Nodup/\mp.length*48<=140737488355328 then some (zqx (mp.map (·.2))) else none
abbrev zwj(r:CRow):List Int×T:=(r.pre,.sl r.maps.length (r.maps.map fun x1=>.sl x1.length (x1.map fun x2=>.sc (.int .i64 x2))))
theorem zv1(r:CRow):∀l:List CRow,zwl (zwj r) (l.map zwj)=(zzc r l).map zwj
 | []=>rfl
 |q::l=>by
  simp only[Zt,zwl,zzc]
  split
  · rfl
  · rw[zv1 r l];rfl
theorem zop:∀l:List CRow,z5o (l.map zwj)=(zqx l).map zwj
 | []=>rfl
 |r::l=>by
  show zwl (zwj r) (z5o (l.map zwj))=(zzc r (zqx l)).map zwj
  rw[zop l,zv1]
theorem zll:∀l:List CRow,zgt (l.map fun x0=>.agg [.sl x0.pre.length (x0.pre.map fun x1=>.sc (.int .i64 x1)),.sl x0.maps.length (x0.maps.map fun x1=>.sl x1.length (x1.map fun x2=>.sc (.int .i64 x2)))])=some (l.map zwj)
 | []=>rfl
 |r::l=>by
  rw[Zt,zgt,zll l]
  simp only[zx6,z8X,if_true]
  rfl
instance vRowsC_okI:Ok (zfF a0 a1) (fun r=>L 50 [.pr [.sc (.int .i64 a0.d.letters),.sc (.int .i64 a0.d.start),(tB a0.d.final),(tR a0.d.next),(tI a0.x.sets),(tI a0.x.class_),(tI a0.x.height),(tR a0.x.tiles),(tS a0.x.words),(tS a0.x.back),(tI a0.comp),(tI a0.sizes),(tR a0.tiles),(tR a0.next)],.sl a1.length (a1.map fun x0=>.sl x0.length (x0.map fun x1=>.sc (.int .i64 x1)))]=some (.sl r.length (r.flatMap fun x0=> [.sl x0.pre.length (x0.pre.map fun x1=>.sc (.int .i64 x1)),.sl x0.maps.length (x0.maps.map fun x1=>.sl x1.length (x1.map fun x2=>.sc (.int .i64 x2)))]),[.dead,.dead])):=⟨fun r h=>by
 unfold zfF at h
 obtain⟨mp,h1,h2⟩:=z2u h
 split at h2
 case isFalse=>cases h2
 rename_i hc
 obtain⟨gJ,uF⟩:=hc
 have hr:zqx (mp.map (·.2))=r:=YF h2
 have hA:=zx3 h1
 unfold wpC at hA
 obtain⟨x,fr,jQ,hx,h5,h16,ho,qS⟩:=hA
 subst hx
 obtain⟨n,hn⟩:=zhp _ jQ
 refine zoS rfl ⟨n,fun m hm=> ?_⟩
 show xtF (z6r Tryz.prog xt zmb m) _ _=_
 unfold xtF
 rw[if_neg (by decide),if_pos rfl]
 unfold zkk
 rw[hn m hm]
 have e5:z1Z (zEv mp)= .ms none (mp.map fun x0=>.string x0.1) ((mp.map (·.2)).map fun x0=>.agg [.sl x0.pre.length (x0.pre.map fun x1=>.sc (.int .i64 x1)),.sl x0.maps.length (x0.maps.map fun x1=>.sl x1.length (x1.map fun x2=>.sc (.int .i64 x2)))]):=by
  simp
 rw[e5] at h5
 simp only[h5,h16,ho,zll]
 rw[if_pos ⟨by rw[Ya,Ya];exact gJ,by simpa using uF,by simp,by simp[z7q],qS,fun q hq=>by
  obtain⟨z,hz,rfl⟩:=Zh.1 hq
  simp[zwj]⟩]
 rw[zop,hr,Zg,List.flatMap_map]
 rfl⟩
end
end
section
open Go Go.IntKind
noncomputable section
variable{v25:Frm×Int}{v24:List Hol×Int}{a0:List Int}
def z7X(a0:Int):Option (Bool):=
 some (decide (32<a0))
instance{a0:Int}:Ok (z7X a0) (fun r=>L 46 [.sc (.int .i64 a0)]=some (.sc (.bool r),[.dead])):=⟨fun r h=>by have h:=z3c h;unfold z7X at h;exact z4b rfl Tryz.func46 (bdy Tryz.f46 rfl)⟩
abbrev z1l(a0:List Int):Int->Option (Int⊕Int)
 |w10=>
 if w10<(a0.length:Int) then
 (atI a0 w10).bind fun v13=>
 (z7X v13).bind fun v14=>
 if v14=true then
 z0d<|
 some w10
 else
 z0c (i64.wrap (w10+1))
 else
 z0d<|
 some (-1)
instance:Hd (z1l a0):=⟨fun w10=>([(8,xI w10)],[])⟩
def z0Y(a0:List Int):Option (Int):=
 z0h (z1l a0) LFm 0
instance:Ok (z0Y a0) (fun r=>L 96 [(tI a0),.sc (.func (.func 46) #[] #[])]=some (.sc (.int .i64 r),[.dead,.dead])):=⟨fun r h=>by have h:=z3c h;unfold z0Y at h;exact z4b rfl Tryz.func96 (bdy Tryz.f96 rfl)⟩
def z0R(a0:List Int):Option (Bool):=
 (z0Y a0).bind fun v2=>
 some (decide (0<=v2))
instance:Ok (z0R a0) (fun r=>L 45 [(tI a0),.sc (.func (.func 46) #[] #[])]=some (.sc (.bool r),[.dead,.dead])):=⟨fun r h=>by have h:=z3c h;unfold z0R at h;exact z4b rfl Tryz.func45 (bdy Tryz.f45 rfl)⟩
abbrev z5G(a0:DFA)(v24:List Hol×Int)(v25:Frm×Int)(v34:List (List Int)×Int):Int×List Int->Option ((Int×List Int)⊕(Cover×Int))
 |(w37,w38)=>
 if w37<(v34.1.length:Int) then
 (atI v34.1 w37).bind fun v42=>
 (z3E v25.1 v42).bind fun v43=>
 (atI w38 w37).bind fun v44=>
 z0c (i64.wrap (w37+1),(w38.set w37.toNat v43))
 else
 z0d<|
 (zfF v25.1 v34.1).bind fun v45=>
 (z2E v25.1).bind fun v46=>
 some ((⟨⟨a0.letters,v25.1.sizes,v45⟩,v46,v34.1,w38,v24.1⟩:Cover),0)
instance{a0:DFA}{v34:List (List Int)×Int}:Hd (z5G a0 v24 v25 v34):=⟨fun(w37,w38)=>([(72,xI w37)],[(12,(tO w38))])⟩
abbrev z3S(a0:DFA)(v24:List Hol×Int)(v25:Frm×Int):Int->Option (Int⊕(Cover×Int))
 |w29=>
 if w29<(v24.1.length:Int) then
 (atI v24.1 w29).bind fun v32=>
 (z3k v32).bind fun v33=>
 if v33.2=0 then
 z0c (i64.wrap (w29+1))
 else
 z0d<|
 some ((⟨⟨0,[],[]⟩,[],[],[],[]⟩:Cover),3)
 else
 z0d<|
 (z1V v25.1).bind fun v34=>
 if v34.2=0 then
 chk (z0D 8 (v34.1.length:Int))<|
 z0h (z5G a0 v24 v25 v34) LFm (0,List.replicate (v34.1.length:Int).toNat (0:Int))
 else
 some ((⟨⟨0,[],[]⟩,[],[],[],[]⟩:Cover),v34.2)
instance{a0:DFA}:Hd (z3S a0 v24 v25):=⟨fun w29=>([(46,xI w29)],[])⟩
def z5p(a0:DFA):Option (Cover×Int):=
 (z4R a0).bind fun v24=>
 if v24.2=0 then
 (z3I a0).bind fun v25=>
 if v25.2=0 then
 if 24<(v25.1.sizes.length:Int) then
 some ((⟨⟨0,[],[]⟩,[],[],[],[]⟩:Cover),3)
 else
 (z0R v25.1.sizes).bind fun v26=>
 if v26=true then
 some ((⟨⟨0,[],[]⟩,[],[],[],[]⟩:Cover),3)
 else
 z0h (z3S a0 v24 v25) LFm 0
 else
 some ((⟨⟨0,[],[]⟩,[],[],[],[]⟩:Cover),v25.2)
 else
 some ((⟨⟨0,[],[]⟩,[],[],[],[]⟩:Cover),v24.2)
instance{a0:DFA}:Ok (z5p a0) (fun r=>L 15 [.agg [.sc (.int .i64 a0.letters),.sc (.int .i64 a0.start),(tB a0.final),(tR a0.next)]]=some (.tup [.agg [.sc (.int .i64 r.1.casc.letters),(tI r.1.casc.sizes),.sl r.1.casc.rows.length (r.1.casc.rows.flatMap fun x0=> [(tI x0.pre),(tR x0.maps)]),(tI r.1.start),(tR r.1.tuples),(tI r.1.states),.sl r.1.groups.length (r.1.groups.flatMap fun x0=> [.sc (.int .i64 x0.set),(tI x0.tiles),(tS x0.words),(tR x0.perms)])],.sc (.int .i64 r.2)],[.dead])):=⟨fun r h=>by have h:=z3c h;unfold z5p at h;exact zhG rfl Tryz.func15 (bdy Tryz.f15 rfl)⟩
end
end
section
open Go
theorem zwS(T:List (List Nat)):∃Y:List (List Nat),Y.map toI=z9y (T.map toI)/\Y.Perm T:=by
 have hp:=z8F (T.map toI)
 refine⟨(z9y (T.map toI)).map fun x=>x.map Int.toNat,?_,?_⟩
 · rw[Ya]
   refine(ZA fun x hx=> ?_).trans (W4 _)
   obtain⟨e,he,rfl⟩:=Zh.1 (hp.mem_iff.1 hx)
   show toI ((toI e).map Int.toNat)=toI e
   rw[zof]
 · have:=hp.map fun x:List Int=>x.map Int.toNat
   rw[Ya] at this
   have e:((fun x:List Int=>x.map Int.toNat)∘toI)=id:=by funext x;exact zof x
   rwa [e,X2] at this
theorem zgs{f:List Nat->Nat->List (List Nat)}{L:Nat}{M N:List (List Nat)}{R:List za7}(h:RowsOk f L M R)(hp:M.Perm N):RowsOk f L N R:=
 ⟨h.nd,fun r hr=>by obtain⟨x,hx,e⟩:=h.of r hr;exact⟨x,hp.mem_iff.1 hx,e⟩,fun x hx=>h.al x (hp.mem_iff.2 hx)⟩
section
variable {d:DFA} {m n:Nat} {S:List Nat} (hd:DfaOk d m n) (hn:n<=7) (hS:SetsP d m n S) {O:List Nat} (hH:zhI d m n S) (hO:OrdC d m n S O) (gC:∀x∈S,x≠0)
def zwg(d:DFA)(m n:Nat)(S O:List Nat):Prop:=∀T Y:List (List Nat),zk2 (z5n d m n S O) m 2001 0 [z3m d m n S O]=some T->Y.map toI=z9y (T.map toI)->Y.Perm T->∃W:List za7,zfF (z9i d m n S O) (Y.map toI)=some (W.map zeV)/\W.Pairwise ltR/\RowsOk (z2I d m n S O) O.length Y W
include hd hn hS hH hO gC
theorem zsM(gW:S.length<=32):z0R (z9i d m n S O).sizes=some false:=by
 have kB:=zen hd hn hS hH hO
 have gD:((z9i d m n S O).sizes.length:Int)=(O.length:Int):=by simp[z9i,z0b]
 have:z0Y (z9i d m n S O).sizes=some (-1):=by
  unfold z0Y
  refine z0q (s:=(0:Int)) O.length (fun k=>(k:Int)) rfl (by simp only[LFm];omega) (fun k hk=> ?_) ?_
  · have:=zyU (d:=d) (m:=m) (n:=n) (S:=S) (O:=O) k
    simp only[z1l]
    rw[gD,if_pos (by omega),zvk hk,Z0]
    unfold z7X
    rw[Z0,if_neg (by simp;omega),z0H (by omega)]
  · simp only[z1l]
    rw[gD,if_neg (by omega)]
 unfold z0R
 rw[this,Z0]
 rfl
theorem zBc(hR:zwg d m n S O)(hs:n<=5∨(n=7/\m=2/\d.next=defT))(gW:S.length<=32)(h0:0<S.length)(hF:z3I d=some (z9i d m n S O,0))(hG:z4R d=some (O.map (zbX d m n S),0)):
 ∃r,z5p d=some r/\((24<O.length/\r=(zBJ,3))∨(O.length<=24/\((zk2 (z5n d m n S O) m 2001 0 [z3m d m n S O]=none/\r=(zBJ,3))∨(r.2=0/\CovOk d m n S O (zqz d m n S O) (O.map (zbX d m n S)) r.1)))):=by
 have kB:=zen hd hn hS hH hO
 have gL:=zai hd hn hS hH hO gC h0
 have gD:((z9i d m n S O).sizes.length:Int)=(O.length:Int):=by simp[z9i,z0b]
 unfold z5p
 rw[hG,Z0]
 simp only[if_true]
 rw[hF,Z0]
 simp only[if_true]
 rw[gD]
 by_cases h24:24<O.length
 · rw[if_pos (by omega)]
   exact⟨_,rfl,.inl ⟨h24,rfl⟩⟩
 · rw[if_neg (by omega),zsM hd hn hS hH hO gC gW,Z0,if_neg (by simp)]
   have j5:∀ {R:Cover×Int},z3S d (O.map (zbX d m n S),0) (z9i d m n S O,0) (O.length:Int)=z0d (some R)->z0h (z3S d (O.map (zbX d m n S),0) (z9i d m n S O,0)) LFm 0=some R:=fun {R} gY=>by
    refine z0q (s:=(0:Int)) O.length (fun k=>(k:Int)) rfl (by simp only[LFm];omega) (fun k hk=> ?_) gY
    obtain⟨c1,c2⟩:=zAm hd hn hS hH hO hk
    have jN:=hO.prm.mem_iff.1 (z0i hk:O.getD k 0∈O)
    unfold zaX at jN
    have hh:=(ZV.1 jN).2
    simp only[decide_eq_true_eq] at hh
    obtain⟨E,e1⟩:=zy5 hd hn hS hs c1 (zAR hh) gC gW
    have jE:atI (O.map (zbX d m n S)) (k:Int)=some (zbX d m n S (O.getD k 0)):=by
     rw[z0Q (by simpa using hk)];simp[List.getD,hk]
    simp only[z3S]
    rw[Zg,if_pos (by omega),jE,Z0,e1,Z0]
    simp only[if_true]
    rw[z0H (by omega)]
   have gY:z3S d (O.map (zbX d m n S),0) (z9i d m n S O,0) (O.length:Int)=z0d ((z1V (z9i d m n S O)).bind fun v34=>if v34.2=0 then chk (z0D 8 (v34.1.length:Int))<|z0h (z5G d (O.map (zbX d m n S),0) (z9i d m n S O,0) v34) LFm (0,List.replicate (v34.1.length:Int).toNat (0:Int)) else some (zBJ,v34.2)):=by
    simp only[z3S]
    rw[Zg,if_neg (by omega)]
    rfl
   have ht:=zs7 hd hn hS hH hO gC (by omega) h0
   cases hb:zk2 (z5n d m n S O) m 2001 0 [z3m d m n S O] with
   |none=>
    rw[hb] at ht
    refine⟨(zBJ,3),j5 ?_,.inr ⟨by omega,.inl ⟨rfl,rfl⟩⟩⟩
    rw[gY,ht,Z0]
    exact congrArg z0d (if_neg (show ¬(zEr none).2=0 by simp[zEr]))
   |some T=>
    rw[hb] at ht
    obtain⟨t1,t2,t3,_⟩:=zk1 hd hn hS hH hO gC h0 _ _ _ _ (fun t h=>by rw[Zi.1 h];exact gL) (by simp) (by simp) hb
    obtain⟨Y,y1,y2⟩:=zwS T
    obtain⟨W,w1,w2,w3⟩:=hR T Y hb y1 y2
    have uM:Y.length<=2000:=by rw[y2.length_eq];exact t3
    refine⟨(⟨⟨d.letters,zqz d m n S O,W.map zeV⟩,toI (z3m d m n S O),Y.map toI,toI (Y.map (zl4 d m n S O)),O.map (zbX d m n S)⟩,0),j5 ?_,.inr ⟨by omega,.inr ⟨rfl,⟨T,Y,W,hb,y1,y2,w2,zgs w3 y2,rfl⟩⟩⟩⟩
    have ht2:z1V (z9i d m n S O)=some (Y.map toI,0):=by rw[ht,y1];rfl
    rw[gY,ht2,Z0]
    simp only[if_true]
    rw[Zg,z0e _ (by unfold z0D;omega),Z2]
    congr 1
    refine z0q (s:=((0:Int),List.replicate Y.length (0:Int))) Y.length (fun k=>((k:Int),z9R Y.length (fun k=>((zl4 d m n S O (Y.getD k []):Nat):Int)) (fun _=>0) k)) (by rw[z8V];congr 1;exact(Zf (by simp) fun i h1 h2=>by simp)) (by simp only[LFm];omega) (fun k hk=> ?_) ?_
    · have jE:atI (Y.map toI) (k:Int)=some (toI (Y.getD k [])):=by
       rw[z0Q (by simpa using hk)];simp[List.getD,hk]
      have hx:zeJ d m n S O (Y.getD k []):=t1 _ (y2.mem_iff.1 (z9c hk))
      simp only[z5G]
      rw[Zg,if_pos (by omega),jE,Z0,zwP hd hn hS hH hO gC (by omega) h0 hx,Z0,z5P hk,Z0,z0H (by omega),Z2]
      exact congrArg (fun x=>z0c (((k+1:Nat):Int),x)) (z4c (f:=fun k=>((zl4 d m n S O (Y.getD k []):Nat):Int)) hk)
    · have gG:(List.range Y.length).map (fun k=>((zl4 d m n S O (Y.getD k []):Nat):Int))=toI (Y.map (zl4 d m n S O)):=by
       refine Zf (by simp[toI]) fun k h1 h2=> ?_
       have hk:k<Y.length:=by simpa using h1
       simp[toI,List.getD,hk]
      simp only[z5G]
      rw[Zg,if_neg (by omega),z8U,gG,w1,Z0,zom hd hn hS hH hO gC (by omega) h0,Z0]
      rfl
end
end
section
open Go
variable{x:List Nat}
def zwm(r:za7):List za7->List za7
 | []=> [r]
 |q::l=>if ltR r q then r::q::l else q::zwm r l
theorem zp2(r:za7):∀l:List za7,zzc (zeV r) (l.map zeV)=(zwm r l).map zeV
 | []=>rfl
 |q::l=>by
  simp only[Zt,zzc,zwm]
  by_cases h:ltR r q
  · rw[if_pos h,if_pos (show z9k (zeV r).pre (zeV q).pre<0 from h)];rfl
  · rw[if_neg h,if_neg (show ¬z9k (zeV r).pre (zeV q).pre<0 from h),zp2 r l];rfl
def zzK(l:List za7):List za7:=l.foldr zwm []
theorem zl7:∀l:List za7,zqx (l.map zeV)=(zzK l).map zeV
 | []=>rfl
 |r::l=>by
  show zzc (zeV r) (zqx (l.map zeV))=(zwm r (zzK l)).map zeV
  rw[zl7 l,zp2]
theorem zh3(r:za7):∀l:List za7,(zwm r l).Perm (r::l)
 | []=>.refl _
 |q::l=>by
  simp only[zwm]
  split
  · exact .refl _
  · exact((zh3 r l).cons q).trans (.swap r q l)
theorem zgk:∀l:List za7,(zzK l).Perm l
 | []=>.refl _
 |r::l=>(zh3 r (zzK l)).trans ((zgk l).cons r)
theorem zh2{r:za7}:∀ {l:List za7},(∀q∈l,r.1≠q.1)->l.Pairwise ltR->(zwm r l).Pairwise ltR
 | [],_,_=>by simp[zwm]
 |q::l,gK,hs=>by
  obtain⟨h1,h2⟩:=ZC.1 hs
  simp only[zwm]
  split
  · rename_i h
    exact ZC.2 ⟨fun a ha=>by
     rcases Zv.1 ha with rfl|ha
     · exact h
     · exact ztR h (h1 a ha),hs⟩
  · rename_i h
    refine ZC.2 ⟨fun a ha=> ?_,zh2 (fun q hq=>gK q (Zo _ hq)) h2⟩
    rcases Zv.1 ((zh3 r l).mem_iff.1 ha) with rfl|ha
    · exact zCO (gK q (by simp)) h
    · exact h1 a ha
theorem zgj:∀ {l:List za7},l.Pairwise (fun r q=>r.1≠q.1)->(zzK l).Pairwise ltR
 | [],_=>by simp[zzK]
 |r::l,h=>by
  obtain⟨h1,h2⟩:=ZC.1 h
  exact zh2 (fun q hq=>h1 q ((zgk l).mem_iff.1 hq)) (zgj h2)
def zfw(R:List za7):List (ByteArray×CRow):=R.map fun r=>(z1o (toI r.1),zeV r)
theorem zot{k:ByteArray}{v:CRow}:∀ {mp:List (ByteArray×CRow)},(∀e∈mp,e.1≠k)->z8h k v mp=mp++ [(k,v)]
 | [],_=>rfl
 |(a,u)::mp,h=>by
  have h1:¬a=k:=h (a,u) (by simp)
  simp only[z8h]
  rw[if_neg h1,zot fun e he=>h e (Zo _ he)]
  rfl
theorem zpd{p:List Nat}(hp:∀x∈p,x<256):∀ {R:List za7},(∀r∈R,∀x∈r.1,x<256)->((z7r (z1o (toI p)) (zfw R)).isSome=true↔ ∃r∈R,r.1=p)
 | [],_=>by simp[zfw,z7r]
 |r::R,h=>by
  have ih:=zpd hp (R:=R) fun q hq=>h q (Zo _ hq)
  have hr:=h r (by simp)
  show(z7r (z1o (toI p)) ((z1o (toI r.1),zeV r)::zfw R)).isSome=true↔_
  simp only[z7r]
  by_cases e:r.1=p
  · rw[if_pos (by rw[e])]
    exact iff_of_true rfl ⟨r,by simp,e⟩
  · rw[if_neg (fun q=>e (zh6 hr hp q)),ih]
    constructor
    · rintro⟨q,hq,e2⟩;exact⟨q,Zo _ hq,e2⟩
    · rintro⟨q,hq,e2⟩
      rcases Zv.1 hq with rfl|hq
      · exact absurd e2 e
      · exact⟨q,hq,e2⟩
theorem zrL(x:List Nat)(f:Nat->List (List Nat))(k:Nat)(R:List za7):(z7N x f k R).length<=R.length+k:=by
 induction k with
 |zero=>exact Z8 _
 |succ k ih=>
  rw[za5]
  split
  · rw[Z7];simp;omega
  · omega
section
variable {d:DFA} {m n:Nat} {S:List Nat} (hd:DfaOk d m n) (hn:n<=7) (hS:SetsP d m n S) {O:List Nat} (hH:zhI d m n S) (hO:OrdC d m n S O) (gC:∀x∈S,x≠0)
def zhQ(d:DFA)(m n:Nat)(S O:List Nat)(x:List Nat):List (List (List Int)):=(List.range m).map fun a=>(z8i d m n S O a x).map toI
include hd hn hS hH hO gC
theorem zz0(gW:S.length<=255)(h0:0<S.length)(hx:zeJ d m n S O x){i:Nat}(hi:i<O.length)(k:ByteArray)(c:List Int)(mp:List (ByteArray×CRow)):z0h (zbx (zhQ d m n S O x) (i:Int) k c mp) LFm (0,[])=some (.inl (((i+1:Nat):Int),z8h k ⟨c,(z2I d m n S O x i).map toI⟩ mp,some (zhQ d m n S O x))):=by
 have hm6:=hd.m6
 have kB:=zen hd hn hS hH hO
 have qN:(zhQ d m n S O x).length=m:=by simp[zhQ]
 rw[←zzz]
 refine z0q (s:=((0:Int),([]:List (List Int)))) m (fun a=>((a:Int),wC d m n S O x a i)) rfl (by simp only[LFm];omega) (fun a ha=> ?_) ?_
 · have y2:=(zah hd hn hS hH hO gC (a:=a) hx h0).2
   have jE:atI (zhQ d m n S O x) (a:Int)=some ((z8i d m n S O a x).map toI):=by
    rw[z0Q (by rw[qN];exact ha)];simp[zhQ]
   have kG:atI ((z8i d m n S O a x).map toI) (i:Int)=some (toI ((z8i d m n S O a x).getD i [])):=by
    rw[z0Q (by simpa[y2] using hi)]
    simp[List.getD,y2,hi]
   simp only[zbx]
   rw[qN,if_pos (by omega),jE,Z0,kG,Z0,zBN,z0e _ (by unfold z1n;omega),z0H (by omega),←zzy]
 · simp only[zbx]
   rw[qN,if_neg (by omega),z0H (by omega)]
   rfl
theorem zF5(gW:S.length<=255)(h0:0<S.length)(hx:zeJ d m n S O x)(w:Nat)(hw:w<100000){R:List za7}(hR:∀r∈R,∀k∈r.1,k<256):
 z0h (zcm (z9i d m n S O) (toI x) (w:Int)) LFm (0,zfw R,none)=some (.inl (((w+1:Nat):Int),zfw (z7N x (z2I d m n S O x) O.length R))):=by
 have kB:=zen hd hn hS hH hO
 have vB:=hx.1
 have h256:=zo2 gW hx
 have hm1:=hd.m1
 have k8:∀k,∀r∈z7N x (z2I d m n S O x) k R,∀j∈r.1,j<256:=fun k=>by
  induction k with
  |zero=>exact hR
  |succ k ih=>
   intro r hr
   rw[za5] at hr
   split at hr
   · rcases Ze.1 hr with hr|hr
     · exact ih r hr
     · rw[Zi.1 hr]
       exact fun j hj=>h256 j (ZK hj)
   · exact ih r hr
 have jO:∀k,k<O.length->(∀r∈z7N x (z2I d m n S O x) k R,r.1≠x.take k)->z8h (z1o (toI (x.take k))) (⟨toI (x.take k),(z2I d m n S O x k).map toI⟩:CRow) (zfw (z7N x (z2I d m n S O x) k R))=zfw (z7N x (z2I d m n S O x) (k+1) R):=fun k hk gQ=>by
  rw[za5,if_pos gQ,zot fun e he=>by
   obtain⟨r,hr,rfl⟩:=Zh.1 he
   exact fun q=>gQ r hr (zh6 (k8 k r hr) (fun j hj=>h256 j (ZK hj)) q)]
  unfold zfw
  rw[ZI];rfl
 refine Exists.elim (z1r (b:=zcm (z9i d m n S O) (toI x) (w:Int)) (fun z=>∃(k:Nat) (ms:RMs),k<=O.length/\z=((k:Int),zfw (z7N x (z2I d m n S O x) k R),ms)/\(ms=none∨ms=some (zhQ d m n S O x))) (fun z=>O.length+1-z.1.toNat)
  (fun r=>r= .inl (((w+1:Nat):Int),zfw (z7N x (z2I d m n S O x) O.length R))) ?_ LFm (0,zfw R,none) ⟨0,none,by omega,rfl,.inl rfl⟩ (by simp only[LFm];omega)) fun r h=> ?_
 · rintro z ⟨k,ms,hk,rfl,uB⟩
   by_cases hk1:k<O.length
   · left
     have vK:z6B (toI x) 0 (k:Int)=some (toI (x.take k)):=by
      have:=zaW (xs:=toI x) (k:=k) (by rw[z0b];omega)
      rw[this];unfold toI;rw[XX]
     have pL:z4g (toI (x.take k))=some (z1o (toI (x.take k))):=zuS (by rw[Zp];omega) fun j hj=>h256 j (ZK hj)
     have hg:=zpd (p:=x.take k) (fun j hj=>h256 j (ZK hj)) (k8 k)
     have qF:zcm (z9i d m n S O) (toI x) (w:Int) ((k:Int),zfw (z7N x (z2I d m n S O x) k R),ms)=z0c (((k+1:Nat):Int),zfw (z7N x (z2I d m n S O x) (k+1) R),(if ∀r∈z7N x (z2I d m n S O x) k R,r.1≠x.take k then some (zhQ d m n S O x) else ms)):=by
      simp only[zcm]
      rw[z0b,if_pos (by omega),vK,Z0,pL,Z0,z0H (by omega)]
      by_cases gQ:∀r∈z7N x (z2I d m n S O x) k R,r.1≠x.take k
      · have yR:z7r (z1o (toI (x.take k))) (zfw (z7N x (z2I d m n S O x) k R))=none:=by
         cases he:z7r (z1o (toI (x.take k))) (zfw (z7N x (z2I d m n S O x) k R)) with
         |none=>rfl
         |some v=>obtain⟨r,hr,e⟩:=hg.1 (by rw[he];rfl);exact absurd e (gQ r hr)
        have pU:z9F (toI (x.take k))=some (toI (x.take k)):=by
         unfold z9F;rw[if_pos (by rw[z0b,Zp];omega)]
        rw[yR,if_pos gQ]
        rcases uB with rfl|rfl
        · simp only[Option.elim]
          have qT:z2R (z9i d m n S O) (toI x)=some (zhQ d m n S O x):=zAz hd hn hS hH hO gC (by omega) h0 hx
          rw[qT,Z0,pU,Z0,zz0 hd hn hS hH hO gC gW h0 hx hk1,jO k hk1 gQ];rfl
        · simp only[Option.elim]
          rw[z0e _ (by simp[zhQ];omega),pU,Z0,zz0 hd hn hS hH hO gC gW h0 hx hk1,jO k hk1 gQ];rfl
      · have jL:∃r∈z7N x (z2I d m n S O x) k R,r.1=x.take k:=by
         obtain⟨r,hr⟩:=Classical.not_forall.1 gQ
         obtain⟨hr,e2⟩:=Classical.not_imp.1 hr
         exact⟨r,hr,Classical.not_not.1 e2⟩
        obtain⟨v,hv⟩:=ZW.1 (hg.2 jL)
        rw[hv,if_neg gQ,za5,if_neg gQ];rfl
     refine⟨_,qF,⟨k+1,_,by omega,rfl,?_⟩,by simp only;omega⟩
     split
     · exact .inr rfl
     · exact uB
   · right
     have:k=O.length:=by omega
     subst this
     refine⟨_,?_,rfl⟩
     simp only[zcm]
     rw[z0b,if_neg (by omega),z0H (by omega)]
     rfl
 · obtain⟨h3,rfl⟩:=h
   exact h3
theorem zA2(gW:S.length<=255)(h0:0<S.length){Y:List (List Nat)}(hY:∀x∈Y,zeJ d m n S O x)(uM:Y.length<=2000):∃W:List za7,zfF (z9i d m n S O) (Y.map toI)=some (W.map zeV)/\W.Pairwise ltR/\RowsOk (z2I d m n S O) O.length Y W:=by
 let Rk:=fun k=>(Y.take k).foldl (fun R x=>z7N x (z2I d m n S O x) O.length R) ([]:List za7)
 have pT:∀k,(hk:k<Y.length)->Rk (k+1)=z7N Y[k] (z2I d m n S O Y[k]) O.length (Rk k):=fun k hk=>by
  simp only[Rk]
  rw[ZB hk,YT];rfl
 have uK:∀k,k<=Y.length->RowsOk (z2I d m n S O) O.length (Y.take k) (Rk k):=fun k=>by
  induction k with
  |zero=>intro _;exact⟨by simp[Rk],by simp[Rk],by simp⟩
  |succ k ih=>
   intro hk
   rw[pT k (by omega),ZB (show k<Y.length by omega)]
   exact zrK (ih (by omega)) _
 have yZ:∀k,k<=Y.length->∀r∈Rk k,∀j∈r.1,j<256:=fun k hk r hr j hj=>by
  obtain⟨x,hx,i,hi,rfl⟩:=(uK k hk).of r hr
  exact zo2 gW (hY x (ZK hx)) j (ZK hj)
 have kB:=zen hd hn hS hH hO
 have qY:∀k,k<=Y.length->(Rk k).length<=k*O.length:=fun k=>by
  induction k with
  |zero=>intro _;simp[Rk]
  |succ k ih=>
   intro hk
   rw[pT k (by omega),Yo,Nat.one_mul]
   have:=zrL Y[k] (z2I d m n S O Y[k]) O.length (Rk k)
   have:=ih (by omega)
   omega
 have qP:(zfw (Rk Y.length)).length=(Rk Y.length).length:=by simp[zfw]
 have yB:(Rk Y.length).length<=2000*255:=ZR (qY _ (Z8 _)) (XT uM (by omega))
 have hA:zt6 (z9i d m n S O) (Y.map toI)=some (zfw (Rk Y.length)):=by
  unfold zt6
  refine z0q (s:=((0:Int),([]:List (ByteArray×CRow)))) Y.length (fun k=>((k:Int),zfw (Rk k))) (by simp[Rk,zfw]) (by simp only[LFm];omega) (fun k hk=> ?_) ?_
  · have jE:atI (Y.map toI) (k:Int)=some (toI Y[k]):=by
     rw[z0Q (by simpa using hk)];simp
    simp only[zj9]
    rw[Zg,if_pos (by omega),jE,Z0,zF5 hd hn hS hH hO gC gW h0 (hY _ (Zm hk)) k (by omega) (yZ k (by omega)),←pT k hk];rfl
  · simp only[zj9]
    rw[Zg,if_neg (by omega),z0e _ (by unfold z0D;rw[qP];omega)]
 have jS:=uK Y.length (Z8 _)
 rw[Yd] at jS
 have gJ:((zfw (Rk Y.length)).map fun e=>e.2.pre).Nodup:=by
  unfold zfw
  rw[Ya]
  exact YA _ (fun a b (h:a.1≠b.1)=>fun e=>h (zmK e)) jS.nd
 have jT:(zfw (Rk Y.length)).map (·.2)=(Rk Y.length).map zeV:=by
  unfold zfw;rw[Ya];rfl
 refine⟨zzK (Rk Y.length),?_,zgj jS.nd,zmY hd hn hS hH hO gC jS (zgk _)⟩
 unfold zfF
 rw[hA,Z0,if_pos ⟨gJ,by rw[qP];omega⟩,jT,zl7]
end
end
section
open Go
theorem zA3{d:DFA}{m n:Nat}(hd:DfaOk d m n)(hn:n<=7)(h32:(z2a d m n).length<=32){O:List Nat}(hO:OrdC d m n (z2a d m n) O):zwg d m n (z2a d m n) O:=fun T Y hT y1 y2=>by
 have hS:=z8j hd
 have hH:=zdr hd hn
 have gC:∀x∈z2a d m n,x≠0:=fun x hx=>zbw hd hx
 obtain⟨h0,gS⟩:=zbL hd hn
 have gL:=zai hd hn hS hH hO gC h0
 obtain⟨t1,t2,t3,_⟩:=zk1 hd hn hS hH hO gC h0 _ _ _ _ (fun t h=>by rw[Zi.1 h];exact gL) (by simp) (by simp) hT
 exact zA2 hd hn hS hH hO gC (by omega) h0 (fun x hx=>t1 x (y2.mem_iff.1 hx)) (by rw[y2.length_eq];exact t3)
theorem zDa{d:DFA}{m n:Nat}(hd:DfaOk d m n)(hn:n<=7)(hs:n<=5∨(n=7/\m=2/\d.next=defT))(h32:(z2a d m n).length<=32):
 ∃O,OrdC d m n (z2a d m n) O/\O.Perm (zaX d m n (z2a d m n) (z2a d m n).length)/\z4R d=some (O.map (zbX d m n (z2a d m n)),0)/\ ∃r,z5p d=some r/\
  ((24<O.length/\r=(zBJ,3))∨(O.length<=24/\((zk2 (z5n d m n (z2a d m n) O) m 2001 0 [z3m d m n (z2a d m n) O]=none/\r=(zBJ,3))∨(r.2=0/\CovOk d m n (z2a d m n) O (zqz d m n (z2a d m n) O) (O.map (zbX d m n (z2a d m n))) r.1)))):=by
 have hS:=z8j hd
 have hH:=zdr hd hn
 have gC:∀x∈z2a d m n,x≠0:=fun x hx=>zbw hd hx
 obtain⟨h0,gS⟩:=zbL hd hn
 obtain⟨O,hG1,o1,o2⟩:=zCZ hd hn
 have hO:OrdC d m n (z2a d m n) O:=⟨o1,o2⟩
 have hF1:=zlC hd hn hS hH hO (by omega) (zEn hd hn)
 obtain⟨r,r1,r2⟩:=zBc hd hn hS hH hO gC (zA3 hd hn h32 hO) hs h32 h0 hF1 hG1
 exact⟨O,hO,o2,hG1,r,r1,r2⟩
end
section
open Go Go.IntKind
noncomputable section
variable{a2:ByteArray}{a0 a1:List Int}
attribute [-simp] Nat.mul_lt_mul_right
instance:IsS CRow:=⟨⟩
instance:IsS Casc:=⟨⟩
abbrev z8C(a0:List Int):Int->Option (Int⊕Int)
 |w6=>
 if w6<(a0.length:Int) then
 (atI a0 w6).bind fun v8=>
 if v8=0 then
 z0c (i64.wrap (w6+1))
 else
 z0d<|
 some v8
 else
 z0d<|
 some 0
instance:Hd (z8C a0):=⟨fun w6=>([(8,xI w6)],[])⟩
def z9Z(a0:List Int):Option (Int):=
 z0h (z8C a0) LFm 0
instance:Ok (z9Z a0) (fun r=>L 107 [(tI a0)]=some (.sc (.int .i64 r),[.dead])):=⟨fun r h=>by have h:=z3c h;unfold z9Z at h;exact z4b rfl Tryz.func107 (bdy Tryz.f107 rfl)⟩
abbrev z2p(a0:List Int)(a1:List Int):Int->Option (Int⊕Int)
 |w14=>
 if w14<(a0.length:Int) then
 (atI a0 w14).bind fun v18=>
 if(a1.length:Int)<=w14 then
 z0d<|
 some 1
 else
 (atI a1 w14).bind fun v19=>
 (cmp_Compare_int v18 v19).bind fun v20=>
 if v20=0 then
 z0c (i64.wrap (w14+1))
 else
 z0d<|
 some v20
 else
 z0d<|
 if a0.length<a1.length then
 some (-1)
 else
 some 0
instance:Hd (z2p a0 a1):=⟨fun w14=>([(11,xI w14)],[])⟩
def z1G(a0:List Int)(a1:List Int):Option (Int):=
 z0h (z2p a0 a1) LFm 0
instance:Ok (z1G a0 a1) (fun r=>L 101 [(tI a0),(tI a1)]=some (.sc (.int .i64 r),[.dead,.dead])):=⟨fun r h=>by have h:=z3c h;unfold z1G at h;exact z4b rfl Tryz.func101 (bdy Tryz.f101 rfl)⟩
abbrev z3N(a0:List Int)(a1:List Int):Int->Option (Int⊕Bool)
 |w10=>
 if w10<(a1.length:Int) then
 (atI a1 w10).bind fun v13=>
 if v13<0 then
 z0d<|
 some false
 else
 (atI a0 w10).bind fun v14=>
 if v14<=v13 then
 z0d<|
 some false
 else
 z0c (i64.wrap (w10+1))
 else
 z0d<|
 some true
instance:Hd (z3N a0 a1):=⟨fun w10=>([(14,xI w10)],[])⟩
def z2L(a0:List Int)(a1:List Int):Option (Bool):=
 if(a1.length:Int)=(a0.length:Int) then
 z0h (z3N a0 a1) LFm 0
 else
 some false
instance:Ok (z2L a0 a1) (fun r=>L 121 [(tI a0),(tI a1)]=some (.sc (.bool r),[.dead,.dead])):=⟨fun r h=>by have h:=z3c h;unfold z2L at h;exact z4b rfl Tryz.func121 (bdy Tryz.f121 rfl)⟩
abbrev z5c(a0:Casc)(a1:CRow)(w42:Int)(v52:List Int):Int->Option (Int⊕(Int⊕Bool))
 |w56=>
 if w56<(v52.length:Int) then
 (atI v52 w56).bind fun v59=>
 if v59<0 then
 z0d<|
 z0d<|
 some false
 else
 (atI a0.sizes (a1.pre.length:Int)).bind fun v60=>
 if v60<=v59 then
 z0d<|
 z0d<|
 some false
 else
 z0c (i64.wrap (w56+1))
 else
 z0d<|
 z0c (i64.wrap (w42+1))
instance{a0:Casc}{a1:CRow}{w42:Int}{v52:List Int}:Hd (z5c a0 a1 w42 v52):=⟨fun w56=>([(53,xI w56)],[])⟩
abbrev z5x(a0:Casc)(a1:CRow):Int->Option (Int⊕Bool)
 |w42=>
 if w42<(a1.maps.length:Int) then
 (atI a1.maps w42).bind fun v52=>
 (atI a0.sizes (a1.pre.length:Int)).bind fun v53=>
 if(v52.length:Int)=v53 then
 z0h (z5c a0 a1 w42 v52) LFm 0
 else
 z0d<|
 some false
 else
 z0d<|
 some true
instance{a0:Casc}{a1:CRow}:Hd (z5x a0 a1):=⟨fun w42=>([(39,xI w42)],[])⟩
def z5H(a0:Casc)(a1:CRow):Option (Bool):=
 if a0.sizes.length<=a1.pre.length then
 some false
 else
 (z6B a0.sizes 0 (a1.pre.length:Int)).bind fun v31=>
 (z2L v31 a1.pre).bind fun v32=>
 if v32=true then
 if(a1.maps.length:Int)=a0.letters then
 z0h (z5x a0 a1) LFm 0
 else
 some false
 else
 some false
instance{a0:Casc}{a1:CRow}:Ok (z5H a0 a1) (fun r=>L 125 [.agg [.sc (.int .i64 a0.letters),(tI a0.sizes),.sl a0.rows.length (a0.rows.flatMap fun x0=> [(tI x0.pre),(tR x0.maps)])],.agg [(tI a1.pre),(tR a1.maps)]]=some (.sc (.bool r),[.dead,.dead])):=⟨fun r h=>by have h:=z3c h;unfold z5H at h;exact z4b rfl Tryz.func125 (bdy Tryz.f125 rfl)⟩
def z2h(a0:List Int)(a1:List Int):Option (Int):=
 (cmp_Compare_int (a0.length:Int) (a1.length:Int)).bind fun v4=>
 (z1G a0 a1).bind fun v5=>
 (z9Z [v4,v5]).bind fun v6=>
 some v6
instance:Ok (z2h a0 a1) (fun r=>L 126 [(tI a0),(tI a1)]=some (.sc (.int .i64 r),[.dead,.dead])):=⟨fun r h=>by have h:=z3c h;unfold z2h at h;exact z4b rfl Tryz.func126 (bdy Tryz.f126 rfl)⟩
abbrev z5d(a0:Casc):Int->Option (Int⊕Int)
 |w26=>
 if w26<(a0.rows.length:Int) then
 (atI a0.rows w26).bind fun v31=>
 (z5H a0 v31).bind fun v32=>
 if v32=true then
 if 0<w26 then
 (atI a0.rows (i64.wrap (w26-1))).bind fun v33=>
 (z2h v33.pre v31.pre).bind fun v34=>
 if 0<=v34 then
 z0d<|
 some 23
 else
 z0c (i64.wrap (w26+1))
 else
 z0c (i64.wrap (w26+1))
 else
 z0d<|
 some 23
 else
 z0d<|
 some 0
instance{a0:Casc}:Hd (z5d a0):=⟨fun w26=>([(42,xI w26)],[])⟩
abbrev z5y(a0:Casc):Int->Option (Int⊕Int)
 |w19=>
 if w19<(a0.sizes.length:Int) then
 (atI a0.sizes w19).bind fun v21=>
 if v21<1 then
 z0d<|
 some 23
 else
 if 32<v21 then
 z0d<|
 some 23
 else
 z0c (i64.wrap (w19+1))
 else
 z0d<|
 z0h (z5d a0) LFm 0
instance{a0:Casc}:Hd (z5y a0):=⟨fun w19=>([(28,xI w19)],[])⟩
def z5I(a0:Casc):Option (Int):=
 if a0.letters<1 then
 some 1
 else
 if 6<a0.letters then
 some 1
 else
 if 24<(a0.sizes.length:Int) then
 some 3
 else
 if 48000<(a0.rows.length:Int) then
 some 3
 else
 z0h (z5y a0) LFm 0
instance{a0:Casc}:Ok (z5I a0) (fun r=>L 74 [.agg [.sc (.int .i64 a0.letters),(tI a0.sizes),.sl a0.rows.length (a0.rows.flatMap fun x0=> [(tI x0.pre),(tR x0.maps)])]]=some (.sc (.int .i64 r),[.dead])):=⟨fun r h=>by have h:=z3c h;unfold z5I at h;exact z4b rfl Tryz.func74 (bdy Tryz.f74 rfl)⟩
def z5m(a0:Casc):Option ((Runner×Int)⊕(Runner×Int)):=
 (z5I a0).bind fun v2=>
 if v2=0 then
 some (.inl ((⟨⟨a0.letters,a0.sizes,a0.rows⟩⟩:Runner),0))
 else
 some (.inr ((⟨⟨0,[],[]⟩⟩:Runner),v2))
instance{a0:Casc}:Ok (z5m a0) (fun r=>L 82 [.agg [.sc (.int .i64 a0.letters),(tI a0.sizes),.sl a0.rows.length (a0.rows.flatMap fun x0=> [(tI x0.pre),(tR x0.maps)])]]=some (match r with|(.inl r)=>(.tup [.agg [.sc (.int .i64 r.1.c.letters),(tI r.1.c.sizes),.sl r.1.c.rows.length (r.1.c.rows.flatMap fun x0=> [(tI x0.pre),(tR x0.maps)])],.sc (.int .i64 r.2)],[.dead])|(.inr r)=>(.tup [.agg [.sc (.int .i64 r.1.c.letters),.os 1 0 [],.os 2 0 []],.sc (.int .i64 r.2)],[.dead]))):=⟨fun r h=>by have h:=z3c h;unfold z5m at h;exact z4b rfl Tryz.func82 (bdy Tryz.f82 rfl)⟩
def z2G(a0:CRow)(a1:List Int):Option (Int):=
 (z2h a0.pre a1).bind fun v2=>
 some v2
instance{a0:CRow}:Ok (z2G a0 a1) (fun r=>L 144 [.agg [(tI a0.pre),(tR a0.maps)],(tI a1)]=some (.sc (.int .i64 r),[.dead,.dead])):=⟨fun r h=>by have h:=z3c h;unfold z2G at h;exact z4b rfl Tryz.func144 (bdy Tryz.f144 rfl)⟩
abbrev z0r(a0:List CRow)(a1:List Int):Int×Int->Option ((Int×Int)⊕(Int×Bool))
 |(w13,w14)=>
 if w13<w14 then
 chk (¬1<0)<|
 (atI a0 (md w13 w14)).bind fun v17=>
 (z2G v17 a1).bind fun v18=>
 if v18<0 then
 z0c (i64.wrap ((md w13 w14)+1),w14)
 else
 z0c (w13,i64.wrap (z1D .u64 (u64.wrap (i64.wrap (w13+w14))) 1))
 else
 z0d<|
 if w13<(a0.length:Int) then
 (atI a0 w13).bind fun v19=>
 (z2G v19 a1).bind fun v20=>
 some (w13,decide (v20=0))
 else
 some (w13,false)
instance{a0:List CRow}:Hd (z0r a0 a1):=⟨fun(w13,w14)=>([(9,xI w13),(10,xI w14)],[])⟩
def z0f(a0:List CRow)(a1:List Int):Option (Int×Bool):=
 z0h (z0r a0 a1) LFm (0,(a0.length:Int))
instance{a0:List CRow}:Ok (z0f a0 a1) (fun r=>L 143 [.sl a0.length (a0.flatMap fun x0=> [(tI x0.pre),(tR x0.maps)]),(tI a1),.sc (.func (.func 144) #[] #[])]=some (.tup [.sc (.int .i64 r.1),.sc (.bool r.2)],[.dead,.dead,.dead])):=⟨fun r h=>by have h:=z3c h;unfold z0f at h;exact z4b rfl Tryz.func143 (bdy Tryz.f143 rfl)⟩
abbrev z4z(a0:Runner)(a1:List Int)(a2:Int):Int×List Int->Option ((Int×List Int)⊕(List Int×Int))
 |(w31,w32)=>
 if w31<(a1.length:Int) then
 (atI a1 w31).bind fun v40=>
 (z6B a1 0 w31).bind fun v41=>
 (z0f a0.c.rows v41).bind fun v42=>
 if v42.2=true then
 (atI a0.c.rows v42.1).bind fun v43=>
 (atI v43.maps a2).bind fun v44=>
 (atI v44 v40).bind fun v45=>
 (atI w32 w31).bind fun v46=>
 z0c (i64.wrap (w31+1),(w32.set w31.toNat v45))
 else
 z0d<|
 some ([],23)
 else
 z0d<|
 some (w32,0)
instance{a0:Runner}{a2:Int}:Hd (z4z a0 a1 a2):=⟨fun(w31,w32)=>([(35,xI w31)],[(8,(tO w32))])⟩
def z4t(a0:Runner)(a1:List Int)(a2:Int):Option (List Int×Int):=
 (z2L a0.c.sizes a1).bind fun v24=>
 if v24=true then
 if a2<0 then
 some ([],1)
 else
 if a0.c.letters<=a2 then
 some ([],1)
 else
 chk (z0D 8 (a1.length:Int))<|
 z0h (z4z a0 a1 a2) LFm (0,List.replicate (a1.length:Int).toNat (0:Int))
 else
 some ([],1)
instance{a0:Runner}{a2:Int}:Ok (z4t a0 a1 a2) (fun r=>L 84 [.agg [.sc (.int .i64 a0.c.letters),(tI a0.c.sizes),.sl a0.c.rows.length (a0.c.rows.flatMap fun x0=> [(tI x0.pre),(tR x0.maps)])],(tI a1),.sc (.int .i64 a2)]=some (.tup [(tO r.1),.sc (.int .i64 r.2)],[.dead,.dead,.dead])):=⟨fun r h=>by have h:=z3c h;unfold z4t at h;exact z4b rfl Tryz.func84 (bdy Tryz.f84 rfl)⟩
abbrev z7Y(a2:ByteArray)(v27:Runner×Int):Int×List Int->Option ((Int×List Int)⊕(List Int×Int))
 |(w33,w34)=>
 if w33<(a2.size:Int) then
 (zht a2 w33).bind fun v37=>
 (z4t v27.1 w34 (i64.wrap (u8.wrap (v37-97)))).bind fun v38=>
 if v38.2=0 then
 z0c (i64.wrap (w33+1),v38.1)
 else
 z0d<|
 some ([],v38.2)
 else
 z0d<|
 some (w34,0)
instance{v27:Runner×Int}:Hd (z7Y a2 v27):=⟨fun(w33,w34)=>([(36,xI w33)],[(10,(tO w34))])⟩
def z9g(a0:Casc)(a1:List Int)(a2:ByteArray):Option (List Int×Int):=
 (z5m a0).bind fun v26=>
 match v26 with
 |(.inl v27)=>
 if v27.2=0 then
 (z2L a0.sizes a1).bind fun v28=>
 if v28=true then
 (z7A a2 a0.letters).bind fun v29=>
 if v29=true then
 (z9F a1).bind fun v30=>
 z0h (z7Y a2 v27) LFm (0,v30)
 else
 some ([],1)
 else
 some ([],1)
 else
 some ([],v27.2)
 |(.inr v39)=>
 if v39.2=0 then
 none
 else
 some ([],v39.2)
instance{a0:Casc}:Ok (z9g a0 a1 a2) (fun r=>L 68 [.agg [.sc (.int .i64 a0.letters),(tI a0.sizes),.sl a0.rows.length (a0.rows.flatMap fun x0=> [(tI x0.pre),(tR x0.maps)])],(tI a1),.sc (.string a2)]=some (.tup [(tO r.1),.sc (.int .i64 r.2)],[.dead,.dead,.dead])):=⟨fun r h=>by have h:=z3c h;unfold z9g at h;exact z4b rfl Tryz.func68 (bdy Tryz.f68 rfl)⟩
abbrev z5e(a0:List Int)(a1:List Int):Int->Option (Int⊕Bool)
 |w10=>
 if w10<(a0.length:Int) then
 (atI a0 w10).bind fun v13=>
 (atI a1 w10).bind fun v14=>
 if v13=v14 then
 z0c (i64.wrap (w10+1))
 else
 z0d<|
 some false
 else
 z0d<|
 some true
instance:Hd (z5e a0 a1):=⟨fun w10=>([(13,xI w10)],[])⟩
def z3y(a0:List Int)(a1:List Int):Option (Bool):=
 if(a0.length:Int)=(a1.length:Int) then
 z0h (z5e a0 a1) LFm 0
 else
 some false
instance:Ok (z3y a0 a1) (fun r=>L 69 [(tI a0),(tI a1)]=some (.sc (.bool r),[.dead,.dead])):=⟨fun r h=>by have h:=z3c h;unfold z3y at h;exact z4b rfl Tryz.func69 (bdy Tryz.f69 rfl)⟩
abbrev z4P(a0:Cover)(v12:List Int×Int):Int->Option (Int⊕(Int×Int))
 |w16=>
 if w16<(a0.tuples.length:Int) then
 (atI a0.tuples w16).bind fun v20=>
 (z3y v12.1 v20).bind fun v21=>
 if v21=true then
 if(a0.states.length:Int)<=w16 then
 z0d<|
 some (0,23)
 else
 (atI a0.states w16).bind fun v22=>
 z0d<|
 some (v22,0)
 else
 z0c (i64.wrap (w16+1))
 else
 z0d<|
 some (0,23)
instance{a0:Cover}{v12:List Int×Int}:Hd (z4P a0 v12):=⟨fun w16=>([(25,xI w16)],[])⟩
def z3M(a0:Cover)(a1:ByteArray):Option (Int×Int):=
 (z9g a0.casc a0.start a1).bind fun v12=>
 if v12.2=0 then
 z0h (z4P a0 v12) LFm 0
 else
 some (0,v12.2)
instance{a0:Cover}{a1:ByteArray}:Ok (z3M a0 a1) (fun r=>L 20 [.agg [.sc (.int .i64 a0.casc.letters),(tI a0.casc.sizes),.sl a0.casc.rows.length (a0.casc.rows.flatMap fun x0=> [(tI x0.pre),(tR x0.maps)]),(tI a0.start),(tR a0.tuples),(tI a0.states),.sl a0.groups.length (a0.groups.flatMap fun x0=> [.sc (.int .i64 x0.set),(tI x0.tiles),(tS x0.words),(tR x0.perms)])],.sc (.string a1)]=some (.tup [.sc (.int .i64 r.1),.sc (.int .i64 r.2)],[.dead,.dead])):=⟨fun r h=>by have h:=z3c h;unfold z3M at h;exact z4b rfl Tryz.func20 (bdy Tryz.f20 rfl)⟩
end
end
section
open Go Go.IntKind
noncomputable section
attribute [-simp] Nat.mul_lt_mul_right
instance:IsS CRow:=⟨⟩
instance:IsS Casc:=⟨⟩
end
end
section
open Go
theorem z5q{α:Type}{xs:List α}{k:Nat}(d:α)(h:k<xs.length):atI xs (k:Int)=some (xs.getD k d):=by
 rw[z0Q h,List.getD,Z1 h,Z4]
theorem zjT(a b:Int):cmp_Compare_int a b=some (if a<b then-1 else if b<a then 1 else 0):=by
 simp[cmp_Compare_int,cmp_isNaN_int]
 split<;>(try split)<;>simp_all
theorem zz4(a b:Int):z9Z [a,b]=some (if a≠0 then a else b):=by
 unfold z9Z
 rw[z5C (s:=(0:Int)) 2 (fun k=>(k:Int)) (fun k=>decide (([a,b].getD k 0)≠0)) (fun k=>some ([a,b].getD k 0)) (x:=some 0) rfl (by simp only[LFm];omega)]
 · by_cases ha:a=0<;>by_cases hb:b=0<;>simp[List.range,List.range.loop,ha,hb]
 · intro k hk
   simp only[z8C]
   rw[if_pos (by simp;omega),z5q 0 (by simpa using hk),z0H (by omega)]
   simp only[Z0]
   by_cases h: [a,b].getD k 0=0<;>simp[h]
 · simp[z8C]
theorem zeC:∀ {a b:List Int},a.length=b.length->z8D a b<0->∃k,k<a.length/\(∀j,j<k->a.getD j 0=b.getD j 0)/\a.getD k 0<b.getD k 0
 | [],[],_,h=>by simp[z8D] at h
 | [],_::_,h,_=>by simp at h
 |_::_,[],h,_=>by simp at h
 |x::a,y::b,hl,h=>by
  simp only[z8D] at h
  by_cases h1:x<y
  · exact⟨0,by simp,fun j hj=>by omega,by simpa using h1⟩
  · rw[if_neg h1] at h
    by_cases h2:y<x
    · rw[if_pos h2] at h;omega
    · rw[if_neg h2] at h
      obtain⟨k,k1,k2,k3⟩:=zeC (by simpa using hl) h
      refine⟨k+1,by simpa using k1,fun j hj=> ?_,by simpa using k3⟩
      match j,hj with
      |0,_=>simp only[Xe];omega
      |j+1,hj=>simpa using k2 j (by omega)
theorem zqy(a b:List Int)(hl:a.length<=1000):∃v,z1G a b=some v/\(a.length=b.length->z8D a b<0->v= -1):=by
 unfold z1G
 rw[z5C (s:=(0:Int)) a.length (fun k=>(k:Int)) (fun k=>decide (b.length<=k)|| !decide (a.getD k 0=b.getD k 0)) (fun k=>some (if b.length<=k then 1 else if a.getD k 0<b.getD k 0 then-1 else 1)) (x:=some (if a.length<b.length then-1 else 0)) rfl (by simp only[LFm];omega) (fun k hk=> ?_) ?_]
 · cases hf:(List.range a.length).find? (fun k=>decide (b.length<=k)|| !decide (a.getD k 0=b.getD k 0)) with
   |none=>
    refine⟨_,rfl,fun he gF=> ?_⟩
    obtain⟨k,k1,k2,k3⟩:=zeC he gF
    have:=(W0.1 hf) k (Zj.2 k1)
    simp only[Y1,decide_eq_true_eq,ZX,decide_eq_false_iff_not,not_or,Decidable.not_not] at this
    omega
   |some q=>
    refine⟨_,rfl,fun he gF=> ?_⟩
    obtain⟨k,k1,k2,k3⟩:=zeC he gF
    obtain⟨q1,q2,q3⟩:=YU.1 hf
    have q2:=Zj.1 q2
    simp only[Y1,decide_eq_true_eq,ZX,decide_eq_false_iff_not] at q1
    have e:q=k:=by
     rcases Xi q k with h|h|h
     · have:=k2 q h;omega
     · exact h
     · have:=q3 k h
       simp only[Bool.not_or,Z6,ZX,decide_eq_false_iff_not,Xy,decide_eq_true_eq] at this
       omega
    subst e
    rw[if_neg (by omega),if_pos k3]
 · simp only[z2p]
   rw[if_neg (by omega)]
   by_cases h:a.length<b.length
   · rw[if_pos (by omega),if_pos h]
   · rw[if_neg (by omega),if_neg h]
 · simp only[z2p]
   rw[if_pos (by omega),z5q 0 hk,Z0]
   by_cases hb:b.length<=k
   · rw[if_pos (by omega),if_pos (by simp[hb]),if_pos hb]
   · rw[if_neg (by omega),z5q 0 (by omega),Z0,zjT,Z0]
     by_cases he:a.getD k 0=b.getD k 0
     · rw[if_neg (c:=a.getD k 0<b.getD k 0) (by omega),if_neg (c:=b.getD k 0<a.getD k 0) (by omega),if_pos rfl,z0H (by omega),if_neg (by simp only[Y1,decide_eq_true_eq,ZX,decide_eq_false_iff_not];omega)]
     · rw[if_pos (c:=(decide (b.length<=k)|| !decide (a.getD k 0=b.getD k 0))=true) (by simp only[Y1,decide_eq_true_eq,ZX,decide_eq_false_iff_not];omega),if_neg hb]
       by_cases h1:a.getD k 0<b.getD k 0
       · rw[if_pos h1,if_neg (by omega),if_pos h1]
       · rw[if_neg h1,if_pos (c:=b.getD k 0<a.getD k 0) (by omega),if_neg (by omega),if_neg h1]
theorem zx2{a b:List Int}(hl:a.length<=1000)(h:z9k a b<0):∃v,z2h a b=some v/\v<0:=by
 obtain⟨v,v1,v2⟩:=zqy a b hl
 unfold z2h
 simp only[zjT,v1,Z0,zz4]
 refine⟨_,rfl,?_⟩
 unfold z9k at h
 by_cases h1:a.length<b.length
 · rw[if_pos (c:=(a.length:Int)<(b.length:Int)) (by omega),if_pos (by omega)];omega
 · rw[if_neg h1] at h
   by_cases h2:b.length<a.length
   · rw[if_pos h2] at h;omega
   · rw[if_neg h2] at h
     rw[if_neg (c:=(a.length:Int)<(b.length:Int)) (by omega),if_neg (c:=(b.length:Int)<(a.length:Int)) (by omega),if_neg (by simp),v2 (by omega) h]
     omega
structure CascG(c:Casc):Prop where
 l1:1<=c.letters
 l6:c.letters<=6
 s24:c.sizes.length<=24
 r48:c.rows.length<=48000
 sz:∀i,i<c.sizes.length->1<=c.sizes.getD i 0/\c.sizes.getD i 0<=32
 pre:∀r∈c.rows,r.pre.length<c.sizes.length/\ ∀j,j<r.pre.length->0<=r.pre.getD j 0/\r.pre.getD j 0<c.sizes.getD j 0
 maps:∀r∈c.rows,(r.maps.length:Int)=c.letters/\ ∀f∈r.maps,(f.length:Int)=c.sizes.getD r.pre.length 0/\ ∀x∈f,0<=x/\x<c.sizes.getD r.pre.length 0
 up:∀i,i+1<c.rows.length->z9k (c.rows.getD i ⟨[],[]⟩).pre (c.rows.getD (i+1) ⟨[],[]⟩).pre<0
theorem zzH{l:List Int}{k j:Nat}(h:j<k):(l.take k).getD j 0=l.getD j 0:=by
 rw[List.getD,List.getD,Xf h]
theorem zx5{c:Casc}(h:CascG c){r:CRow}(hr:r∈c.rows):z5H c r=some true:=by
 obtain⟨p1,p2⟩:=h.pre r hr
 obtain⟨m1,m2⟩:=h.maps r hr
 have s24:=h.s24
 have l6:=h.l6
 have⟨z1,z2⟩:=h.sz _ p1
 unfold z5H
 rw[if_neg (by omega),zaW (by omega),Z0]
 have e:z2L (c.sizes.take r.pre.length) r.pre=some true:=by
  unfold z2L
  rw[if_pos (by rw[Zp];omega)]
  refine z0q (s:=(0:Int)) r.pre.length (fun k=>(k:Int)) rfl (by simp only[LFm];omega) (fun k hk=> ?_) ?_
  · simp only[z3N]
    obtain⟨a1,a2⟩:=p2 k hk
    rw[if_pos (by omega),z5q 0 hk,Z0,if_neg (by omega),z5q 0 (by rw[Zp];omega),Z0,zzH hk,if_neg (by omega),z0H (by omega)]
  · simp only[z3N]
    rw[if_neg (by omega)]
 rw[e,Z0,if_pos rfl,if_pos m1]
 refine z0q (s:=(0:Int)) r.maps.length (fun k=>(k:Int)) rfl (by simp only[LFm];omega) (fun k hk=> ?_) ?_
 · obtain⟨f1,f2⟩:=m2 _ (Zm hk)
   simp only[z5x]
   rw[if_pos (by omega),z0Q hk,Z0,z5q 0 p1,Z0,if_pos f1]
   generalize r.maps[k]=f at f1 f2
   refine z0q (s:=(0:Int)) f.length (fun j=>(j:Int)) rfl (by simp only[LFm];omega) (fun j hj=> ?_) ?_
   · obtain⟨x1,x2⟩:=f2 _ (Zm hj)
     simp only[z5c]
     rw[if_pos (by omega),z0Q hj,Z0,if_neg (by omega),z5q 0 p1,Z0,if_neg (by omega),z0H (by omega)]
   · simp only[z5c]
     rw[if_neg (by omega),z0H (by omega)]
 · simp only[z5x]
   rw[if_neg (by omega)]
theorem zwz{c:Casc}(h:CascG c):z5I c=some 0:=by
 have l1:=h.l1
 have l6:=h.l6
 have s24:=h.s24
 have r48:=h.r48
 unfold z5I
 rw[if_neg (by omega),if_neg (by omega),if_neg (by omega),if_neg (by omega)]
 refine z0q (s:=(0:Int)) c.sizes.length (fun k=>(k:Int)) rfl (by simp only[LFm];omega) (fun k hk=> ?_) ?_
 · obtain⟨a1,a2⟩:=h.sz k hk
   simp only[z5y]
   rw[if_pos (by omega),z5q 0 hk,Z0,if_neg (by omega),if_neg (by omega),z0H (by omega)]
 simp only[z5y]
 rw[if_neg (by omega)]
 congr 1
 refine z0q (s:=(0:Int)) c.rows.length (fun k=>(k:Int)) rfl (by simp only[LFm];omega) (fun k hk=> ?_) ?_
 · simp only[z5d]
   rw[if_pos (by omega),z0Q hk,Z0,zx5 h (Zm hk),Z0,if_pos rfl]
   match k,hk with
   |0,_=>rw[if_neg (by simp)];rfl
   |k+1,hk=>
    have hp:=(h.pre _ (Zm (show k<c.rows.length by omega))).1
    have hu:=h.up k hk
    rw[List.getD,Z1 (show k<c.rows.length by omega),List.getD,Z1 hk,Z4,Z4] at hu
    obtain⟨v,v1,v2⟩:=zx2 (by omega) hu
    rw[if_pos (by omega),show IntKind.i64.wrap (((k+1:Nat):Int)-1)=(k:Int) by rw[z2z (by omega) (by omega)];omega,z0Q (show k<c.rows.length by omega),Z0,v1,Z0,if_neg (by omega),z0H (by omega)]
 · simp only[z5d]
   rw[if_neg (by omega)]
end
section
open Go
def zGU(k:Nat)(rs:List (List Int)):Prop:=∀p,p<k->∀x∈rs.getD p [],(p:Int)<=x
section
variable {d:DFA} {m n:Nat} (hd:DfaOk d m n) (hO:zGU n d.next)
include hd hO
end
section
variable {d:DFA} {m n:Nat} {S:List Nat} (hd:DfaOk d m n) (hn:n<=7) (hS:SetsP d m n S) (hO:zGU n d.next)
include hd hn hS hO
end
end
section
open Go
section
variable {d:DFA} {m n:Nat} {S O:List Nat} (hd:DfaOk d m n) (hn:n<=7) (hS:SetsP d m n S)
include hd hn hS
theorem zsl{i t:Nat}(hi:i<S.length)(ht:t∈z6Z S i):t∈tlR d m n S i:=by
 have:=zoj (l:=tlR d m n S i) (r:=z6Z S i) (f:=id) (by simpa using zkW hd hn hS hi) (fun x hx=>zzF hd hn hS hi (by simpa using hx)) (by rw[zff hd hn hS hi];exact Z8 _) ht
 simpa using this
theorem zvP{o i:Nat}(ho:o<S.length)(hi:i<S.length)(h:clN d m n S o=clN d m n S i):∃v,Lead d m n (S.getD o 0) (S.getD i 0) v:=by
 have e:z6e d m n S o=z6e d m n S i:=by
  rw[←(zm9 hd hn hS ho).2,←(zm9 hd hn hS hi).2,h]
 have h1:=(zbS hd hn hS ho).1
 rw[e] at h1
 exact⟨_,z9S h1 (z9l hd hn hS hi).1⟩
theorem zy7{o a:Nat}(ho:o<S.length)(ha:a<m)(h:clN d m n S (z7W d S o a)=clN d m n S o):Lead d m n (S.getD o 0) (S.getD (z7W d S o a) 0) [UInt8.ofNat (97+a)]:=by
 have:=hd.m6
 have e:(UInt8.ofNat (97+a)).toNat=97+a:=z7j (by omega)
 obtain⟨h1,h2⟩:=zeW hd hn hS ho ha
 obtain⟨v,hv⟩:=zvP hd hn hS h1 ho h
 refine⟨fun c hc=> ?_,hS.lt _ (z0i ho),hS.lt _ (z0i h1),?_,hv.sz.symm⟩
 · rw[Zi.1 hc,e];omega
 · simp only[z4D,e,Y4]
   exact h2.symm
theorem zt2{x a:Nat}(ha:a<m):z4D d x [UInt8.ofNat (97+a)]=mvN d x a:=by
 have:=hd.m6
 have e:(UInt8.ofNat (97+a)).toNat=97+a:=z7j (by omega)
 simp only[z4D,e,Y4]
variable (hH:zhI d m n S) (hO:OrdC d m n S O) (gC:∀x∈S,x≠0)
include hH hO gC
theorem zFK{o i c:Nat}(ho:o<S.length)(hi:i<S.length)(hc:c<O.length)(e1:cpN d m n S O i=c)(e2:cpN d m n S O o=c):clN d m n S i=clN d m n S o:=by
 rw[(zDf hd hn hS hH hO hi hc).2 e1,(zDf hd hn hS hH hO ho hc).2 e2]
theorem zsF{a:Nat}:∀(x:List Nat) (c o i:Nat),o<S.length->i<S.length->c<=cpN d m n S O o->c<=cpN d m n S O i->c+x.length<=O.length->(∀j,j<x.length->x.getD j 0<szO d m n S O (c+j))->
 ∀j,j<x.length->∃o' i',o'<S.length/\i'<S.length/\((stN d m n S O a c o i x).map (·.2)).getD j []=zf7 d m n S O a (c+j) o' i'
 | [],c,o,i,ho,hi,jQ,qH,hl,hx,j,hj=>by simp at hj
 |s::x,c,o,i,ho,hi,jQ,qH,hl,hx,j,hj=>by
  simp only[Zq] at hl
  have gU:c<O.length:=by omega
  have hs:s<szO d m n S O c:=by simpa using hx 0 (by simp)
  have hy:=zji hd hn hS hH hO gC (a:=a) (s:=s) gU ho hi
  obtain⟨o1,o2⟩:=zfd hd hn hS hH hO gC gU ho jQ hs
  obtain⟨i1,i2⟩:=zfd hd hn hS hH hO gC gU hi qH hy
  match j,hj with
  |0,_=>exact⟨o,i,ho,hi,rfl⟩
  |j+1,hj=>
   obtain⟨o',i',p1,p2,p3⟩:=zsF (a:=a) x (c+1) _ _ o1 i1 o2 i2 (by omega) (fun j hj=>by have:=hx (j+1) (by simp;omega);simp only[Yg] at this;rwa [show c+1+j=c+(j+1) by omega]) j (by simpa using hj)
   refine⟨o',i',p1,p2,?_⟩
   rw[show c+(j+1)=c+1+j by omega,←p3]
   simp only[stN,Zt,Yg]
end
end
section
open Go
theorem zoe(l:List Nat)(k:Nat):(toI l).getD k 0=((l.getD k 0:Nat):Int):=by
 unfold toI
 rw[List.getD,Zd,List.getD]
 cases l[k]? <;>rfl
theorem zx1{f:List Nat->Nat->List (List Nat)}{L:Nat}{T:List (List Nat)}{W:List za7}(h:RowsOk f L T W):W.length<=T.length*L:=by
 have h1:(W.map (·.1)).Nodup:=Xj.2 h.nd
 have h2:=z7F (r:=T.flatMap fun x=>(List.range L).map fun i=>x.take i) h1 fun p hp=>by
  obtain⟨r,hr,rfl⟩:=Zh.1 hp
  obtain⟨x,hx,i,hi,rfl⟩:=h.of r hr
  exact List.mem_flatMap.2 ⟨x,hx,Zh.2 ⟨i,Zj.2 hi,rfl⟩⟩
 have h3:∀T:List (List Nat),(T.flatMap fun x=>(List.range L).map fun i=>x.take i).length=T.length*L:=fun T=>by
  induction T with
  |nil=>simp
  |cons x T ih=>rw[Y5,Z7,ih,Zg,ZD,Zq,Nat.succ_mul];omega
 rw[Zg,h3] at h2
 exact h2
section
variable {d:DFA} {m n:Nat} {S O:List Nat} (hd:DfaOk d m n) (hn:n<=7) (hS:SetsP d m n S) (hH:zhI d m n S) (hO:OrdC d m n S O) (gC:∀x∈S,x≠0)
include hd hn hS hH hO gC
theorem zwI(h32:S.length<=32){c:Nat}(hc:c<O.length):szO d m n S O c<=32:=by
 have _u:=hH;have _w:=gC
 unfold szO
 refine ZR (z7F (r:=List.range S.length) (zcY S _) fun x hx=>Zj.2 (z4C.1 (z5M hx).1).1) ?_
 rw[ZD];exact h32
theorem zt8(h0:0<S.length){x:List Nat}(hx:zeJ d m n S O x){i:Nat}(hi:i<O.length)(a:Nat):∃o' i',o'<S.length/\i'<S.length/\(z8i d m n S O a x).getD i []=zf7 d m n S O a i o' i':=by
 obtain⟨x1,x2⟩:=hx
 obtain⟨o',i',p1,p2,p3⟩:=zsF hd hn hS hH hO gC (a:=a) x 0 0 0 h0 h0 (Y7 _) (Y7 _) (by omega) (fun j hj=>by rw[Zs];exact x2 j (by omega)) i (by omega)
 rw[Zs] at p3
 exact⟨o',i',p1,p2,p3⟩
end
end
section
open Go
theorem zhy{st:Nat->List Nat->List Nat}{m:Nat}:∀(f i:Nat) (T T':List (List Nat)),T.Nodup->T.length<=2000->2001<=f+i->i<=T.length->(∀j,j<i->∀a,a<m->st a (T.getD j [])∈T)->zk2 st m f i T=some T'->∀t∈T',∀a,a<m->st a t∈T'
 |0,i,T,T',h1,h2,h3,h4,h5,h=>by omega
 |f+1,i,T,T',h1,h2,h3,h4,h5,h=>by
  simp only[zk2] at h
  split at h
  · rename_i hi
    cases hb:zmt (fun a=>st a (T.getD i [])) m 0 T with
    |none=>rw[hb,Option.bind_none] at h;cases h
    |some U=>
     rw[hb,Z0] at h
     obtain⟨⟨X,e⟩,_,u3,u4,u5⟩:=zdF (P:=fun _=>True) m 0 T U (fun b _ _=>trivial) (fun _ _=>trivial) h1 h2 hb
     have hg:∀j,j<T.length->U.getD j []=T.getD j []:=fun j hj=>by
      rw[e,List.getD,ZH hj];rfl
     refine zhy f (i+1) U T' u3 u4 (by omega) (by rw[e,Z7];omega) (fun j hj a ha=> ?_) h
     rw[hg j (by omega)]
     by_cases e2:j=i
     · rw[e2];exact u5 a (Y7 _) (by omega)
     · rw[e];exact Ze.2 (.inl (h5 j (by omega) a ha))
  · simp only[Z9] at h
    subst h
    intro t ht a ha
    obtain⟨j,hj,rfl⟩:=Zn ht
    have:=h5 j (by omega) a ha
    rwa [List.getD,Z1 hj,Z4] at this
structure CovD(d:DFA)(m n:Nat)(S O:List Nat)(G:List Hol)(c:Cover)(Y:List (List Nat))(W:List za7):Prop where
 eq:c=⟨⟨d.letters,zqz d m n S O,W.map zeV⟩,toI (z3m d m n S O),Y.map toI,toI (Y.map (zl4 d m n S O)),G⟩
 good:CascG c.casc
 tup:∀x∈Y,zeJ d m n S O x
 st:z3m d m n S O∈Y
 cl:∀x∈Y,∀a,a<m->z5n d m n S O a x∈Y
 few:Y.length<=2000
 up:(Y.map toI).Pairwise fun a b=>z8D a b<0
 rows:RowsOk (z2I d m n S O) O.length Y W
 asc:W.Pairwise ltR
variable{a b:List Int}
theorem zl9{d:DFA}{m n:Nat}{S O:List Nat}(i:Nat):(zqz d m n S O).getD i 0=if i<O.length then((szO d m n S O i:Nat):Int) else 0:=by
 unfold zqz
 rw[zoe,List.getD,Zd]
 by_cases h:i<O.length
 · rw[if_pos h,List.getElem?_range h];rfl
 · rw[if_neg h,YN (by simpa using h)];rfl
theorem zeh{d:DFA}{m n:Nat}{S O:List Nat}:(zqz d m n S O).length=O.length:=by unfold zqz;simp[toI]
section
variable {d:DFA} {m n:Nat} {S O:List Nat} (hd:DfaOk d m n) (hn:n<=7) (hS:SetsP d m n S) (hH:zhI d m n S) (hO:OrdC d m n S O) (gC:∀x∈S,x≠0)
include hd hn hS hH hO gC
theorem zyc(h24:O.length<=24)(h32:S.length<=32)(h0:0<S.length){G:List Hol}{c:Cover}(h:CovOk d m n S O (zqz d m n S O) G c):∃Y W,CovD d m n S O G c Y W:=by
 obtain⟨T,Y,W,hT,y1,y2,hW,hR,rfl⟩:=h.ex
 have gL:=zai hd hn hS hH hO gC h0
 obtain⟨t1,t2,t3,t4⟩:=zk1 hd hn hS hH hO gC h0 _ _ _ _ (fun t h=>by rw[Zi.1 h];exact gL) (by simp) (by simp) hT
 have hm:=hd.m1
 have hm6:=hd.m6
 have gF:=hd.lt
 have gK:z3m d m n S O∈T:=by
  obtain⟨X,hX⟩:=t4
  rw[hX];simp
 have gH:=zhy _ _ _ _ (by simp) (by simp) (by omega) (Y7 _) (fun j hj=>by omega) hT
 have qT:∀r∈W,r.1.length<O.length/\(∀j,j<r.1.length->r.1.getD j 0<szO d m n S O j)/\ ∃x∈T,r.2=z2I d m n S O x r.1.length:=fun r hr=>by
  obtain⟨x,hx,i,hi,rfl⟩:=hR.of r hr
  obtain⟨x1,x2⟩:=t1 x hx
  have hl:(x.take i).length=i:=by rw[Zp];omega
  refine⟨by simp only[hl];exact hi,fun j hj=> ?_,x,hx,by simp only[hl]⟩
  simp only[hl] at hj
  have e:(x.take i).getD j 0=x.getD j 0:=by rw[List.getD,List.getD,Xf hj]
  simp only[e]
  exact x2 j (by omega)
 have kD:=zx1 hR
 refine⟨Y,W,rfl,?_,fun x hx=>t1 x (y2.mem_iff.1 hx),y2.mem_iff.2 gK,fun x hx a ha=>y2.mem_iff.2 (gH x (y2.mem_iff.1 hx) a ha),by rw[y2.length_eq];exact t3,?_,zgs hR y2.symm,hW⟩
 · refine⟨by show 1<=d.letters;omega,by show d.letters<=6;omega,by simp only[zeh];exact h24,?_,fun i hi=> ?_,fun r0 hr0=> ?_,fun r0 hr0=> ?_,fun i hi=> ?_⟩
   · rw[Zg]
     have:=XT t3 h24
     omega
   · simp only[zeh] at hi
     have:=zec hd hn hS hH hO gC hi
     have:=zwI hd hn hS hH hO gC h32 hi
     simp only[zl9,if_pos hi];omega
   · obtain⟨r,hr,rfl⟩:=Zh.1 hr0
     obtain⟨h1,h2,_⟩:=qT r hr
     simp only[zeV,z0b,zeh]
     refine⟨h1,fun j hj=> ?_⟩
     have:=h2 j hj
     rw[zoe,zl9,if_pos (by omega)];omega
   · obtain⟨r,hr,rfl⟩:=Zh.1 hr0
     obtain⟨h1,_,x,hx,e⟩:=qT r hr
     simp only[zeV,z0b,zl9,if_pos h1,Zg]
     refine⟨by rw[e,gF];simp[z2I],fun f hf=> ?_⟩
     obtain⟨g,hg,rfl⟩:=Zh.1 hf
     rw[e] at hg
     unfold z2I at hg
     obtain⟨a,ha,rfl⟩:=Zh.1 hg
     obtain⟨o',i',p1,p2,p3⟩:=zt8 hd hn hS hH hO gC h0 (t1 x hx) h1 a
     obtain⟨q1,q2⟩:=zoM hd hn hS hH hO gC (a:=a) h1 p1 p2
     rw[←p3] at q1 q2
     refine⟨by rw[z0b,q1],fun y hy=> ?_⟩
     obtain⟨z,hz,rfl⟩:=Zh.1 hy
     have:=q2 z hz
     omega
   · simp only[Zg] at hi
     have:=(ZG.1 hW) i (i+1) (by omega) hi (by omega)
     simp only[List.getD,Zd,Z1 hi,Z1 (show i<W.length by omega),ZN,Z4]
     exact this
 · rw[y1]
   have hs:=z9n (T.map toI)
   have gJ:(z9y (T.map toI)).Nodup:=(z8F _).nodup_iff.2 (z5z t2 fun x _ y _ e=>zmK e)
   refine(List.pairwise_and_iff.2 ⟨hs,gJ⟩).imp fun {a b} h=> ?_
   have:=mt (zb9 a b).1 h.2
   omega
end
theorem zmS(ha:a.length<=100000):z1G a b=some (z8D a b):=by
 unfold z1G
 refine zbF (fun s=>∃k:Nat,s=(k:Int)/\k<=a.length/\k<=b.length/\ ∀j,j<k->a.getD j 0=b.getD j 0) (fun s=>a.length+1-s.toNat) ⟨0,rfl,Y7 _,Y7 _,fun j hj=>by omega⟩ (by simp only[LFm];omega) ?_
 rintro _ ⟨k,rfl,hk,hk2,hj⟩
 simp only[z2p]
 by_cases h1:k<a.length
 · rw[if_pos (by omega),z5q 0 h1,Z0]
   by_cases h2:k<b.length
   · rw[if_neg (by omega),z5q 0 h2,Z0,zjT,Z0]
     by_cases e:a.getD k 0=b.getD k 0
     · left
       simp only[e,Int.lt_irrefl,if_false,if_true]
       rw[z0H (by omega)]
       exact⟨_,rfl,⟨k+1,rfl,by omega,by omega,fun j hj'=>by
        by_cases e2:j=k
        · rw[e2];exact e
        · exact hj j (by omega)⟩,by omega⟩
     · right
       rw[zhq a b k h1 h2 hj e]
       by_cases h3:a.getD k 0<b.getD k 0
       · rw[if_pos h3,if_pos h3];rfl
       · rw[if_neg h3,if_neg h3,if_pos (show b.getD k 0<a.getD k 0 by omega)];rfl
   · right
     rw[if_pos (by omega),zdz a b (fun i _ h=>hj i (by omega)),if_neg (by omega),if_pos (by omega)]
 · right
   rw[if_neg (by omega),zdz a b (fun i h _=>hj i (by omega))]
   by_cases h2:a.length<b.length
   · rw[if_pos h2,if_pos h2]
   · rw[if_neg h2,if_neg h2,if_neg (by omega)]
theorem zt5(ha:a.length<=100000):z2h a b=some (z9k a b):=by
 unfold z2h
 rw[zjT,Z0,zmS ha,Z0,zz4,Z0]
 unfold z9k
 by_cases h1:a.length<b.length
 · rw[if_pos (c:=(a.length:Int)<(b.length:Int)) (by omega),if_pos (by omega),if_pos h1]
 · rw[if_neg (c:=(a.length:Int)<(b.length:Int)) (by omega),if_neg h1]
   by_cases h2:b.length<a.length
   · rw[if_pos (c:=(b.length:Int)<(a.length:Int)) (by omega),if_pos (by omega),if_pos h2]
   · rw[if_neg (c:=(b.length:Int)<(a.length:Int)) (by omega),if_neg (by simp),if_neg h2]
theorem zG4(i j:Nat)(h:i+j<4611686018427387904):IntKind.i64.wrap (z1D .u64 (IntKind.u64.wrap (IntKind.i64.wrap ((i:Int)+j))) 1)=(((i+j)/2:Nat):Int):=by
 rw[z2z (x:=(i:Int)+j) (by omega) (by omega)]
 have e:IntKind.u64.wrap ((i:Int)+j)=(i:Int)+j:=by rw[Xr];omega
 have e2:z1D .u64 ((i:Int)+j) 1=(((i+j)/2:Nat):Int):=by
  unfold z1D
  have:(2:Int)^(min (1:Int).toNat IntKind.u64.bits)=2:=by decide
  rw[this,XC _ (by omega)]
  omega
 rw[e,e2,z2z (by omega) (by omega)]
theorem zqA{rs:List CRow}(hu:rs.Pairwise fun r q=>z9k r.pre q.pre<0)(hl:rs.length<=100000)(hp:∀r∈rs,r.pre.length<=100000){t:Nat}(ht:t<rs.length):z0f rs rs[t].pre=some ((t:Int),true):=by
 have gF:∀k (hk:k<rs.length),(z9k rs[k].pre rs[t].pre<0↔k<t):=fun k hk=>by
  constructor
  · intro h
    refine Y8 fun hn=> ?_
    by_cases e:k=t
    · subst e;rw[(za0 _ _).2 rfl] at h;omega
    · have:=ziS h ((ZG.1 hu) t k ht hk (by omega))
      rw[(za0 _ _).2 rfl] at this;omega
  · intro h
    exact(ZG.1 hu) k t hk ht h
 have hs:∀k (hk:k<rs.length),z2G rs[k] rs[t].pre=some (z9k rs[k].pre rs[t].pre):=fun k hk=>by
  unfold z2G
  rw[zt5 (hp _ (Zm hk)),Z0]
 unfold z0f
 refine zbF (fun s=>∃i j:Nat,s=((i:Int),(j:Int))/\i<=t/\t<=j/\j<=rs.length) (fun s=>(s.2-s.1).toNat) ⟨0,rs.length,rfl,by omega,by omega,by omega⟩ (by simp only[LFm];omega) ?_
 rintro _ ⟨i,j,rfl,hi,hj,kN⟩
 simp only[z0r]
 by_cases j8:i<j
 · left
   have hm:(i+j)/2<rs.length:=by omega
   have yC:md (i:Int) (j:Int)=(((i+j)/2:Nat):Int):=zG4 i j (by omega)
   rw[if_pos (by omega),z0e _ (by omega),yC,zG4 i j (by omega),z0Q hm,Z0,hs _ hm,Z0]
   by_cases h:z9k rs[(i+j)/2].pre rs[t].pre<0
   · have:=(gF _ hm).1 h
     rw[if_pos h,z0H (by omega)]
     exact⟨_,rfl,⟨(i+j)/2+1,j,rfl,by omega,hj,kN⟩,by simp only;omega⟩
   · have:=mt (gF _ hm).2 h
     rw[if_neg h]
     exact⟨_,rfl,⟨i,(i+j)/2,rfl,hi,by omega,by omega⟩,by simp only;omega⟩
 · right
   have:i=t:=by omega
   subst this
   rw[if_neg (by omega),if_pos (by omega),z0Q ht,Z0,hs _ ht,Z0,(za0 _ _).2 rfl]
   rfl
end
section
open Go
variable{x:List Nat}{a i s:Nat}
section
variable {d:DFA} {m n:Nat} {S O:List Nat} (hd:DfaOk d m n) (hn:n<=7) (hS:SetsP d m n S)
include hd hn hS
theorem zvF{p:Nat}(hi:i<S.length)(hp:p<S.length)(hs:z6H (S.getD p 0) (S.getD i 0))(gK:p≠i)(hz:szN (S.getD i 0)≠1):z6H (S.getD p 0) (S.getD ((tlR d m n S i).getD (zhn d m n S i p) 0) 0):=by
 obtain⟨t,ht,h1⟩:=zv2 hn hS hi hz _ p (Z8 _) (z4C.2 ⟨hp,gK,hs⟩)
 have hk:(tlR d m n S i).findIdx (fun t=>decide (S.getD p 0&&&S.getD t 0=S.getD p 0))<(tlR d m n S i).length:=Yz ⟨t,zsl hd hn hS hi ht,by simpa[z6H] using h1⟩
 unfold zhn
 simp only
 rw[if_pos hk]
 have h2:=X5 (w:=hk)
 generalize (tlR d m n S i).findIdx (fun t=>decide (S.getD p 0&&&S.getD t 0=S.getD p 0))=k at*
 have e:(tlR d m n S i).getD k 0=(tlR d m n S i)[k]:=by simp[List.getD,hk]
 rw[e]
 unfold z6H
 exact of_decide_eq_true h2
variable (hH:zhI d m n S) (hO:OrdC d m n S O) (gC:∀x∈S,x≠0) (gE:∀i k,i<S.length->k<S.length->zaA S k=true->z6Y d m n S i k=true->zaA S i=true)
include hH hO gC
theorem zBf(hi:i<S.length):cpN d m n S O i<O.length↔szN (S.getD i 0)≠1:=by
 rw[zyb hd hn hS hH hO hi]
 constructor
 · intro h e
   have:=ztz hd hn hS hi e
   omega
 · intro h
   obtain⟨q,hq⟩:=YC (gC _ (z0i hi))
   obtain⟨t,ht,_⟩:=zgf hd hn hS hi h hq
   exact zAQ hd hn hS hi (List.ne_nil_of_mem ht)
theorem zyR(hi:i<S.length)(hs:s<(tlR d m n S i).length):(tlR d m n S i).getD s 0<S.length/\z6H (S.getD ((tlR d m n S i).getD s 0) 0) (S.getD i 0):=by
 obtain⟨h1,_,h3⟩:=z4C.1 (z5M (zgd hd hn hS hi hs).1).1
 exact⟨h1,h3⟩
theorem zD9{c:Nat}(gU:c<O.length)(hi:i<S.length)(hs:s<szO d m n S O c):dnN d m n S O c i s<S.length/\z6H (S.getD (dnN d m n S O c i s) 0) (S.getD i 0):=by
 unfold dnN
 by_cases e:cpN d m n S O i=c
 · rw[if_pos e]
   have hz:=zeb hd hn hS hH hO hi (by omega)
   rw[e] at hz
   exact zyR hd hn hS hH hO gC hi (by omega)
 · rw[if_neg e]
   exact⟨hi,z9m _⟩
include gE
theorem zB8{c o:Nat}(ha:a<m)(gU:c<O.length)(ho:o<S.length)(hi:i<S.length)(jQ:c<=cpN d m n S O o)(hs:s<szO d m n S O c)(h:z6H (mvN d (S.getD o 0) a) (S.getD i 0)):
 z6H (mvN d (S.getD (dnN d m n S O c o s) 0) a) (S.getD (dnN d m n S O c i ((zf7 d m n S O a c o i).getD s 0)) 0):=by
 obtain⟨p1,p2⟩:=zeW hd hn hS ho ha
 obtain⟨o1,o2⟩:=zD9 hd hn hS hH hO gC gU ho hs
 have hm:=znc hd ha o2
 by_cases e:cpN d m n S O i=c
 · have hz:=zeb hd hn hS hH hO hi (by omega)
   rw[e] at hz
   by_cases e2:cpN d m n S O o=c/\z7W d S o a=i
   · obtain⟨e2,rfl⟩:=e2
     have hz2:=zeb hd hn hS hH hO ho (by omega)
     rw[e2] at hz2
     have gH:=zFK hd hn hS hH hO gC ho hi gU e e2
     have l1:=zy7 hd hn hS ho ha gH
     obtain⟨v,l2⟩:=zvP hd hn hS hi ho gH
     have gL:s<(tlR d m n S o).length:=by omega
     have ht:=(zgd hd hn hS ho gL).1
     have gP:=zj1 hd hn hS ho hi l1 l2 ht
     rw[zt2 hd hn hS ha] at gP
     have gP:=zsl hd hn hS hi gP
     have e3:(zf7 d m n S O a c o (z7W d S o a)).getD s 0=(tlR d m n S (z7W d S o a)).idxOf (z7W d S ((tlR d m n S o).getD s 0) a):=by
      unfold zf7
      rw[if_pos e,if_pos ⟨e2,rfl⟩]
      simp only[List.getD,Zd,Z1 gL,ZN,Z4]
      unfold ix0
      have e0:(tlR d m n S o).getD s 0=(tlR d m n S o)[s]:=by simp[List.getD,gL]
      have:z7W d S (tlR d m n S o)[s] a∈tlR d m n S (z7W d S o a):=by
       rw[←e0];exact gP
      rw[if_pos this]
     have e4:dnN d m n S O c o s=(tlR d m n S o).getD s 0:=by unfold dnN;rw[if_pos e2]
     have e5:dnN d m n S O c (z7W d S o a) ((zf7 d m n S O a c o (z7W d S o a)).getD s 0)=z7W d S ((tlR d m n S o).getD s 0) a:=by
      unfold dnN
      rw[if_pos e,e3]
      exact z3R gP
     rw[e4,e5,(zeW hd hn hS (zyR hd hn hS hH hO gC ho gL).1 ha).2]
     exact z9m _
   · have e3:zf7 d m n S O a c o i=List.replicate (szO d m n S O c) (zhn d m n S i (z7W d S o a)):=by
      unfold zf7
      rw[if_pos e,if_neg e2]
     have e4:(zf7 d m n S O a c o i).getD s 0=zhn d m n S i (z7W d S o a):=by
      rw[e3,List.getD,List.getElem?_replicate,if_pos hs];rfl
     have gK:z7W d S o a≠i:=by
      intro e5
      have h1:=zDc hd hn hS hH hO ho ha gE
      rw[e5,e] at h1
      exact e2 ⟨by omega,e5⟩
     have gO:=(zBf hd hn hS hH hO gC hi).1 (by omega)
     have:=zvF hd hn hS hi p1 (by rw[p2];exact h) gK gO
     rw[p2] at this
     rw[e4]
     have e6:dnN d m n S O c i (zhn d m n S i (z7W d S o a))=(tlR d m n S i).getD (zhn d m n S i (z7W d S o a)) 0:=by unfold dnN;rw[if_pos e]
     rw[e6]
     exact zcZ hm this
 · have e4:∀s,dnN d m n S O c i s=i:=fun s=>by unfold dnN;rw[if_neg e]
   rw[e4]
   exact zcZ hm h
theorem zsE{a:Nat}(ha:a<m):∀(x:List Nat) (c o i:Nat),o<S.length->i<S.length->c<=cpN d m n S O o->c<=cpN d m n S O i->c+x.length<=O.length->(∀j,j<x.length->x.getD j 0<szO d m n S O (c+j))->z6H (mvN d (S.getD o 0) a) (S.getD i 0)->
 z6H (mvN d (S.getD (z7s d m n S O c o x) 0) a) (S.getD (z7s d m n S O c i ((stN d m n S O a c o i x).map (·.1))) 0)
 | [],c,o,i,ho,hi,jQ,qH,hl,hx,h=>h
 |s::x,c,o,i,ho,hi,jQ,qH,hl,hx,h=>by
  simp only[Zq] at hl
  have gU:c<O.length:=by omega
  have hs:s<szO d m n S O c:=by simpa using hx 0 (by simp)
  have hy:=zji hd hn hS hH hO gC (a:=a) (s:=s) gU ho hi
  obtain⟨o1,o2⟩:=zfd hd hn hS hH hO gC gU ho jQ hs
  obtain⟨i1,i2⟩:=zfd hd hn hS hH hO gC gU hi qH hy
  exact zsE ha x (c+1) _ _ o1 i1 o2 i2 (by omega) (fun j hj=>by have:=hx (j+1) (by simp;omega);simp only[Yg] at this;rwa [show c+1+j=c+(j+1) by omega]) (zB8 hd hn hS hH hO gC gE ha gU ho hi jQ hs h)
theorem zsK{q:Nat}(hq:q<S.length):∀(k c i:Nat),c+k=O.length->i<S.length->c<=cpN d m n S O i->szN (S.getD q 0)=1->z6H (S.getD q 0) (S.getD i 0)->z6H (S.getD q 0) (S.getD (z7s d m n S O c i (srN d m n S O q k c i)) 0)
 |0,c,i,hk,hi,hc,h1,h=>h
 |k+1,c,i,hk,hi,hc,h1,h=>by
  have gU:c<O.length:=by omega
  have hs:(if cpN d m n S O i=c then zhn d m n S i q else 0)<szO d m n S O c:=by
   split
   · rename_i e;exact zzk hd hn hS hH hO gC gU hi e
   · exact zec hd hn hS hH hO gC gU
  obtain⟨i1,i2⟩:=zfd hd hn hS hH hO gC gU hi hc hs
  refine zsK hq k (c+1) _ (by omega) i1 i2 h1 ?_
  unfold dnN
  by_cases e:cpN d m n S O i=c
  · rw[if_pos e,if_pos e]
    have gO:=(zBf hd hn hS hH hO gC hi).1 (by omega)
    exact zvF hd hn hS hi hq h (by rintro rfl;exact gO h1) gO
  · rw[if_neg e];exact h
theorem zjO(hx:zeJ d m n S O x)(h0:0<S.length):∃q,q<n/\S.getD (z7s d m n S O 0 0 x) 0=2^q:=by
 have he:=zhl hd hn hS hH hO gC hx h0 x.length (Z8 _)
 rw[Yd] at he
 have hz:szN (S.getD (z7s d m n S O 0 0 x) 0)=1:=Y8 fun h=>by
  have:=(zBf hd hn hS hH hO gC he.1).2 h
  have:=hx.1
  omega
 have gF:=hS.lt _ (z0i he.1)
 obtain⟨q,hq⟩:=YC (gC _ (z0i he.1))
 have vJ:=zpF gF hq
 refine⟨q,vJ,?_⟩
 have h128:2^n<=128:=Zl (n:=2) (by omega) hn
 have hs1:szN (2^q)=1:=by
  have:∀q,q<7->szN (2^q)=1:=by decide+kernel
  exact this q (by omega)
 refine(zsq (by omega) (z2e.2 fun p hp=> ?_) (by omega)).symm
 rw[Y9,decide_eq_true_iff] at hp
 rw[←hp];exact hq
theorem zst{p q:Nat}(h:z6H (2^p) (2^q)):p=q:=by
 have:=z2e.1 h p (by rw[Y9];simp)
 rw[Y9,decide_eq_true_iff] at this
 exact this.symm
theorem zy4(hf:S.getD 0 0=2^n-1)(ha:a<m)(hx:zeJ d m n S O x)(h0:0<S.length):S.getD (z7s d m n S O 0 0 (z5n d m n S O a x)) 0=mvN d (S.getD (z7s d m n S O 0 0 x) 0) a:=by
 obtain⟨q,q1,q2⟩:=zjO hd hn hS hH hO gC gE hx h0
 have hy:=(zah hd hn hS hH hO gC (a:=a) hx h0).1
 obtain⟨p,p1,p2⟩:=zjO hd hn hS hH hO gC gE hy h0
 obtain⟨r,r1,r2⟩:=zz9 hd q1 ha
 obtain⟨x1,x2⟩:=hx
 have h:=zsE hd hn hS hH hO gC gE ha x 0 0 0 h0 h0 (Y7 _) (Y7 _) (by omega) (fun j hj=>by rw[Zs];exact x2 j (by omega)) (by rw[hf];exact zfg (zc3 hd ha))
 have h:z6H (mvN d (S.getD (z7s d m n S O 0 0 x) 0) a) (S.getD (z7s d m n S O 0 0 (z5n d m n S O a x)) 0):=h
 rw[q2,r2,p2] at h
 rw[q2,r2,p2,zst hd hn hS hH hO gC gE h]
theorem zvx(hf:S.getD 0 0=2^n-1)(h0:0<S.length):S.getD (z7s d m n S O 0 0 (z3m d m n S O)) 0=2^d.start.toNat:=by
 have s0:=hd.s0
 have s1:=hd.s1
 have h1:=hS.one d.start.toNat (by omega)
 have e1:=z3R h1
 have gO:szN (2^d.start.toNat)=1:=by
  have:∀q,q<7->szN (2^q)=1:=by decide+kernel
  exact this _ (by omega)
 obtain⟨p,p1,p2⟩:=zjO hd hn hS hH hO gC gE (zai hd hn hS hH hO gC h0) h0
 have h:=zsK hd hn hS hH hO gC gE (z6F h1) O.length 0 0 (by omega) h0 (Y7 _) (by rw[e1];exact gO) (by rw[e1,hf];exact zfg (hS.lt _ h1))
 have h:z6H (S.getD (S.idxOf (2^d.start.toNat)) 0) (S.getD (z7s d m n S O 0 0 (z3m d m n S O)) 0):=h
 rw[e1,p2] at h
 rw[p2,zst hd hn hS hH hO gC gE h]
end
end
section
open Go Go.IntKind
noncomputable section
variable{a2:ByteArray}{a0:DFA}
attribute [-simp] Nat.mul_lt_mul_right
abbrev zbP(a0:DFA)(a2:ByteArray):Int×Int->Option ((Int×Int)⊕Int)
 |(w19,w20)=>
 if w20<(a2.size:Int) then
 (atI a0.next w19).bind fun v24=>
 (zht a2 w20).bind fun v25=>
 (atI v24 (u8.wrap (v25-97))).bind fun v26=>
 z0c (v26,i64.wrap (w20+1))
 else
 z0d<|
 some w19
instance:Hd (zbP a0 a2):=⟨fun(w19,w20)=>([(1,xI w19),(31,xI w20)],[])⟩
def zhm(a0:DFA)(a1:Int)(a2:ByteArray):Option (Int):=
 (z4N a0).bind fun v14=>
 if v14=0 then
 if a1<0 then
 some (-1)
 else
 if(a0.final.length:Int)<=a1 then
 some (-1)
 else
 (z7A a2 a0.letters).bind fun v15=>
 if v15=true then
 z0h (zbP a0 a2) LFm (a1,0)
 else
 some (-1)
 else
 some (-1)
instance{a1:Int}:Ok (zhm a0 a1 a2) (fun r=>L 42 [.agg [.sc (.int .i64 a0.letters),.sc (.int .i64 a0.start),(tB a0.final),(tR a0.next)],.sc (.int .i64 a1),.sc (.string a2)]=some (.sc (.int .i64 r),[.dead,.dead,.dead])):=⟨fun r h=>by have h:=z3c h;unfold zhm at h;exact z4b rfl Tryz.func42 (bdy Tryz.f42 rfl)⟩
end
end
section
open Go
variable{w:ByteArray}{x:List Nat}{a:Nat}
theorem zoW{s x:List Int}(hl:x.length=s.length)(hx:x.length<=100000)(h:∀j,j<x.length->0<=x.getD j 0/\x.getD j 0<s.getD j 0):z2L s x=some true:=by
 unfold z2L
 rw[if_pos (by omega)]
 refine z0q (s:=(0:Int)) x.length (fun k=>(k:Int)) rfl (by simp only[LFm];omega) (fun k hk=> ?_) ?_
 · simp only[z3N]
   obtain⟨a1,a2⟩:=h k hk
   rw[if_pos (by omega),z5q 0 hk,Z0,if_neg (by omega),z5q 0 (by omega),Z0,if_neg (by omega),z0H (by omega)]
 · simp only[z3N]
   rw[if_neg (by omega)]
theorem zwD(x:List Nat)(k:Nat):(toI x).take k=toI (x.take k):=by simp[toI,XX]
theorem zB3{a b:List Nat}(ha:a.length<=100000):z3y (toI a) (toI b)=some (decide (a=b)):=by
 unfold z3y
 by_cases hl:a.length=b.length
 · rw[z0b,z0b,if_pos (by omega)]
   refine zbF (fun s=>∃k:Nat,s=(k:Int)/\k<=a.length/\ ∀j,j<k->a.getD j 0=b.getD j 0) (fun s=>a.length+1-s.toNat) ⟨0,rfl,Y7 _,fun j hj=>by omega⟩ (by simp only[LFm];omega) ?_
   rintro _ ⟨k,rfl,hk,hj⟩
   simp only[z5e]
   rw[z0b]
   by_cases h1:k<a.length
   · rw[if_pos (by omega),z1q h1,Z0,z1q (by omega),Z0]
     by_cases e:a.getD k 0=b.getD k 0
     · left
       rw[if_pos (by omega),z0H (by omega)]
       exact⟨_,rfl,⟨k+1,rfl,by omega,fun j hj'=>by
        by_cases e2:j=k
        · rw[e2];exact e
        · exact hj j (by omega)⟩,by omega⟩
     · right
       rw[if_neg (by omega),decide_eq_false (by rintro rfl;exact e rfl)]
   · right
     rw[if_neg (by omega),decide_eq_true (Zf hl fun i i1 i2=>by
      have:=hj i (by omega)
      rwa [List.getD,Z1 i1,List.getD,Z1 i2,Z4,Z4] at this)]
 · rw[z0b,z0b,if_neg (by omega),decide_eq_false (by rintro rfl;exact hl rfl)]
theorem zs5{q:Nat}(h:q<7):tzN (2^q)=q:=by
 have:∀q,q<7->tzN (2^q)=q:=by decide+kernel
 exact this q h
def zt4(d:DFA)(m n:Nat)(S O:List Nat):List Nat->List UInt8->List Nat
 |x,[]=>x
 |x,c::w=>zt4 d m n S O (z5n d m n S O (c.toNat-97) x) w
theorem zli{d:DFA}{m n:Nat}{S O:List Nat}(c:UInt8):∀(x:List Nat) (w:List UInt8),zt4 d m n S O x (w++ [c])=z5n d m n S O (c.toNat-97) (zt4 d m n S O x w)
 |x,[]=>rfl
 |x,e::w=>by simp only[ZO,zt4];exact zli c _ w
theorem zo1{m:Nat}(hm:1<=m/\m<=6)(h:zf2 m w):z7A w (m:Int)=some true:=by
 rw[zhJ,zrM hm,decide_eq_true h]
theorem zmh{k:Nat}(h:k<w.size):w.data.toList.take (k+1)=w.data.toList.take k++ [w[k]]:=by
 have h':k<w.data.toList.length:=by rw[ZZ];exact h
 rw[ZB h',X7]
 rfl
theorem zyv(d:DFA)(c:UInt8)(q:Nat)(w:List UInt8):z6y d q (w++ [c])=nxN d (z6y d q w) (c.toNat-97):=by
 rw[zeI];rfl
section
variable {d:DFA} {m n:Nat} {S O:List Nat} (hd:DfaOk d m n) (hn:n<=7) (hS:SetsP d m n S) (hH:zhI d m n S) (hO:OrdC d m n S O) (gC:∀x∈S,x≠0) (gE:∀i k,i<S.length->k<S.length->zaA S k=true->z6Y d m n S i k=true->zaA S i=true) (h0:0<S.length) (hf:S.getD 0 0=2^n-1) (h24:O.length<=24) {G:List Hol} {c:Cover} {Y:List (List Nat)} {W:List za7} (hC:CovD d m n S O G c Y W)
include hd hn hS hH hO gC h24 hC
theorem zwM(h0:0<S.length)(hx:x∈Y)(ha:a<m):z4t ⟨c.casc⟩ (toI x) (a:Int)=some (toI (z5n d m n S O a x),0):=by
 have hm6:=hd.m6
 have gF:=hd.lt
 obtain⟨x1,x2⟩:=hC.tup x hx
 have jU:=zeh (d:=d) (m:=m) (n:=n) (S:=S) (O:=O)
 have hT:=hC.tup x hx
 have jF:c.casc.rows=W.map zeV:=by rw[hC.eq]
 have gO:c.casc.sizes=zqz d m n S O:=by rw[hC.eq]
 have kM:c.casc.letters=d.letters:=by rw[hC.eq]
 have hg:=hC.good
 have vD:c.casc.rows.Pairwise fun r q=>z9k r.pre q.pre<0:=by
  rw[jF];exact YA _ (fun _ _ h=>h) hC.asc
 unfold z4t
 simp only
 rw[zoW (by rw[gO,jU,z0b,x1]) (by rw[z0b];omega) (fun j hj=>by
  rw[z0b] at hj
  have:=x2 j (by omega)
  rw[zoe,gO,zl9,if_pos (by omega)];omega),Z0,if_pos rfl,if_neg (by omega),if_neg (by rw[kM];omega),z0b,z0e _ (by unfold z0D;omega),Z2]
 have hmm:(z8i d m n S O a x).length=x.length:=zl1 a x
 refine z0q (s:=((0:Int),List.replicate x.length (0:Int))) x.length (fun k=>((k:Int),z9R x.length (fun k=>(((z5n d m n S O a x).getD k 0:Nat):Int)) (fun _=>0) k)) (by rw[z8V];congr 1;exact(Zf (by simp) fun i h1 h2=>by simp)) (by simp only[LFm];omega) (fun k hk=> ?_) ?_
 · simp only[z4z]
   obtain⟨t,ht,e⟩:=Zn ((zqC hC.rows (fun y hy=>(hC.tup y hy).1) (x.take k,z2I d m n S O x k)).2 ⟨x,hx,k,by omega,rfl⟩)
   have ht':t<c.casc.rows.length:=by rw[jF,Zg];exact ht
   have er:c.casc.rows[t]=zeV (x.take k,z2I d m n S O x k):=by
    simp only[jF,Zw,e]
   have hs:=zqA vD (by have:=hg.r48;omega) (fun r hr=>by have:=(hg.pre r hr).1;have:=hg.s24;omega) ht'
   rw[er] at hs
   obtain⟨o',i',p1,p2,p3⟩:=zt8 hd hn hS hH hO gC h0 hT (i:=k) (by omega) a
   obtain⟨q1,q2⟩:=zoM hd hn hS hH hO gC (a:=a) (c:=k) (by omega) p1 p2
   rw[←p3] at q1
   have vF:=x2 k (by omega)
   obtain⟨s1,s2⟩:=zl3 (d:=d) (m:=m) (n:=n) (S:=S) (O:=O) a x 0 0 0 k hk
   rw[←s1] at s2
   have kE:((z8i d m n S O a x).getD k []).getD (x.getD k 0) 0=(z5n d m n S O a x).getD k 0:=s2.symm
   have jE:atI ((z2I d m n S O x k).map toI) (a:Int)=some (toI ((z8i d m n S O a x).getD k [])):=by
    rw[z0Q (by simp[z2I];exact ha)]
    simp[z2I]
   rw[z0b,if_pos (by omega),z1q hk,Z0,zaW (by rw[z0b];omega),Z0,zwD,show toI (x.take k)=(zeV (x.take k,z2I d m n S O x k)).pre from rfl,hs,Z0]
   simp only[if_true]
   rw[z0Q ht',Z0,er]
   simp only[zeV]
   rw[jE,Z0,z1q (by rw[q1];exact vF),Z0,z5P hk,Z0,z0H (by omega),Z2,kE,z4c (f:=fun k=>(((z5n d m n S O a x).getD k 0:Nat):Int)) hk]
 · simp only[z4z]
   rw[z0b,if_neg (by omega),z8U]
   congr 3
   refine Zf (by simp[toI,zsy]) fun i h1 h2=> ?_
   have hi:i<(z5n d m n S O a x).length:=by simpa[toI] using h2
   simp[toI,List.getD,hi]
theorem zt1(hx:x∈Y):∀ {w:List UInt8},zf8 m w->zt4 d m n S O x w∈Y:=by
 intro w hw
 induction w generalizing x with
 |nil=>exact hx
 |cons e w ih=>exact ih (hC.cl x hx _ (z8l hw).2) (z8l hw).1
theorem zzZ(h0:0<S.length)(hx:x∈Y)(hw:zf2 m w):z9g c.casc (toI x) w=some (toI (zt4 d m n S O x w.data.toList),0):=by
 have hm1:=hd.m1
 have hm6:=hd.m6
 have gF:=hd.lt
 obtain⟨x1,x2⟩:=hC.tup x hx
 have jU:=zeh (d:=d) (m:=m) (n:=n) (S:=S) (O:=O)
 have gO:c.casc.sizes=zqz d m n S O:=by rw[hC.eq]
 have kM:c.casc.letters=d.letters:=by rw[hC.eq]
 have hN:z5m c.casc=some (.inl (⟨c.casc⟩,0)):=by
  unfold z5m
  rw[zwz hC.good,Z0,if_pos rfl]
 have q8:w.data.toList.length=w.size:=by rw[ZZ];rfl
 unfold z9g
 rw[hN,Z0]
 simp only[if_true]
 rw[zoW (by rw[gO,jU,z0b,x1]) (by rw[z0b];omega) (fun j hj=>by
  rw[z0b] at hj
  have:=x2 j (by omega)
  rw[zoe,gO,zl9,if_pos (by omega)];omega),Z0,if_pos rfl,kM,gF,zo1 ⟨hm1,hm6⟩ hw,Z0,if_pos rfl]
 have gH:z9F (toI x)=some (toI x):=by unfold z9F;rw[z0b,if_pos (by omega)]
 rw[gH,Z0]
 have yY:=hw.1
 refine z0q (s:=((0:Int),toI x)) w.size (fun k=>((k:Int),toI (zt4 d m n S O x (w.data.toList.take k)))) (by simp[zt4]) (by simp only[LFm];omega) (fun k hk=> ?_) ?_
 · have hb:w[k].toNat<256:=w[k].toNat_lt
   have hk':w[k]∈w.data.toList:=by rw[za3 hk];rw[List.getD,Z1 (by omega)];exact Zm _
   obtain⟨l1,l2⟩:=hw.2 _ hk'
   have jJ:=zt1 hd hn hS hH hO gC h24 hC hx (w:=w.data.toList.take k) fun e he=>hw.2 e (ZK he)
   simp only[z7Y]
   rw[if_pos (by omega),zbc hk,Z0,zhY (by omega) hb,zwM hd hn hS hH hO gC h24 hC h0 jJ (by omega),Z0,if_pos rfl,z0H (by omega),zmh hk,zli]
 · simp only[z7Y]
   rw[if_neg (by omega),←q8,Yd]
include gE hf
theorem zC4(h0:0<S.length)(hx:x∈Y)(ha:a<m):zl4 d m n S O x<n/\zl4 d m n S O (z5n d m n S O a x)=nxN d (zl4 d m n S O x) a:=by
 obtain⟨q,q1,q2⟩:=zjO hd hn hS hH hO gC gE (hC.tup x hx) h0
 have e:=zy4 hd hn hS hH hO gC gE hf ha (hC.tup x hx) h0
 have hm6:=hd.m6
 have el:(UInt8.ofNat (97+a)).toNat=97+a:=z7j (by omega)
 have h1:mvN d (2^q) a=2^nxN d q a:=by
  have:=zmX hd hn q1 (w:= [UInt8.ofNat (97+a)]) (fun c hc=>by rw[Zi.1 hc,el];omega)
  rw[zt2 hd hn hS ha] at this
  simpa only[z6y,el,Y4] using this
 obtain⟨_,_,_,h2⟩:=zf6 hd q1 ha
 unfold zl4
 rw[e,q2,h1,zs5 (by omega),zs5 (by omega)]
 exact⟨q1,rfl⟩
theorem zC1(h0:0<S.length)(hx:x∈Y):∀ {w:List UInt8},zf8 m w->zl4 d m n S O (zt4 d m n S O x w)=z6y d (zl4 d m n S O x) w:=by
 intro w hw
 induction w generalizing x with
 |nil=>rfl
 |cons e w ih=>
  obtain⟨w1,w2⟩:=z8l hw
  simp only[zt4,z6y]
  rw[ih (hC.cl x hx _ w2) w1,(zC4 hd hn hS hH hO gC gE hf h24 hC h0 hx w2).2]
theorem zwQ(h0:0<S.length):zl4 d m n S O (z3m d m n S O)=d.start.toNat:=by
 have s0:=hd.s0
 have s1:=hd.s1
 unfold zl4
 rw[zvx hd hn hS hH hO gC gE hf h0,zs5 (by omega)]
theorem zzO(h0:0<S.length)(hw:zf2 m w):z3M c w=some (((z6y d d.start.toNat w.data.toList:Nat):Int),0):=by
 have gL:c.start=toI (z3m d m n S O):=by rw[hC.eq]
 have uG:c.tuples=Y.map toI:=by rw[hC.eq]
 have vS:c.states=toI (Y.map (zl4 d m n S O)):=by rw[hC.eq]
 have yL:=hC.few
 have hz:=zt1 hd hn hS hH hO gC h24 hC hC.st (w:=w.data.toList) hw.2
 have hq:=zC1 hd hn hS hH hO gC gE hf h24 hC h0 hC.st (w:=w.data.toList) hw.2
 rw[zwQ hd hn hS hH hO gC gE hf h24 hC h0] at hq
 unfold z3M
 rw[gL,zzZ hd hn hS hH hO gC h24 hC h0 hC.st hw,Z0,if_pos rfl]
 have hzl:=(hC.tup _ hz).1
 generalize zt4 d m n S O (z3m d m n S O) w.data.toList=z at*
 rw[z5C (s:=(0:Int)) Y.length (fun k=>(k:Int)) (fun k=>decide (z=Y.getD k [])) (fun k=>some (((zl4 d m n S O (Y.getD k []):Nat):Int),0)) (x:=some (0,23)) rfl (by simp only[LFm];omega)]
 · cases uO:(List.range Y.length).find? fun k=>decide (z=Y.getD k []) with
   |none=>
    obtain⟨k,hk,e⟩:=Zn hz
    have:=W0.1 uO k (Zj.2 hk)
    rw[decide_eq_true_eq,List.getD,Z1 hk,Z4] at this
    exact absurd e.symm this
   |some k=>
    have:=List.find?_some uO
    rw[decide_eq_true_eq] at this
    simp only
    rw[←this,hq]
 · intro k hk
   have jE:atI (Y.map toI) (k:Int)=some (toI (Y.getD k [])):=by
    rw[z0Q (by simpa using hk)];simp[List.getD,hk]
   simp only[z4P]
   rw[uG,Zg,if_pos (by omega),jE,Z0,zB3 (by omega),Z0]
   by_cases e:z=Y.getD k []
   · rw[decide_eq_true e,if_pos rfl,if_pos rfl,vS,z0b,Zg,if_neg (by omega),z1q (by rw[Zg];exact hk),Z0]
     simp[List.getD,hk]
   · rw[decide_eq_false e,if_neg (by simp),if_neg (by simp),z0H (by omega)]
 · simp only[z4P]
   rw[uG,Zg,if_neg (by omega)]
end
theorem zvA{d:DFA}{m n:Nat}(hd:DfaOk d m n)(hn:n<=7)(hw:zf2 m w):zhm d d.start w=some ((z6y d d.start.toNat w.data.toList:Nat):Int):=by
 have hm1:=hd.m1
 have hm6:=hd.m6
 have s0:=hd.s0
 have s1:=hd.s1
 have q8:w.data.toList.length=w.size:=by rw[ZZ];rfl
 have yY:=hw.1
 have gF:=hd.lt
 have gG:=hd.fin
 unfold zhm
 rw[zb7 (zzl hd (by omega)),zkq hd (by omega),Z0,if_pos rfl,if_neg (by omega),if_neg (by omega),gF,zo1 ⟨hm1,hm6⟩ hw,Z0,if_pos rfl]
 refine z0q (s:=(d.start,(0:Int))) w.size (fun k=>(((z6y d d.start.toNat (w.data.toList.take k):Nat):Int),(k:Int))) (by simp[z6y];omega) (by simp only[LFm];omega) (fun k hk=> ?_) ?_
 · have hb:w[k].toNat<256:=w[k].toNat_lt
   have hk':w[k]∈w.data.toList:=by rw[za3 hk];rw[List.getD,Z1 (by omega)];exact Zm _
   obtain⟨l1,l2⟩:=hw.2 _ hk'
   have hq:=zdI hd (w:=w.data.toList.take k) (q:=d.start.toNat) (by omega) fun e he=>hw.2 e (ZK he)
   obtain⟨r,e1,e2,_⟩:=zf6 hd hq (a:=w[k].toNat-97) (by omega)
   simp only[zbP]
   rw[if_pos (by omega),e1,Z0,zbc hk,Z0,zwu (x:=(w[k].toNat:Int)-97) (by omega) (by omega),show(w[k].toNat:Int)-97=((w[k].toNat-97:Nat):Int) by omega,e2,Z0,z0H (by omega),zmh hk,zyv]
 · simp only[zbP]
   rw[if_neg (by omega),←q8,Yd]
end
section
open Go Go.IntKind
noncomputable section
attribute [-simp] Nat.mul_lt_mul_right
instance:IsS CRow:=⟨⟩
def oT:Option (List (ByteArray×Bool))->T
 |none=>.sc (.map none)
 |some m=>.mp none (m.map fun x=>(.string x.1,.bool x.2))
@[simp] theorem oT_none:oT none= .sc (.map none):=rfl
@[simp] theorem oT_some(m:List (ByteArray×Bool)):oT (some m)= .mp none (m.map fun x=>(.string x.1,.bool x.2)):=rfl
end
end
section
open Go Go.IntKind
noncomputable section
attribute [-simp] Nat.mul_lt_mul_right Option.not_isSome
end
end
section
open Go
variable{p:List Nat}{c:Nat}
theorem zxM{d:DFA}{m n:Nat}{S:List Nat}{k:Nat}(h:0<z8e d m n S k):szN (S.getD k 0)≠1:=fun e=>by
 have hz:zaA S k=true:=by unfold zaA;rw[decide_eq_true e]
 unfold z8e znv at h
 cases hN:S.length with
 |zero=>rw[hN] at h;simp[zxN] at h
 |succ N=>rw[hN] at h;simp only[zxN] at h;rw[if_pos hz] at h;omega
def mvL(p:List Nat)(s:Nat):Nat->Nat
 |0=>0
 |q+1=>if s.testBit q=true then mvL p s q|||2^p.getD q 0 else mvL p s q
def itL(p:List Nat):Nat->Nat->Nat
 |0,s=>s
 |k+1,s=>itL p k (mvL p s 5)
def zwk(x:Nat):Bool:=decide (szN x≠1)&&decide (x≠0)
def manL:List Nat:=(List.range 32).filter zwk
def gdB(p:List Nat)(A:Nat):Bool:=zwk A&&zwk (mvL p A 5)&&decide (mvL p A 5<32)&& !decide (mvL p A 5=A)&&(List.range 6).any fun k=>decide (itL p k (mvL p A 5)=A)
def okB(p:List Nat):Bool:= !decide (mvL p 31 5=31)||((List.range 5).all fun q=>decide (p.getD q 0=q))||(List.range 32).any fun A=>gdB p A&&(List.range 32).any fun B=>gdB p B&& !decide (A=B)&& !decide (A=mvL p B 5)&& !decide (mvL p A 5=B)&& !decide (mvL p A 5=mvL p B 5)
theorem zCy:((List.range 5).all fun a=>(List.range 5).all fun b=>(List.range 5).all fun c=>(List.range 5).all fun d=>(List.range 5).all fun e=>okB [a,b,c,d,e])=true:=by kernel_rfl
theorem zAA:manL.length=26:=by kernel_rfl
theorem zzC:((List.range 31).all fun u=>(List.range 31).all fun v=>decide ((manL.filter fun x=>decide (x=31)||decide (x&&&u=x)||decide (x&&&v=x)).length<=24))=true:=by kernel_rfl
theorem zHr:((List.range 5).all fun n=>decide (((List.range (2^n)).filter zwk).length<=11))=true:=by kernel_rfl
theorem zCY:((List.range 32).all fun x=>decide (mvL [0,1,2,3,4] x 5=x))=true:=by kernel_rfl
theorem zAq:((List.range 5).all fun q=> !zwk (2^q))=true:=by kernel_rfl
theorem z8n{N:Nat}{p:Nat->Bool}(h:(List.range N).all p=true){x:Nat}(hx:x<N):p x=true:=Zr.1 h x (Zj.2 hx)
theorem zFx(h:p.length=5):p= [p.getD 0 0,p.getD 1 0,p.getD 2 0,p.getD 3 0,p.getD 4 0]:=by
 match p,h with
 | [_,_,_,_,_],_=>rfl
theorem zAr(h:p.length=5)(h5:∀q,q<5->p.getD q 0<5):okB p=true:=by
 rw[zFx h]
 exact z8n (z8n (z8n (z8n (z8n zCy (h5 0 (by omega))) (h5 1 (by omega))) (h5 2 (by omega))) (h5 3 (by omega))) (h5 4 (by omega))
section
variable {d:DFA} {m n:Nat} (hd:DfaOk d m n)
include hd
theorem zt3{P:Nat->Prop}(hs:∀x a,x<2^n->a<m->P x->P (mvN d x a)):∀(w:List UInt8) (s:Nat),s<2^n->(∀c∈w,97<=c.toNat/\c.toNat<97+m)->P s->P (z4D d s w)
 | [],s,_,_,h=>h
 |c::w,s,hl,hw,h=>by
  have hc:=hw c (Zz ..)
  exact zt3 hs w _ (zc3 hd (by omega)) (fun c' h'=>hw c' (Zo _ h')) (hs _ _ hl (by omega) h)
theorem zwU{P:Nat->Prop}(h0:P (2^n-1))(h1:∀q,q<n->P (2^q))(hs:∀x a,x<2^n->a<m->P x->P (mvN d x a)):∀x∈z2a d m n,P x:=fun x hx=>by
 have hp:=Yu n
 have hr:=z7e hd (s:=2^n-1) (by omega)
 have hx:=(z9O _).mem_iff.1 hx
 rcases((z7M hr.nd n).2.1 x).1 hx with h|⟨i,hi,rfl⟩
 · obtain⟨k,hk,rfl⟩:=Zn h
   obtain⟨_,o2,o3⟩:=hr.ok k hk
   have e:(z1E d m n (2^n-1)).1[k]=(z1E d m n (2^n-1)).1.getD k 0:=by grind
   rw[e,←o3]
   exact zt3 hd hs _ _ (by omega) o2 h0
 · exact h1 i hi
theorem zzq{a s:Nat}(ha:a<m):zrS d m (mvN d s a) s:=by
 have:=hd.m6
 have e:(UInt8.ofNat (97+a)).toNat=97+a:=z7j (by omega)
 refine⟨[UInt8.ofNat (97+a)],fun c hc=> ?_,?_⟩
 · rw[Zi.1 hc,e];omega
 · simp only[z4D,e,Y4]
   exact z9m _
variable {S O:List Nat} (hS:SetsP d m n S) (hO:OrdC d m n S O)
include hS hO
theorem zgv(hc:c∈O):c<(z6W d m n S).length/\z2j d m n S c<S.length/\szN (S.getD (z2j d m n S c) 0)≠1:=by
 have h:=hO.prm.mem_iff.1 hc
 unfold zaX at h
 obtain⟨h1,h2⟩:=ZV.1 h
 have h1:=Zj.1 h1
 exact⟨h1,zc6 _ _ _ (z0i h1),zxM (of_decide_eq_true h2)⟩
theorem ztc{c':Nat}(hc:c∈O)(hc':c'∈O)(h1:zrS d m (S.getD (z2j d m n S c) 0) (S.getD (z2j d m n S c') 0))(h2:zrS d m (S.getD (z2j d m n S c') 0) (S.getD (z2j d m n S c) 0)):c=c':=by
 obtain⟨a1,a2,_⟩:=zgv hd hS hO hc
 obtain⟨b1,b2,_⟩:=zgv hd hS hO hc'
 have he:=z9t hd hS
 refine zjH he (zb3 he _ (Z8 _)) (zc6 _ _) a2 a1 b1 (he.refl _ a2) ?_
 show z2x d m n S (z2j d m n S c) (z2j d m n S c')=true
 simp only[z2x,Z6]
 exact⟨(z4k hd hS b2).2 h1,(z4k hd hS a2).2 h2⟩
end
theorem ztK{d:DFA}{a s:Nat}{p:List Nat}(hp:∀q,q<5->p.getD q 0=((d.next.getD q []).getD a 0).toNat):∀q,q<=5->zjg d.next s a q=mvL p s q
 |0,_=>rfl
 |q+1,h=>by rw[zjg,mvL,ztK hp q (by omega),hp q (by omega)]
theorem zzr{d:DFA}{m a:Nat}(hd:DfaOk d m 5)(ha:a<m){p:List Nat}(hp:∀s,mvN d s a=mvL p s 5):∀(k s:Nat),zrS d m (itL p k s) s
 |0,s=>zdH d m s
 |k+1,s=>by
  have h:=zzq hd (s:=s) ha
  rw[hp] at h
  exact zdG hd (zzr hd ha hp k _) h
theorem zHB{d:DFA}{m:Nat}(hd:DfaOk d m 5)(hm:m<=2){R:List Nat}(hn:R.Nodup)(hR:∀x∈R,x∈z2a d m 5/\zwk x=true)(h1:∀x∈R,∀y∈R,zrS d m x y->zrS d m y x->x=y):R.length<=24:=by
 have hS:=z8j hd
 have qO:∀x,x<32->zwk x=true->x∈manL:=fun x hx h=>ZV.2 ⟨Zj.2 hx,h⟩
 have gF:∀x∈R,x<32:=fun x hx=>hS.lt x (hR x hx).1
 by_cases hp:∃a,a<m/\mvN d 31 a=31/\ ∃q,q<5/\((d.next.getD q []).getD a 0).toNat≠q
 · obtain⟨a,ha,h31,q,hq,gK⟩:=hp
   obtain⟨p,uJ⟩:∃p,p=(List.range 5).map fun q=>((d.next.getD q []).getD a 0).toNat:=⟨_,rfl⟩
   have qQ:p.length=5:=by rw[uJ];rfl
   have pF:∀q,q<5->p.getD q 0=((d.next.getD q []).getD a 0).toNat:=fun q hq=>by
    rw[uJ,List.getD,Zd,List.getElem?_range hq];rfl
   have kQ:∀s,mvN d s a=mvL p s 5:=fun s=>by
    unfold mvN
    rw[hd.nl]
    exact ztK pF 5 (by omega)
   have jS:=zAr qQ fun q hq=>by
    obtain⟨_,_,e,r0,r1⟩:=zak hd hq ha
    rw[pF q hq,e];omega
   unfold okB at jS
   rw[←kQ,h31] at jS
   have pM:((List.range 5).all fun q=>decide (p.getD q 0=q))=false:=by
    rw[Bool.eq_false_iff]
    intro h
    have:=z8n h hq
    rw[decide_eq_true_eq,pF q hq] at this
    exact gK this
   rw[pM] at jS
   simp only[decide_true,Xt,Xu,Yn,Zj,Z6,ZX,decide_eq_false_iff_not] at jS
   obtain⟨A,hA,gA,B,hB,⟨⟨⟨gB,e1⟩,e2⟩,e3⟩,e4⟩:=jS
   have pick:∀A,A<32->gdB p A=true->∃x,(x=A∨x=mvL p A 5)/\x∉R/\x∈manL:=fun A hA g=>by
    unfold gdB at g
    simp only[Z6,Yn,Zj,decide_eq_true_eq,ZX,decide_eq_false_iff_not] at g
    obtain⟨⟨⟨⟨g1,g2⟩,g3⟩,g4⟩,k,hk,g5⟩:=g
    by_cases hr:A∈R
    · refine⟨_,.inr rfl,fun h=>g4 (h1 _ h _ hr ?_ ?_),qO _ g3 g2⟩
      · rw[←kQ];exact zzq hd ha
      · have:=zzr hd ha kQ k (mvL p A 5)
        rwa [g5] at this
    · exact⟨A,.inl rfl,hr,qO A hA g1⟩
   obtain⟨x,x1,x2,x3⟩:=pick A hA gA
   obtain⟨y,y1,y2,y3⟩:=pick B hB gB
   have kL:x≠y:=by
    rcases x1 with rfl|rfl<;>rcases y1 with rfl|rfl<;>assumption
   have:=z7F (l:=x::y::R) (r:=manL) (by simp only[YG,Zv,not_or];exact⟨⟨kL,x2⟩,y2,hn⟩) fun z hz=>by
    simp only[Zv] at hz
    rcases hz with rfl|rfl|hz
    · exact x3
    · exact y3
    · exact qO z (gF z hz) (hR z hz).2
   rw[zAA] at this
   simp only[Zq] at this
   omega
 · have hid:∀a,a<m->mvN d 31 a=31->∀x,x<32->mvN d x a=x:=fun a ha h x hx=>by
    have hq:∀q,q<5->((d.next.getD q []).getD a 0).toNat=q:=fun q hq=>Decidable.byContradiction fun e=>hp ⟨a,ha,h,q,hq,e⟩
    have:=z8n zCY hx
    rw[decide_eq_true_eq] at this
    unfold mvN
    rw[hd.nl,ztK (p:= [0,1,2,3,4]) (fun q h=> ?_) 5 (by omega),this]
    rw[hq q h]
    rcases(by omega:q=0∨q=1∨q=2∨q=3∨q=4) with rfl|rfl|rfl|rfl|rfl<;>rfl
   have hU:∀a,∃u,u<31/\(a<m->mvN d 31 a≠31->u=mvN d 31 a):=fun a=>by
    by_cases h:a<m/\mvN d 31 a≠31
    · have:=zc3 hd (s:=31) h.1
      exact⟨mvN d 31 a,by have:=h.2;omega,fun _ _=>rfl⟩
    · exact⟨0,by omega,fun h1 h2=>absurd ⟨h1,h2⟩ h⟩
   obtain⟨u,u1,u2⟩:=hU 0
   obtain⟨v,v1,v2⟩:=hU 1
   have sub31:∀x,x<32->z6H x 31:=fun x hx=>by
    have:=Nat.and_two_pow_sub_one_eq_mod x 5
    unfold z6H
    rw[show(31:Nat)=2^5-1 from rfl,this,X8 hx]
   have hP:=zwU hd (P:=fun x=>x=31∨(∃q,q<5/\x=2^q)∨x&&&u=x∨x&&&v=x) (.inl rfl) (fun q hq=>.inr (.inl ⟨q,hq,rfl⟩)) fun x a hx ha h=>by
    by_cases h31:mvN d 31 a=31
    · rw[hid a ha h31 x hx];exact h
    · have hs:=znc hd ha (sub31 x hx)
      unfold z6H at hs
      rcases(by omega:a=0∨a=1) with rfl|rfl
      · rw[u2 ha h31];exact .inr (.inr (.inl hs))
      · rw[v2 ha h31];exact .inr (.inr (.inr hs))
   have:=z7F (l:=R) (r:=manL.filter fun x=>decide (x=31)||decide (x&&&u=x)||decide (x&&&v=x)) hn fun x hx=>by
    obtain⟨r1,r2⟩:=hR x hx
    refine ZV.2 ⟨qO x (gF x hx) r2,?_⟩
    rcases hP x r1 with h|⟨q,hq,rfl⟩|h|h
    · simp[h]
    · have:=z8n zAq hq
      rw[r2] at this
      simp at this
    · simp[h]
    · simp[h]
   have h24:=z8n (z8n zzC u1) v1
   rw[decide_eq_true_eq] at h24
   omega
theorem zAk{d:DFA}{m n:Nat}(hd:DfaOk d m n)(hn:n<=5)(hm:m<=2){O:List Nat}(hO:OrdC d m n (z2a d m n) O):O.length<=24:=by
 have hS:=z8j hd
 have yX:O.Nodup:=hO.prm.nodup_iff.2 (YK.filter _)
 obtain⟨R,qU⟩:∃R,R=O.map fun c=>(z2a d m n).getD (z2j d m n (z2a d m n) c) 0:=⟨_,rfl⟩
 have hl:R.length=O.length:=by rw[qU,Zg]
 have hR:∀x∈R,x∈z2a d m n/\zwk x=true:=fun x hx=>by
  rw[qU] at hx
  obtain⟨c,hc,rfl⟩:=Zh.1 hx
  obtain⟨_,f2,f3⟩:=zgv hd hS hO hc
  have:=z0i f2
  exact⟨this,by unfold zwk;rw[decide_eq_true f3,decide_eq_true (zbw hd this)];rfl⟩
 have qY:R.Nodup:=by
  rw[qU]
  exact z5z yX fun x hx y hy e=>ztc hd hS hO hx hy (by rw[e];exact zdH ..) (by rw[e];exact zdH ..)
 rw[←hl]
 by_cases h5:n=5
 · subst h5
   refine zHB hd hm qY hR fun x hx y hy h1 h2=> ?_
   rw[qU] at hx hy
   obtain⟨c,hc,rfl⟩:=Zh.1 hx
   obtain⟨c',hc',rfl⟩:=Zh.1 hy
   rw[ztc hd hS hO hc hc' h1 h2]
 · have:=z7F (r:=(List.range (2^n)).filter zwk) qY fun x hx=>ZV.2 ⟨Zj.2 (hS.lt x (hR x hx).1),(hR x hx).2⟩
   have h4:=z8n zHr (show n<5 by omega)
   rw[decide_eq_true_eq] at h4
   omega
end
section
open Go
variable{U:List Nat}
theorem z9Q{α:Type}[DecidableEq α]:∀ {l p:List α},l.Nodup->(∀a∈l,a∈p)->l.length<=p.length
 | [],_,_,_=>Y7 _
 |a::l,p,h,hs=>by
  rw[YG] at h
  have ha:=hs a (by simp)
  have:=z9Q (p:=p.erase a) h.2 fun b hb=>(List.mem_erase_of_ne (by rintro rfl;exact h.1 hb)).2 (hs b (Zo _ hb))
  have hl:=List.length_erase_of_mem ha
  have:=YI ha
  simp only[Zq]
  omega
def zwq(U:List Nat):Nat->Nat->List (List Nat)
 |0,_=> [[]]
 |f+1,x=> []::(U.filter fun y=>decide (y&&&x=y)&& !decide (y=x)).flatMap fun y=>(zwq U f y).map (y:: ·)
def zEo(U:List Nat):Nat->List Nat->Prop
 |_,[]=>True
 |x,y::l=>y∈U/\y&&&x=y/\y≠x/\zEo U y l
theorem zvD{U:List Nat}:∀ {f x:Nat} {l:List Nat},zEo U x l->l.length<=f->l∈zwq U f x
 |0,x,[],_,_=>by simp[zwq]
 |0,x,y::l,_,h=>by simp at h
 |f+1,x,[],_,_=>by simp[zwq]
 |f+1,x,y::l,h,hl=>by
  obtain⟨h1,h2,h3,h4⟩:=h
  simp only[zwq,Zv,List.mem_flatMap,ZV,Zh]
  refine .inr ⟨y,⟨h1,by simp[h2,h3]⟩,l,zvD h4 (by simpa using hl),rfl⟩
theorem zm8{U V:List Nat}(hU:∀x∈U,x∈V):∀ {x:Nat} {l:List Nat},zEo U x l->zEo V x l
 |_,[],_=>trivial
 |_,_::_,⟨h1,h2,h3,h4⟩=>⟨hU _ h1,h2,h3,zm8 hU h4⟩
theorem zoN{f:Nat->Nat}:∀ {X Y:List Nat},(∀a b,a∈X->b∈Y->f a=f b->a=b)->X.map f=Y.map f->X=Y
 | [],[],_,_=>rfl
 | [],_::_,_,h=>by simp at h
 |_::_,[],_,h=>by simp at h
 |x::X,y::Y,hf,h=>by
  simp only[Zt,Xx] at h
  rw[hf x y (by simp) (by simp) h.1,zoN (fun a b ha hb=>hf a b (Zo _ ha) (Zo _ hb)) h.2]
theorem zhz{y:Nat->List Nat}{P:List Nat->Prop}(hB:∀l:List (List Nat),l.Nodup->(∀t∈l,P t)->l.length<2000):∀(k a:Nat) (T:List (List Nat)),(∀b,a<=b->b<a+k->P (y b))->(∀t∈T,P t)->T.Nodup->∃T',zmt y k a T=some T'/\(∀t∈T',P t)/\T'.Nodup
 |0,a,T,_,hP,hn=>⟨T,rfl,hP,hn⟩
 |k+1,a,T,hy,hP,hn=>by
  simp only[zmt]
  by_cases h:y a∈T
  · rw[if_pos h]
    exact zhz hB k (a+1) T (fun b h1 h2=>hy b (by omega) (by omega)) hP hn
  · have:=hB T hn hP
    rw[if_neg h,if_neg (by omega)]
    refine zhz hB k (a+1) _ (fun b h1 h2=>hy b (by omega) (by omega)) (fun t ht=> ?_) (Yj.2 ⟨hn,by simp,fun u hu v hv=>by rw[Zi] at hv;subst hv;rintro rfl;exact h hu⟩)
    rcases Ze.1 ht with ht|ht
    · exact hP t ht
    · rw[Zi.1 ht];exact hy a (by omega) (by omega)
theorem zmj{st:Nat->List Nat->List Nat}{m:Nat}{P:List Nat->Prop}(gL:∀a x,a<m->P x->P (st a x))(hB:∀l:List (List Nat),l.Nodup->(∀t∈l,P t)->l.length<2000):∀(f i:Nat) (T:List (List Nat)),(∀t∈T,P t)->T.Nodup->∃T',zk2 st m f i T=some T'
 |0,i,T,_,_=>⟨T,rfl⟩
 |f+1,i,T,hP,hn=>by
  simp only[zk2]
  by_cases h:i<T.length
  · rw[if_pos h]
    have hx:P (T.getD i []):=hP _ (by rw[List.getD,Z1 h];exact Zm h)
    obtain⟨T',e,h1,h2⟩:=zhz hB m 0 T (y:=fun a=>st a (T.getD i [])) (fun b _ hb=>gL b _ (by omega) hx) hP hn
    rw[e,Z0]
    exact zmj gL hB f (i+1) T' h1 h2
  · rw[if_neg h];exact⟨T,rfl⟩
def zyx(d:DFA)(m n:Nat)(S O:List Nat):Nat->Nat->List Nat->Prop
 |_,_,[]=>True
 |c,i,s::x=>(cpN d m n S O i≠c->s=0)/\zyx d m n S O (c+1) (dnN d m n S O c i s) x
theorem zyV{d:DFA}{m n:Nat}{S O:List Nat}(a:Nat):∀(x:List Nat) (c o i:Nat),zyx d m n S O c i ((stN d m n S O a c o i x).map (·.1))
 | [],_,_,_=>trivial
 |s::x,c,o,i=>by
  simp only[stN,Zt,zyx]
  refine⟨fun h=> ?_,zyV a x _ _ _⟩
  unfold zf7
  rw[if_neg h]
  simp only[List.getD,List.getElem?_replicate]
  split<;>rfl
theorem zyX{d:DFA}{m n:Nat}{S O:List Nat}(q:Nat):∀(k c i:Nat),zyx d m n S O c i (srN d m n S O q k c i)
 |0,_,_=>trivial
 |k+1,c,i=>by
  simp only[srN,zyx]
  exact⟨fun h=>if_neg h,zyX q k _ _⟩
theorem zpw(d:DFA)(m n:Nat)(S O:List Nat):∀(y:List Nat) (c i:Nat),(zaz d m n S O c i y).length<=y.length
 | [],_,_=>by simp[zaz]
 |s::y,c,i=>by
  have:=zpw d m n S O y (c+1) (dnN d m n S O c i s)
  simp only[zaz,Z7,Zq]
  split<;>simp<;>omega
section
variable {d:DFA} {m n:Nat} {S O:List Nat} (hd:DfaOk d m n) (hn:n<=7) (hS:SetsP d m n S) (hH:zhI d m n S) (hO:OrdC d m n S O) (gC:∀x∈S,x≠0)
include hd hn hS hH hO gC
theorem zvR:∀(y:List Nat) (c i:Nat),i<S.length->c<=cpN d m n S O i->c+y.length<=O.length->(∀j,j<y.length->y.getD j 0<szO d m n S O (c+j))->∀k∈zaz d m n S O c i y,k<S.length
 | [],c,i,_,_,_,_,k,hk=>by simp[zaz] at hk
 |s::y,c,i,hi,hc,hl,hx,k,hk=>by
  simp only[Zq] at hl
  have gU:c<O.length:=by omega
  have hs:s<szO d m n S O c:=by simpa using hx 0 (by simp)
  obtain⟨i1,i2⟩:=zfd hd hn hS hH hO gC gU hi hc hs
  simp only[zaz] at hk
  rcases Ze.1 hk with hk|hk
  · split at hk
    · rw[Zi.1 hk];exact i1
    · simp at hk
  · exact zvR y (c+1) _ i1 i2 (by omega) (fun j hj=>by have:=hx (j+1) (by simp;omega);simp only[Yg] at this;rwa [show c+1+j=c+(j+1) by omega]) k hk
theorem zsA:∀(x y:List Nat) (c i:Nat),x.length=y.length->i<S.length->c<=cpN d m n S O i->c+x.length<=O.length->(∀j,j<x.length->x.getD j 0<szO d m n S O (c+j))->(∀j,j<y.length->y.getD j 0<szO d m n S O (c+j))->
 zyx d m n S O c i x->zyx d m n S O c i y->zaz d m n S O c i x=zaz d m n S O c i y->x=y
 | [],[],_,_,_,_,_,_,_,_,_,_,_=>rfl
 | [],t::y,_,_,h,_,_,_,_,_,_,_,_=>by simp at h
 |s::x,[],_,_,h,_,_,_,_,_,_,_,_=>by simp at h
 |s::x,t::y,c,i,hl,hi,hc,gH,hx,hy,h1,h2,he=>by
  simp only[Zq] at hl gH
  have gU:c<O.length:=by omega
  have hs:s<szO d m n S O c:=by simpa using hx 0 (by simp)
  have ht:t<szO d m n S O c:=by simpa using hy 0 (by simp)
  obtain⟨a1,a2⟩:=h1
  obtain⟨b1,b2⟩:=h2
  have gL:s=t:=by
   by_cases e:cpN d m n S O i=c
   · simp only[zaz,if_pos e,XQ,Xx] at he
     have hz:=zeb hd hn hS hH hO hi (by omega)
     rw[e] at hz
     have he1:=he.1
     unfold dnN at he1
     rw[if_pos e,if_pos e] at he1
     exact z7p (zkW hd hn hS hi) (by omega) (by omega) he1
   · rw[a1 e,b1 e]
  subst gL
  obtain⟨i1,i2⟩:=zfd hd hn hS hH hO gC gU hi hc hs
  have he2:zaz d m n S O (c+1) (dnN d m n S O c i s) x=zaz d m n S O (c+1) (dnN d m n S O c i s) y:=by
   simp only[zaz] at he
   exact YW he
  have sh:∀z:List Nat,(∀j,j<(s::z).length->(s::z).getD j 0<szO d m n S O (c+j))->∀j,j<z.length->z.getD j 0<szO d m n S O (c+1+j):=fun z hz j hj=>by
   have:=hz (j+1) (by simp;omega)
   simp only[Yg] at this
   rwa [show c+1+j=c+(j+1) by omega]
  rw[zsA x y (c+1) _ (by omega) i1 i2 (by omega) (sh x hx) (sh y hy) a2 b2 he2]
theorem zvS:∀(x:List Nat) (c i:Nat),i<S.length->c<=cpN d m n S O i->c+x.length<=O.length->(∀j,j<x.length->x.getD j 0<szO d m n S O (c+j))->zEo S (S.getD i 0) ((zaz d m n S O c i x).map fun k=>S.getD k 0)
 | [],_,_,_,_,_,_=>trivial
 |s::x,c,i,hi,hc,gH,hx=>by
  simp only[Zq] at gH
  have gU:c<O.length:=by omega
  have hs:s<szO d m n S O c:=by simpa using hx 0 (by simp)
  obtain⟨i1,i2⟩:=zfd hd hn hS hH hO gC gU hi hc hs
  have ih:=zvS x (c+1) _ i1 i2 (by omega) (fun j hj=>by
   have:=hx (j+1) (by simp;omega)
   simp only[Yg] at this
   rwa [show c+1+j=c+(j+1) by omega])
  by_cases e:cpN d m n S O i=c
  · have hz:=zeb hd hn hS hH hO hi (by omega)
    rw[e] at hz
    have hd1:dnN d m n S O c i s=(tlR d m n S i).getD s 0:=by unfold dnN;rw[if_pos e]
    have ht:=(zgd hd hn hS hi (s:=s) (by omega)).1
    obtain⟨t1,t2,t3⟩:=z4C.1 (z5M ht).1
    simp only[zaz,if_pos e,XQ,Zt]
    refine⟨z0i i1,?_,fun h=> ?_,ih⟩
    · rw[hd1];exact t3
    · rw[hd1] at h;exact t2 (z7p hS.nd t1 hi h)
  · have hd1:dnN d m n S O c i s=i:=by unfold dnN;rw[if_neg e]
    simp only[zaz,if_neg e,Yb]
    rw[hd1] at ih⊢
    exact ih
theorem zpV(h0:0<S.length)(h24:O.length<=24){N:Nat}(hU:∀x∈S,x∈U)(hN:(zwq U 24 (S.getD 0 0)).length<=N){l:List (List Nat)}(hl:l.Nodup)(hT:∀t∈l,zeJ d m n S O t/\zyx d m n S O 0 0 t):l.length<=N:=by
 have h1:(l.map fun x=>(zaz d m n S O 0 0 x).map fun k=>S.getD k 0).Nodup:=by
  refine z5z hl fun x hx y hy e=> ?_
  obtain⟨⟨x1,x2⟩,x3⟩:=hT x hx
  obtain⟨⟨y1,y2⟩,y3⟩:=hT y hy
  have hx2:∀j,j<x.length->x.getD j 0<szO d m n S O (0+j):=fun j hj=>by rw[Zs];exact x2 j (by omega)
  have hy2:∀j,j<y.length->y.getD j 0<szO d m n S O (0+j):=fun j hj=>by rw[Zs];exact y2 j (by omega)
  refine zsA hd hn hS hH hO gC x y 0 0 (by omega) h0 (Y7 _) (by omega) hx2 hy2 x3 y3 ?_
  have lt:∀z:List Nat,z.length=O.length->(∀j,j<z.length->z.getD j 0<szO d m n S O (0+j))->∀k∈zaz d m n S O 0 0 z,k<S.length:=fun z hz h=>zvR hd hn hS hH hO gC z 0 0 h0 (Y7 _) (by omega) h
  have lx:=lt x x1 hx2
  have ly:=lt y y1 hy2
  generalize zaz d m n S O 0 0 x=X at e lx
  generalize zaz d m n S O 0 0 y=Y at e ly
  exact zoN (fun a b ha hb e=>z7p hS.nd (lx a ha) (ly b hb) e) e
 have h2:=z9Q (p:=zwq U 24 (S.getD 0 0)) h1 fun z hz=>by
  obtain⟨x,hx,rfl⟩:=Zh.1 hz
  obtain⟨⟨x1,x2⟩,x3⟩:=hT x hx
  refine zvD (zm8 hU (zvS hd hn hS hH hO gC x 0 0 h0 (Y7 _) (by omega) fun j hj=>by rw[Zs];exact x2 j (by omega))) ?_
  rw[Zg]
  have:=zpw d m n S O x 0 0
  omega
 rw[Zg] at h2
 omega
theorem zpH(h0:0<S.length)(h24:O.length<=24)(hU:∀x∈S,x∈U)(hN:(zwq U 24 (S.getD 0 0)).length<2000):∃T,zk2 (z5n d m n S O) m 2001 0 [z3m d m n S O]=some T:=by
 refine zmj (P:=fun t=>zeJ d m n S O t/\zyx d m n S O 0 0 t) (fun a x _ h=>⟨(zah hd hn hS hH hO gC h.1 h0).1,zyV a x 0 0 0⟩) (fun l hl hT=> ?_) 2001 0 _ (fun t ht=> ?_) (by simp)
 · exact YY (zpV hd hn hS hH hO gC h0 h24 hU (Z8 _) hl hT) hN
 · rw[Zi.1 ht]
   exact⟨zai hd hn hS hH hO gC h0,zyX _ _ _ _⟩
end
theorem zBd:((List.range 6).all fun n=>decide ((zwq ((List.range (2^n)).filter fun x=> !decide (x=0)) 24 (2^n-1)).length<2000))=true:=by kernel_rfl
end
section
open Go
theorem zHC(l s:Int)(f:List Bool):decide ((zwq (z2a ⟨l,s,f,defT⟩ 2 7) 24 127).length<2000)=true:=by kernel_rfl
theorem zBb{d:DFA}{m n:Nat}(hd:DfaOk d m n)(hm:m<=2)(hs:n<=5∨(n=7/\m=2/\d.next=defT)):∃O c,OrdC d m n (z2a d m n) O/\O.length<=24/\(z2a d m n).length<=32/\z4R d=some (O.map (zbX d m n (z2a d m n)),0)/\z5p d=some (c,0)/\
 CovOk d m n (z2a d m n) O (zqz d m n (z2a d m n) O) (O.map (zbX d m n (z2a d m n))) c:=by
 have hn:n<=7:=by omega
 have hS:=z8j hd
 have hH:=zdr hd hn
 have gC:∀x∈z2a d m n,x≠0:=fun x hx=>zbw hd hx
 obtain⟨h0,gS⟩:=zbL hd hn
 have h32:(z2a d m n).length<=32:=by
  rcases hs with h|⟨rfl,rfl,h⟩
  · exact zl8 hd h
  · obtain⟨l,s,f,nx⟩:=d
    simp only at h
    subst h
    rw[zFJ];omega
 obtain⟨O,hO,_,hG,r,r1,r2⟩:=zDa hd hn hs h32
 have h24:O.length<=24:=by
  rcases hs with h|⟨rfl,rfl,h⟩
  · exact zAk hd h hm hO
  · have:=zen hd hn hS hH hO
    obtain⟨l,s,f,nx⟩:=d
    simp only at h
    subst h
    rw[zFJ] at this;omega
 have hb:∃T,zk2 (z5n d m n (z2a d m n) O) m 2001 0 [z3m d m n (z2a d m n) O]=some T:=by
  rcases hs with h|⟨rfl,rfl,h⟩
  · have hN:=z8n zBd (show n<6 by omega)
    rw[decide_eq_true_eq,←gS] at hN
    exact zpH hd hn hS hH hO gC h0 h24 (fun x hx=>ZV.2 ⟨Zj.2 (hS.lt x hx),by simp[gC x hx]⟩) hN
  · refine zpH hd hn hS hH hO gC h0 h24 (fun x hx=>hx) ?_
    rw[gS]
    obtain⟨l,s,f,nx⟩:=d
    simp only at h
    subst h
    exact of_decide_eq_true (zHC l s f)
 obtain⟨T,hT⟩:=hb
 rcases r2 with⟨h,_⟩|⟨_,⟨h,_⟩|⟨h,hc⟩⟩
 · omega
 · rw[hT] at h;cases h
 · obtain⟨c,e⟩:=r
   simp only at h
   subst h
   exact⟨O,c,hO,h24,h32,hG,r1,hc⟩
theorem zBr{t:Tape}(ht:TapeOk t)(m most:Nat)(hm:1<=m/\m<=2)(hk:1<=most/\most<=5):∃d t' n,z6q t m most=some (d,t')/\DfaOk d m n/\n<=7/\TapeOk t'/\(z2a d m n).length<=32/\(n<=5∨(n=7/\m=2/\d.next=defT)):=by
 unfold z6q
 obtain⟨v,t1,e1,v0,v1,ht1⟩:=z7f ht 6 (by omega) (by omega)
 simp only[e1,Z0]
 split
 · obtain⟨d,t',n,e,h1,h2,h3⟩:=zqS ht1 m most (by omega) (by omega)
   exact⟨d,t',n,by rw[e,Z0],h1,by omega,h3,zl8 h1 (by omega),.inl (by omega)⟩
 · split
   · have:(if(4:Int)<(most:Int) then(4:Int) else(most:Int))=((min most 4:Nat):Int):=by split<;>omega
     rw[this]
     obtain⟨d,t',n,e,h1,h2,h3⟩:=zxe ht1 m (min most 4) (by omega) (by omega)
     exact⟨d,t',n,by rw[e,Z0],h1,by omega,h3,zl8 h1 (by omega),.inl (by omega)⟩
   · split
     · obtain⟨d,t',n,e,h1,h2,h3,h4⟩:=zm7 ht1 m hm
       refine⟨d,t',n,by rw[e,Z0],h1,h2,h3,?_,h4.imp (fun h=>by omega) id⟩
       rcases h4 with h4|⟨rfl,rfl,h4⟩
       · exact zl8 h1 (by omega)
       · obtain⟨l,s,f,nx⟩:=d
         simp only at h4
         subst h4
         rw[zFJ];omega
     · obtain⟨d,t',n,e,h1,h2,h3⟩:=zzj ht1 m most (by omega) (by omega)
       exact⟨d,t',n,by rw[e,Z0],h1,by omega,h3,zl8 h1 (by omega),.inl (by omega)⟩
end
section
open Go Go.IntKind
noncomputable section
attribute [-simp] Nat.mul_lt_mul_right Option.not_isSome
attribute [simp] zAv zz7
structure Nb where
 list:List Int
 number:List (Int×Int)
deriving Inhabited
variable{v16:DFA×List Int×Int}{a0 a1 m1 m2 m5 m6:Int}{m4 m8:List (List Int)}{m3 m7:List Bool}
instance:IsS Nb:=⟨⟩
def z4a(a0:Nb)(a1:Int):Option (Int×Nb):=
 if((z7r a1 a0.number).isSome)=true then
 some (((z7r a1 a0.number).getD 0),a0)
 else
 chk (z1n 8 (a0.list.length+1))<|
 some ((a0.list.length:Int),(⟨a0.list++ [a1],z8h a1 (a0.list.length:Int) a0.number⟩:Nb))
instance{a0:Nb}:Ok (z4a a0 a1) (fun r=>L 205 [.vr [(tO a0.list),.mp (some .i64) (a0.number.map fun x0=>(.int .i64 x0.1,.int .i64 x0.2))],.sc (.int .i64 a1)]=some (.sc (.int .i64 r.1),[.vr [(tO r.2.list),.mp (some .i64) (r.2.number.map fun x0=>(.int .i64 x0.1,.int .i64 x0.2))],.dead])):=⟨fun r h=>by have h:=z3c h;unfold z4a at h;exact z4b rfl Tryz.func205 (bdy Tryz.f205 rfl)⟩
@[simp] theorem binS_map{op:BinOp}{u:Option TyI}:zBo op u (.map none) (.map none)=(match u with|some ⟨.map _ _,_,_,_⟩=>(match op with| .eql=>some (.bool true)| .neq=>some (.bool false)|_=>none)|_=>none):=rfl
def zfl(a1:Int):Option (Int×Nb):=
 chk (z1n 8 1)<|
 some (0,(⟨[a1],[(a1,0)]⟩:Nb))
instance:Ok (zfl a1) (fun r=>L 205 [.vr [.os 1 0 [],.sc (.map none)],.sc (.int .i64 a1)]=some (.sc (.int .i64 r.1),[.vr [(tO r.2.list),.mp (some .i64) (r.2.number.map fun x0=>(.int .i64 x0.1,.int .i64 x0.2))],.dead])):=⟨fun r h=>by have h:=z3c h;unfold zfl at h;exact z4b rfl Tryz.func205 (bdy Tryz.f205 rfl)⟩
def zbO(a0:Int)(a1:Int)(m0:Int)(n4:Int)(n5:List Bool)(n0:List (List Int)):Option (Int):=
 (atI n0 a0).bind fun v3=>
 (atI v3 a1).bind fun v4=>
 some v4
instance{m0:Int}{n4:Int}{n5:List Bool}{n0:List (List Int)}:Ok (zbO a0 a1 m0 n4 n5 n0) (fun r=>L 171 [.sc (.int .i64 a0),.sc (.int .i64 a1),.pr [.sc (.int .i64 m0),.sc (.int .i64 n4),(tB n5),(tR n0)]]=some (.sc (.int .i64 r),[.dead,.dead,.dead])):=⟨fun r h=>by have h:=z3c h;unfold zbO at h;exact z4b rfl Tryz.func171 (bdy Tryz.f171 rfl)⟩
def zbN(a0:Int)(n1:Int)(n2:Int)(m9:List Bool)(n3:List (List Int)):Option (Bool):=
 (atI m9 a0).bind fun v2=>
 some v2
instance{n1:Int}{n2:Int}{m9:List Bool}{n3:List (List Int)}:Ok (zbN a0 n1 n2 m9 n3) (fun r=>L 172 [.sc (.int .i64 a0),.pr [.sc (.int .i64 n1),.sc (.int .i64 n2),(tB m9),(tR n3)]]=some (.sc (.bool r),[.dead,.dead])):=⟨fun r h=>by have h:=z3c h;unfold zbN at h;exact z4b rfl Tryz.func172 (bdy Tryz.f172 rfl)⟩
abbrev z1p(a0:Int)(m1:Int)(m2:Int)(m3:List Bool)(m4:List (List Int))(m5:Int)(m6:Int)(m7:List Bool)(m8:List (List Int))(w64:Int)(w67:List Bool)(w68:List (List Int))(v83:Int):Int×List Int×(List (Int×Int))×List Int->Option ((Int×List Int×(List (Int×Int))×List Int)⊕((Int×List Int×(List (Int×Int))×List Bool×List (List Int))⊕(DFA×List Int×Int)))
 |(w86,w87,w88,w89)=>
 if w86<a0 then
 (zbO v83 w86 m1 m2 m3 m4).bind fun v93=>
 (z4a (⟨w87,w88⟩:Nb) v93).bind fun v94=>
 (atI w89 w86).bind fun v95=>
 z0c (i64.wrap (w86+1),v94.2.list,v94.2.number,(w89.set w86.toNat v94.1))
 else
 z0d<|
 if 512<(w87.length:Int) then
 z0d<|
 some ((⟨0,0,[],[]⟩:DFA),[],3)
 else
 chk (z1n 24 (w68.length+1))<|
 (zbN v83 m5 m6 m7 m8).bind fun v96=>
 chk (z1n 1 (w67.length+1))<|
 z0c (i64.wrap (w64+1),w87,w88,w67++ [v96],w68++ [w89])
instance{w64:Int}{w67:List Bool}{w68:List (List Int)}{v83:Int}:Hd (z1p a0 m1 m2 m3 m4 m5 m6 m7 m8 w64 w67 w68 v83):=⟨fun(w86,w87,w88,w89)=>([(37,xI w86)],[(11,.vr [(tO w87),.mp (some .i64) (w88.map fun x0=>(.int .i64 x0.1,.int .i64 x0.2))]),(15,(tO w89))])⟩
abbrev z1t(a0:Int)(m1:Int)(m2:Int)(m3:List Bool)(m4:List (List Int))(m5:Int)(m6:Int)(m7:List Bool)(m8:List (List Int)):Int×List Int×(List (Int×Int))×List Bool×List (List Int)->Option ((Int×List Int×(List (Int×Int))×List Bool×List (List Int))⊕(DFA×List Int×Int))
 |(w64,w65,w66,w67,w68)=>
 if w64<(w65.length:Int) then
 (atI w65 w64).bind fun v83=>
 chk (z0D 8 a0)<|
 z0h (z1p a0 m1 m2 m3 m4 m5 m6 m7 m8 w64 w67 w68 v83) LFm (0,w65,w66,List.replicate a0.toNat (0:Int))
 else
 z0d<|
 some ((⟨a0,0,w67,w68⟩:DFA),w65,0)
instance:Hd (z1t a0 m1 m2 m3 m4 m5 m6 m7 m8):=⟨fun(w64,w65,w66,w67,w68)=>([(13,xI w64)],[(11,.vr [(tO w65),.mp (some .i64) (w66.map fun x0=>(.int .i64 x0.1,.int .i64 x0.2))]),(12,.vr [.sc (.int .i64 a0),.sc (.int .i64 0),.os 1 w67.length (w67.map fun x0=>.sc (.bool x0)),.os 1 w68.length (w68.map fun x0=>(tO x0))])])⟩
def z1i(a0:Int)(a1:Int)(m1:Int)(m2:Int)(m3:List Bool)(m4:List (List Int))(m5:Int)(m6:Int)(m7:List Bool)(m8:List (List Int)):Option (DFA×List Int×Int):=
 (zfl a1).bind fun v49=>
 z0h (z1t a0 m1 m2 m3 m4 m5 m6 m7 m8) LFm (0,v49.2.list,v49.2.number,[],[])
instance:Ok (z1i a0 a1 m1 m2 m3 m4 m5 m6 m7 m8) (fun r=>L 170 [.sc (.int .i64 a0),.sc (.int .i64 a1),.cl 171 [.pr [.sc (.int .i64 m1),.sc (.int .i64 m2),(tB m3),(tR m4)]],.cl 172 [.pr [.sc (.int .i64 m5),.sc (.int .i64 m6),(tB m7),(tR m8)]]]=some (.tup [.agg [.sc (.int .i64 r.1.letters),.sc (.int .i64 r.1.start),.os 1 r.1.final.length (r.1.final.map fun x0=>.sc (.bool x0)),.os 1 r.1.next.length (r.1.next.map fun x0=>(tO x0))],(tO r.2.1),.sc (.int .i64 r.2.2)],[.dead,.dead,.dead,.dead])):=⟨fun r h=>by have h:=z3c h;unfold z1i at h;exact z4b rfl Tryz.func170 (bdy Tryz.f170 rfl)⟩
abbrev z9u(v16:DFA×List Int×Int):Int×List Int->Option ((Int×List Int)⊕(DFA×List Int))
 |(w23,w24)=>
 if w23<(v16.2.1.length:Int) then
 (atI v16.2.1 w23).bind fun v27=>
 (atI w24 v27).bind fun v28=>
 z0c (i64.wrap (w23+1),(w24.set v27.toNat w23))
 else
 z0d<|
 some (v16.1,w24)
instance:Hd (z9u v16):=⟨fun(w23,w24)=>([(41,xI w23)],[(7,(tO w24))])⟩
abbrev zar(a0:DFA)(v16:DFA×List Int×Int):Int×List Int->Option ((Int×List Int)⊕(DFA×List Int))
 |(w17,w18)=>
 if w17<(a0.final.length:Int) then
 (atI w18 w17).bind fun v20=>
 z0c (i64.wrap (w17+1),(w18.set w17.toNat (-1)))
 else
 z0d<|
 z0h (z9u v16) LFm (0,w18)
instance{a0:DFA}:Hd (zar a0 v16):=⟨fun(w17,w18)=>([(32,xI w17)],[(7,(tO w18))])⟩
def zas(a0:DFA):Option (DFA×List Int):=
 (z4N a0).bind fun v15=>
 if v15=0 then
 (z1i a0.letters a0.start a0.letters a0.start a0.final a0.next a0.letters a0.start a0.final a0.next).bind fun v16=>
 chk (z0D 8 (a0.final.length:Int))<|
 z0h (zar a0 v16) LFm (0,List.replicate (a0.final.length:Int).toNat (0:Int))
 else
 some ((⟨0,0,[],[]⟩:DFA),[])
instance{a0:DFA}:Ok (zas a0) (fun r=>L 127 [.agg [.sc (.int .i64 a0.letters),.sc (.int .i64 a0.start),(tB a0.final),(tR a0.next)]]=some (.tup [.agg [.sc (.int .i64 r.1.letters),.sc (.int .i64 r.1.start),.os 1 r.1.final.length (r.1.final.map fun x0=>.sc (.bool x0)),.os 1 r.1.next.length (r.1.next.map fun x0=>(tO x0))],(tO r.2)],[.dead])):=⟨fun r h=>by have h:=z3c h;unfold zas at h;exact z4b rfl Tryz.func127 (bdy Tryz.f127 rfl)⟩
end
end
section
open Go
def zzt(l:List Nat)(M:List (Int×Int)):Prop:=∀x:Nat,z7r ((x:Nat):Int) M=if x∈l then some ((l.idxOf x:Nat):Int) else none
def zmr(l:List Nat)(x:Nat):List Nat:=if x∈l then l else l++ [x]
theorem zAb(l:List Nat)(x:Nat):x∈zmr l x:=by unfold zmr;split<;>simp_all
theorem zAa(l:List Nat)(x:Nat):∃z,zmr l x=l++z:=by
 unfold zmr
 split
 · exact⟨[],by simp⟩
 · exact⟨[x],rfl⟩
theorem ztp{l:List Nat}(x:Nat)(h:l.Nodup):(zmr l x).Nodup:=by
 unfold zmr
 split
 · exact h
 · rename_i hx
   rw[Yj]
   exact⟨h,by simp,fun a ha b hb e=>by simp at hb;subst hb;subst e;exact hx ha⟩
theorem zCf{l:List Nat}{x n:Nat}(h:∀q∈l,q<n)(hx:x<n):∀q∈zmr l x,q<n:=by
 intro q hq
 unfold zmr at hq
 split at hq
 · exact h q hq
 · rcases Ze.1 hq with h'|h'
   · exact h q h'
   · simp at h';omega
theorem zxK{l:List Nat}{x:Nat}(h:x∈l):l.idxOf x<l.length/\l.getD (l.idxOf x) 0=x:=by
 have h1:=Yx h
 exact⟨h1,by rw[List.getD,Z1 h1,Z4,YZ h1]⟩
theorem zCE{l:List Nat}{M:List (Int×Int)}(h:zzt l M){x:Nat}(hx:x∉l):zzt (l++ [x]) (z8h ((x:Nat):Int) ((l.length:Nat):Int) M):=by
 intro y
 rw[zb1,h y]
 by_cases e:x=y
 · subst e
   rw[if_pos rfl,if_pos (by simp),YS,if_neg hx]
   simp
 · rw[if_neg (by omega)]
   by_cases hy:y∈l
   · rw[if_pos hy,if_pos (by simp[hy]),YS,if_pos hy]
   · rw[if_neg hy,if_neg (by simp[hy];omega)]
theorem zFo{l:List Nat}{M:List (Int×Int)}(h:zzt l M)(x:Nat)(hl:l.length<=100000):∃M',z4a ⟨toI l,M⟩ (x:Int)=some ((((zmr l x).idxOf x:Nat):Int),⟨toI (zmr l x),M'⟩)/\zzt (zmr l x) M':=by
 unfold z4a
 simp only
 rw[h x]
 by_cases hx:x∈l
 · rw[if_pos hx]
   refine⟨M,?_,?_⟩
   · rw[if_pos (by rfl),Z4];unfold zmr;rw[if_pos hx]
   · unfold zmr;rw[if_pos hx];exact h
 · rw[if_neg hx]
   refine⟨z8h ((x:Nat):Int) ((l.length:Nat):Int) M,?_,?_⟩
   · rw[if_neg (by simp),z0b,z0e _ (by unfold z1n;omega)]
     unfold zmr;rw[if_neg hx,YS,if_neg hx,z5O];simp
   · unfold zmr;rw[if_neg hx];exact zCE h hx
theorem zcp{l z:List Nat}{k:Nat}(h:k<l.length):(l++z).getD k 0=l.getD k 0:=by
 rw[List.getD,List.getD,ZH h]
structure ExpI(d:DFA)(m n i:Nat)(l:List Nat)(fs:List Bool)(rs:List (List Int)):Prop where
 nd:l.Nodup
 lt:∀q∈l,q<n
 le:i<=l.length
 pos:0<l.length
 first:l.getD 0 0=d.start.toNat
 fl:fs.length=i
 rl:rs.length=i
 fin:∀j,j<i->fs.getD j false=d.final.getD (l.getD j 0) false
 rows:∀j,j<i->(rs.getD j []).length=m/\ ∀b,b<m->∃k:Nat,(rs.getD j []).getD b 0=(k:Int)/\k<l.length/\l.getD k 0=nxN d (l.getD j 0) b
variable{rs:List (List Int)}{fs:List Bool}{l:List Nat}
theorem ExpI.len{d:DFA}{m n i:Nat}(h:ExpI d m n i l fs rs):l.length<=n:=z1C h.nd h.lt
theorem ExpI.get{d:DFA}{m n i:Nat}(h:ExpI d m n i l fs rs){k:Nat}(hk:k<l.length):l.getD k 0<n:=h.lt _ (by rw[List.getD,Z1 hk,Z4];exact Zm hk)
theorem zpe{α:Type}{l:List α}{x z:α}{j:Nat}:(l++ [x]).getD j z=if j<l.length then l.getD j z else if j=l.length then x else z:=by
 rw[List.getD,List.getD]
 by_cases h:j<l.length
 · rw[if_pos h,ZH h]
 · rw[if_neg h,Y2 (by omega)]
   by_cases e:j=l.length
   · rw[if_pos e,e];simp
   · rw[if_neg e,YN (by simp;omega)];rfl
section
variable {d:DFA} {m n:Nat} (hd:DfaOk d m n) (hn:n<=512)
include hd hn
theorem zD3:∃t l,z1i d.letters d.start d.letters d.start d.final d.next d.letters d.start d.final d.next=some (t,toI l,0)/\t.letters=m/\t.start=0/\ExpI d m n l.length l t.final t.next:=by
 have hs0:=hd.s0
 have hs1:=hd.s1
 have hm6:=hd.m6
 have gF:=hd.lt
 have hfn:=hd.fin
 unfold z1i zfl
 rw[z0e _ (by unfold z1n;omega),Z0]
 simp only
 have gL:d.start=((d.start.toNat:Nat):Int):=by omega
 have hI0:ExpI d m n 0 [d.start.toNat] [] []:=⟨by simp,by simp;omega,by simp,by simp,by simp,rfl,rfl,fun j hj=>by omega,fun j hj=>by omega⟩
 have hM0:zzt [d.start.toNat] [(d.start,0)]:=fun x=>by
  simp only[z7r,Zi]
  by_cases e:x=d.start.toNat
  · rw[if_pos (by omega),if_pos e,e];simp
  · rw[if_neg (by omega),if_neg e]
 refine Exists.elim (z1r (b:=z1t d.letters d.letters d.start d.final d.next d.letters d.start d.final d.next)
  (fun s=>∃(i:Nat) (l:List Nat) (M:List (Int×Int)) (fs:List Bool) (rs:List (List Int)),s=((i:Int),toI l,M,fs,rs)/\zzt l M/\ExpI d m n i l fs rs)
  (fun s=>n+1-s.1.toNat)
  (fun r=>∃t l,r=(t,toI l,0)/\t.letters=m/\t.start=0/\ExpI d m n l.length l t.final t.next) ?_ LFm (0,[d.start],[(d.start,0)],[],[])
  ⟨0,[d.start.toNat],_,[],[],by simp[toI];omega,hM0,hI0⟩ (by simp only[LFm];omega)) fun r h=>by
    obtain⟨h1,t,l,rfl,h2⟩:=h
    exact⟨t,l,h1,h2⟩
 rintro _ ⟨i,l,M,fs,rs,rfl,hM,hI⟩
 have gD:=hI.len
 have kM:=hI.le
 simp only[z1t]
 rw[z0b]
 by_cases hi:i<l.length
 · left
   have hq:=hI.get hi
   rw[if_pos (by omega),z1q hi,Z0,z0e _ (by unfold z0D;omega),gF,Z2]
   generalize hv:l.getD i 0=v at hq
   refine Exists.elim (zgN (b:=z1p (m:Int) (m:Int) d.start d.final d.next (m:Int) d.start d.final d.next (i:Int) fs rs (v:Int))
    (fun s=>∃(a:Nat) (l':List Nat) (M':List (Int×Int)) (row:List Int),s=((a:Int),toI l',M',row)/\zzt l' M'/\a<=m/\(∃z,l'=l++z)/\l'.Nodup/\(∀q∈l',q<n)/\row.length=m/\ ∀b,b<a->∃k:Nat,row.getD b 0=(k:Int)/\k<l'.length/\l'.getD k 0=nxN d v b)
    (fun s=>m+1-s.1.toNat)
    (fun s'=>∃(l':List Nat) (M':List (Int×Int)) (row:List Int),s'=(((i+1:Nat):Int),toI l',M',fs++ [d.final.getD v false],rs++ [row])/\zzt l' M'/\(∃z,l'=l++z)/\l'.Nodup/\(∀q∈l',q<n)/\row.length=m/\ ∀b,b<m->∃k:Nat,row.getD b 0=(k:Int)/\k<l'.length/\l'.getD k 0=nxN d v b)
    (s:=(0,toI l,M,List.replicate m 0)) ⟨0,l,M,_,rfl,hM,by omega,⟨[],by simp⟩,hI.nd,hI.lt,by simp,fun b hb=>by omega⟩ (by simp only[LFm];omega) ?_) fun r h=> ?_
   · rintro _ ⟨a,l',M',row,rfl,hM',ha,⟨z,hz⟩,gJ,hl',hr,gM⟩
     have pZ:l'.length<=n:=z1C gJ hl'
     simp only[z1p]
     by_cases ha':a<m
     · left
       obtain⟨r,x1,x2,x3⟩:=zf6 hd hq ha'
       obtain⟨M2,y1,y2⟩:=zFo hM' (nxN d v a) (by omega)
       obtain⟨i1,i2⟩:=zxK (zAb l' (nxN d v a))
       obtain⟨z2,hz2⟩:=zAa l' (nxN d v a)
       unfold zbO
       rw[if_pos (by omega),x1,Z0,x2,Z0,Z0,y1,Z0,z5q 0 (by omega),Z0,z0H (by omega),Z2]
       refine⟨_,rfl,⟨a+1,zmr l' (nxN d v a),M2,_,rfl,y2,by omega,⟨z++z2,by rw[hz2,hz];simp⟩,ztp _ gJ,zCf hl' x3,by simp[hr],fun b hb=> ?_⟩,by simp only;omega⟩
       by_cases e:b=a
       · subst e
         exact⟨_,by rw[List.getD,XF,if_pos rfl,if_pos (by omega),Z4],i1,i2⟩
       · obtain⟨k,k1,k2,k3⟩:=gM b (by omega)
         refine⟨k,?_,by rw[hz2,Z7];omega,by rw[hz2,zcp k2];exact k3⟩
         rw[List.getD,X3 (by omega)];exact k1
     · right
       have e:a=m:=by omega
       subst e
       have vN:=hI.fl
       have kD:=hI.rl
       unfold zbN
       rw[if_neg (by omega),z0b,if_neg (by omega),z0e _ (by unfold z1n;omega),z5q false (by omega),Z0,Z0,z0e _ (by unfold z1n;omega),z0H (by omega)]
       exact⟨_,rfl,l',M',row,rfl,hM',⟨z,hz⟩,gJ,hl',hr,gM⟩
   · obtain⟨h1,l',M',row,rfl,hM',⟨z,hz⟩,gJ,hl',hr,gM⟩:=h
     refine⟨_,h1,⟨i+1,l',M',_,_,rfl,hM',⟨gJ,hl',by rw[hz,Z7];omega,by rw[hz,Z7];omega,by rw[hz,zcp hI.pos];exact hI.first,by rw[Z7,hI.fl];rfl,by rw[Z7,hI.rl];rfl,fun j hj=> ?_,fun j hj=> ?_⟩⟩,by simp only;omega⟩
     · rw[zpe,hI.fl]
       by_cases e:j<i
       · rw[if_pos e,hI.fin j e,hz,zcp (by omega)]
       · have e2:j=i:=by omega
         subst e2
         rw[if_neg e,if_pos rfl,hz,zcp hi,hv]
     · rw[zpe,hI.rl]
       by_cases e:j<i
       · rw[if_pos e]
         obtain⟨p1,p2⟩:=hI.rows j e
         refine⟨p1,fun b hb=> ?_⟩
         obtain⟨k,k1,k2,k3⟩:=p2 b hb
         exact⟨k,k1,by rw[hz,Z7];omega,by rw[hz,zcp k2,zcp (by omega)];exact k3⟩
       · have e2:j=i:=by omega
         subst e2
         rw[if_neg e,if_pos rfl]
         refine⟨hr,fun b hb=> ?_⟩
         obtain⟨k,k1,k2,k3⟩:=gM b hb
         exact⟨k,k1,k2,by rw[k3];congr 1;rw[hz,zcp hi,hv]⟩
 · right
   have e:i=l.length:=by omega
   subst e
   rw[if_neg (by omega)]
   exact⟨_,rfl,_,l,rfl,gF,rfl,hI⟩
end
end
section
open Go
structure TrimOk(d:DFA)(m n:Nat)(t:DFA)(l:List Nat):Prop where
 ok:DfaOk t m l.length
 start:t.start=0
 nd:l.Nodup
 lt:∀q∈l,q<n
 first:l.getD 0 0=d.start.toNat
 fin:∀j,j<l.length->t.final.getD j false=d.final.getD (l.getD j 0) false
 nx:∀j,j<l.length->∀a,a<m->nxN t j a<l.length/\l.getD (nxN t j a) 0=nxN d (l.getD j 0) a
variable{d t:DFA}{l:List Nat}{k m n:Nat}
theorem TrimOk.len(h:TrimOk d m n t l):l.length<=n:=z1C h.nd h.lt
theorem TrimOk.get(h:TrimOk d m n t l)(hk:k<l.length):l.getD k 0<n:=h.lt _ (by rw[List.getD,Z1 hk,Z4];exact Zm hk)
theorem zsS{l:List Int}{v:Int}{P:Int->Prop}(h:∀x∈l,P x)(hv:P v):∀x∈l.set k v,P x:=fun x hx=>by
 rcases Xb hx with h1|h1
 · exact h x h1
 · rw[h1];exact hv
theorem zFO(hd:DfaOk d m n)(hn:n<=512):zDd d:=⟨by rw[hd.fin];omega,by rw[hd.nl];omega,fun r hr=>by have:=(hd.row r hr).1;have:=hd.m6;omega⟩
theorem zs8(hd:DfaOk d m n)(hn:n<=512):∃t l N,zas d=some (t,N)/\TrimOk d m n t l/\N.length=n/\ ∀x∈N,-1<=x/\x<(l.length:Int):=by
 obtain⟨t,l,e,e1,e2,hE⟩:=zD3 hd hn
 have gD:=hE.len
 have gC:=hE.pos
 have gG:=hd.fin
 have hT:TrimOk d m n t l:=by
  refine⟨⟨e1,hd.m1,hd.m6,hE.pos,hE.fl,hE.rl,by omega,by omega,fun r hr=> ?_⟩,e2,hE.nd,hE.lt,hE.first,hE.fin,fun j hj a ha=> ?_⟩
  · obtain⟨j,hj,rfl⟩:=Zn hr
    rw[hE.rl] at hj
    obtain⟨p1,p2⟩:=hE.rows j hj
    have eg:t.next.getD j []=t.next[j]'(by rw[hE.rl];exact hj):=by rw[List.getD,Z1 (by rw[hE.rl];exact hj),Z4]
    rw[eg] at p1 p2
    refine⟨p1,fun x hx=> ?_⟩
    obtain⟨b,hb,rfl⟩:=Zn hx
    obtain⟨k,k1,k2,_⟩:=p2 b (by omega)
    rw[List.getD,Z1 hb,Z4] at k1
    omega
  · obtain⟨p1,p2⟩:=hE.rows j hj
    obtain⟨k,k1,k2,k3⟩:=p2 a ha
    unfold nxN
    rw[k1,Z2]
    exact⟨k2,k3⟩
 unfold zas
 rw[zb7 (zFO hd hn),zkq hd hn,Z0,if_pos rfl,e,Z0,gG,z0e _ (by unfold z0D;omega),Z2]
 refine Exists.elim (z1r (b:=zar d (t,toI l,0))
  (fun s=>∃(i:Nat) (N:List Int),s=((i:Int),N)/\i<=n/\N.length=n/\(∀x∈N,-1<=x/\x<(l.length:Int)))
  (fun s=>n+1-s.1.toNat)
  (fun r=>∃N:List Int,r=(t,N)/\N.length=n/\ ∀x∈N,-1<=x/\x<(l.length:Int)) ?_ LFm (0,List.replicate n 0)
  ⟨0,_,rfl,by omega,by simp,fun x hx=>by have:=(List.mem_replicate.1 hx).2;omega⟩ (by simp only[LFm];omega)) fun r h=>by
    obtain⟨h1,N,rfl,h2⟩:=h
    exact⟨t,l,N,h1,hT,h2⟩
 rintro _ ⟨i,N,rfl,hi,hN,hx⟩
 simp only[zar]
 by_cases h1:i<n
 · left
   rw[gG,if_pos (by omega),z5q 0 (by omega),Z0,z0H (by omega),Z2]
   exact⟨_,rfl,⟨i+1,_,rfl,by omega,by simp[hN],zsS hx ⟨by omega,by omega⟩⟩,by simp only;omega⟩
 · right
   rw[gG,if_neg (by omega)]
   refine Exists.elim (z1r (b:=z9u (t,toI l,0))
    (fun s=>∃(i:Nat) (N:List Int),s=((i:Int),N)/\i<=l.length/\N.length=n/\(∀x∈N,-1<=x/\x<(l.length:Int)))
    (fun s=>l.length+1-s.1.toNat)
    (fun r=>∃N:List Int,r=(t,N)/\N.length=n/\ ∀x∈N,-1<=x/\x<(l.length:Int)) ?_ LFm (0,N)
    ⟨0,_,rfl,by omega,hN,hx⟩ (by simp only[LFm];omega)) fun r h=>by
      obtain⟨h1,h2⟩:=h
      exact⟨r,by rw[h1];rfl,h2⟩
   rintro _ ⟨i,N,rfl,hi,hN,hx⟩
   simp only[z9u]
   rw[z0b]
   by_cases h2:i<l.length
   · left
     have hq:=hT.get h2
     rw[if_pos (by omega),z1q h2,Z0,z5q 0 (by omega),Z0,z0H (by omega),Z2]
     exact⟨_,rfl,⟨i+1,_,rfl,by omega,by simp[hN],zsS hx ⟨by omega,by omega⟩⟩,by simp only;omega⟩
   · right
     rw[if_neg (by omega)]
     exact⟨_,rfl,N,rfl,hN,hx⟩
end
section
open Go Go.IntKind
noncomputable section
variable{a0:DFA}{w212:List Int}
attribute [-simp] Nat.mul_lt_mul_right Option.not_isSome
attribute [simp] zAv zz7
attribute [local simp] ziV
theorem zEZ{α β:Type}{b:List α}{f:α->β}(h:b.length=7):(b.map f).take 7=b.map f:=Ym (by rw[Zg,h];exact Z8 _)
theorem zCi{b:List Int}{k:IntKind}:((b.map fun x=>T.sc (.int k x)).all zaV)=true:=by simp[zaV]
attribute [local simp] zEZ zCi
abbrev z4U(w212:List Int)(w272:Int)(w273:List Int)(w274:List ((List Int)×Int))(v290:List Int):Int×List Int->Option ((Int×List Int)⊕((Int×(List ((List Int)×Int))×List Int)⊕((Int×List Int)⊕List Int)))
 |(w295,w296)=>
 if w295<(v290.length:Int) then
 (atI v290 w295).bind fun v300=>
 (atI w212 v300).bind fun v301=>
 chk (0<=i64.wrap (1+w295)/\i64.wrap (1+w295)<7)<|
 (atI w296 (i64.wrap (1+w295))).bind fun v302=>
 z0c (i64.wrap (w295+1),(w296.set (i64.wrap (1+w295)).toNat v301))
 else
 z0d<|
 chk (w296.length=7)<|
 if((z7r w296 w274).isSome)=true then
 (atI w273 w272).bind fun v303=>
 z0c (i64.wrap (w272+1),w274,(w273.set w272.toNat ((z7r w296 w274).getD 0)))
 else
 (atI w273 w272).bind fun v304=>
 z0c (i64.wrap (w272+1),z8h w296 (w274.length:Int) w274,(w273.set w272.toNat (w274.length:Int)))
instance{w272:Int}{w273:List Int}{w274:List ((List Int)×Int)}{v290:List Int}:Hd (z4U w212 w272 w273 w274 v290):=⟨fun(w295,w296)=>([(60,xI w295)],[(11,.vr (w296.map fun x0=>.sc (.int .i64 x0)))])⟩
abbrev z3V(a0:DFA)(w211:Int)(w212:List Int):Int×(List ((List Int)×Int))×List Int->Option ((Int×(List ((List Int)×Int))×List Int)⊕((Int×List Int)⊕List Int))
 |(w272,w274,w273)=>
 if w272<(a0.next.length:Int) then
 (atI a0.next w272).bind fun v290=>
 (atI w212 w272).bind fun v291=>
 z0h (z4U w212 w272 w273 w274 v290) LFm (0,[v291,0,0,0,0,0,0])
 else
 z0d<|
 if(w274.length:Int)=w211 then
 z0d<|
 some w273
 else
 z0c ((w274.length:Int),w273)
instance{w211:Int}:Hd (z3V a0 w211 w212):=⟨fun(w272,w274,w273)=>([(48,xI w272)],[(7,.mp (some .i16) (w274.map fun x0=>(agI x0.1,.int .i64 x0.2))),(8,(tO w273))])⟩
abbrev z2O(a0:DFA):Int×List Int->Option ((Int×List Int)⊕List Int)
 |(w211,w212)=>
 chk (z0D 8 (w212.length:Int))<|
 z0h (z3V a0 w211 w212) LFm (0,([]:List ((List Int)×Int)),List.replicate (w212.length:Int).toNat (0:Int))
instance:Hd (z2O a0):=⟨fun(w211,w212)=>([(4,xI w211)],[(3,(tO w212))])⟩
abbrev z5t(a0:DFA):Int×Int×List Int->Option ((Int×Int×List Int)⊕List Int)
 |(w156,w157,w158)=>
 if w157<(a0.final.length:Int) then
 (atI a0.final w157).bind fun v162=>
 (atI a0.final 0).bind fun v163=>
 if(!(v162==v163))=true then
 (atI w158 w157).bind fun v164=>
 z0c (2,i64.wrap (w157+1),(w158.set w157.toNat 1))
 else
 z0c (w156,i64.wrap (w157+1),w158)
 else
 z0d<|
 z0h (z2O a0) LFm (w156,w158)
instance:Hd (z5t a0):=⟨fun(w156,w157,w158)=>([(4,xI w156),(26,xI w157)],[(3,(tO w158))])⟩
def z5B(a0:DFA):Option (List Int):=
 (z4N a0).bind fun v153=>
 if v153=0 then
 chk (z0D 8 (a0.final.length:Int))<|
 z0h (z5t a0) LFm (1,0,List.replicate (a0.final.length:Int).toNat (0:Int))
 else
 some []
instance:Ok (z5B a0) (fun r=>L 128 [.agg [.sc (.int .i64 a0.letters),.sc (.int .i64 a0.start),(tB a0.final),(tR a0.next)]]=some ((tO r),[.dead])):=⟨fun r h=>by have h:=z3c h;unfold z5B at h;exact z4b rfl Tryz.func128 (bdy Tryz.f128 rfl)⟩
end
end
section
open Go
set_option linter.unusedSectionVars false
variable{n:Nat}
section
variable {κ:Type} [DecidableEq κ]{key:Nat->κ}
def fsK(key:Nat->κ):Nat->List Nat
 |0=> []
 |n+1=>if key n∈(fsK key n).map key then fsK key n else fsK key n++ [n]
theorem z9d(key:Nat->κ):∀n,∀i∈fsK key n,i<n
 |0,i,h=>by simp[fsK] at h
 |n+1,i,h=>by
  unfold fsK at h
  split at h
  · have:=z9d key n i h;omega
  · rcases Ze.1 h with h1|h1
    · have:=z9d key n i h1;omega
    · simp at h1;omega
theorem zdt(key:Nat->κ):∀n,((fsK key n).map key).Nodup
 |0=>by simp[fsK]
 |n+1=>by
  unfold fsK
  split
  · exact zdt key n
  · rename_i h
    rw[ZI,Yj]
    exact⟨zdt key n,by simp,fun a ha b hb e=>by simp at hb;subst hb;subst e;exact h ha⟩
theorem z8m(key:Nat->κ):∀n i,i<n->key i∈(fsK key n).map key
 |0,i,h=>by omega
 |n+1,i,h=>by
  unfold fsK
  by_cases e:i=n
  · subst e
    split
    · assumption
    · simp
  · have:=z8m key n i (by omega)
    split
    · exact this
    · rw[ZI];exact List.mem_append_left _ this
theorem znA(key:Nat->κ)(n:Nat):(fsK key n).length<=n:=by
 have h:=z1C (l:=fsK key n) (N:=n) (List.Pairwise.of_map key (fun a b h e=>h (by rw[e])) (zdt key n)) (z9d key n)
 exact h
theorem zlT{μ:Type}[DecidableEq μ]{key:Nat->κ}{key':Nat->μ}:∀n,(∀i j,i<n->j<n->(key i=key j↔key' i=key' j))->fsK key n=fsK key' n
 |0,_=>rfl
 |n+1,h=>by
  have ih:=zlT n fun i j hi hj=>h i j (by omega) (by omega)
  unfold fsK
  rw[ih]
  have:(key n∈(fsK key' n).map key)↔(key' n∈(fsK key' n).map key'):=by
   constructor
   · intro hm
     obtain⟨i,h1,h2⟩:=Zh.1 hm
     exact Zh.2 ⟨i,h1,(h i n (by have:=z9d key' n i h1;omega) (by omega)).1 h2⟩
   · intro hm
     obtain⟨i,h1,h2⟩:=Zh.1 hm
     exact Zh.2 ⟨i,h1,(h i n (by have:=z9d key' n i h1;omega) (by omega)).2 h2⟩
  by_cases e:key' n∈(fsK key' n).map key'
  · rw[if_pos e,if_pos (this.2 e)]
  · rw[if_neg e,if_neg fun h'=>e (this.1 h')]
def noK(key:Nat->κ)(n i:Nat):Nat:=((fsK key n).map key).idxOf (key i)
theorem zCC(key:Nat->κ){i j:Nat}(hi:i<n)(hj:j<n):noK key n i=noK key n j↔key i=key j:=by
 constructor
 · intro h
   have h1:=YZ (Yx (z8m key n i hi))
   have h2:=YZ (Yx (z8m key n j hj))
   unfold noK at h
   simp only[h] at h1
   exact h1.symm.trans h2
 · intro h
   unfold noK;rw[h]
theorem ztG(key:Nat->κ)(n:Nat):(fsK key n).map (noK key n)=List.range (fsK key n).length:=by
 refine Zf (by simp) fun i h1 h2=> ?_
 rw[Zw,ZJ]
 have hi:i<((fsK key n).map key).length:=by simpa using h1
 have e:key ((fsK key n)[i]'(by simpa using h1))=((fsK key n).map key)[i]:=by rw[Zw]
 unfold noK
 rw[e]
 exact List.Nodup.idxOf_getElem (zdt key n) i hi
theorem zzg{μ:Type}[DecidableEq μ]{g:Nat->μ}(h:∀i j,i<n->j<n->key i=key j->g i=g j):(fsK g n).length<=(fsK key n).length:=by
 have gJ:((fsK g n).map key).Nodup:=by
  have:=zdt g n
  rw[List.Nodup,Xj] at this⊢
  refine YV (fun {a b} ha hb jG e=>jG (h a b (z9d g n a ha) (z9d g n b hb) e)) this
 have:=z9Q gJ fun a ha=>by
  obtain⟨i,h1,rfl⟩:=Zh.1 ha
  exact z8m key n i (z9d g n i h1)
 simpa using this
theorem zrr{μ:Type}[DecidableEq μ]{g:Nat->μ}(h:∀i j,i<n->j<n->key i=key j->g i=g j)(hl:(fsK key n).length<=(fsK g n).length){i j:Nat}(hi:i<n)(hj:j<n)(e:g i=g j):key i=key j:=by
 have gJ:((fsK g n).map key).Nodup:=by
  have:=zdt g n
  rw[List.Nodup,Xj] at this⊢
  refine YV (fun {a b} ha hb jG e=>jG (h a b (z9d g n a ha) (z9d g n b hb) e)) this
 have jC:∀i,i<n->key i∈(fsK g n).map key:=fun i hi=>by
  refine Y8 fun hx=> ?_
  have:=z9Q (l:=key i::(fsK g n).map key) (p:=(fsK key n).map key) (YG.2 ⟨hx,gJ⟩) fun a ha=>by
   rcases Zv.1 ha with rfl|ha
   · exact z8m key n i hi
   · obtain⟨i,h1,rfl⟩:=Zh.1 ha
     exact z8m key n i (z9d g n i h1)
  simp at this
  omega
 obtain⟨r,r1,r2⟩:=Zh.1 (jC i hi)
 obtain⟨s,s1,s2⟩:=Zh.1 (jC j hj)
 have hr:=z9d g n r r1
 have hs:=z9d g n s s1
 have e1:g r=g s:=by rw[h r i hr hi r2,h s j hs hj s2,e]
 have:r=s:=by
  have hp:=zdt g n
  obtain⟨a,ha,rfl⟩:=Zn r1
  obtain⟨b,hb,rfl⟩:=Zn s1
  have jG:a=b:=by
   have ha':a<((fsK g n).map g).length:=by simpa using ha
   have hb':b<((fsK g n).map g).length:=by simpa using hb
   have q1:=hp.idxOf_getElem a ha'
   have q2:=hp.idxOf_getElem b hb'
   rw[Zw] at q1 q2
   rw[←q1,←q2,e1]
  subst jG;rfl
 rw[←r2,←s2,this]
def mpG:List κ->Nat->List (κ×Int)
 | [],_=> []
 |k::l,c=>(k,(c:Int))::mpG l (c+1)
theorem znd:∀(l:List κ) (c:Nat),(mpG l c).length=l.length
 | [],_=>rfl
 |k::l,c=>by rw[mpG,Zq,Zq,znd l]
theorem zpc(q:κ):∀(l:List κ) (c:Nat),z7r q (mpG l c)=if q∈l then some ((c+l.idxOf q:Nat):Int) else none
 | [],c=>by simp[mpG,z7r]
 |k::l,c=>by
  simp only[mpG,z7r]
  by_cases e:k=q
  · subst e;simp
  · rw[if_neg e,zpc q l]
    have e':¬q=k:=fun h=>e h.symm
    by_cases h:q∈l
    · rw[if_pos h,if_pos (by simp[h]),List.idxOf_cons]
      have:(k==q)=false:=by simpa using e
      rw[this]
      simp only[cond_false]
      congr 2
      omega
    · rw[if_neg h,if_neg (by simp[h,e'])]
theorem zou(k:κ):∀(l:List κ) (c:Nat),k∉l->z8h k ((c+l.length:Nat):Int) (mpG l c)=mpG (l++ [k]) c
 | [],c,_=>rfl
 |a::l,c,h=>by
  have h1:¬a=k:=fun e=>h (by simp[e])
  simp only[mpG,z8h,ZO]
  rw[if_neg h1]
  have:=zou k l (c+1) (fun h'=>h (by simp[h']))
  rw[←this]
  congr 2
  simp only[Zq];omega
end
end
section
open Go
set_option linter.unusedSectionVars false
theorem z8A{κ:Type}[DecidableEq κ](key:Nat->κ)(n:Nat):fsK key (n+1)=if key n∈(fsK key n).map key then fsK key n else fsK key n++ [n]:=rfl
theorem znz{κ:Type}[DecidableEq κ](key:Nat->κ)(i:Nat):∀k,∃z,fsK key (i+k)=fsK key i++z
 |0=>⟨[],by simp⟩
 |k+1=>by
  obtain⟨z,hz⟩:=znz key i k
  rw[←Xs,z8A]
  split
  · exact⟨z,hz⟩
  · exact⟨z++ [i+k],by rw[hz,Zu]⟩
theorem ztH{κ:Type}[DecidableEq κ](key:Nat->κ){n i j:Nat}(hj:j<i)(hi:i<=n):noK key n j=((fsK key i).map key).idxOf (key j):=by
 obtain⟨z,hz⟩:=znz key i (n-i)
 rw[show i+(n-i)=n by omega] at hz
 unfold noK
 rw[hz,ZI,YS,if_pos (z8m key i j hj)]
theorem zAT{κ:Type}[DecidableEq κ](key:Nat->κ){n i:Nat}(h:i<n):z7r (key i) (mpG ((fsK key i).map key) 0)=if key i∈(fsK key i).map key then some ((noK key n i:Nat):Int) else none:=by
 rw[zpc]
 by_cases hm:key i∈(fsK key i).map key
 · rw[if_pos hm,if_pos hm,Zs,ztH key (X9 i) (by omega),z8A,if_pos hm]
 · rw[if_neg hm,if_neg hm]
theorem ztI{κ:Type}[DecidableEq κ](key:Nat->κ){n i:Nat}(h:i<n)(hm:¬key i∈(fsK key i).map key):noK key n i=(fsK key i).length:=by
 rw[ztH key (X9 i) (by omega),z8A,if_neg hm,ZI,YS,if_neg hm]
 simp
theorem zzX{κ:Type}[DecidableEq κ](key:Nat->κ){n i:Nat}(h:i<n)(hm:¬key i∈(fsK key i).map key):z8h (key i) ((noK key n i:Nat):Int) (mpG ((fsK key i).map key) 0)=mpG ((fsK key (i+1)).map key) 0:=by
 have:=zou (key i) ((fsK key i).map key) 0 hm
 rw[Zs,Zg,←ztI key h hm] at this
 rw[this,z8A,if_neg hm,ZI];rfl
theorem zxo{α:Type}{N:Nat}{f g:Nat->α}{k:Nat}(h:f k=g k):z9R N f g k=z9R N f g (k+1):=by
 unfold z9R
 refine ZA fun i hi=> ?_
 by_cases e:i<k
 · rw[if_pos e,if_pos (by omega)]
 · rw[if_neg e]
   by_cases e2:i=k
   · subst e2;rw[if_pos (by omega),h]
   · rw[if_neg (by omega)]
def z8t(d:DFA)(cl:Nat->Nat)(a q:Nat):List Int:=(List.range 7).map fun j=>if j=0 then((cl q:Nat):Int) else if j<=a then((cl (nxN d q (j-1)):Nat):Int) else 0
theorem zmT{d:DFA}{cl:Nat->Nat}{q a:Nat}:(z8t d cl a q).length=7:=by simp[z8t]
theorem zzP{d:DFA}{cl:Nat->Nat}{q a:Nat}(ha:a<6):(z8t d cl a q).set (a+1) ((cl (nxN d q a):Nat):Int)=z8t d cl (a+1) q:=by
 refine Zf (by simp[z8t]) fun i h1 h2=> ?_
 rw[Ye]
 simp only[z8t,Zw,ZJ]
 by_cases e:a+1=i
 · subst e
   rw[if_pos rfl,if_neg (by omega),if_pos (by omega)]
   simp
 · rw[if_neg e]
   by_cases e0:i=0
   · rw[if_pos e0,if_pos e0]
   · rw[if_neg e0,if_neg e0]
     by_cases e1:i<=a
     · rw[if_pos e1,if_pos (by omega)]
     · rw[if_neg e1,if_neg (by omega)]
theorem zsO{d:DFA}{m:Nat}{cl:Nat->Nat}{i j:Nat}(hm:m<=6):z8t d cl m i=z8t d cl m j↔cl i=cl j/\ ∀a,a<m->cl (nxN d i a)=cl (nxN d j a):=by
 constructor
 · intro h
   have hg:∀k,k<7->(z8t d cl m i).getD k 0=(z8t d cl m j).getD k 0:=fun k _=>by rw[h]
   have gd:∀q k,k<7->(z8t d cl m q).getD k 0=if k=0 then((cl q:Nat):Int) else if k<=m then((cl (nxN d q (k-1)):Nat):Int) else 0:=fun q k hk=>by
    rw[List.getD,Z1 (by rw[zmT];exact hk),Z4]
    simp only[z8t,Zw,ZJ]
   refine⟨?_,fun a ha=> ?_⟩
   · have:=hg 0 (by omega)
     rw[gd i 0 (by omega),gd j 0 (by omega),if_pos rfl,if_pos rfl] at this
     omega
   · have:=hg (a+1) (by omega)
     rw[gd i (a+1) (by omega),gd j (a+1) (by omega),if_neg (Nat.succ_ne_zero a),if_pos (show a+1<=m by omega),if_neg (Nat.succ_ne_zero a),if_pos (show a+1<=m by omega)] at this
     simp only[Nat.add_sub_cancel] at this
     omega
 · rintro⟨h1,h2⟩
   unfold z8t
   refine ZA fun k hk=> ?_
   by_cases e0:k=0
   · rw[if_pos e0,if_pos e0,h1]
   · rw[if_neg e0,if_neg e0]
     by_cases e1:k<=m
     · rw[if_pos e1,if_pos e1,h2 (k-1) (by omega)]
     · rw[if_neg e1,if_neg e1]
structure ClsOk(d:DFA)(m n:Nat)(cl:Nat->Nat):Prop where
 rg:(fsK cl n).map cl=List.range (fsK cl n).length
 fin:∀i j,i<n->j<n->cl i=cl j->d.final.getD i false=d.final.getD j false
 nx:∀i j,i<n->j<n->cl i=cl j->∀a,a<m->cl (nxN d i a)=cl (nxN d j a)
 co:∀i j,i<n->j<n->d.final.getD i false=d.final.getD j false->(∀a,a<m->nxN d i a=nxN d j a)->cl i=cl j
variable{cl:Nat->Nat}
def clL(cl:Nat->Nat)(n:Nat):List Int:=(List.range n).map fun q=>((cl q:Nat):Int)
theorem zjV{n:Nat}:(clL cl n).length=n:=by simp[clL]
theorem zma{n i:Nat}(h:i<n):atI (clL cl n) (i:Int)=some ((cl i:Nat):Int):=by
 rw[z0Q (by rw[zjV];exact h)];simp[clL]
section
variable {d:DFA} {m n:Nat} (hd:DfaOk d m n) (hn:n<=512)
include hd hn
theorem zAg(cl:Nat->Nat)(c:Int){x:Option (Int×List Int⊕List Int)}(hx:x=if((fsK (z8t d cl m) n).length:Int)=c then z0d (some (clL (noK (z8t d cl m) n) n)) else z0c (((fsK (z8t d cl m) n).length:Int),clL (noK (z8t d cl m) n) n)):
 z0h (z3V d c (clL cl n)) LFm (0,[],List.replicate n 0)=x:=by
 have hm6:=hd.m6
 have uN:=hd.nl
 refine z0q (s:=((0:Int),([]:List (List Int×Int)),List.replicate n (0:Int))) n (fun k=>((k:Int),mpG ((fsK (z8t d cl m) k).map (z8t d cl m)) 0,z9R n (fun q=>((noK (z8t d cl m) n q:Nat):Int)) (fun _=>0) k)) (by
  rw[z8V];congr 2;exact(Zf (by simp) fun i h1 h2=>by simp)) (by simp only[LFm];omega) (fun k hk=> ?_) ?_
 · simp only[z3V]
   obtain⟨h1,h2,h3,h4,h5⟩:=zak hd hk (show 0<m by have:=hd.m1;omega)
   have kD:(d.next[k]'h1).length=m:=(hd.row _ (Zm h1)).1
   rw[uN,if_pos (by omega),z0Q h1,Z0,zma hk,Z0]
   refine z0q (s:=((0:Int),[((cl k:Nat):Int),0,0,0,0,0,0])) m (fun a=>((a:Int),z8t d cl a k)) (by
    congr 1) (by simp only[LFm];omega) (fun a ha=> ?_) ?_
   · simp only[z4U]
     obtain⟨r,y1,y2,y3⟩:=zf6 hd hk ha
     rw[z0Q h1] at y1
     cases y1
     rw[kD,if_pos (by omega),y2,Z0,zma y3,Z0,show(1:Int)+(a:Int)=(a:Int)+1 by omega,z0H (by omega),z0e _ (by omega),z5q 0 (by rw[zmT];omega),Z0,Z2,zzP (by omega)]
   · simp only[z4U]
     have g1:=zAT (z8t d cl m) hk
     have g2:=ztI (z8t d cl m) hk
     have g3:=zzX (z8t d cl m) hk
     have g4:=z8A (z8t d cl m) k
     rw[kD,if_neg (by omega),z0e _ zmT,g1,z0H (by omega),Z2]
     by_cases hm:z8t d cl m k∈(fsK (z8t d cl m) k).map (z8t d cl m)
     · rw[if_pos hm]
       simp only[Option.isSome_some,if_true,Z4]
       rw[if_pos hm] at g4
       rw[z5P hk,Z0,z4c (f:=fun q=>((noK (z8t d cl m) n q:Nat):Int)) hk,g4]
     · rw[if_neg hm]
       simp only[Option.isSome_none,ZP,if_false]
       rw[z5P hk,Z0,znd,Zg,←g2 hm,g3 hm,z4c (f:=fun q=>((noK (z8t d cl m) n q:Nat):Int)) hk]
 · simp only[z3V]
   rw[uN,if_neg (by omega),z8U,znd,Zg,hx]
   by_cases h:((fsK (z8t d cl m) n).length:Int)=c
   · rw[if_pos h,if_pos h];rfl
   · rw[if_neg h,if_neg h];rfl
theorem zte(cl0:Nat->Nat)(hf:∀i j,i<n->j<n->cl0 i=cl0 j->d.final.getD i false=d.final.getD j false)(hc:∀i j,i<n->j<n->d.final.getD i false=d.final.getD j false->(∀a,a<m->nxN d i a=nxN d j a)->cl0 i=cl0 j):
 ∃cl,z0h (z2O d) LFm (((fsK cl0 n).length:Int),clL cl0 n)=some (clL cl n)/\ClsOk d m n cl:=by
 have hm6:=hd.m6
 refine Exists.elim (z1r (b:=z2O d)
  (fun s=>∃cl:Nat->Nat,s=(((fsK cl n).length:Int),clL cl n)/\(∀i j,i<n->j<n->cl i=cl j->d.final.getD i false=d.final.getD j false)/\(∀i j,i<n->j<n->d.final.getD i false=d.final.getD j false->(∀a,a<m->nxN d i a=nxN d j a)->cl i=cl j))
  (fun s=>n+1-s.1.toNat)
  (fun r=>∃cl,r=clL cl n/\ClsOk d m n cl) ?_ LFm (((fsK cl0 n).length:Int),clL cl0 n) ⟨cl0,rfl,hf,hc⟩ (by simp only[LFm];omega)) fun r h=>by
    obtain⟨h1,cl,rfl,h2⟩:=h
    exact⟨cl,h1,h2⟩
 rintro _ ⟨cl,rfl,h1,h2⟩
 simp only[z2O]
 rw[zjV,z0e _ (by unfold z0D;omega),Z2,zAg hd hn cl _ rfl]
 have gK:∀i j,i<n->j<n->(noK (z8t d cl m) n i=noK (z8t d cl m) n j↔z8t d cl m i=z8t d cl m j):=fun i j hi hj=>zCC (z8t d cl m) hi hj
 have pN:∀i j,i<n->j<n->z8t d cl m i=z8t d cl m j->cl i=cl j:=fun i j _ _ e=>((zsO hm6).1 e).1
 have kM:=zzg (key:=(z8t d cl m)) (g:=cl) pN
 have uI:fsK (noK (z8t d cl m) n) n=fsK (z8t d cl m) n:=zlT n gK
 have kI:=znA (z8t d cl m) n
 have hf':∀i j,i<n->j<n->noK (z8t d cl m) n i=noK (z8t d cl m) n j->d.final.getD i false=d.final.getD j false:=fun i j hi hj e=>h1 i j hi hj (pN i j hi hj ((gK i j hi hj).1 e))
 have hc':∀i j,i<n->j<n->d.final.getD i false=d.final.getD j false->(∀a,a<m->nxN d i a=nxN d j a)->noK (z8t d cl m) n i=noK (z8t d cl m) n j:=fun i j hi hj e1 e2=>(gK i j hi hj).2 ((zsO hm6).2 ⟨h2 i j hi hj e1 e2,fun a ha=>by rw[e2 a ha]⟩)
 by_cases he:((fsK (z8t d cl m) n).length:Int)=((fsK cl n).length:Int)
 · right
   rw[if_pos he]
   refine⟨_,rfl,_,rfl,⟨by rw[uI];exact ztG (z8t d cl m) n,hf',fun i j hi hj e a ha=> ?_,hc'⟩⟩
   have e1:=(gK i j hi hj).1 e
   have e2:=((zsO hm6).1 e1).2 a ha
   have b1:nxN d i a<n:=by obtain⟨_,_,_,h⟩:=zf6 hd hi ha;exact h
   have b2:nxN d j a<n:=by obtain⟨_,_,_,h⟩:=zf6 hd hj ha;exact h
   exact(gK _ _ b1 b2).2 (zrr (key:=(z8t d cl m)) (g:=cl) pN (by omega) b1 b2 e2)
 · left
   rw[if_neg he]
   exact⟨_,rfl,⟨_,by rw[uI],hf',hc'⟩,by simp only;omega⟩
theorem zrE:∃cl,z5B d=some (clL cl n)/\ClsOk d m n cl:=by
 have gG:=hd.fin
 have hn1:=hd.n1
 have hm6:=hd.m6
 let g0:Nat->Nat:=fun q=>if d.final.getD q false=d.final.getD 0 false then 0 else 1
 have g00:g0 0=0:=if_pos rfl
 have g01:∀q,g0 q=0∨g0 q=1:=fun q=>by
  by_cases h:d.final.getD q false=d.final.getD 0 false
  · exact .inl (if_pos h)
  · exact .inr (if_neg h)
 unfold z5B
 rw[zb7 (zFO hd hn),zkq hd hn,Z0,if_pos rfl,gG,z0e _ (by unfold z0D;omega),Z2]
 obtain⟨cl,c1,c2⟩:=zte hd hn g0 (fun i j hi hj e=>by
  simp only[g0] at e
  by_cases h1:d.final.getD i false=d.final.getD 0 false
  · rw[if_pos h1] at e
    by_cases h2:d.final.getD j false=d.final.getD 0 false
    · rw[h1,h2]
    · rw[if_neg h2] at e;omega
  · rw[if_neg h1] at e
    by_cases h2:d.final.getD j false=d.final.getD 0 false
    · rw[if_pos h2] at e;omega
    · revert h1 h2
      cases d.final.getD i false<;>cases d.final.getD j false<;>cases d.final.getD 0 false<;>simp) (fun i j hi hj e _=>by simp only[g0];rw[e])
 refine⟨cl,?_,c2⟩
 refine z0q (s:=((1:Int),(0:Int),List.replicate n (0:Int))) n (fun k=>(((max 1 (fsK g0 k).length:Nat):Int),(k:Int),z9R n (fun q=>((g0 q:Nat):Int)) (fun _=>0) k)) (by
  rw[z8V];congr 2;exact(Zf (by simp) fun i h1 h2=>by simp)) (by simp only[LFm];omega) (fun k hk=> ?_) ?_
 · simp only[z5t]
   rw[gG,if_pos (by omega),z5q false (by omega),Z0,show(0:Int)=((0:Nat):Int) from rfl,z5q false (by omega),Z0,z0H (by omega),Z2]
   by_cases h:d.final.getD k false=d.final.getD 0 false
   · have hg:g0 k=0:=if_pos h
     rw[if_neg (by rw[h];simp),←zxo (f:=fun q=>((g0 q:Nat):Int)) (by show((g0 k:Nat):Int)=0;rw[hg];rfl)]
     congr 3
     by_cases h0:k=0
     · subst h0
       rw[z8A,if_neg (by simp[fsK])]
       simp[fsK]
     · rw[z8A,if_pos (by rw[hg,←g00];exact z8m g0 k 0 (by omega))]
   · have hg:g0 k=1:=if_neg h
     have h0:k≠0:=by rintro rfl;exact h rfl
     rw[if_pos (by simpa using h),z5P hk,Z0]
     have hs:=z4c (f:=fun q=>((g0 q:Nat):Int)) (g:=fun _=>(0:Int)) hk
     simp only[hg] at hs
     have hL:(fsK g0 (k+1)).length=2:=by
      have gJ:=zdt g0 (k+1)
      have a1:=z9Q (l:= [0,1]) (p:=(fsK g0 (k+1)).map g0) (by decide) fun a ha=>by
       simp at ha
       rcases ha with rfl|rfl
       · have:=z8m g0 (k+1) 0 (by omega)
         rw[g00] at this;exact this
       · have:=z8m g0 (k+1) k (by omega)
         rw[hg] at this;exact this
      have a2:=z9Q (l:=(fsK g0 (k+1)).map g0) (p:= [0,1]) gJ fun a ha=>by
       obtain⟨i,_,rfl⟩:=Zh.1 ha
       rcases g01 i with e|e<;>simp[e]
      simp at a1 a2
      omega
     rw[hL]
     exact congrArg (fun l=>z0c ((2:Int),((k+1:Nat):Int),l)) hs
 · simp only[z5t]
   have hp:0<(fsK g0 n).length:=by
    have:=YI (z8m g0 n 0 (by omega))
    simpa using this
   rw[gG,if_neg (by omega),z8U,show max 1 (fsK g0 n).length=(fsK g0 n).length by omega]
   show z0d (z0h (z2O d) LFm (((fsK g0 n).length:Int),clL g0 n))=_
   rw[c1]
end
end
section
open Go Go.IntKind
noncomputable section
variable{a0:DFA}{v62:DFA×List Int}{v63:List Int}
attribute [-simp] Nat.mul_lt_mul_right Option.not_isSome
attribute [simp] zAv zz7
abbrev z4T(v62:DFA×List Int)(v63:List Int)(w77:Int)(w78:List Bool)(w79:List (List Int))(v94:List Int):Int×List Int->Option ((Int×List Int)⊕((Int×List Bool×List (List Int))⊕(DFA×List Int)))
 |(w97,w98)=>
 if w97<(v94.length:Int) then
 (atI v94 w97).bind fun v102=>
 (atI v63 v102).bind fun v103=>
 (atI w98 w97).bind fun v104=>
 z0c (i64.wrap (w97+1),(w98.set w97.toNat v103))
 else
 z0d<|
 (atI v62.1.final w77).bind fun v105=>
 chk (z1n 1 (w78.length+1))<|
 chk (z1n 24 (w79.length+1))<|
 z0c (i64.wrap (w77+1),w78++ [v105],w79++ [w98])
instance{w77:Int}{w78:List Bool}{w79:List (List Int)}{v94:List Int}:Hd (z4T v62 v63 w77 w78 w79 v94):=⟨fun(w97,w98)=>([(49,xI w97)],[(10,(tO w98))])⟩
abbrev z2N(v62:DFA×List Int)(v63:List Int)(v106:DFA×List Int):Int×List Int->Option ((Int×List Int)⊕(DFA×List Int))
 |(w111,w112)=>
 if w111<(v62.2.length:Int) then
 (atI v62.2 w111).bind fun v118=>
 (atI w112 w111).bind fun v119=>
 if 0<=v118 then
 (atI v63 v118).bind fun v120=>
 (atI v106.2 v120).bind fun v121=>
 (atI (w112.set w111.toNat (-1)) w111).bind fun v122=>
 z0c (i64.wrap (w111+1),((w112.set w111.toNat (-1)).set w111.toNat v121))
 else
 z0c (i64.wrap (w111+1),(w112.set w111.toNat (-1)))
 else
 z0d<|
 some (v106.1,w112)
instance{v106:DFA×List Int}:Hd (z2N v62 v63 v106):=⟨fun(w111,w112)=>([(89,xI w111)],[(15,(tO w112))])⟩
abbrev z4p(a0:DFA)(v62:DFA×List Int)(v63:List Int):Int×List Bool×List (List Int)->Option ((Int×List Bool×List (List Int))⊕(DFA×List Int))
 |(w77,w78,w79)=>
 if w77<(v63.length:Int) then
 (atI v63 w77).bind fun v93=>
 if v93<(w78.length:Int) then
 z0c (i64.wrap (w77+1),w78,w79)
 else
 chk (z0D 8 a0.letters)<|
 (atI v62.1.next w77).bind fun v94=>
 z0h (z4T v62 v63 w77 w78 w79 v94) LFm (0,List.replicate a0.letters.toNat (0:Int))
 else
 z0d<|
 (zas (⟨a0.letters,0,w78,w79⟩:DFA)).bind fun v106=>
 chk (z0D 8 (v62.2.length:Int))<|
 z0h (z2N v62 v63 v106) LFm (0,List.replicate (v62.2.length:Int).toNat (0:Int))
instance:Hd (z4p a0 v62 v63):=⟨fun(w77,w78,w79)=>([(30,xI w77)],[(7,.vr [.sc (.int .i64 a0.letters),.sc (.int .i64 0),.os 1 w78.length (w78.map fun x0=>.sc (.bool x0)),.os 1 w79.length (w79.map fun x0=>(tO x0))])])⟩
def z6I(a0:DFA):Option (DFA×List Int):=
 (zas a0).bind fun v62=>
 (z5B v62.1).bind fun v63=>
 z0h (z4p a0 v62 v63) LFm (0,[],[])
instance:Ok (z6I a0) (fun r=>L 78 [.agg [.sc (.int .i64 a0.letters),.sc (.int .i64 a0.start),(tB a0.final),(tR a0.next)]]=some (.tup [.agg [.sc (.int .i64 r.1.letters),.sc (.int .i64 r.1.start),.os 1 r.1.final.length (r.1.final.map fun x0=>.sc (.bool x0)),.os 1 r.1.next.length (r.1.next.map fun x0=>(tO x0))],(tO r.2)],[.dead])):=⟨fun r h=>by have h:=z3c h;unfold z6I at h;exact z4b rfl Tryz.func78 (bdy Tryz.f78 rfl)⟩
def z5A(a0:DFA):Option (DFA):=
 (z4N a0).bind fun v3=>
 if v3=0 then
 (z6I a0).bind fun v4=>
 some v4.1
 else
 some (⟨0,0,[],[]⟩:DFA)
instance:Ok (z5A a0) (fun r=>L 35 [.agg [.sc (.int .i64 a0.letters),.sc (.int .i64 a0.start),(tB a0.final),(tR a0.next)]]=some (.agg [.sc (.int .i64 r.letters),.sc (.int .i64 r.start),.os 1 r.final.length (r.final.map fun x0=>.sc (.bool x0)),.os 1 r.next.length (r.next.map fun x0=>(tO x0))],[.dead])):=⟨fun r h=>by have h:=z3c h;unfold z5A at h;exact z4b rfl Tryz.func35 (bdy Tryz.f35 rfl)⟩
end
end
section
open Go
set_option linter.unusedSectionVars false
variable{i j:Nat}
section
variable {t:DFA} {m k:Nat} {cl:Nat->Nat} (ht:DfaOk t m k) (hk5:k<=512) (hC:ClsOk t m k cl)
include ht hk5 hC
theorem zz1(hi:i<=k):(fsK cl i).map cl=List.range (fsK cl i).length:=by
 obtain⟨z,hz⟩:=znz cl i (k-i)
 rw[show i+(k-i)=k by omega] at hz
 have h:=hC.rg
 rw[hz,ZI,Z7,List.range_add] at h
 exact(List.append_inj h (by simp)).1
theorem zvQ(hi:i<=k)(x:Nat):x∈(fsK cl i).map cl↔x<(fsK cl i).length:=by
 rw[zz1 ht hk5 hC hi,Zj]
theorem zpt(hi:i<k):cl i<(fsK cl k).length:=(zvQ ht hk5 hC (Z8 k) _).1 (z8m cl k i hi)
theorem zzp(hi:i<k):∃h:cl i<(fsK cl k).length,(fsK cl k)[cl i]'h<k/\cl ((fsK cl k)[cl i]'h)=cl i:=by
 have h:=zpt ht hk5 hC hi
 refine⟨h,z9d cl k _ (Zm h),?_⟩
 have e:=hC.rg
 have:((fsK cl k).map cl)[cl i]'(by simpa using h)=(List.range (fsK cl k).length)[cl i]'(by simpa using h):=by simp only[e]
 rw[Zw,ZJ] at this
 exact this
def zA4(t:DFA)(m:Nat)(cl:Nat->Nat)(q:Nat):List Int:=(List.range m).map fun a=>((cl (nxN t q a):Nat):Int)
def zmq(t:DFA)(m k:Nat)(cl:Nat->Nat):DFA:=⟨(m:Int),0,(fsK cl k).map fun q=>t.final.getD q false,(fsK cl k).map (zA4 t m cl)⟩
theorem zCb:DfaOk (zmq t m k cl) m (fsK cl k).length:=by
 have hk1:=ht.n1
 have hp:0<(fsK cl k).length:=YY (Y7 _) (zpt ht hk5 hC (i:=0) (by omega))
 refine⟨rfl,ht.m1,ht.m6,hp,by simp[zmq],by simp[zmq],by simp[zmq],by simp only[zmq];omega,fun r hr=> ?_⟩
 simp only[zmq] at hr
 obtain⟨q,hq,rfl⟩:=Zh.1 hr
 have hq':=z9d cl k q hq
 refine⟨by simp[zA4],fun x hx=> ?_⟩
 obtain⟨a,ha,rfl⟩:=Zh.1 hx
 have ha':a<m:=Zj.1 ha
 have hb:nxN t q a<k:=by obtain⟨_,_,_,h⟩:=zf6 ht hq' ha';exact h
 have:=zpt ht hk5 hC hb
 omega
theorem zCc{a:Nat}(hj:j<k)(ha:a<m):nxN (zmq t m k cl) (cl j) a=cl (nxN t j a):=by
 obtain⟨h,h1,h2⟩:=zzp ht hk5 hC hj
 unfold nxN
 have e:(zmq t m k cl).next.getD (cl j) []=zA4 t m cl ((fsK cl k)[cl j]'h):=by
  rw[List.getD,Z1 (by simpa[zmq] using h),Z4]
  simp only[zmq,Zw]
 rw[e]
 have e2:(zA4 t m cl ((fsK cl k)[cl j]'h)).getD a 0=((cl (nxN t ((fsK cl k)[cl j]'h) a):Nat):Int):=by
  rw[List.getD,Z1 (by simpa[zA4] using ha),Z4]
  simp only[zA4,Zw,ZJ]
 rw[e2,Z2]
 exact hC.nx _ _ h1 hj h2 a ha
theorem zA7(hj:j<k):(zmq t m k cl).final.getD (cl j) false=t.final.getD j false:=by
 obtain⟨h,h1,h2⟩:=zzp ht hk5 hC hj
 rw[List.getD,Z1 (by simpa[zmq] using h),Z4]
 simp only[zmq,Zw]
 exact hC.fin _ _ h1 hj h2
theorem ztj:∀ {w:List UInt8} {j:Nat},j<k->zf8 m w->z6y (zmq t m k cl) (cl j) w=cl (z6y t j w)
 | [],j,hj,_=>rfl
 |c::w,j,hj,hw=>by
  obtain⟨w1,w2⟩:=z8l hw
  have hb:nxN t j (c.toNat-97)<k:=by obtain⟨_,_,_,h⟩:=zf6 ht hj w2;exact h
  simp only[z6y]
  rw[zCc ht hk5 hC hj w2]
  exact ztj hb w1
theorem zBj:cl 0=0:=by
 have h:=zz1 ht hk5 hC (i:=1) ht.n1
 have e:fsK cl 1= [0]:=by simp[fsK]
 rw[e] at h
 simpa using h
theorem zCd(d:DFA)(hl:d.letters=(m:Int))(N:List Int){x:Option (DFA×List Int)}(hx:x=(zas (zmq t m k cl)).bind fun v106=>chk (z0D 8 (N.length:Int)) (z0h (z2N (t,N) (clL cl k) v106) LFm (0,List.replicate N.length (0:Int)))):
 z0h (z4p d (t,N) (clL cl k)) LFm (0,[],[])=x:=by
 have hm6:=ht.m6
 refine z0q (s:=((0:Int),([]:List Bool),([]:List (List Int)))) k (fun i=>((i:Int),(fsK cl i).map (fun q=>t.final.getD q false),(fsK cl i).map (zA4 t m cl))) (by simp[fsK]) (by simp only[LFm];omega) (fun i hi=> ?_) ?_
 · simp only[z4p]
   have gD:=znA cl i
   have vN:=ht.fin
   rw[zjV,if_pos (by omega),zma hi,Z0,Zg]
   have jJ:=zvQ ht hk5 hC (Nat.le_of_lt hi) (cl i)
   by_cases h:cl i<(fsK cl i).length
   · rw[if_pos (by omega),z0H (by omega),z8A,if_pos (jJ.2 h)]
   · rw[if_neg (by omega),hl,z0e _ (by unfold z0D;omega),Z2]
     obtain⟨h1,h2,h3,h4,h5⟩:=zak ht hi (show 0<m by have:=ht.m1;omega)
     have kD:(t.next[i]'h1).length=m:=(ht.row _ (Zm h1)).1
     rw[z0Q h1,Z0]
     refine z0q (s:=((0:Int),List.replicate m (0:Int))) m (fun a=>((a:Int),z9R m (fun a=>((cl (nxN t i a):Nat):Int)) (fun _=>0) a)) (by
      rw[z8V];congr 1;exact(Zf (by simp) fun i h1 h2=>by simp)) (by simp only[LFm];omega) (fun a ha=> ?_) ?_
     · simp only[z4T]
       obtain⟨r,y1,y2,y3⟩:=zf6 ht hi ha
       rw[z0Q h1] at y1
       cases y1
       rw[kD,if_pos (by omega),y2,Z0,zma y3,Z0,z5P ha,Z0,z0H (by omega),Z2,z4c (f:=fun a=>((cl (nxN t i a):Nat):Int)) ha]
     · simp only[z4T]
       rw[kD,if_neg (by omega),z5q false (by omega),Z0,Zg,Zg,z0e _ (by unfold z1n;omega),z0e _ (by unfold z1n;omega),z0H (by omega),z8U,z8A,if_neg (fun hh=>h (jJ.1 hh)),ZI,ZI]
       rfl
 · simp only[z4p]
   rw[zjV,if_neg (by omega),hx,hl]
   simp only[Z2]
   rfl
end
end
section
open Go
set_option linter.unusedSectionVars false
theorem zj0{d:DFA}{m n:Nat}{t:DFA}{l:List Nat}(hd:DfaOk d m n)(hT:TrimOk d m n t l):∀ {w:List UInt8} {j:Nat},j<l.length->zf8 m w->z6y t j w<l.length/\l.getD (z6y t j w) 0=z6y d (l.getD j 0) w
 | [],j,hj,_=>⟨hj,rfl⟩
 |c::w,j,hj,hw=>by
  obtain⟨w1,w2⟩:=z8l hw
  obtain⟨h1,h2⟩:=hT.nx j hj _ w2
  obtain⟨h3,h4⟩:=zj0 (w:=w) (j:=nxN t j (c.toNat-97)) hd hT h1 w1
  simp only[z6y]
  exact⟨h3,by rw[h4,h2]⟩
theorem zB0{d:DFA}{m n:Nat}{t:DFA}{l:List Nat}{cl:Nat->Nat}(hd:DfaOk d m n)(hs:n<=5∨(n=7/\m=2/\d.next=defT))(hT:TrimOk d m n t l)(hC:ClsOk t m l.length cl):(fsK cl l.length).length<=5:=by
 have h1:=hT.len
 have h2:=znA cl l.length
 rcases hs with h|⟨rfl,rfl,pD⟩
 · omega
 · let g:Nat->Nat:=fun j=>if l.getD j 0=0 then 0 else 1+2*(l.getD j 0%2)+(if t.final.getD j false=true then 1 else 0)
   have kS:∀q r,q<7->r<7->q≠0->r≠0->q%2=r%2->∀a,a<2->nxN d q a=nxN d r a:=by
    unfold nxN
    rw[pD]
    have:∀q,q<7->∀r,r<7->∀a,a<2->(decide (q=0)||decide (r=0)|| !decide (q%2=r%2)||decide (((defT.getD q []).getD a 0).toNat=((defT.getD r []).getD a 0).toNat))=true:=by decide
    intro q r hq hr z1 z2 e a ha
    have h:=this q hq r hr a ha
    simpa[z1,z2,e] using h
   have kM:(fsK cl l.length).length<=(fsK g l.length).length:=by
    refine zzg fun i j hi hj e=> ?_
    have yM:=hT.get hi
    have vX:=hT.get hj
    simp only[g] at e
    by_cases zi:l.getD i 0=0
    · by_cases zj:l.getD j 0=0
      · have:i=j:=by
         have q1:=hT.nd.idxOf_getElem i hi
         have q2:=hT.nd.idxOf_getElem j hj
         rw[List.getD,Z1 hi,Z4] at zi
         rw[List.getD,Z1 hj,Z4] at zj
         rw[←q1,←q2,zi,zj]
        rw[this]
      · rw[if_pos zi,if_neg zj] at e;omega
    · by_cases zj:l.getD j 0=0
      · rw[if_neg zi,if_pos zj] at e;omega
      · rw[if_neg zi,if_neg zj] at e
        have e1:l.getD i 0%2=l.getD j 0%2/\t.final.getD i false=t.final.getD j false:=by
         revert e
         cases t.final.getD i false<;>cases t.final.getD j false<;>simp<;>omega
        refine hC.co i j hi hj e1.2 fun a ha=> ?_
        obtain⟨a1,a2⟩:=hT.nx i hi a ha
        obtain⟨b1,b2⟩:=hT.nx j hj a ha
        have hx:=kS _ _ yM vX zi zj e1.1 a ha
        rw[←a2,←b2] at hx
        have q1:=hT.nd.idxOf_getElem _ a1
        have q2:=hT.nd.idxOf_getElem _ b1
        rw[List.getD,Z1 a1,Z4,List.getD,Z1 b1,Z4] at hx
        rw[←q1,←q2,hx]
   have h5:=z1C (l:=(fsK g l.length).map g) (N:=5) (zdt g l.length) fun x hx=>by
    obtain⟨j,_,rfl⟩:=Zh.1 hx
    simp only[g]
    have:=Nat.mod_lt (l.getD j 0) (show 0<2 by omega)
    split
    · omega
    · split<;>omega
   simp at h5
   omega
theorem zqW{d:DFA}{m n:Nat}(hd:DfaOk d m n)(hs:n<=5∨(n=7/\m=2/\d.next=defT)):∃M k,z5A d=some M/\DfaOk M m k/\k<=5/\ ∀w,zf8 m w->M.final.getD (z6y M M.start.toNat w) false=d.final.getD (z6y d d.start.toNat w) false:=by
 have hn:n<=512:=by omega
 obtain⟨t,l,N,e1,hT,hN,yG⟩:=zs8 hd hn
 have gD:=hT.len
 have hk5:l.length<=512:=by omega
 obtain⟨cl,e2,hC⟩:=zrE hT.ok hk5
 have hq:=zCb hT.ok hk5 hC
 have hc:=zB0 hd hs hT hC
 obtain⟨u,l2,N2,e3,hU,hN2,_⟩:=zs8 hq (by omega)
 have uY:=hU.len
 have gG:∀w,zf8 m w->u.final.getD (z6y u u.start.toNat w) false=d.final.getD (z6y d d.start.toNat w) false:=fun w hw=>by
  have p1:=hT.ok.n1
  have p2:=hU.ok.n1
  have us:u.start.toNat=0:=by rw[hU.start];rfl
  obtain⟨a1,a2⟩:=zj0 hq hU (w:=w) (j:=0) (by omega) hw
  obtain⟨b1,b2⟩:=zj0 hd hT (w:=w) (j:=0) (by omega) hw
  have q0:(zmq t m l.length cl).start.toNat=cl 0:=by rw[zBj hT.ok hk5 hC];rfl
  rw[us,hU.fin _ a1,a2,hU.first,q0,ztj hT.ok hk5 hC (by omega) hw,zA7 hT.ok hk5 hC b1,hT.fin _ b1,b2,hT.first]
 refine⟨u,l2.length,?_,hU.ok,by omega,gG⟩
 have hb:∃st,z0h (z2N (t,N) (clL cl l.length) (u,N2)) LFm (0,List.replicate N.length (0:Int))=some (u,st):=by
  refine Exists.elim (z1r (b:=z2N (t,N) (clL cl l.length) (u,N2))
   (fun s=>∃(i:Nat) (S:List Int),s=((i:Int),S)/\i<=n/\S.length=n)
   (fun s=>n+1-s.1.toNat)
   (fun r=>∃st:List Int,r=(u,st)) ?_ LFm (0,List.replicate N.length (0:Int)) ⟨0,_,rfl,by omega,by simp[hN]⟩ (by simp only[LFm];omega)) fun r h=>by
     obtain⟨h1,st,rfl⟩:=h
     exact⟨st,h1⟩
  rintro _ ⟨i,S,rfl,hi,hS⟩
  simp only[z2N]
  by_cases h1:i<n
  · left
    have hv:N.getD i 0∈N:=by rw[List.getD,Z1 (by omega),Z4];exact Zm _
    obtain⟨v1,v2⟩:=yG _ hv
    rw[hN,if_pos (by omega),z5q 0 (by omega),Z0,z5q 0 (by omega),Z0,z0H (by omega),Z2]
    by_cases h2:0<=N.getD i 0
    · obtain⟨v,ev⟩:=ZF h2
      rw[ev] at v2⊢
      have hv':v<l.length:=by omega
      have gH:=zpt hT.ok hk5 hC hv'
      rw[if_pos (by omega),zma hv',Z0,z5q 0 (by omega),Z0,z5q 0 (by simp[hS];omega),Z0]
      exact⟨_,rfl,⟨i+1,_,rfl,by omega,by simp[hS]⟩,by simp only;omega⟩
    · rw[if_neg h2]
      exact⟨_,rfl,⟨i+1,_,rfl,by omega,by simp[hS]⟩,by simp only;omega⟩
  · right
    rw[hN,if_neg (by omega)]
    exact⟨_,rfl,_,rfl⟩
 obtain⟨st,gL⟩:=hb
 unfold z5A z6I
 rw[zb7 (zFO hd hn),zkq hd hn,Z0,if_pos rfl,e1,Z0]
 simp only
 rw[e2,Z0,zCd hT.ok hk5 hC d hd.lt N rfl,e3,Z0,z0e _ (by rw[hN];unfold z0D;omega),gL]
 rfl
end
end Go.Proofs.YtiobkcdgggbljaaGreatDoor
