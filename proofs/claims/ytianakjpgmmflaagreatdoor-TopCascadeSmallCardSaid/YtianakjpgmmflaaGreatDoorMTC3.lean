/- Proved here: a part of the proof of the law at hand, in one text: no condition. -/
import Derived.Test.YtianakjpgmmflaaGreatDoorMTC2
import Derived.Maps.RangeRun
import Derived.Test.YtianakjpgmmflaaGreatDoorProg
import Derived.KernelRfl
set_option linter.unusedVariables false
set_option linter.unusedSimpArgs false
set_option linter.unusedSectionVars false
set_option maxRecDepth 100000
set_option maxHeartbeats 6000000
namespace Go.Proofs.YtianakjpgmmflaaGreatDoor
section
open Go
variable{k n:Nat}{α ρ σ:Type}{xs:List α}{x:Option ρ}{b:σ->Option (σ⊕ρ)}
theorem zop{σ ρ:Type}{b:σ->Option (σ⊕ρ)}{x:Option ρ}:∀(n:Nat) (f:Nat->σ) (m:Nat),n<m->(∀k,k<n->b (f k)=z0c (f (k+1)))->b (f n)=z0i x->z0k b m (f 0)=x
 |0,f,m+1,_,_,hl=>by
  simp only[z0k,hl]
  cases x<;>rfl
 |n+1,f,m+1,hm,hs,hl=>by
  simp only[z0k,hs 0 (by omega),z0c]
  exact zop n (fun k=>f (k+1)) m (by omega) (fun k hk=>hs (k+1) (by omega)) hl
theorem z0x(n:Nat)(f:Nat->σ){s:σ}(h0:s=f 0)(hn:n<LFm)(step:∀k,k<n->b (f k)=z0c (f (k+1)))(last:b (f n)=z0i x):z0k b LFm s=x:=by
 subst h0;exact zop n f LFm hn step last
theorem zi1{σ ρ:Type}{b:σ->Option (σ⊕ρ)}{x:Option ρ}{p:Nat->Bool}{A:Nat->Option ρ}:∀(n:Nat) (f:Nat->σ) (m i:Nat),n<m->(∀k,k<n->b (f k)=if p (i+k)=true then z0i (A (i+k)) else z0c (f (k+1)))->b (f n)=z0i x->
 z0k b m (f 0)=match((List.range n).map (i+ ·)).find? p with|some k=>A k|none=>x
 |0,f,m+1,i,_,_,hl=>by
  simp only[z0k,hl]
  cases x<;>rfl
 |n+1,f,m+1,i,hm,hs,hl=>by
  have h0:=hs 0 (by omega)
  have hmap:(List.range (n+1)).map (i+ ·)=i::(List.range n).map (i+1+ ·):=by
   rw[List.range_succ_eq_map,Zs,Y3]
   congr 1
   apply ZB
   intro k _
   simp only[Function.comp]
   omega
  rw[hmap,List.find?_cons]
  simp only[Yx] at h0
  by_cases hp:p i=true
  · rw[if_pos hp] at h0
    rw[hp]
    simp only[z0k,h0]
    generalize A i=y
    cases y<;>rfl
  · rw[if_neg hp] at h0
    have hp':p i=false:=by simpa using hp
    rw[hp']
    simp only[z0k,h0,z0c]
    exact zi1 n (fun k=>f (k+1)) m (i+1) (by omega) (fun k hk=>by rw[hs (k+1) (by omega),show i+(k+1)=i+1+k by omega]) hl
theorem z7p(n:Nat)(f:Nat->σ)(p:Nat->Bool)(A:Nat->Option ρ){s:σ}(h0:s=f 0)(hn:n<LFm)(step:∀k,k<n->b (f k)=if p k=true then z0i (A k) else z0c (f (k+1)))(last:b (f n)=z0i x):
 z0k b LFm s=match(List.range n).find? p with|some k=>A k|none=>x:=by
 subst h0
 have:=zi1 n f LFm 0 hn (p:=p) (A:=A) (fun k hk=>by rw[step k hk];simp) last
 simpa using this
theorem z1g(h:k<4611686018427387904):IntKind.i64.wrap ((k:Int)+1)=((k+1:Nat):Int):=by
 rw[IntWalk.i64_in _ (by omega)];omega
theorem z2Y{x:Int}(h: -9223372036854775808<=x)(h2:x<9223372036854775808):IntKind.i64.wrap x=x:=IntWalk.i64_in _ (by omega)
theorem zDx{x:Int}(h:0<=x)(h2:x<256):IntKind.u8.wrap x=x:=by rw[YI];omega
theorem z1k(h:k<xs.length):atI xs (k:Int)=some xs[k]:=by
 unfold atI;rw[if_pos (by omega),Z3,Z1 h]
theorem zlH{s:ByteArray}(h:k<s.size):znt s (k:Int)=some (s[k].toNat:Int):=by
 unfold znt;rw[if_pos (by omega),Z3,getElem?_pos s k h];rfl
theorem zfW(h:k<=xs.length):z6w xs 0 (k:Int)=some (xs.take k):=by
 unfold z6w;rw[if_pos (by omega)];simp
theorem zmG(h:k<=xs.length):z6w xs (k:Int) (xs.length:Int)=some (xs.drop k):=by
 unfold z6w;rw[if_pos (by omega)];simp[Yq]
theorem z0j{p:Prop}[Decidable p](x:Option α)(h:p):chk p x=x:=by unfold chk;rw[if_pos h]
theorem zlo{p:Nat->Bool}:(List.range n).find? p=none↔ ∀k,k<n->p k=false:=by simp
theorem zln{p:Nat->Bool}:(List.range n).find? p=some k↔k<n/\p k=true/\ ∀j,j<k->p j=false:=by
 rw[X1];simp;constructor
 · rintro⟨a,b,c⟩;exact⟨b,a,c⟩
 · rintro⟨a,b,c⟩;exact⟨b,a,c⟩
theorem zeK{p:Nat->Bool}(a b:ρ):(match(List.range n).find? p with|some _=>a|none=>b)=if(List.range n).all (fun k=> !p k) then b else a:=by
 cases h:(List.range n).find? p with
 |none=>rw[zlo] at h;rw[if_pos (by simpa using h)]
 |some k=>
  rw[zln] at h
  rw[if_neg]
  simp only[Zn,Zk,Yb]
  intro hh
  have:=hh k h.1
  rw[h.2.1] at this
  cases this
theorem zkT(p:α->Bool)(l:List α)(d:α):(List.range l.length).all (fun k=>p (l.getD k d))=l.all p:=by
 rw[Yf,Zn,Zn]
 constructor
 · intro h x hx
   obtain⟨i,hi,rfl⟩:=Zt hx
   have:=h i (Zk.2 hi)
   simpa only[List.getD,Z1 hi,Zb] using this
 · intro h i hi
   have hi:=Zk.1 hi
   have:=h _ (Zw hi)
   simpa only[List.getD,Z1 hi,Zb] using this
theorem zg8{b:Int->Option (Int⊕ρ)}{l:List α}(d:α)(p:α->Bool){A B:Option ρ}(h:l.length<4611686018427387904)(step:∀k,k<l.length->b (k:Int)=if p (l.getD k d)=true then z0c ((k+1:Nat):Int) else z0i A)(last:b (l.length:Int)=z0i B):
 z0k b LFm 0=if l.all p=true then B else A:=by
 rw[z7p (s:=(0:Int)) l.length (fun k=>(k:Int)) (fun k=> !p (l.getD k d)) (fun _=>A) (x:=B) rfl (by simp only[LFm];omega) (fun k hk=> ?_) last]
 · rw[zeK]
   simp only[XX]
   rw[zkT]
 · rw[step k hk]
   cases p (l.getD k d)<;>simp
end
section
open Go Go.IntKind
structure SrtC where
 cmp:Int->Int->Option Int
 key:Int->Int
 ok:Int->Prop
 law:∀x y,ok x->ok y->y<x->∃c,cmp x y=some c/\(c<0↔key x<key y)
noncomputable section
abbrev zj9(a1:Int)(a3_0_0:SrtC)(w95:Int):Int×List Int->Option ((Int×List Int)⊕((Int×List Int)⊕List Int))
 |(w127,w128)=>
 if a1<w127 then
  (atI w128 w127).bind fun v136=>
  (atI w128 (i64.wrap (w127-1))).bind fun v137=>
  (a3_0_0.cmp v136 v137).bind fun v138=>
  if v138<0 then
   (atI (w128.set w127.toNat v137) (i64.wrap (w127-1))).bind fun v142=>
   z0c (i64.wrap (w127-1),((w128.set w127.toNat v137).set (i64.wrap (w127-1)).toNat v136))
  else
   z0i<|
   z0c (i64.wrap (w95+1),w128)
 else
  z0i<|
  z0c (i64.wrap (w95+1),w128)
abbrev zja(a1:Int)(a2:Int)(a3_0_0:SrtC):Int×List Int->Option ((Int×List Int)⊕List Int)
 |(w95,w96)=>
 if w95<a2 then
  z0k (zj9 a1 a3_0_0 w95) LFm (w95,w96)
 else
  z0i<|
  some w96
def zDk(a0:List Int)(a1:Int)(a2:Int)(a3_0_0:SrtC):Option (List Int):=
 z0k (zja a1 a2 a3_0_0) LFm (i64.wrap (a1+1),a0)
abbrev zuo(a1:Int)(a2:Int)(a3:Int):Int×List Int->Option ((Int×List Int)⊕List Int)
 |(w19,w20)=>
 if w19<a3 then
  (atI w20 (i64.wrap (a2+w19))).bind fun v25=>
  (atI w20 (i64.wrap (a1+w19))).bind fun v26=>
  (atI (w20.set (i64.wrap (a1+w19)).toNat v25) (i64.wrap (a2+w19))).bind fun v28=>
  z0c (i64.wrap (w19+1),((w20.set (i64.wrap (a1+w19)).toNat v25).set (i64.wrap (a2+w19)).toNat v26))
 else
  z0i<|
  some w20
def zBF(a0:List Int)(a1:Int)(a2:Int)(a3:Int)(a4_0_0:SrtC):Option (List Int):=
 z0k (zuo a1 a2 a3) LFm (0,a0)
abbrev zup(a2:Int)(a4_0_0:SrtC):Int×Int×List Int->Option ((Int×Int×List Int)⊕List Int)
 |(w13,w15,w14)=>
 if w13=w15 then
  z0i<|
  (zBF w14 (i64.wrap (a2-w13)) a2 w13 a4_0_0).bind fun v18=>
  some v18
 else
  if w15<w13 then
   (zBF w14 (i64.wrap (a2-w13)) a2 w15 a4_0_0).bind fun v19=>
   z0c (i64.wrap (w13-w15),w15,v19)
  else
   (zBF w14 (i64.wrap (a2-w13)) (i64.wrap ((i64.wrap (a2+w15))-w13)) w13 a4_0_0).bind fun v20=>
   z0c (w13,i64.wrap (w15-w13),v20)
def zDj(a0:List Int)(a1:Int)(a2:Int)(a3:Int)(a4_0_0:SrtC):Option (List Int):=
 z0k (zup a2 a4_0_0) LFm (i64.wrap (a2-a1),i64.wrap (a3-a2),a0)
abbrev zj6(w102:Int):Int×List Int->Option ((Int×List Int)⊕List Int)
 |(w114,w115)=>
 if w114<(i64.wrap (w102-1)) then
  (atI w115 (i64.wrap (w114+1))).bind fun v120=>
  (atI w115 w114).bind fun v121=>
  (atI (w115.set w114.toNat v120) (i64.wrap (w114+1))).bind fun v123=>
  z0c (i64.wrap (w114+1),((w115.set w114.toNat v120).set (i64.wrap (w114+1)).toNat v121))
 else
  z0i<|
  some w115
abbrev zj7(a0:List Int)(a1:Int)(a4_0_0:SrtC):Int×Int->Option ((Int×Int)⊕List Int)
 |(w102,w103)=>
 if w102<w103 then
  chk (¬1<0)<|
  (atI a0 (i64.wrap (z0w .u64 (IntKind.u64.wrap (i64.wrap (w102+w103))) 1))).bind fun v107=>
  (atI a0 a1).bind fun v108=>
  (a4_0_0.cmp v107 v108).bind fun v109=>
  if v109<0 then
   z0c (i64.wrap ((i64.wrap (z0w .u64 (IntKind.u64.wrap (i64.wrap (w102+w103))) 1))+1),w103)
  else
   z0c (w102,i64.wrap (z0w .u64 (IntKind.u64.wrap (i64.wrap (w102+w103))) 1))
 else
  z0i<|
  z0k (zj6 w102) LFm (a1,a0)
abbrev zj8(w128:Int):Int×List Int->Option ((Int×List Int)⊕List Int)
 |(w139,w140)=>
 if w128<w139 then
  (atI w140 (i64.wrap (w139-1))).bind fun v145=>
  (atI w140 w139).bind fun v146=>
  (atI (w140.set w139.toNat v145) (i64.wrap (w139-1))).bind fun v148=>
  z0c (i64.wrap (w139-1),((w140.set w139.toNat v145).set (i64.wrap (w139-1)).toNat v146))
 else
  z0i<|
  some w140
abbrev zeI(a0:List Int)(a2:Int)(a4_0_0:SrtC):Int×Int->Option ((Int×Int)⊕List Int)
 |(w128,w127)=>
 if w128<w127 then
  chk (¬1<0)<|
  (atI a0 a2).bind fun v132=>
  (atI a0 (i64.wrap (z0w .u64 (IntKind.u64.wrap (i64.wrap (w128+w127))) 1))).bind fun v133=>
  (a4_0_0.cmp v132 v133).bind fun v134=>
  if v134<0 then
   z0c (w128,i64.wrap (z0w .u64 (IntKind.u64.wrap (i64.wrap (w128+w127))) 1))
  else
   z0c (i64.wrap ((i64.wrap (z0w .u64 (IntKind.u64.wrap (i64.wrap (w128+w127))) 1))+1),w127)
 else
  z0i<|
  z0k (zj8 w128) LFm (a2,a0)
abbrev zaS(a0:List Int)(a1:Int)(a2:Int)(a3:Int)(a4_0_0:SrtC)(rf:List Int->Int->Int->Int->SrtC->Option (List Int)):Int×Int->Option ((Int×Int)⊕List Int)
 |(w153,w152)=>
 if w153<w152 then
  chk (¬1<0)<|
  (atI a0 (i64.wrap ((i64.wrap ((i64.wrap ((i64.wrap (z0w .u64 (IntKind.u64.wrap (i64.wrap (a1+a3))) 1))+a2))-1))-(i64.wrap (z0w .u64 (IntKind.u64.wrap (i64.wrap (w153+w152))) 1))))).bind fun v157=>
  (atI a0 (i64.wrap (z0w .u64 (IntKind.u64.wrap (i64.wrap (w153+w152))) 1))).bind fun v158=>
  (a4_0_0.cmp v157 v158).bind fun v159=>
  if v159<0 then
   z0c (w153,i64.wrap (z0w .u64 (IntKind.u64.wrap (i64.wrap (w153+w152))) 1))
  else
   z0c (i64.wrap ((i64.wrap (z0w .u64 (IntKind.u64.wrap (i64.wrap (w153+w152))) 1))+1),w152)
 else
  z0i<|
  if w153<a2 then
   if a2<(i64.wrap ((i64.wrap ((i64.wrap (z0w .u64 (IntKind.u64.wrap (i64.wrap (a1+a3))) 1))+a2))-w153)) then
    (zDj a0 w153 a2 (i64.wrap ((i64.wrap ((i64.wrap (z0w .u64 (IntKind.u64.wrap (i64.wrap (a1+a3))) 1))+a2))-w153)) a4_0_0).bind fun v160=>
    if a1<w153 then
     if w153<(i64.wrap (z0w .u64 (IntKind.u64.wrap (i64.wrap (a1+a3))) 1)) then
      (rf v160 a1 w153 (i64.wrap (z0w .u64 (IntKind.u64.wrap (i64.wrap (a1+a3))) 1)) a4_0_0).bind fun v161=>
      if(i64.wrap (z0w .u64 (IntKind.u64.wrap (i64.wrap (a1+a3))) 1))<(i64.wrap ((i64.wrap ((i64.wrap (z0w .u64 (IntKind.u64.wrap (i64.wrap (a1+a3))) 1))+a2))-w153)) then
       if(i64.wrap ((i64.wrap ((i64.wrap (z0w .u64 (IntKind.u64.wrap (i64.wrap (a1+a3))) 1))+a2))-w153))<a3 then
        (rf v161 (i64.wrap (z0w .u64 (IntKind.u64.wrap (i64.wrap (a1+a3))) 1)) (i64.wrap ((i64.wrap ((i64.wrap (z0w .u64 (IntKind.u64.wrap (i64.wrap (a1+a3))) 1))+a2))-w153)) a3 a4_0_0).bind fun v162=>
        some v162
       else
        some v161
      else
       some v161
     else
      if(i64.wrap (z0w .u64 (IntKind.u64.wrap (i64.wrap (a1+a3))) 1))<(i64.wrap ((i64.wrap ((i64.wrap (z0w .u64 (IntKind.u64.wrap (i64.wrap (a1+a3))) 1))+a2))-w153)) then
       if(i64.wrap ((i64.wrap ((i64.wrap (z0w .u64 (IntKind.u64.wrap (i64.wrap (a1+a3))) 1))+a2))-w153))<a3 then
        (rf v160 (i64.wrap (z0w .u64 (IntKind.u64.wrap (i64.wrap (a1+a3))) 1)) (i64.wrap ((i64.wrap ((i64.wrap (z0w .u64 (IntKind.u64.wrap (i64.wrap (a1+a3))) 1))+a2))-w153)) a3 a4_0_0).bind fun v163=>
        some v163
       else
        some v160
      else
       some v160
    else
     if(i64.wrap (z0w .u64 (IntKind.u64.wrap (i64.wrap (a1+a3))) 1))<(i64.wrap ((i64.wrap ((i64.wrap (z0w .u64 (IntKind.u64.wrap (i64.wrap (a1+a3))) 1))+a2))-w153)) then
      if(i64.wrap ((i64.wrap ((i64.wrap (z0w .u64 (IntKind.u64.wrap (i64.wrap (a1+a3))) 1))+a2))-w153))<a3 then
       (rf v160 (i64.wrap (z0w .u64 (IntKind.u64.wrap (i64.wrap (a1+a3))) 1)) (i64.wrap ((i64.wrap ((i64.wrap (z0w .u64 (IntKind.u64.wrap (i64.wrap (a1+a3))) 1))+a2))-w153)) a3 a4_0_0).bind fun v164=>
       some v164
      else
       some v160
     else
      some v160
   else
    if a1<w153 then
     if w153<(i64.wrap (z0w .u64 (IntKind.u64.wrap (i64.wrap (a1+a3))) 1)) then
      (rf a0 a1 w153 (i64.wrap (z0w .u64 (IntKind.u64.wrap (i64.wrap (a1+a3))) 1)) a4_0_0).bind fun v165=>
      if(i64.wrap (z0w .u64 (IntKind.u64.wrap (i64.wrap (a1+a3))) 1))<(i64.wrap ((i64.wrap ((i64.wrap (z0w .u64 (IntKind.u64.wrap (i64.wrap (a1+a3))) 1))+a2))-w153)) then
       if(i64.wrap ((i64.wrap ((i64.wrap (z0w .u64 (IntKind.u64.wrap (i64.wrap (a1+a3))) 1))+a2))-w153))<a3 then
        (rf v165 (i64.wrap (z0w .u64 (IntKind.u64.wrap (i64.wrap (a1+a3))) 1)) (i64.wrap ((i64.wrap ((i64.wrap (z0w .u64 (IntKind.u64.wrap (i64.wrap (a1+a3))) 1))+a2))-w153)) a3 a4_0_0).bind fun v166=>
        some v166
       else
        some v165
      else
       some v165
     else
      if(i64.wrap (z0w .u64 (IntKind.u64.wrap (i64.wrap (a1+a3))) 1))<(i64.wrap ((i64.wrap ((i64.wrap (z0w .u64 (IntKind.u64.wrap (i64.wrap (a1+a3))) 1))+a2))-w153)) then
       if(i64.wrap ((i64.wrap ((i64.wrap (z0w .u64 (IntKind.u64.wrap (i64.wrap (a1+a3))) 1))+a2))-w153))<a3 then
        (rf a0 (i64.wrap (z0w .u64 (IntKind.u64.wrap (i64.wrap (a1+a3))) 1)) (i64.wrap ((i64.wrap ((i64.wrap (z0w .u64 (IntKind.u64.wrap (i64.wrap (a1+a3))) 1))+a2))-w153)) a3 a4_0_0).bind fun v167=>
        some v167
       else
        some a0
      else
       some a0
    else
     if(i64.wrap (z0w .u64 (IntKind.u64.wrap (i64.wrap (a1+a3))) 1))<(i64.wrap ((i64.wrap ((i64.wrap (z0w .u64 (IntKind.u64.wrap (i64.wrap (a1+a3))) 1))+a2))-w153)) then
      if(i64.wrap ((i64.wrap ((i64.wrap (z0w .u64 (IntKind.u64.wrap (i64.wrap (a1+a3))) 1))+a2))-w153))<a3 then
       (rf a0 (i64.wrap (z0w .u64 (IntKind.u64.wrap (i64.wrap (a1+a3))) 1)) (i64.wrap ((i64.wrap ((i64.wrap (z0w .u64 (IntKind.u64.wrap (i64.wrap (a1+a3))) 1))+a2))-w153)) a3 a4_0_0).bind fun v168=>
       some v168
      else
       some a0
     else
      some a0
  else
   if a1<w153 then
    if w153<(i64.wrap (z0w .u64 (IntKind.u64.wrap (i64.wrap (a1+a3))) 1)) then
     (rf a0 a1 w153 (i64.wrap (z0w .u64 (IntKind.u64.wrap (i64.wrap (a1+a3))) 1)) a4_0_0).bind fun v169=>
     if(i64.wrap (z0w .u64 (IntKind.u64.wrap (i64.wrap (a1+a3))) 1))<(i64.wrap ((i64.wrap ((i64.wrap (z0w .u64 (IntKind.u64.wrap (i64.wrap (a1+a3))) 1))+a2))-w153)) then
      if(i64.wrap ((i64.wrap ((i64.wrap (z0w .u64 (IntKind.u64.wrap (i64.wrap (a1+a3))) 1))+a2))-w153))<a3 then
       (rf v169 (i64.wrap (z0w .u64 (IntKind.u64.wrap (i64.wrap (a1+a3))) 1)) (i64.wrap ((i64.wrap ((i64.wrap (z0w .u64 (IntKind.u64.wrap (i64.wrap (a1+a3))) 1))+a2))-w153)) a3 a4_0_0).bind fun v170=>
       some v170
      else
       some v169
     else
      some v169
    else
     if(i64.wrap (z0w .u64 (IntKind.u64.wrap (i64.wrap (a1+a3))) 1))<(i64.wrap ((i64.wrap ((i64.wrap (z0w .u64 (IntKind.u64.wrap (i64.wrap (a1+a3))) 1))+a2))-w153)) then
      if(i64.wrap ((i64.wrap ((i64.wrap (z0w .u64 (IntKind.u64.wrap (i64.wrap (a1+a3))) 1))+a2))-w153))<a3 then
       (rf a0 (i64.wrap (z0w .u64 (IntKind.u64.wrap (i64.wrap (a1+a3))) 1)) (i64.wrap ((i64.wrap ((i64.wrap (z0w .u64 (IntKind.u64.wrap (i64.wrap (a1+a3))) 1))+a2))-w153)) a3 a4_0_0).bind fun v171=>
       some v171
      else
       some a0
     else
      some a0
   else
    if(i64.wrap (z0w .u64 (IntKind.u64.wrap (i64.wrap (a1+a3))) 1))<(i64.wrap ((i64.wrap ((i64.wrap (z0w .u64 (IntKind.u64.wrap (i64.wrap (a1+a3))) 1))+a2))-w153)) then
     if(i64.wrap ((i64.wrap ((i64.wrap (z0w .u64 (IntKind.u64.wrap (i64.wrap (a1+a3))) 1))+a2))-w153))<a3 then
      (rf a0 (i64.wrap (z0w .u64 (IntKind.u64.wrap (i64.wrap (a1+a3))) 1)) (i64.wrap ((i64.wrap ((i64.wrap (z0w .u64 (IntKind.u64.wrap (i64.wrap (a1+a3))) 1))+a2))-w153)) a3 a4_0_0).bind fun v172=>
      some v172
     else
      some a0
    else
     some a0
def zun(rf:List Int->Int->Int->Int->SrtC->Option (List Int))(a0:List Int)(a1:Int)(a2:Int)(a3:Int)(a4_0_0:SrtC):Option (List Int):=
 if(i64.wrap (a2-a1))=1 then
  z0k (zj7 a0 a1 a4_0_0) LFm (a2,a3)
 else
  if(i64.wrap (a3-a2))=1 then
   z0k (zeI a0 a2 a4_0_0) LFm (a1,a2)
  else
   chk (¬1<0)<|
   if(i64.wrap (z0w .u64 (IntKind.u64.wrap (i64.wrap (a1+a3))) 1))<a2 then
    z0k (zaS a0 a1 a2 a3 a4_0_0 rf) LFm (i64.wrap ((i64.wrap ((i64.wrap (z0w .u64 (IntKind.u64.wrap (i64.wrap (a1+a3))) 1))+a2))-a3),i64.wrap (z0w .u64 (IntKind.u64.wrap (i64.wrap (a1+a3))) 1))
   else
    z0k (zaS a0 a1 a2 a3 a4_0_0 rf) LFm (a1,a2)
def zwP:Nat->List Int->Int->Int->Int->SrtC->Option (List Int)
 |0=>fun _ _ _ _ _=>none
 |k+1=>zun (zwP k)
abbrev zbR(a1:Int)(a2_0_0:SrtC)(w45:Int):Int×Int×List Int->Option ((Int×Int×List Int)⊕((Int×List Int)⊕List Int))
 |(w55,w56,w57)=>
 if w56<=a1 then
  (zwP 5000 w57 w55 (i64.wrap (w55+w45)) w56 a2_0_0).bind fun v59=>
  z0c (w56,i64.wrap (w56+(i64.wrap (2*w45))),v59)
 else
  z0i<|
  if(i64.wrap (w55+w45))<a1 then
   (zwP 5000 w57 w55 (i64.wrap (w55+w45)) a1 a2_0_0).bind fun v60=>
   z0c (i64.wrap (w45*2),v60)
  else
   z0c (i64.wrap (w45*2),w57)
abbrev zdL(a1:Int)(a2_0_0:SrtC):Int×List Int->Option ((Int×List Int)⊕List Int)
 |(w45,w46)=>
 if w45<a1 then
  z0k (zbR a1 a2_0_0 w45) LFm (0,i64.wrap (2*w45),w46)
 else
  z0i<|
  some w46
abbrev zdM(a1:Int)(a2_0_0:SrtC):Int×Int×List Int->Option ((Int×Int×List Int)⊕List Int)
 |(w32,w33,w34)=>
 if w33<=a1 then
  (zDk w34 w32 w33 a2_0_0).bind fun v36=>
  z0c (w33,i64.wrap (w33+20),v36)
 else
  z0i<|
  (zDk w34 w32 a1 a2_0_0).bind fun v37=>
  z0k (zdL a1 a2_0_0) LFm (20,v37)
def zF6(a0:List Int)(a1:Int)(a2_0_0:SrtC):Option (List Int):=
 z0k (zdM a1 a2_0_0) LFm (0,20,a0)
def zBG(a0:List Int)(a1_0_0:SrtC):Option (List Int):=
 (zF6 a0 (a0.length:Int) a1_0_0).bind fun v2=>
 some v2
end
end
section
open Go Go.IntKind
variable{x:Int}{P R V:List Int}{i w:Nat}{K:SrtC}{α:Type}
theorem zBn(i j:Nat)(h:i+j<4611686018427387904):i64.wrap (z0w .u64 (IntKind.u64.wrap (i64.wrap ((i:Int)+j))) 1)=(((i+j)/2:Nat):Int):=by
 have e1:IntKind.u64.wrap (i64.wrap ((i:Int)+j))=(((i+j:Nat)):Int):=by
  rw[z2Y (by omega) (by omega),XB];omega
 have e2:z0w .u64 (((i+j:Nat)):Int) 1=(((i+j)/2:Nat):Int):=by
  unfold z0w
  have:min ((1:Int).toNat) IntKind.u64.bits=1:=by decide
  rw[this,Int.fdiv_eq_ediv_of_nonneg _ (by decide)]
  omega
 rw[e1,e2,z2Y (by omega) (by omega)]
theorem at0(A:List α)(x:α)(B:List α)(h:i=A.length):atI (A++x::B) (i:Int)=some x:=by
 subst h
 rw[z1k (by simp)];simp
theorem at1(A:List α)(x y:α)(B:List α)(h:i=A.length+1):atI (A++x::y::B) (i:Int)=some y:=by
 have:A++x::y::B=(A++ [x])++y::B:=by simp
 rw[this]
 exact at0 _ _ _ (by simpa using h)
theorem zyW(A:List α)(x z:α)(B:List α)(h:i=A.length):(A++x::B).set i z=A++z::B:=by
 subst h;simp
theorem put1(A:List α)(x y z:α)(B:List α)(h:i=A.length+1):(A++x::y::B).set i z=A++x::z::B:=by
 have:A++x::y::B=(A++ [x])++y::B:=by simp
 rw[this,zyW _ _ _ _ (by simpa using h)];simp
abbrev kvC(K:SrtC)(x:Int):Int:=K.key x
abbrev okS(K:SrtC)(x:Int):Prop:=K.ok x
abbrev zjC(K:SrtC)(l:List Int):Prop:=∀x∈l,okS K x
abbrev zaZ(K:SrtC)(l:List Int):Prop:=l.Pairwise fun x y=>kvC K x<=kvC K y
abbrev Bef(U V:List Int):Prop:=∀x∈U,∀y∈V,x<y
theorem zDq{y:Int}(hx:okS K x)(hy:okS K y)(h:y<x):∃c,K.cmp x y=some c/\(c<0↔kvC K x<kvC K y):=K.law x y hx hy h
theorem zaM{t:Nat}(h:t<V.length):V.getD t 0∈V:=by grind
theorem zzy{S:List Int}(hv:zjC K (S++ [x]))(hs:zaZ K S)(hb:∀y∈S,y<x)(hl:P.length+S.length<2^40)(hw:w=P.length+S.length):
 ∃S',z0k (zj9 (P.length:Int) K (w:Int)) LFm ((w:Int),P++S++x::R)=some (.inl (((w+1:Nat):Int),P++S'++R))/\zaZ K S'/\S'.Perm (S++ [x]):=by
 refine Exists.elim (z2c (b:=zj9 (P.length:Int) K (w:Int)) (fun z=>∃S1 S2,S1++S2=S/\z=(((P.length+S1.length:Nat):Int),P++S1++x::(S2++R))/\ ∀y∈S2,kvC K x<kvC K y) (fun z=>z.1.toNat)
  (fun r=>∃S',r= .inl (((w+1:Nat):Int),P++S'++R)/\zaZ K S'/\S'.Perm (S++ [x])) ?_ LFm ((w:Int),P++S++x::R) ⟨S,[],by simp,by rw[hw];simp,by simp⟩ (by simp only[LFm];omega)) fun r h=>by grind
 rintro z ⟨S1,S2,rfl,rfl,h2⟩
 have hlen:S1.length+S2.length<2^40:=by grind
 have fin:(∀y∈S1,kvC K y<=kvC K x)->zaZ K (S1++x::S2)/\(S1++x::S2).Perm (S1++S2++ [x]):=fun hle=>by
  refine⟨?_,?_⟩
  · rw[zaZ,YB] at hs⊢
    refine⟨hs.1,Zz.2 ⟨fun y hy=>by have:=h2 y hy;omega,hs.2.1⟩,fun a ha b hb=> ?_⟩
    rcases Zu.1 hb with rfl|hb
    · exact hle a ha
    · exact hs.2.2 a ha b hb
  · grind
 simp only[zj9]
 rcases List.eq_nil_or_concat S1 with rfl|⟨S0,y,rfl⟩
 · right
   rw[if_neg (by simp)]
   obtain⟨f1,f2⟩:=fin (fun y hy=>by simp at hy)
   refine⟨_,rfl,x::S2,?_,by simpa using f1,by simpa using f2⟩
   have:i64.wrap ((w:Int)+1)=((w+1:Nat):Int):=by rw[z2Y (by omega) (by omega)];omega
   rw[this];simp
 · simp only[List.concat_eq_append] at*
   have hy:okS K y:=hv y (by simp)
   have hx:okS K x:=hv x (by simp)
   have e1:P++(S0++ [y])++x::(S2++R)=(P++S0)++y::x::(S2++R):=by simp
   have hn:(P.length+(S0++ [y]).length:Nat)=(P++S0).length+1:=by simp;omega
   have hj:i64.wrap ((((P++S0).length+1:Nat):Int)-1)=(((P++S0).length:Nat):Int):=by
    rw[z2Y (by simp at hlen⊢;omega) (by simp at hlen⊢;simp at hl;omega)];omega
   rw[e1,hn,if_pos (by simp;omega),at1 _ _ _ _ rfl,Z0,hj,at0 _ _ _ rfl,Z0]
   obtain⟨c,hc,hc2⟩:=zDq hx hy (hb y (by simp))
   rw[hc,Z0]
   by_cases hlt:c<0
   · left
     rw[if_pos hlt,Z3,put1 _ _ _ _ _ rfl,at0 _ _ _ rfl,Z0,Z3,zyW _ _ _ _ rfl]
     refine⟨_,rfl,⟨S0,y::S2,by simp,?_,fun z hz=> ?_⟩,by simp only;omega⟩
     · simp
     · grind
   · right
     rw[if_neg hlt]
     have hyx:kvC K y<=kvC K x:=by grind
     obtain⟨f1,f2⟩:=fin (fun z hz=>by
      rcases Ze.1 hz with hz|hz
      · grind
      · obtain rfl:=Zj.1 hz;exact hyx)
     refine⟨_,rfl,S0++ [y]++x::S2,?_,f1,f2⟩
     have:i64.wrap ((w:Int)+1)=((w+1:Nat):Int):=by rw[z2Y (by omega) (by omega)];omega
     rw[this];simp
theorem zoy{X:List Int}(hv:zjC K X)(hX:X.Pairwise (·< ·))(hl:P.length+X.length<2^40){a b:Nat}(ha:a=P.length)(hb:b=P.length+X.length):
 ∃S,zDk (P++X++R) (a:Int) (b:Int) K=some (P++S++R)/\zaZ K S/\S.Perm X:=by
 subst ha hb
 unfold zDk
 rw[z1g (by omega)]
 cases X with
 |nil=>
  refine⟨[],?_,by simp,.refl _⟩
  rw[show LFm=(LFm-1)+1 from rfl,z0k]
  simp only[zja]
  rw[if_neg (by simp;omega)]
  rfl
 |cons x X=>
  refine Exists.elim (z2c (b:=zja (P.length:Int) ((P.length+(x::X).length:Nat):Int) K) (fun z=>∃S U T,S≠ []/\z=(((P.length+S.length:Nat):Int),P++S++(U++R))/\zaZ K S/\T++U=x::X/\S.Perm T) (fun z=>P.length+(x::X).length+1-z.1.toNat)
   (fun r=>∃S,r=P++S++R/\zaZ K S/\S.Perm (x::X)) ?_ LFm ((P.length+1:Nat),P++x::X++R) ⟨[x],X,[x],by simp,by simp,by simp,rfl,.refl _⟩ (by simp only[LFm];omega)) fun r h=>by grind
  rintro z ⟨S,U,T,h0,rfl,h1,hT,hST⟩
  have h2:(S++U).Perm (x::X):=by grind
  have hlen:=h2.length_eq
  rw[Za] at hlen
  simp only[zja]
  cases U with
  |nil=>
   right
   rw[if_neg (by simp at hlen⊢;omega)]
   exact⟨_,rfl,S,by simp,h1,by simpa using h2⟩
  |cons u U=>
   left
   rw[if_pos (by simp at hlen⊢;omega)]
   have hvS:zjC K (S++ [u]):=fun y hy=>hv y (h2.mem_iff.1 (by
    rcases Ze.1 hy with hy|hy
    · exact Ze.2 (.inl hy)
    · obtain rfl:=Zj.1 hy;simp))
   have hbu:∀y∈S,y<u:=fun y hy=>by
    have hp:(T++u::U).Pairwise (·< ·):=by rw[hT];exact hX
    exact(YB.1 hp).2.2 y (hST.mem_iff.1 hy) u (Zy ..)
   obtain⟨S',e,s1,s2⟩:=zzy (P:=P) (S:=S) (R:=U++R) (x:=u) hvS h1 hbu (by simp at hlen hl⊢;omega) rfl
   have e':P++S++(u::U++R)=P++S++u::(U++R):=rfl
   rw[e',e]
   have hS':=s2.length_eq
   simp at hS'
   refine⟨_,rfl,⟨S',U,T++ [u],fun h=>by rw[h] at hS';simp at hS',?_,s1,by rw[Zo];exact hT,s2.trans (hST.append_right [u])⟩,?_⟩
   · simp only[hS']
     congr 1
   · grind
theorem zvH(hl:P.length+V.length<2^40)(hw:w=P.length+V.length+1):
 z0k (zj6 (w:Int)) LFm ((P.length:Int),P++x::(V++R))=some (P++V++x::R):=by
 refine z0x (s:=((P.length:Int),P++x::(V++R))) V.length (fun k=>(((P.length+k:Nat):Int),(P++V.take k)++x::(V.drop k++R))) (by simp) (by simp only[LFm];omega) (fun k hk=> ?_) ?_
 · have hlk:P.length+k=(P++V.take k).length:=by rw[Za,Zq];omega
   simp only[zj6]
   rw[z2Y (x:=(w:Int)-1) (by omega) (by omega),if_pos (by omega)]
   have hj:i64.wrap (((P.length+k:Nat):Int)+1)=((P.length+k+1:Nat):Int):=by rw[z2Y (by omega) (by omega)];omega
   rw[hj,Yd hk,ZU,hlk,at1 _ _ _ _ rfl,Z0,at0 _ _ _ rfl,Z0,Z3,zyW _ _ _ _ rfl,at1 _ _ _ _ rfl,Z0,Z3,put1 _ _ _ _ _ rfl]
   rw[ZA hk]
   have e2:P.length+(k+1)=(P++V.take k).length+1:=by omega
   rw[e2]
   simp only[Zo,ZU,Y4]
 · simp only[zj6]
   rw[z2Y (x:=(w:Int)-1) (by omega) (by omega),if_neg (by omega)]
   simp
theorem zr0(hl:P.length+V.length<2^40):
 z0k (zj8 (P.length:Int)) LFm (((P.length+V.length:Nat):Int),P++V++x::R)=some (P++x::(V++R)):=by
 refine z0x (s:=(((P.length+V.length:Nat):Int),P++V++x::R)) V.length (fun k=>(((P.length+(V.length-k):Nat):Int),(P++V.take (V.length-k))++x::(V.drop (V.length-k)++R))) (by simp) (by simp only[LFm];omega) (fun k hk=> ?_) ?_
 · obtain⟨j,hj⟩:∃j,V.length-k=j+1:=⟨V.length-k-1,by omega⟩
   have hjl:j<V.length:=by omega
   have e3:V.length-(k+1)=j:=by omega
   have hlk:P.length+j=(P++V.take j).length:=by grind
   rw[hj,e3]
   simp only[zj8]
   rw[if_pos (by omega)]
   have hw:i64.wrap (((P.length+(j+1):Nat):Int)-1)=((P.length+j:Nat):Int):=by rw[z2Y (by omega) (by omega)];omega
   have e1:(P++V.take (j+1))++x::(V.drop (j+1)++R)=(P++V.take j)++V[j]::x::(V.drop (j+1)++R):=by
    rw[ZA hjl];simp only[Zo,ZU,Y4]
   have e2:P.length+(j+1)=(P++V.take j).length+1:=by omega
   rw[hw,e1,hlk,e2,at0 _ _ _ rfl,Z0,at1 _ _ _ _ rfl,Z0,Z3,put1 _ _ _ _ _ rfl,at0 _ _ _ rfl,Z0,Z3,zyW _ _ _ _ rfl,Yd hjl]
   rfl
 · grind
end
section
open Go Go.IntKind
theorem zdv{P X M Y R:List Int}(K:SrtC)(hxy:X.length=Y.length)(hl:P.length+X.length+M.length+Y.length<2^40){a b n:Nat}(ha:a=P.length)(hb:b=P.length+X.length+M.length)(hn:n=X.length):
 zBF (P++(X++(M++(Y++R)))) (a:Int) (b:Int) (n:Int) K=some (P++(Y++(M++(X++R)))):=by
 subst ha hb hn
 unfold zBF
 refine z0x (s:=((0:Int),P++(X++(M++(Y++R))))) X.length (fun k=>((k:Int),P++(Y.take k++(X.drop k++(M++(X.take k++(Y.drop k++R))))))) (by simp) (by simp only[LFm];omega) (fun k hk=> ?_) ?_
 · have hk':k<Y.length:=by omega
   simp only[zuo]
   have e1:i64.wrap ((((P.length+X.length+M.length:Nat)):Int)+(k:Int))=((P.length+X.length+M.length+k:Nat):Int):=by rw[z2Y (by omega) (by omega)];omega
   have e2:i64.wrap ((P.length:Int)+(k:Int))=((P.length+k:Nat):Int):=by rw[z2Y (by omega) (by omega)];omega
   rw[if_pos (by omega),e1,e2,z1g (by omega),Yd hk,Yd hk']
   have f1:P++(Y.take k++(X[k]::X.drop (k+1)++(M++(X.take k++(Y[k]::Y.drop (k+1)++R)))))=(P++Y.take k)++X[k]::(X.drop (k+1)++(M++(X.take k++Y[k]::(Y.drop (k+1)++R)))):=by grind
   have l1:P.length+k=(P++Y.take k).length:=by grind
   have g:∀z:Int,(P++Y.take k)++z::(X.drop (k+1)++(M++(X.take k++Y[k]::(Y.drop (k+1)++R))))=((P++Y.take k)++z::(X.drop (k+1)++(M++X.take k)))++Y[k]::(Y.drop (k+1)++R):=fun z=>by grind
   have l2:∀z:Int,P.length+X.length+M.length+k=((P++Y.take k)++z::(X.drop (k+1)++(M++X.take k))).length:=fun z=>by grind
   rw[f1,l1]
   conv=>lhs;rw[show(P++List.take k Y++X[k]::(List.drop (k+1) X++(M++(List.take k X++Y[k]::(List.drop (k+1) Y++R)))))=_ from g X[k]]
   rw[at0 _ _ _ (l2 X[k]),Z0,←g,at0 _ _ _ rfl,Z0,Z3,zyW _ _ _ _ rfl,g,at0 _ _ _ (l2 Y[k]),Z0,Z3,zyW _ _ _ _ (l2 Y[k])]
   rw[ZA hk,ZA hk']
   simp only[Zo,ZU,Y4]
 · grind
theorem rotate{P U V R:List Int}(K:SrtC)(hU:U≠ [])(hV:V≠ [])(hl:P.length+U.length+V.length<2^40){a m b:Nat}(ha:a=P.length)(hm:m=P.length+U.length)(hb:b=P.length+U.length+V.length):
 zDj (P++(U++(V++R))) (a:Int) (m:Int) (b:Int) K=some (P++(V++(U++R))):=by
 subst ha hm hb
 unfold zDj
 have e1:i64.wrap (((P.length+U.length:Nat):Int)-(P.length:Int))=(U.length:Int):=by rw[z2Y (by omega) (by omega)];omega
 have e2:i64.wrap (((P.length+U.length+V.length:Nat):Int)-((P.length+U.length:Nat):Int))=(V.length:Int):=by rw[z2Y (by omega) (by omega)];omega
 rw[e1,e2]
 refine ziO (s:=((U.length:Int),(V.length:Int),P++(U++(V++R)))) (fun z=>∃(A X Y B:List Int),X≠ []/\Y≠ []/\A.length+X.length=P.length+U.length/\A.length+X.length+Y.length<=P.length+U.length+V.length/\z=((X.length:Int),(Y.length:Int),A++(X++(Y++B)))/\A++(Y++(X++B))=P++(V++(U++R))) (fun z=>z.1.toNat+z.2.1.toNat) ⟨P,U,V,R,hU,hV,rfl,by omega,rfl,rfl⟩ (by simp only[LFm];omega) ?_
 rintro z ⟨A,X,Y,B,hX,hY,hm,hb,rfl,hfin⟩
 have x0:=ZH.2 hX
 have y0:=ZH.2 hY
 have hmi:i64.wrap (((P.length+U.length:Nat):Int)-(X.length:Int))=(A.length:Int):=by rw[z2Y (by omega) (by omega)];omega
 simp only[zup]
 by_cases h1:(X.length:Int)=(Y.length:Int)
 · right
   rw[if_pos h1,hmi]
   have:=zdv (P:=A) (X:=X) (M:= []) (Y:=Y) (R:=B) K (by omega) (by simp;omega) rfl (b:=P.length+U.length) (by simp;omega) rfl
   rw[Y4,Y4] at this
   rw[this,Z0,hfin]
 · left
   rw[if_neg h1]
   by_cases h2:(Y.length:Int)<(X.length:Int)
   · rw[if_pos h2,hmi]
     have hx1:(X.take Y.length).length=Y.length:=by rw[Zq];omega
     have:=zdv (P:=A) (X:=X.take Y.length) (M:=X.drop Y.length) (Y:=Y) (R:=B) K hx1 (by simp only[Zq,Y8];omega) rfl (b:=P.length+U.length) (by simp only[Zq,Y8];omega) (n:=Y.length) hx1.symm
     have e:A++(X.take Y.length++(X.drop Y.length++(Y++B)))=A++(X++(Y++B)):=by
      rw[←Zo (X.take Y.length),ZN]
     rw[e] at this
     rw[this,Z0]
     have hw:i64.wrap ((X.length:Int)-(Y.length:Int))=((X.drop Y.length).length:Int):=by rw[z2Y (by omega) (by omega),Y8];omega
     refine⟨_,rfl,⟨A++Y,X.drop Y.length,X.take Y.length,B,?_,?_,?_,?_,?_,?_⟩,?_⟩
     · grind
     · grind
     · grind
     · grind
     · grind
     · rw[←hfin,Zo,←Zo (X.take Y.length),ZN]
     · grind
   · rw[if_neg h2,hmi]
     have hlt:X.length<Y.length:=by omega
     have hb1:i64.wrap (i64.wrap (((P.length+U.length:Nat):Int)+(Y.length:Int))-(X.length:Int))=((P.length+U.length+Y.length-X.length:Nat):Int):=by
      rw[z2Y (x:=((P.length+U.length:Nat):Int)+(Y.length:Int)) (by omega) (by omega),z2Y (by omega) (by omega)];omega
     have hy1:(Y.drop (Y.length-X.length)).length=X.length:=by rw[Y8];omega
     have:=zdv (P:=A) (X:=X) (M:=Y.take (Y.length-X.length)) (Y:=Y.drop (Y.length-X.length)) (R:=B) K hy1.symm (by simp only[Zq,Y8];omega) rfl (b:=P.length+U.length+Y.length-X.length) (by simp only[Zq];omega) rfl
     have e:A++(X++(Y.take (Y.length-X.length)++(Y.drop (Y.length-X.length)++B)))=A++(X++(Y++B)):=by
      rw[←Zo (Y.take (Y.length-X.length)),ZN]
     rw[e] at this
     rw[hb1,this,Z0]
     have hw:i64.wrap ((Y.length:Int)-(X.length:Int))=((Y.take (Y.length-X.length)).length:Int):=by rw[z2Y (by omega) (by omega),Zq];omega
     refine⟨_,rfl,⟨A,Y.drop (Y.length-X.length),Y.take (Y.length-X.length),X++B,?_,?_,?_,?_,?_,?_⟩,?_⟩
     · grind
     · grind
     · rw[hy1];exact hm
     · rw[hy1,Zq];omega
     · rw[hw,hy1]
     · rw[←hfin,←Zo (Y.take (Y.length-X.length)),ZN]
     · grind
theorem zuh{ρ:Type}{b:Int×Int->Option ((Int×Int)⊕ρ)}{p:Nat->Bool}{lo hi:Nat}{Post:ρ->Prop}(hlh:lo<=hi)(h40:hi<2^40)(hmono:∀i j,lo<=i->i<j->j<hi->p j=true->p i=true)
 (step:∀i j:Nat,lo<=i->i<j->j<=hi->b ((i:Int),(j:Int))=if p ((i+j)/2)=true then z0c ((((i+j)/2+1:Nat):Int),(j:Int)) else z0c ((i:Int),(((i+j)/2:Nat):Int)))
 (last:∀s,lo<=s->s<=hi->(∀k,lo<=k->k<s->p k=true)->(∀k,s<=k->k<hi->p k=false)->∃r,b ((s:Int),(s:Int))=some (.inr r)/\Post r):
 ∃r,z0k b LFm ((lo:Int),(hi:Int))=some r/\Post r:=by
 refine z2c (fun z=>∃i j:Nat,lo<=i/\i<=j/\j<=hi/\z=((i:Int),(j:Int))/\(∀k,lo<=k->k<i->p k=true)/\(∀k,j<=k->k<hi->p k=false)) (fun z=>(z.2-z.1).toNat) Post ?_ LFm _ ⟨lo,hi,by omega,hlh,by omega,rfl,fun k h1 h2=>by omega,fun k h1 h2=>by omega⟩ (by simp only[LFm];omega)
 rintro z ⟨i,j,h1,h2,h3,rfl,h4,h5⟩
 by_cases hij:i<j
 · left
   rw[step i j h1 hij h3]
   by_cases hp:p ((i+j)/2)=true
   · rw[if_pos hp]
     refine⟨_,rfl,⟨(i+j)/2+1,j,by omega,by omega,h3,rfl,fun k k1 k2=> ?_,h5⟩,by simp only;omega⟩
     by_cases e:k=(i+j)/2
     · rw[e];exact hp
     · grind
   · rw[if_neg hp]
     refine⟨_,rfl,⟨i,(i+j)/2,h1,by omega,by omega,rfl,h4,fun k k1 k2=> ?_⟩,by simp only;omega⟩
     by_cases e:k=(i+j)/2
     · rw[e];simpa using hp
     · grind
 · right
   obtain rfl:i=j:=by omega
   exact last i h1 h3 h4 h5
end
section
open Go Go.IntKind
variable{x:Int}{P R V V1 V2:List Int}{rf:List Int->Int->Int->Int->SrtC->Option (List Int)}{N a b k m t:Nat}{K:SrtC}
theorem atM{A B:List Int}{i:Nat}(h:t<V.length)(hi:i=A.length+t):atI (A++(V++B)) (i:Int)=some (V.getD t 0):=by
 subst hi
 rw[z1k (by simp;omega)]
 congr 1
 rw[List.getElem_append_right (by omega)]
 have:A.length+t-A.length=t:=by omega
 simp only[this]
 rw[List.getElem_append_left h,List.getD,Z1 h,Zb]
theorem zDi(hv:zjC K V)(h:t<V.length):okS K (V.getD t 0):=by grind
theorem z7F(hs:zaZ K V){i j:Nat}(hij:i<=j)(hj:j<V.length):kvC K (V.getD i 0)<=kvC K (V.getD j 0):=by
 rw[List.getD,List.getD,Z1 hj,Z1 (show i<V.length by omega),Zb,Zb]
 by_cases e:i=j
 · subst e;omega
 · exact ZK.1 hs i j (by omega) hj (by omega)
theorem z6z(h:x∈V.take k):∃i,i<k/\i<V.length/\x=V.getD i 0:=by
 obtain⟨i,hi,rfl⟩:=Zt h
 have hi':i<k/\i<V.length:=by rw[Zq] at hi;omega
 refine⟨i,hi'.1,hi'.2,?_⟩
 rw[Xv,List.getD,Z1 hi'.2,Zb]
theorem z6A(h:x∈V.drop k):∃i,k<=i/\i<V.length/\x=V.getD i 0:=by
 obtain⟨i,hi,rfl⟩:=Zt h
 have hi':k+i<V.length:=by rw[Y8] at hi;omega
 refine⟨k+i,by omega,hi',?_⟩
 rw[List.getElem_drop,List.getD,Z1 hi',Zb]
theorem zs3(hs:zaZ K (V1++V2))(h1:∀y∈V1,kvC K y<=kvC K x)(h2:∀y∈V2,kvC K x<=kvC K y):zaZ K (V1++x::V2):=by
 rw[zaZ,YB] at hs⊢
 refine⟨hs.1,Zz.2 ⟨h2,hs.2.1⟩,fun a ha b hb=> ?_⟩
 rcases Zu.1 hb with rfl|hb
 · exact h1 a ha
 · exact hs.2.2 a ha b hb
def tl3(rf:List Int->Int->Int->Int->SrtC->Option (List Int))(K:SrtC)(M E b:Int)(v:List Int):Option (List Int):=
 if M<E then(if E<b then(rf v M E b K).bind fun r=>some r else some v) else some v
def tl2(rf:List Int->Int->Int->Int->SrtC->Option (List Int))(K:SrtC)(a s M E b:Int)(v:List Int):Option (List Int):=
 if a<s then(if s<M then(rf v a s M K).bind fun r=>tl3 rf K M E b r else tl3 rf K M E b v) else tl3 rf K M E b v
def tl1(rf:List Int->Int->Int->Int->SrtC->Option (List Int))(K:SrtC)(a m s M E b:Int)(v:List Int):Option (List Int):=
 if s<m then(if m<E then(zDj v s m E K).bind fun r=>tl2 rf K a s M E b r else tl2 rf K a s M E b v) else tl2 rf K a s M E b v
def zjz(rf:List Int->Int->Int->Int->SrtC->Option (List Int))(K:SrtC)(N:Nat):Prop:=
 ∀ {P U V R:List Int} {a m b:Nat},U≠ []->V≠ []->zjC K (U++V)->zaZ K U->zaZ K V->Bef U V->P.length+U.length+V.length<2^40->U.length+V.length<=N->a=P.length->m=P.length+U.length->b=P.length+U.length+V.length->
   ∃W,rf (P++(U++(V++R))) (a:Int) (m:Int) (b:Int) K=some (P++(W++R))/\zaZ K W/\W.Perm (U++V)
theorem zl7(hrf:zjz rf K N){U:List Int}(hv:zjC K (U++V))(hsU:zaZ K U)(hsV:zaZ K V)(hBf:Bef U V)(hl:P.length+U.length+V.length<2^40)(hN:U.length+V.length<=N)(ha:a=P.length)(hm:m=P.length+U.length)(hb:b=P.length+U.length+V.length)
 (f:List Int->Option (List Int)):
 ∃W,(if(a:Int)<(m:Int) then(if(m:Int)<(b:Int) then(rf (P++(U++(V++R))) (a:Int) (m:Int) (b:Int) K).bind f else f (P++(U++(V++R)))) else f (P++(U++(V++R))))=f (P++(W++R))/\zaZ K W/\W.Perm (U++V):=by
 by_cases h1:U= []
 · grind
 · have h1':=ZH.2 h1
   rw[if_pos (by omega)]
   by_cases h2:V= []
   · grind
   · have h2':=ZH.2 h2
     rw[if_pos (by omega)]
     obtain⟨W,e,w1,w2⟩:=hrf h1 h2 hv hsU hsV hBf hl hN ha hm hb (R:=R)
     exact⟨W,by rw[e,Z0],w1,w2⟩
theorem zAF(hrf:zjz rf K N){U1 U2:List Int}{s M E:Nat}(hv:zjC K (U1++U2++(V1++V2)))(hsU:zaZ K (U1++U2))(hsV:zaZ K (V1++V2))(hBf:Bef (U1++U2) (V1++V2))(hl:P.length+U1.length+U2.length+V1.length+V2.length<2^40)
 (h1:U1.length+V1.length<=N) (h2:U2.length+V2.length<=N) (ha:a=P.length) (hs:s=a+U1.length) (hm:m=s+U2.length) (hE:E=m+V1.length) (hb:b=E+V2.length) (hM:M=s+V1.length)
 (c1:∀x∈U1,∀y∈V2,kvC K x<=kvC K y) (c2:∀x∈V1,∀y∈U2,kvC K x<=kvC K y):
 ∃W,tl1 rf K (a:Int) (m:Int) (s:Int) (M:Int) (E:Int) (b:Int) (P++(U1++U2++(V1++V2++R)))=some (P++(W++R))/\zaZ K W/\W.Perm (U1++U2++(V1++V2)):=by
 have e0:tl1 rf K (a:Int) (m:Int) (s:Int) (M:Int) (E:Int) (b:Int) (P++(U1++U2++(V1++V2++R)))=tl2 rf K (a:Int) (s:Int) (M:Int) (E:Int) (b:Int) (P++(U1++(V1++(U2++(V2++R))))):=by
  unfold tl1
  by_cases hu:U2= []
  · grind
  · have hu':=ZH.2 hu
    rw[if_pos (by omega)]
    by_cases hw:V1= []
    · grind
    · have hw':=ZH.2 hw
      rw[if_pos (by omega)]
      have:=rotate (P:=P++U1) (U:=U2) (V:=V1) (R:=V2++R) K hu hw (by simp;omega) (a:=s) (m:=m) (b:=E) (by simp;omega) (by simp;omega) (by simp;omega)
      have e:P++U1++(U2++(V1++(V2++R)))=P++(U1++U2++(V1++V2++R)):=by simp only[Zo]
      rw[e] at this
      rw[this,Z0]
      simp only[Zo]
 rw[e0]
 have q1:=YB.1 hsU
 have q2:=YB.1 hsV
 have m1:∀x∈U1++V1,x∈U1++U2++(V1++V2):=fun x hx=>by grind
 have m2:∀x∈U2++V2,x∈U1++U2++(V1++V2):=fun x hx=>by grind
 obtain⟨L,e1,l1,l2⟩:=zl7 (R:=U2++(V2++R)) hrf (P:=P) (U:=U1) (V:=V1) (fun x hx=>hv x (m1 x hx)) q1.1 q2.1 (fun x hx y hy=>hBf x (Ze.2 (.inl hx)) y (Ze.2 (.inl hy))) (by omega) h1 ha (m:=s) (by omega) (b:=M) (by omega) (tl3 rf K (M:Int) (E:Int) (b:Int))
 have hL:=l2.length_eq
 rw[Za] at hL
 unfold tl2
 rw[e1]
 obtain⟨Rw,e2,r1,r2⟩:=zl7 (R:=R) hrf (P:=P++L) (U:=U2) (V:=V2) (fun x hx=>hv x (m2 x hx)) q1.2.1 q2.2.1 (fun x hx y hy=>hBf x (Ze.2 (.inr hx)) y (Ze.2 (.inr hy))) (by rw[Za];omega) h2 (a:=M) (by rw[Za];omega) (m:=E) (by rw[Za];omega) (b:=b) (by rw[Za];omega) (fun r=>some r)
 unfold tl3
 have e:P++(L++(U2++(V2++R)))=P++L++(U2++(V2++R)):=by simp only[Zo]
 rw[e,e2]
 refine⟨L++Rw,by simp only[Zo],?_,?_⟩
 · grind
 · grind
theorem zkG(hrf:zjz rf K N){U:List Int}(hv:zjC K (U++V))(hsU:zaZ K U)(hsV:zaZ K V)(hBf:Bef U V)(hl:P.length+U.length+V.length<2^40){M lo hi:Nat}(ha:a=P.length)(hm:m=P.length+U.length)(hb:b=P.length+U.length+V.length)
 (hU2:2<=U.length) (hV2:2<=V.length) (hN:U.length+V.length<=N+1) (hM:M=(a+b)/2) (hlo:(lo=a/\m<=M)∨(lo=M+m-b/\M<m)) (hhi:(hi=m/\m<=M)∨(hi=M/\M<m)):
 ∃r,z0k (zaS (P++(U++(V++R))) (a:Int) (m:Int) (b:Int) K rf) LFm ((lo:Int),(hi:Int))=some r/\ ∃W,r=P++(W++R)/\zaZ K W/\W.Perm (U++V):=by
 have hvU:zjC K U:=fun x hx=>hv x (Ze.2 (.inl hx))
 have hvV:zjC K V:=fun x hx=>hv x (Ze.2 (.inr hx))
 have cM:i64.wrap (z0w .u64 (IntKind.u64.wrap (i64.wrap ((a:Int)+b))) 1)=(M:Int):=by rw[zBn _ _ (by omega),hM]
 have cN:i64.wrap ((M:Int)+(m:Int))=((M+m:Nat):Int):=by rw[z2Y (by omega) (by omega)];omega
 have cP:i64.wrap (((M+m:Nat):Int)-1)=((M+m-1:Nat):Int):=by rw[z2Y (by omega) (by omega)];omega
 refine zuh (p:=fun c=>decide (kvC K (U.getD (c-a) 0)<=kvC K (V.getD (M+m-1-c-m) 0))) (by omega) (by omega) (fun i j h1 h2 h3 hp=> ?_) (fun i j h1 h2 h3=> ?_) (fun s h1 h2 h3 h4=> ?_)
 · simp only[decide_eq_true_eq] at hp⊢
   have k1:=z7F hsU (i:=i-a) (j:=j-a) (by omega) (by omega)
   have k2:=z7F hsV (i:=M+m-1-j-m) (j:=M+m-1-i-m) (by omega) (by omega)
   omega
 · simp only[zaS]
   rw[if_pos (by omega),z0j _ (by omega),cM,zBn i j (by omega),cN,cP]
   have hc:(i+j)/2<hi/\lo<=(i+j)/2:=by omega
   have w1:i64.wrap (((M+m-1:Nat):Int)-(((i+j)/2:Nat):Int))=((M+m-1-(i+j)/2:Nat):Int):=by rw[z2Y (by omega) (by omega)];omega
   have e1:P++(U++(V++R))=(P++U)++(V++R):=by simp only[Zo]
   have g1:atI (P++(U++(V++R))) ((M+m-1-(i+j)/2:Nat):Int)=some (V.getD (M+m-1-(i+j)/2-m) 0):=by
    rw[e1];exact atM (by omega) (by rw[Za];omega)
   have g2:atI (P++(U++(V++R))) (((i+j)/2:Nat):Int)=some (U.getD ((i+j)/2-a) 0):=atM (by omega) (by omega)
   rw[w1,g1,Z0,g2,Z0]
   obtain⟨c,hc1,hc2⟩:=zDq (zDi hvV (t:=M+m-1-(i+j)/2-m) (by omega)) (zDi hvU (t:=(i+j)/2-a) (by omega)) (hBf _ (zaM (by omega)) _ (zaM (by omega)))
   rw[hc1,Z0]
   simp only[decide_eq_true_eq]
   by_cases h:c<0
   · grind
   · have:=(not_congr hc2).1 h
     rw[if_neg h,if_pos (by omega),z1g (by omega)]
 · have wE:i64.wrap (((M+m:Nat):Int)-(s:Int))=((M+m-s:Nat):Int):=by rw[z2Y (by omega) (by omega)];omega
   have hx:(zaS (P++(U++(V++R))) (a:Int) (m:Int) (b:Int) K rf) ((s:Int),(s:Int))=z0i (tl1 rf K (a:Int) (m:Int) (s:Int) (M:Int) ((M+m-s:Nat):Int) (b:Int) (P++(U++(V++R)))):=by
    simp only[zaS]
    rw[if_neg (by omega),cM,cN,wE]
    rfl
   have hsa:a<=s/\s<=m/\s<=M:=by omega
   have tU:U.take (s-a)++U.drop (s-a)=U:=ZN ..
   have tV:V.take (M-s)++V.drop (M-s)=V:=ZN ..
   have lU1:(U.take (s-a)).length=s-a:=by rw[Zq];omega
   have lU2:(U.drop (s-a)).length=m-s:=by rw[Y8];omega
   have lV1:(V.take (M-s)).length=M-s:=by rw[Zq];omega
   have lV2:(V.drop (M-s)).length=b-(M+m-s):=by rw[Y8];omega
   have c1:∀x∈U.take (s-a),∀y∈V.drop (M-s),kvC K x<=kvC K y:=fun x hx y hy=>by
    obtain⟨i,i1,i2,rfl⟩:=z6z hx
    obtain⟨j,j1,j2,rfl⟩:=z6A hy
    have hs1:lo<=s-1/\s-1<s:=by omega
    have:=h3 (s-1) hs1.1 hs1.2
    simp only[decide_eq_true_eq] at this
    have k1:=z7F hsU (i:=i) (j:=s-1-a) (by omega) (by omega)
    have k2:=z7F hsV (i:=M+m-1-(s-1)-m) (j:=j) (by omega) (by omega)
    omega
   have c2:∀x∈V.take (M-s),∀y∈U.drop (s-a),kvC K x<=kvC K y:=fun x hx y hy=>by
    obtain⟨i,i1,i2,rfl⟩:=z6z hx
    obtain⟨j,j1,j2,rfl⟩:=z6A hy
    have hs1:s<=s/\s<hi:=by omega
    have:=h4 s hs1.1 hs1.2
    simp only[decide_eq_false_iff_not] at this
    have k1:=z7F hsU (i:=s-a) (j:=j) (by omega) (by omega)
    have k2:=z7F hsV (i:=i) (j:=M+m-1-s-m) (by omega) (by omega)
    omega
   obtain⟨W,e,w1,w2⟩:=zAF (P:=P) (U1:=U.take (s-a)) (U2:=U.drop (s-a)) (V1:=V.take (M-s)) (V2:=V.drop (M-s)) (R:=R) hrf (a:=a) (m:=m) (b:=b) (s:=s) (M:=M) (E:=M+m-s) (by rw[tU,tV];exact hv) (by rw[tU];exact hsU) (by rw[tV];exact hsV) (by rw[tU,tV];exact hBf) (by omega) (by omega) (by omega) ha (by omega) (by omega) (by omega) (by omega) (by omega) c1 c2
   rw[tU,tV] at e w2
   rw[hx,e]
   exact⟨_,rfl,W,rfl,w1,w2⟩
theorem zfG{K:SrtC}:∀(k:Nat) {P U V R:List Int} {a m b:Nat},U≠ []->V≠ []->zjC K (U++V)->zaZ K U->zaZ K V->Bef U V->P.length+U.length+V.length<2^40->U.length+V.length<=k->a=P.length->m=P.length+U.length->b=P.length+U.length+V.length->
 ∃W,zwP k (P++(U++(V++R))) (a:Int) (m:Int) (b:Int) K=some (P++(W++R))/\zaZ K W/\W.Perm (U++V)
 |0,P,U,V,R,a,m,b,hU,_,_,_,_,_,_,hk,_,_,_=>by
  have:=ZH.2 hU
  omega
 |k+1,P,U,V,R,a,m,b,hU,hV,hv,hsU,hsV,hBf,hl,hk,ha,hm,hb=>by
  have u0:=ZH.2 hU
  have v0:=ZH.2 hV
  have hvU:zjC K U:=fun x hx=>hv x (Ze.2 (.inl hx))
  have hvV:zjC K V:=fun x hx=>hv x (Ze.2 (.inr hx))
  have cU:i64.wrap ((m:Int)-(a:Int))=(U.length:Int):=by rw[z2Y (by omega) (by omega)];omega
  have cV:i64.wrap ((b:Int)-(m:Int))=(V.length:Int):=by rw[z2Y (by omega) (by omega)];omega
  show ∃W,zun (zwP k) (P++(U++(V++R))) (a:Int) (m:Int) (b:Int) K=_/\_
  unfold zun
  rw[cU,cV]
  by_cases h1:U.length=1
  · obtain⟨x,rfl⟩:=XE.1 h1
    rw[if_pos (by simp)]
    have hx:okS K x:=hvU x (by simp)
    have:=zuh (b:=zj7 (P++([x]++(V++R))) (a:Int) K) (p:=fun h=>decide (kvC K (V.getD (h-m) 0)<kvC K x)) (lo:=m) (hi:=b) (Post:=fun r=>∃W,r=P++(W++R)/\zaZ K W/\W.Perm ([x]++V)) (by omega) (by omega) (fun i j q1 q2 q3 hp=> ?_) (fun i j q1 q2 q3=> ?_) (fun s q1 q2 q3 q4=> ?_)
    · obtain⟨r,e,W,rfl,w1,w2⟩:=this
      exact⟨W,e,w1,w2⟩
    · simp only[decide_eq_true_eq] at hp⊢
      have k1:=z7F hsV (i:=i-m) (j:=j-m) (by omega) (by omega)
      omega
    · simp only[zj7]
      rw[if_pos (by omega),z0j _ (by omega),zBn _ _ (by omega)]
      have e1:P++([x]++(V++R))=(P++ [x])++(V++R):=by simp only[Zo]
      have g1:atI (P++([x]++(V++R))) (((i+j)/2:Nat):Int)=some (V.getD ((i+j)/2-m) 0):=by
       rw[e1];exact atM (by omega) (by rw[Za];simp at hm⊢;omega)
      rw[g1,Z0,show P++([x]++(V++R))=P++x::(V++R) from rfl,at0 _ _ _ ha,Z0]
      obtain⟨c,hc1,hc2⟩:=zDq (zDi hvV (t:=(i+j)/2-m) (by omega)) hx (hBf _ (by simp) _ (zaM (by omega)))
      rw[hc1,Z0]
      simp only[decide_eq_true_eq]
      by_cases h:c<0
      · rw[if_pos h,if_pos (hc2.1 h),z1g (by omega)]
      · grind
    · simp only[zj7]
      rw[if_neg (by omega)]
      have lV1:(V.take (s-m)).length=s-m:=by rw[Zq];omega
      simp only[ZE] at*
      have:=zvH (P:=P) (V:=V.take (s-m)) (R:=V.drop (s-m)++R) (x:=x) (by omega) (w:=s) (by omega)
      rw[←Zo (V.take (s-m)),ZN] at this
      rw[show P++([x]++(V++R))=P++x::(V++R) from rfl,ha,this]
      refine⟨_,rfl,V.take (s-m)++x::V.drop (s-m),by simp only[Zo,ZU],?_,?_⟩
      · refine zs3 (by rw[ZN];exact hsV) (fun y hy=> ?_) (fun y hy=> ?_)
        · obtain⟨i,i1,i2,rfl⟩:=z6z hy
          have:=q3 (m+i) (by omega) (by omega)
          simp only[decide_eq_true_eq,Ym] at this
          omega
        · obtain⟨i,i1,i2,rfl⟩:=z6A hy
          have:=q4 (m+i) (by omega) (by omega)
          simp only[decide_eq_false_iff_not,Ym] at this
          omega
      · refine List.perm_middle.trans ?_
        rw[ZN]
        exact .refl _
  · rw[if_neg (by omega)]
    by_cases h2:V.length=1
    · obtain⟨x,rfl⟩:=XE.1 h2
      rw[if_pos (by simp)]
      have hx:okS K x:=hvV x (by simp)
      have:=zuh (b:=zeI (P++(U++([x]++R))) (m:Int) K) (p:=fun h=>decide (kvC K (U.getD (h-a) 0)<=kvC K x)) (lo:=a) (hi:=m) (Post:=fun r=>∃W,r=P++(W++R)/\zaZ K W/\W.Perm (U++ [x])) (by omega) (by omega) (fun i j q1 q2 q3 hp=> ?_) (fun i j q1 q2 q3=> ?_) (fun s q1 q2 q3 q4=> ?_)
      · obtain⟨r,e,W,rfl,w1,w2⟩:=this
        exact⟨W,e,w1,w2⟩
      · simp only[decide_eq_true_eq] at hp⊢
        have k1:=z7F hsU (i:=i-a) (j:=j-a) (by omega) (by omega)
        omega
      · simp only[zeI]
        have e1:P++(U++([x]++R))=(P++U)++x::R:=by grind
        have g1:atI (P++(U++([x]++R))) (((i+j)/2:Nat):Int)=some (U.getD ((i+j)/2-a) 0):=atM (by omega) (by omega)
        have g2:atI (P++(U++([x]++R))) (m:Int)=some x:=by rw[e1];exact at0 _ _ _ (by rw[Za];omega)
        rw[if_pos (by omega),z0j _ (by omega),zBn _ _ (by omega),g2,Z0,g1,Z0]
        obtain⟨c,hc1,hc2⟩:=zDq hx (zDi hvU (t:=(i+j)/2-a) (by omega)) (hBf _ (zaM (by omega)) _ (by simp))
        rw[hc1,Z0]
        simp only[decide_eq_true_eq]
        by_cases h:c<0
        · grind
        · have:=(not_congr hc2).1 h
          rw[if_neg h,if_pos (by omega),z1g (by omega)]
      · simp only[zeI]
        rw[if_neg (by omega)]
        have lU1:(U.take (s-a)).length=s-a:=by rw[Zq];omega
        have lU2:(U.drop (s-a)).length=m-s:=by rw[Y8];omega
        simp only[ZE] at*
        have:=zr0 (P:=P++U.take (s-a)) (V:=U.drop (s-a)) (R:=R) (x:=x) (by rw[Za];omega)
        have e2:(P++U.take (s-a)).length=s:=by rw[Za];omega
        have e3:(P++U.take (s-a)).length+(U.drop (s-a)).length=m:=by rw[e2,lU2];omega
        have e4:P++U.take (s-a)++U.drop (s-a)++x::R=P++(U++([x]++R)):=by
         rw[Zo P,ZN];simp only[Zo,ZU,Y4]
        rw[e3,e4,e2] at this
        rw[this]
        refine⟨_,rfl,U.take (s-a)++x::U.drop (s-a),by simp only[Zo,ZU],?_,?_⟩
        · refine zs3 (by rw[ZN];exact hsU) (fun y hy=> ?_) (fun y hy=> ?_)
          · obtain⟨i,i1,i2,rfl⟩:=z6z hy
            have:=q3 (a+i) (by omega) (by omega)
            simp only[decide_eq_true_eq,Ym] at this
            omega
          · obtain⟨i,i1,i2,rfl⟩:=z6A hy
            have:=q4 (a+i) (by omega) (by omega)
            simp only[decide_eq_false_iff_not,Ym] at this
            omega
        · refine List.perm_middle.trans ?_
          rw[ZN]
          exact(List.perm_append_singleton x U).symm
    · rw[if_neg (by omega)]
      have hrf:zjz (zwP k) K k:=fun {P' U' V' R' a' m' b'} g1 g2 g3 g4 g5 g6 g7 g8 g9 g10 g11=>zfG k g1 g2 g3 g4 g5 g6 g7 g8 g9 g10 g11
      have cM:i64.wrap (z0w .u64 (IntKind.u64.wrap (i64.wrap ((a:Int)+b))) 1)=(((a+b)/2:Nat):Int):=zBn _ _ (by omega)
      have cN:i64.wrap ((((a+b)/2:Nat):Int)+(m:Int))=(((a+b)/2+m:Nat):Int):=by rw[z2Y (by omega) (by omega)];omega
      rw[z0j _ (by omega),cM,cN]
      by_cases hMm:(a+b)/2<m
      · have cB:i64.wrap ((((a+b)/2+m:Nat):Int)-(b:Int))=(((a+b)/2+m-b:Nat):Int):=by rw[z2Y (by omega) (by omega)];omega
        rw[if_pos (by omega),cB]
        obtain⟨r,e,W,rfl,w1,w2⟩:=zkG (R:=R) hrf hv hsU hsV hBf hl (M:=(a+b)/2) (lo:=(a+b)/2+m-b) (hi:=(a+b)/2) ha hm hb (by omega) (by omega) (by omega) rfl (.inr ⟨rfl,hMm⟩) (.inr ⟨rfl,hMm⟩)
        exact⟨W,e,w1,w2⟩
      · rw[if_neg (by omega)]
        obtain⟨r,e,W,rfl,w1,w2⟩:=zkG (R:=R) hrf hv hsU hsV hBf hl (M:=(a+b)/2) (lo:=a) (hi:=m) ha hm hb (by omega) (by omega) (by omega) rfl (.inl ⟨rfl,by omega⟩) (.inl ⟨rfl,by omega⟩)
        exact⟨W,e,w1,w2⟩
end
section
open Go Go.IntKind
variable{l l0:List Int}{B i:Nat}{K:SrtC}
def zjB(K:SrtC)(B:Nat)(l:List Int):Prop:=(∀i j,i<j->j<l.length->i/B=j/B->kvC K (l.getD i 0)<=kvC K (l.getD j 0))/\ ∀i j,j<l.length->i/B<j/B->l.getD i 0<l.getD j 0
theorem zAP(h:∀i j,i<j->j<l.length->kvC K (l.getD i 0)<=kvC K (l.getD j 0)):zaZ K l:=by
 refine ZK.2 fun i j hi hj hij=> ?_
 have:=h i j hij hj
 rwa [List.getD,List.getD,Z1 hj,Z1 hi,Zb,Zb] at this
theorem zgs{A X:List Int}(h:i<A.length):(A++X).getD i 0=A.getD i 0:=by grind
theorem zgr{A X:List Int}:(A++X).getD (A.length+i) 0=X.getD i 0:=by grind
theorem zjq{A X:List Int}{q:Nat}(hB:0<B)(hA:A.length=q*B)(h:zjB K B (A++X)):zjB K B X:=by
 have e:∀i,(A.length+i)/B=i/B+q:=fun i=>by rw[hA,Nat.add_comm,Nat.add_mul_div_right _ _ hB]
 refine⟨fun i j hij hj hb=> ?_,fun i j hj hb=> ?_⟩
 · have:=h.1 (A.length+i) (A.length+j) (by omega) (by rw[Za];omega) (by rw[e,e,hb])
   rwa [zgr,zgr] at this
 · have:=h.2 (A.length+i) (A.length+j) (by rw[Za];omega) (by rw[e,e];omega)
   rwa [zgr,zgr] at this
theorem zdV{U X:List Int}(hU:U.length<=B)(h:zjB K B (U++X)):zaZ K U:=zAP fun i j hij hj=>by
 have:=h.1 i j hij (by rw[Za];omega) (by rw[Xa (by omega),Xa (by omega)])
 rwa [zgs (by omega),zgs hj] at this
theorem zjr{X:List Int}(hB:0<B)(h:zjB K B X):Bef (X.take B) (X.drop B):=fun x hx y hy=>by
 obtain⟨i,i1,i2,rfl⟩:=z6z hx
 obtain⟨j,j1,j2,rfl⟩:=z6A hy
 have:=Nat.div_pos j1 hB
 exact h.2 i j j2 (by rw[Xa i1];exact this)
theorem zd0{D W:List Int}{q:Nat}(hB:0<B)(hD:D.length=q*B)(h:zjB K B D)(hW:zaZ K W)(hl:W.length<=B)(hBf:Bef D W):zjB K B (D++W):=by
 have e:∀i,(D.length+i)/B=i/B+q:=fun i=>by rw[hD,Nat.add_comm,Nat.add_mul_div_right _ _ hB]
 refine⟨fun i j hij hj hb=> ?_,fun i j hj hb=> ?_⟩
 · by_cases h1:j<D.length
   · rw[zgs (by omega),zgs h1]
     exact h.1 i j hij h1 hb
   · have h2:D.length<=i:=by
      rcases Yw i D.length with h2|h2
      · exfalso
        have a1:i/B<q:=by rw[Nat.div_lt_iff_lt_mul hB,←hD];exact h2
        have a2:q<=j/B:=by rw[Nat.le_div_iff_mul_le hB,←hD];omega
        omega
      · exact h2
     obtain⟨i',rfl⟩:=YO h2
     obtain⟨j',rfl⟩:=YO (show D.length<=j by omega)
     rw[zgr,zgr]
     exact z7F hW (by omega) (by rw[Za] at hj;omega)
 · have hij:i<j:=Nat.lt_of_not_le fun hji=>by have:=Nat.div_le_div_right (c:=B) hji;omega
   rw[Za] at hj
   by_cases h1:j<D.length
   · rw[zgs (by omega),zgs h1]
     exact h.2 i j h1 hb
   · obtain⟨j',rfl⟩:=YO (show D.length<=j by omega)
     by_cases h2:i<D.length
     · rw[zgs h2,zgr]
       exact hBf _ (zaM h2) _ (zaM (by omega))
     · obtain⟨i',rfl⟩:=YO (show D.length<=i by omega)
       rw[e,e,Xa (by omega),Xa (by omega)] at hb
       omega
theorem zv5(K:SrtC)(B:Nat):zjB K B []:=⟨fun i j _ hj=>by simp at hj,fun i j hj=>by simp at hj⟩
theorem zxi(hv:zjC K l0)(ha:l0.Pairwise (·< ·))(hn:l0.length<2^38)(Post:List Int->Prop)(k:∀D,zjB K 20 D->D.Perm l0->∃r,z0k (zdL ((l0.length:Nat):Int) K) LFm (20,D)=some r/\Post r):
 ∃r,z0k (zdM ((l0.length:Nat):Int) K) LFm (0,20,l0)=some r/\Post r:=by
 refine z2c (fun z=>∃(D X:List Int) (q:Nat),D.length=q*20/\z=((D.length:Int),((D.length+20:Nat):Int),D++X)/\zjB K 20 D/\Bef D X/\X.Pairwise (·< ·)/\(D++X).Perm l0) (fun z=>l0.length+1-z.1.toNat) Post ?_ LFm _ ⟨[],l0,0,rfl,rfl,zv5 K 20,(fun x hx=>by simp at hx),ha,.refl _⟩ (by simp only[LFm];omega)
 rintro z ⟨D,X,q,hq,rfl,hD,hBf,hXp,hp⟩
 have hlen:=hp.length_eq
 rw[Za] at hlen
 have hvX:zjC K X:=fun x hx=>hv x (hp.mem_iff.1 (Ze.2 (.inr hx)))
 simp only[zdM]
 by_cases h:D.length+20<=l0.length
 · left
   rw[if_pos (by omega)]
   have t1:X.take 20++X.drop 20=X:=ZN ..
   have t2:(X.take 20).length=20:=by rw[Zq];omega
   obtain⟨S,e,s1,s2⟩:=zoy (P:=D) (X:=X.take 20) (R:=X.drop 20) (fun x hx=>hvX x (ZI hx)) (hXp.sublist (List.take_sublist ..)) (by omega) (a:=D.length) (b:=D.length+20) rfl (by omega)
   have hS:=s2.length_eq
   rw[t2] at hS
   rw[Zo,t1] at e
   rw[e,Z0,z2Y (by omega) (by omega)]
   refine⟨_,rfl,⟨D++S,X.drop 20,q+1,by rw[Za];omega,?_,zd0 (by omega) hq hD s1 (by omega) (fun x hx y hy=>hBf x hx y (ZI (s2.mem_iff.1 hy))),?_,hXp.sublist (List.drop_sublist ..),?_⟩,by simp only;omega⟩
   · grind
   · grind
   · grind
 · right
   rw[if_neg (by omega)]
   obtain⟨S,e,s1,s2⟩:=zoy (P:=D) (X:=X) (R:= []) hvX hXp (by omega) (a:=D.length) (b:=l0.length) rfl (by omega)
   rw[Y1,Y1] at e
   rw[e,Z0]
   have hSl:=s2.length_eq
   obtain⟨r,e2,hr⟩:=k (D++S) (zd0 (by omega) hq hD s1 (by omega) (fun x hx y hy=>hBf x hx y (s2.mem_iff.1 hy))) ((s2.append_left D).trans hp)
   exact⟨r,by rw[e2];rfl,hr⟩
theorem zBp(hv:zjC K l0)(hn:l0.length<=5000)(hB0:0<B)(hB:B<5000)(hb:zjB K B l)(hp:l.Perm l0):
 ∃S,z0k (zbR ((l0.length:Nat):Int) K (B:Int)) LFm (0,((2*B:Nat):Int),l)=some (.inl (((B*2:Nat):Int),S))/\zjB K (B*2) S/\S.Perm l0:=by
 refine Exists.elim (z2c (b:=zbR ((l0.length:Nat):Int) K (B:Int)) (fun z=>∃(D X:List Int) (q:Nat),D.length=q*(B*2)/\z=((D.length:Int),((D.length+2*B:Nat):Int),D++X)/\zjB K (B*2) D/\zjB K B X/\Bef D X/\(D++X).Perm l0) (fun z=>l0.length+1-z.1.toNat)
  (fun r=>∃S,r= .inl (((B*2:Nat):Int),S)/\zjB K (B*2) S/\S.Perm l0) ?_ LFm (0,((2*B:Nat):Int),l) ⟨[],l,0,by simp,by simp,zv5 K _,hb,(fun x hx=>by simp at hx),hp⟩ (by simp only[LFm];omega)) fun r h=>by grind
 rintro z ⟨D,X,q,hq,rfl,hD,hX,hBf,hp2⟩
 have hlen:=hp2.length_eq
 rw[Za] at hlen
 have hvX:zjC K X:=fun x hx=>hv x (hp2.mem_iff.1 (Ze.2 (.inr hx)))
 have wB:i64.wrap (2*(B:Int))=((2*B:Nat):Int):=by rw[z2Y (by omega) (by omega)];omega
 have wB2:i64.wrap ((B:Int)*2)=((B*2:Nat):Int):=by grind
 have wa:i64.wrap ((D.length:Int)+(B:Int))=((D.length+B:Nat):Int):=by rw[z2Y (by omega) (by omega)];omega
 simp only[zbR]
 rw[wa,wB,wB2]
 have t1:X.take B++X.drop B=X:=ZN ..
 by_cases h:D.length+2*B<=l0.length
 · left
   rw[if_pos (by omega)]
   have t2:(X.take B).length=B:=by rw[Zq];omega
   have hX2:zjB K B (X.drop B):=zjq (A:=X.take B) (q:=1) hB0 (by omega) (by rw[t1];exact hX)
   have t3:(X.drop B).take B++(X.drop B).drop B=X.drop B:=ZN ..
   have t4:((X.drop B).take B).length=B:=by grind
   obtain⟨W,e,w1,w2⟩:=zfG (K:=K) 5000 (P:=D) (U:=X.take B) (V:=(X.drop B).take B) (R:=(X.drop B).drop B) (a:=D.length) (m:=D.length+B) (b:=D.length+2*B) (fun h=>by rw[h] at t2;simp at t2;omega) (fun h=>by rw[h] at t4;simp at t4;omega)
    (fun x hx=>hvX x (by
      rcases Ze.1 hx with hx|hx
      · exact ZI hx
      · exact XL (ZI hx)))
    (zdV (B:=B) (X:=X.drop B) (by omega) (by rw[t1];exact hX)) (zdV (B:=B) (X:=(X.drop B).drop B) (by omega) (by rw[t3];exact hX2)) (fun x hx y hy=>zjr hB0 hX x hx y (ZI hy)) (by omega) (by omega) rfl (by omega) (by omega)
   have hW:=w2.length_eq
   rw[Za,t2,t4] at hW
   rw[t3,t1] at e
   have hX3:zjB K B ((X.drop B).drop B):=zjq (A:=(X.drop B).take B) (q:=1) hB0 (by omega) (by rw[t3];exact hX2)
   have hWX:∀y∈W,y∈X:=fun y hy=>by grind
   have ws:i64.wrap (((D.length+2*B:Nat):Int)+((2*B:Nat):Int))=((D.length+2*B+2*B:Nat):Int):=by rw[z2Y (by omega) (by omega)];omega
   rw[e,Z0,ws]
   refine⟨_,rfl,⟨D++W,(X.drop B).drop B,q+1,?_,?_,zd0 (by omega) hq hD w1 (by omega) (fun x hx y hy=>hBf x hx y (hWX y hy)),hX3,?_,?_⟩,by simp only;omega⟩
   · grind
   · grind
   · intro x hx y hy
     rcases Ze.1 hx with hx|hx
     · grind
     · rcases Ze.1 (w2.mem_iff.1 hx) with h|h
       · exact zjr hB0 hX x h y (XL hy)
       · exact zjr hB0 hX2 x h y hy
   · grind
 · right
   rw[if_neg (by omega)]
   by_cases h2:D.length+B<l0.length
   · have t2:(X.take B).length=B:=by rw[Zq];omega
     have hX2:zjB K B (X.drop B):=zjq (A:=X.take B) (q:=1) hB0 (by omega) (by rw[t1];exact hX)
     have t4:(X.drop B).length=l0.length-D.length-B:=by rw[Y8];omega
     obtain⟨W,e,w1,w2⟩:=zfG (K:=K) 5000 (P:=D) (U:=X.take B) (V:=X.drop B) (R:= []) (a:=D.length) (m:=D.length+B) (b:=l0.length) (fun h=>by rw[h] at t2;simp at t2;omega) (fun h=>by rw[h] at t4;simp at t4;omega)
      (fun x hx=>hvX x (by rw[t1] at hx;exact hx))
      (zdV (B:=B) (X:=X.drop B) (by omega) (by rw[t1];exact hX)) (zdV (B:=B) (X:= []) (by omega) (by rw[Y1];exact hX2)) (zjr hB0 hX) (by omega) (by omega) rfl (by omega) (by omega)
     rw[Y1,Y1,t1] at e
     rw[if_pos (by omega),e,Z0]
     have hWl:=w2.length_eq
     rw[t1] at hWl
     refine⟨_,rfl,D++W,rfl,zd0 (by omega) hq hD w1 (by omega) (fun x hx y hy=>hBf x hx y (by have:=w2.mem_iff.1 hy;rwa [t1] at this)),?_⟩
     have:=w2.append_left D
     rw[t1] at this
     exact this.trans hp2
   · rw[if_neg (by omega)]
     refine⟨_,rfl,D++X,rfl,?_,hp2⟩
     exact zd0 (by omega) hq hD (zdV (B:=B) (X:= []) (by omega) (by rw[Y1];exact hX)) (by omega) hBf
theorem zmt(hv:zjC K l)(ha:l.Pairwise (·< ·))(hn:l.length<=5000):∃S,zBG l K=some S/\zaZ K S/\S.Perm l:=by
 unfold zBG zF6
 obtain⟨r,e,h⟩:=zxi (Post:=fun r=>zaZ K r/\r.Perm l) hv ha (by omega) fun D hD hp=>by
  refine z2c (fun z=>∃(B:Nat) (S:List Int),0<B/\B<10000/\z=((B:Int),S)/\zjB K B S/\S.Perm l) (fun z=>10000-z.1.toNat) _ ?_ LFm _ ⟨20,D,by omega,by omega,rfl,hD,hp⟩ (by simp only[LFm];omega)
  rintro z ⟨B,S,hB0,hB1,rfl,hS,hp2⟩
  have hlen:=hp2.length_eq
  simp only[zdL]
  by_cases h:B<l.length
  · left
    have wB:i64.wrap (2*(B:Int))=((2*B:Nat):Int):=by rw[z2Y (by omega) (by omega)];omega
    obtain⟨S',e,s1,s2⟩:=zBp hv hn hB0 (by omega) hS hp2
    rw[if_pos (by omega),wB,e]
    exact⟨_,rfl,⟨B*2,S',by omega,by omega,rfl,s1,s2⟩,by simp only;omega⟩
  · right
    rw[if_neg (by omega)]
    exact⟨_,rfl,zdV (B:=B) (X:= []) (by omega) (by rw[Y1];exact hS),hp2⟩
 exact⟨r,by rw[e];rfl,h⟩
end
section
structure Run{ρ:Type}(x:Option ρ)(K:ρ->Prop):Prop where
 out:∃v,x=some v/\K v
structure RK{σ ρ:Type}(o:σ⊕ρ)(K:ρ->Prop)(o':σ⊕ρ):Prop where
 eq:o'=o
 k:∀r,o'= .inr r->K r
class Ok{ρ:Type}(x:Option ρ)(S:outParam (ρ->Prop)):Prop where
 ok:∀r,x=some r->S r
section
variable {G:Prop} {ρ:Type} {K:ρ->Prop}
theorem zB4{b n:Nat}{x:Option ρ}(k:n*b<=140737488355328->n<=4611686018427387904->Run x K->G)(h:Run (chk (z1B b n) x) K):G:=by
 obtain⟨v,e,hk⟩:=h
 obtain⟨⟨a,c⟩,e⟩:=z8z e
 exact k a c ⟨v,e,hk⟩
theorem zB3{n:Nat}{x:Option ρ}(k:n<=140737488355328->n<=4611686018427387904->Run x K->G)(h:Run (chk (z1B 1 n) x) K):G:=zB4 (fun a b=>k (by omega) b) h
theorem zF3{b l:Int}{x:Option ρ}(k:0<=l->l<=140737488355328->b*l<=140737488355328->max l 0=l->Run x K->G)(h:Run (chk (z0X b l) x) K):G:=by
 obtain⟨v,e,hk⟩:=h
 obtain⟨⟨a,c,d⟩,e⟩:=z8z e
 exact k a c d (by omega) ⟨v,e,hk⟩
theorem zE3{l:Int}{x:Option ρ}(k:0<=l->l<=140737488355328->max l 0=l->Run x K->G)(h:Run (chk (z0X 1 l) x) K):G:=zF3 (fun a b _ d=>k a b d) h
theorem zE1{i:Int}{n:Nat}{x:Option ρ}(k:0<=i->i<(n:Int)->i.toNat<n->i.toNat+1<=n->Run x K->G)(h:Run (chk (0<=i/\i<(n:Int)) x) K):G:=by
 obtain⟨v,e,hk⟩:=h
 obtain⟨⟨a,c⟩,e⟩:=z8z e
 exact k a c (by omega) (by omega) ⟨v,e,hk⟩
theorem zAZ{i n:Int}{x:Option ρ}(k:0<=i->i<n->i.toNat<n.toNat->i.toNat+1<=n.toNat->Run x K->G)(h:Run (chk (0<=i/\i<n) x) K):G:=by
 obtain⟨v,e,hk⟩:=h
 obtain⟨⟨a,c⟩,e⟩:=z8z e
 exact k a c (by omega) (by omega) ⟨v,e,hk⟩
theorem zE9{p:Prop}[Decidable p]{x:Option ρ}(k:p->Run x K->G)(h:Run (chk p x) K):G:=by
 obtain⟨v,e,hk⟩:=h
 obtain⟨a,e⟩:=z8z e
 exact k a ⟨v,e,hk⟩
theorem zE2{α:Type}{xs:List α}{i:Nat}{f:α->Option ρ}(k:∀v,i<xs.length->i+1<=xs.length->xs[i]? =some v->(∀hh:i<xs.length,xs[i]'hh=v)->Run (f v) K->G)(h:Run ((atI xs (i:Int)).bind f) K):G:=by
 obtain⟨r,e,hk⟩:=h
 obtain⟨v,⟨a,b,c,d⟩,e⟩:=zxn e
 exact k v a b c d ⟨r,e,hk⟩
theorem zGU{α:Type}{xs:List α}{i:Int}{f:α->Option ρ}(k:∀v,0<=i->i<xs.length->i.toNat+1<=xs.length->xs[i.toNat]? =some v->(∀hh:i.toNat<xs.length,xs[i.toNat]'hh=v)->Run (f v) K->G)(h:Run ((atI xs i).bind f) K):G:=by
 obtain⟨r,e,hk⟩:=h
 obtain⟨v,⟨a,b,c,d,d2⟩,e⟩:=z8G e
 exact k v a b c d d2 ⟨r,e,hk⟩
theorem zB6{s:ByteArray}{i:Int}{f:Int->Option ρ}(k:∀v,0<=i->i<s.size->(∃b,s[i.toNat]? =some b/\v=(b.toNat:Int))->(∀hh:i.toNat<s.size,((s[i.toNat]'hh).toNat:Int)=v)->Run (f v) K->G)(h:Run ((znt s i).bind f) K):G:=by
 obtain⟨r,e,hk⟩:=h
 obtain⟨v,e1,e2⟩:=z1t e
 obtain⟨a,b,c,d1,d2,d3⟩:=zra e1
 exact k v a b ⟨c,d1,d2⟩ d3 ⟨r,e2,hk⟩
theorem zz2{α:Type}{xs:List α}{i:Int}{v:α}{f:α->Option ρ}(hv:xs[i.toNat]? =some v)(hi:0<=i)(k:Run (f v) K->G)(h:Run ((atI xs i).bind f) K):G:=by
 obtain⟨r,e,hk⟩:=h
 unfold atI at e
 rw[if_pos hi,hv] at e
 exact k ⟨r,e,hk⟩
theorem zB1{α:Type}{xs:List α}{i:Nat}{v:α}{f:α->Option ρ}(hv:xs[i]? =some v)(k:Run (f v) K->G)(h:Run ((atI xs (i:Int)).bind f) K):G:=zz2 (i:=(i:Int)) hv (Int.natCast_nonneg i) k h
theorem zGV{α:Type}{xs:List α}{v:α}{f:α->Option ρ}(hv:xs[0]? =some v)(k:Run (f v) K->G)(h:Run ((atI xs 0).bind f) K):G:=zz2 (i:=0) hv (Int.le_refl 0) k h
theorem zz0{α:Type}{e:Option α}{v:α}{f:α->Option ρ}(hv:e=some v)(k:Run (f v) K->G)(h:Run (e.bind f) K):G:=by subst hv;exact k h
theorem zB5{α:Type}{e:Option α}{S:α->Prop}[Ok e S]{f:α->Option ρ}(k:∀v,e=some v->S v->Run (f v) K->G)(h:Run (e.bind f) K):G:=by
 obtain⟨r,e1,hk⟩:=h
 obtain⟨v,e2,e3⟩:=z1t e1
 exact k v e2 (Ok.ok v e2) ⟨r,e3,hk⟩
theorem zGT{p:Prop}[Decidable p]{x y:Option ρ}(k:(p=True)->Run x K->G)(k2:(p=False)->Run y K->G)(h:Run (if p then x else y) K):G:=by
 by_cases c:p
 · rw[if_pos c] at h;exact k (eq_true c) h
 · rw[if_neg c] at h;exact k2 (eq_false c) h
theorem p_0{α:Type}{xs:List α}{f:α->Option ρ}(k:∀v,0<xs.length->xs≠ []->xs[0]? =some v->(∀hh:0<xs.length,xs[0]'hh=v)->Run (f v) K->G)(h:Run ((atI xs 0).bind f) K):G:=by
 obtain⟨r,e,hk⟩:=h
 obtain⟨v,⟨b,c,d,d2⟩,e⟩:=zxn (i:=0) e
 exact k v b (ZH.1 b) d d2 ⟨r,e,hk⟩
theorem zE4{α:Type}{xs:List α}{i:Nat}{f:α->Option ρ}(k:∀v,(OfNat.ofNat i:Nat)<xs.length->xs≠ []->xs[(OfNat.ofNat i:Nat)]? =some v->(∀hh:(OfNat.ofNat i:Nat)<xs.length,xs[(OfNat.ofNat i:Nat)]'hh=v)->Run (f v) K->G)(h:Run ((atI xs (OfNat.ofNat i:Int)).bind f) K):G:=by
 obtain⟨r,e,hk⟩:=h
 obtain⟨v,⟨b,c,d,d2⟩,e⟩:=zxn (i:=i) e
 exact k v b (ZH.1 (X2 (Yt _) b)) d d2 ⟨r,e,hk⟩
class IsS(α:Type):Prop
theorem zEb{α:Type}[IsS α]{xs:List α}{i:Int}{f:α->Option ρ}(k:∀v,0<=i->i<xs.length->i.toNat+1<=xs.length->xs[i.toNat]? =some v->(∀m,i.toNat*m+m<=xs.length*m)->(∀(g:α->List T) (m:Nat),(∀x,(g x).length=m)->((xs.flatMap g).drop (i.toNat*m)).take m=g v)->
 (∀(g:α->List T) (m j:Nat),(∀x,(g x).length=m)->j<m->(xs.flatMap g)[i.toNat*m+j]? =(g v)[j]?)->(∀(g:α->List T) (m:Nat),(∀x,(g x).length=m)->0<m->(xs.flatMap g)[i.toNat*m]? =(g v)[0]?)->Run (f v) K->G) (h:Run ((atI xs i).bind f) K):G:=by
 obtain⟨r,e,hk⟩:=h
 obtain⟨v,⟨a,b,c,d,d2⟩,e⟩:=z8G e
 refine k v a b c d (fun m=> ?_) (fun g m hg=>(zac hg d).2.1) (fun g m j hg hj=>(zac hg d).2.2.1 j hj) (fun g m hg hj=>(zac hg d).2.2.1 0 hj) ⟨r,e,hk⟩
 calc i.toNat*m+m=(i.toNat+1)*m:=by rw[Yi,Nat.one_mul]
  _<=_:=Yc _ c
theorem zia{α:Type}{xs:List α}{v:α}(h:xs[0]? =some v)(g:α->List T):∃r,xs.flatMap g=g v++r:=by
 cases xs with
 |nil=>cases h
 |cons a l=>
  simp at h;subst h
  exact⟨l.flatMap g,Ya ..⟩
theorem zB7{α:Type}[IsS α]{xs:List α}{f:α->Option ρ}(k:∀v,0<xs.length->xs≠ []->xs[0]? =some v->(∀(g:α->List T) (j:Nat),j<(g v).length->(xs.flatMap g)[j]? =(g v)[j]?)->(∀(g:α->List T) (m:Nat),m=(g v).length->(xs.flatMap g).take m=g v)->Run (f v) K->G)(h:Run ((atI xs 0).bind f) K):G:=by
 obtain⟨r,e,hk⟩:=h
 obtain⟨v,⟨b,c,d,d2⟩,e⟩:=zxn (i:=0) e
 refine k v b (ZH.1 b) d (fun g j hj=> ?_) (fun g m hm=> ?_) ⟨r,e,hk⟩
 · obtain⟨q,hq⟩:=zia d g
   rw[hq,ZL hj]
 · obtain⟨q,hq⟩:=zia d g
   subst hm
   rw[hq,List.take_left]
theorem zEa{α:Type}{l:List α}{j:Nat}{a:α}{i:Int}{f:α->Option ρ}(k:∀v,0<=i->i<l.length->i.toNat+1<=l.length->(∀(g:α->T) hh,((l.map g).set j (g a))[i.toNat]'hh=g v)->(∀(g:α->T),((l.map g).set j (g a))[i.toNat]? =some (g v))->Run (f v) K->G)(h:Run ((atI (l.set j a) i).bind f) K):G:=by
 obtain⟨r,e,hk⟩:=h
 obtain⟨v,⟨x,b,c,d,d2⟩,e⟩:=z8G e
 rw[Xj] at b c
 have key:∀(g:α->T),((l.map g).set j (g a))[i.toNat]? =some (g v):=fun g=>by rw[←List.map_set,Zd,d];rfl
 exact k v x b c (fun g hh=>(Z8.1 (key g)).2) key ⟨r,e,hk⟩
theorem zEc{α:Type}{l:List α}{a:α}{i:Int}{f:α->Option ρ}(k:∀v,0<=i->i<(l.length:Int)+1->i.toNat<=l.length->(∀(g:α->T) hh,(l.map g++ [g a])[i.toNat]'hh=g v)->(∀g:α->T,(l.map g++ [g a])[i.toNat]? =some (g v))->Run (f v) K->G)(h:Run ((atI (l++ [a]) i).bind f) K):G:=by
 obtain⟨r,e,hk⟩:=h
 obtain⟨v,⟨x,b,c,d,d2⟩,e⟩:=z8G e
 rw[Za,ZE] at b c
 have key:∀(g:α->T),(l.map g++ [g a])[i.toNat]? =some (g v):=fun g=>by
  have:=congrArg (Option.map g) d
  rwa [←Zd,ZY] at this
 exact k v x (by omega) (by omega) (fun g hh=>(Z8.1 (key g)).2) key ⟨r,e,hk⟩
theorem zwk{α:Type}{xs:List α}{l u:Int}{f:List α->Option ρ}(k:∀v:List α,0<=l->l<=u->u<=xs.length->0<=u->l<=(u.toNat:Int)->l<=max u 0->(∀g:α->T,((xs.map g).drop l.toNat).take (u.toNat-l.toNat)=v.map g)->(∀g:α->T,T.sl (u.toNat-l.toNat) (v.map g)=T.sl v.length (v.map g))->Run (f v) K->G)(h:Run ((z6w xs l u).bind f) K):G:=by
 obtain⟨r,e,hk⟩:=h
 obtain⟨v,e1,e2⟩:=z1t e
 obtain⟨a,b,c,-⟩:=z5q e1
 obtain⟨d,g⟩:=zct a b
 exact k v a b c d g (by omega) (fun g=>zdC e1) (fun g=>zdB e1 g) ⟨r,e2,hk⟩
theorem zwl{α:Type}[IsS α]{xs:List α}{l u:Int}{f:List α->Option ρ}(k:∀v:List α,0<=l->l<=u->u<=xs.length->0<=u->l<=(u.toNat:Int)->l<=max u 0->(∀(g:α->List T) (m:Nat),(∀x,(g x).length=m)->((xs.flatMap g).drop (l.toNat*m)).take ((u.toNat-l.toNat)*m)=v.flatMap g)->(∀g:α->List T,T.sl (u.toNat-l.toNat) (v.flatMap g)=T.sl v.length (v.flatMap g))->Run (f v) K->G)(h:Run ((z6w xs l u).bind f) K):G:=by
 obtain⟨r,e,hk⟩:=h
 obtain⟨v,e1,e2⟩:=z1t e
 obtain⟨a,b,c,-⟩:=z5q e1
 obtain⟨d,g⟩:=zct a b
 exact k v a b c d g (by omega) (fun g m hg=>zmH hg e1) (fun g=>zqh e1 g) ⟨r,e2,hk⟩
theorem zwj{s:ByteArray}{l u:Int}{f:ByteArray->Option ρ}(k:∀v,0<=l->l<=u->u<=s.size->0<=u->l<=(u.toNat:Int)->l<=max u 0->s.extract l.toNat u.toNat=v->Run (f v) K->G)(h:Run ((zod s l u).bind f) K):G:=by
 obtain⟨r,e,hk⟩:=h
 obtain⟨v,e1,e2⟩:=z1t e
 obtain⟨a,b,c,d⟩:=zmF e1
 obtain⟨d1,g⟩:=zct a b
 exact k v a b c d1 g (by omega) d.symm ⟨r,e2,hk⟩
theorem zz1{α β:Type}{e:Option (α⊕β)}{S:α⊕β->Prop}[Ok e S]{f:α⊕β->Option ρ}(k:∀v,S (.inl v)->Run (f (.inl v)) K->G)(k2:∀v,S (.inr v)->Run (f (.inr v)) K->G)(h:Run (e.bind f) K):G:=by
 obtain⟨r,e1,hk⟩:=h
 obtain⟨v,e2,e3⟩:=z1t e1
 cases v with
 |inl v=>exact k v (Ok.ok _ e2) ⟨r,e3,hk⟩
 |inr v=>exact k2 v (Ok.ok _ e2) ⟨r,e3,hk⟩
theorem zE6{α:Type}{m:Option α}{x y:Option ρ}(k:m.isSome=true->Run x K->G)(k2:m=none->Run y K->G)(h:Run (if m.isSome=true then x else y) K):G:=by
 cases m with
 |some v=>exact k rfl (by simpa using h)
 |none=>exact k2 rfl (by simpa using h)
theorem zE7{b:Bool}{x y:Option ρ}(k:b=true->Run x K->G)(k2:b=false->Run y K->G)(h:Run (if b=true then x else y) K):G:=by
 cases b with
 |true=>exact k rfl (by simpa using h)
 |false=>exact k2 rfl (by simpa using h)
theorem zE8{α:Type}{xs:List α}{x y:Option ρ}(k:((xs.length:Int)=0)=True->xs= []->Run x K->G)(k2:((xs.length:Int)=0)=False->xs≠ []->Run y K->G)(h:Run (if(xs.length:Int)=0 then x else y) K):G:=by
 by_cases c:(xs.length:Int)=0
 · rw[if_pos c] at h;exact k (eq_true c) (ZW (by omega)) h
 · rw[if_neg c] at h;exact k2 (eq_false c) (fun e=>c (by rw[e];rfl)) h
theorem zE5{α:Type}{xs:List α}{x y:Option ρ}(k:((0:Int)<(xs.length:Int))=True->xs≠ []->0<xs.length->Run x K->G)(k2:((0:Int)<(xs.length:Int))=False->xs= []->Run y K->G)(h:Run (if(0:Int)<(xs.length:Int) then x else y) K):G:=by
 by_cases c:(0:Int)<(xs.length:Int)
 · rw[if_pos c] at h;exact k (eq_true c) (fun e=>by subst e;simp at c) (by omega) h
 · rw[if_neg c] at h;exact k2 (eq_false c) (ZW (by omega)) h
theorem zB2{κ ν:Type}[DecidableEq κ]{q:κ}{m:List (κ×ν)}{f:ν->Option ρ}{y:Option ρ}(k:∀v,z8i q m=some v->zqQ q m=some (q,v)->Run (f v) K->G)(k2:z8i q m=none->zqQ q m=none->Run y K->G)(h:Run ((z8i q m).elim y f) K):G:=by
 have e:=zgq q m
 have hk:∀l:List (κ×ν),∀p,zqQ q l=some p->p.1=q:=by
  intro l
  induction l with
  |nil=>intro p hp;cases hp
  |cons a l ih=>
   intro p hp
   simp only[zqQ] at hp
   split at hp
   · rename_i ha;cases hp;exact ha
   · exact ih p hp
 cases hp:zqQ q m with
 |none=>
  rw[hp] at e
  rw[←e] at h
  exact k2 e.symm hp h
 |some p=>
  rw[hp] at e
  rw[←e] at h
  have h1:=hk m p hp
  exact k p.2 e.symm (by rw[hp,←h1]) h
theorem zAY{v:ρ}(k:K v->G)(h:Run (some v) K):G:=by
 obtain⟨r,e,hk⟩:=h
 cases e;exact k hk
theorem zB0(h:Run none K):G:=by
 obtain⟨r,e,hk⟩:=h
 cases e
theorem z4u{x:Option ρ}{r:ρ}(h:x=some r):Run x (·=r):=⟨r,h,rfl⟩
theorem zqf{α β:Type}{P:α×β->Prop}(h:∀a,∀b,P (a,b)):∀s:α×β,P s:=fun s=>h s.1 s.2
end
theorem zrS{α β:Type}{P:α⊕β->Prop}(h1:∀a,P (.inl a))(h2:∀b,P (.inr b)):∀s:α⊕β,P s:=fun s=>by
 cases s with
 |inl a=>exact h1 a
 |inr b=>exact h2 b
theorem zsL{α:Type}{P:Option α->Prop}(h1:∀_:Unit,P none)(h2:∀a,P (some a)):∀s:Option α,P s:=fun s=>by
 cases s with
 |none=>exact h1 ()
 |some a=>exact h2 a
section
variable {P:Program} {C:z0e} {cf:Cfg} {LF:Nat} {c:Code} {fr:Fr} {Q:X->Fr->Prop} {σ ρ:Type} {K:ρ->Prop} {o:σ⊕ρ} {H:σ->Fr} {cn:Fr->Fr}
theorem zGS{s:σ}(h:Run (z0c s:Option (σ⊕ρ)) (RK o K))(e:cn fr=H s):zcn H cn o Q .n fr:=by
 obtain⟨r,e1,e2⟩:=h
 have:=z4j e1
 exact z5j (e2.eq.symm.trans this) e
theorem zGQ{i:Nat}{x:Option ρ}(k:Run x K->Q (.x i) fr)(h:Run (z0i x:Option (σ⊕ρ)) (RK o K)):zcn H cn o Q (.x i) fr:=by
 obtain⟨r,e1,e2⟩:=h
 obtain⟨v,e3,rfl⟩:=z3K e1
 exact z6t (e2.eq.symm) (k ⟨v,e3,e2.k _ rfl⟩)
theorem zGR{x:Option ρ}(k:Run x K->Q .r fr)(h:Run (z0i x:Option (σ⊕ρ)) (RK o K)):zcn H cn o Q .r fr:=by
 obtain⟨r,e1,e2⟩:=h
 obtain⟨v,e3,rfl⟩:=z3K e1
 exact zcm (e2.eq.symm) (k ⟨v,e3,e2.k _ rfl⟩)
end
def zAR{α:Type}(k:Nat)(v:α):List (Nat×α)->List (Nat×α)
 | []=> []
 |(j,u)::r=>if j=k then(j,v)::r else(j,u)::zAR k v r
def zAi{α:Type}:List (Nat×α)->List (Nat×α)->List (Nat×α)
 | [],l=>l
 |(k,v)::r,l=>zAi r (zAR k v l)
def zys(x:List (Nat×E)×List (Nat×T))(fr:Fr):Fr:= {fr with tm:=zAi x.1 fr.tm,ob:=zAi x.2 fr.ob}
class Hd{σ ρ:Type}(b:σ->Option (σ⊕ρ)) where
 H:σ->List (Nat×E)×List (Nat×T)
variable{fr1:Fr}{i k m:Nat}{g:Option (Option Nat×Bool)}{rest t:SchT}
section
variable {P:Program} {C:z0e} {cf:Cfg} {LF:Nat} {c:Code} {fr fr0:Fr} {Q:X->Fr->Prop} {σ ρ:Type} {K:ρ->Prop}
theorem zyV{lv:List Nat}{body:σ->Option (σ⊕ρ)}[hd:Hd body]{s0:σ}(hk:zcG c=5)(hv:cf.live (zbg (lpC c))=some lv)(h:Run (z0k body LF s0) K)
 (hf:z9d (some lv) fr=fr0) (h0:fr0=zys (Hd.H body s0) fr0) (round:∀s,∀o,Run (body s) (RK o K)->wpC P C cf LF (lpC c) (zys (Hd.H body s) fr0) (zcn (fun s=>zys (Hd.H body s) fr0) (z9d (some lv)) o Q)):wpC P C cf LF c fr Q:=by
 obtain⟨r,e,hk2⟩:=h
 exact z8a e (fun s=>zys (Hd.H body s) fr0) hk hv (hf.trans h0) fun s o h1 h2=>round s o ⟨o,h1,rfl,fun r' e'=>by rw[h2 r' e'];exact hk2⟩
end
@[simp] theorem zvO{α:Type}(c:Nat):∀l:List α,(l.map fun _=>c).sum=l.length*c
  | []=>by simp
  |x::l=>by simp only[Zs,List.sum_cons,zvO c l,Zr,Yi];omega
abbrev xI(x:Int):E:=.one (.t none (.sc (.int .i64 x)))
abbrev xS(x:ByteArray):E:=.one (.t none (.sc (.string x)))
theorem zGO{a b:Fr}(h:zb3 a b):zb3 a b:=h
section
variable {P:Program} {C:z0e} {cf:Cfg} {LF:Nat} {c:Code} {fr:Fr}
theorem zEV{Q:X->Fr->Prop}{id:Nat}(h:z8A id Q (.x i) fr):z8A id Q (.x i) fr:=h
theorem zDy{Q:X->Fr->Prop}(h:wpC P C cf LF c fr Q):wpC P C cf LF c fr Q:=h
theorem zED{wio:FuncId->Nat->Bool}{M:List Nat}{ops:Array Oper}{l:List (Nat×Nat)}{Q:Fr->Prop}(h:z9a P C wio M ops l fr Q):z9a P C wio M ops l fr Q:=h
theorem zDK{l:List Oper}{Q:Fr->Prop}(h:∃fr2,z6P P l fr=some fr2/\Q fr2):∃fr2,z6P P l fr=some fr2/\Q fr2:=h
theorem tpN{Q:Fr->Prop}(e:t= .nil)(h:Q fr):z7a P C cf c i t fr Q:=by subst e;exact zfC h
theorem tpA{a b:SchT}{Q:Fr->Prop}(e:t= .alt a b)(h:z7a P C cf c i a fr (fun x=>z7a P C cf c i b fr (fun y=>zb3 x y)/\Q x)):z7a P C cf c i t fr Q:=by subst e;exact zfD h
theorem tpO{o:Oper}{Q:Fr->Prop}(e:t= .op k m rest)(ho:zhZ c k=some o)(hg:o.guard=none)(hs:z0v P C cf.wio (cf.wr i).isEmpty (cf.wr i).contains fr o m=some fr1)(h:z7a P C cf c i rest fr1 Q):z7a P C cf c i t fr Q:=by subst e;exact zds ho hg hs h
theorem tpT{o:Oper}{Q:Fr->Prop}(e:t= .op k m rest)(ho:zhZ c k=some o)(hg:zya c o=some g)(hv:zui g fr=some true)(hs:z0v P C cf.wio (cf.wr i).isEmpty (cf.wr i).contains fr o m=some fr1)(h:z7a P C cf c i rest fr1 Q):z7a P C cf c i t fr Q:=by subst e;exact zDI ho hg hv hs h
theorem tpF{o:Oper}{Q:Fr->Prop}(e:t= .op k m rest)(ho:zhZ c k=some o)(hg:zya c o=some g)(hv:zui g fr=some false)(hs:nrmO? (putF fr o.dst (.one (.k undef)))=some fr1)(h:z7a P C cf c i rest fr1 Q):z7a P C cf c i t fr Q:=by subst e;exact zDJ ho hg hv hs h
theorem zEF{Q:Fr->Prop}(h:z7a P C cf c i t fr Q):z7a P C cf c i t fr Q:=h
end
theorem zm2{G:Prop}(g:G:=by
 repeat' (first
  |with_reducible refine z0d ?_
  |with_reducible refine z7x ?_
  |with_reducible refine z5O ?_
  |with_reducible refine z4X ?_
  |((with_reducible refine zEV ?_);first|refine z3D rfl ?_|refine zgK rfl ?_)
  |with_reducible refine z7l ?_
  |(revert h;with_reducible refine zGQ fun h=> ?_)
  |(revert h;with_reducible refine zGR fun h=> ?_)
  |((with_reducible refine zGS h ?_);simp[*,zys,zAi,zAR,Hd.H];done)
  |(revert h;first
   |with_reducible refine zB0
   |with_reducible refine zB3 fun _ _ h=> ?_
   |with_reducible refine zB4 fun _ _ h=> ?_
   |with_reducible refine zE3 fun _ _ _ h=> ?_
   |with_reducible refine zF3 fun _ _ _ _ h=> ?_
   |with_reducible refine zE1 fun _ _ _ _ h=> ?_
   |with_reducible refine zAZ fun _ _ _ _ h=> ?_
   |with_reducible refine zE9 fun _ h=> ?_
   |with_reducible refine zz2 (by assumption) (by assumption) fun h=> ?_
   |with_reducible refine zB1 (by assumption) fun h=> ?_
   |with_reducible refine zGV (by assumption) fun h=> ?_
   |with_reducible refine zz0 (by assumption) fun h=> ?_
   |with_reducible refine zB7 fun _ _ _ _ k k1 h=> ?_
   |with_reducible refine zEb fun _ _ _ _ _ _ k k1 k2 h=> ?_
   |with_reducible refine zEa fun _ _ _ _ k k1 h=> ?_
   |with_reducible refine zEc fun _ _ _ _ k k1 h=> ?_
   |with_reducible refine p_0 fun _ _ _ _ _ h=> ?_
   |with_reducible refine zE4 fun _ _ _ _ _ h=> ?_
   |with_reducible refine zE2 fun _ _ _ _ _ h=> ?_
   |with_reducible refine zGU fun _ _ _ _ _ _ h=> ?_
   |with_reducible refine zB6 fun _ _ _ _ _ h=> ?_
   |((with_reducible refine zwl fun _ _ _ _ _ _ _ k k2 h=> ?_);try simp at k;try simp only[Int.reduceToNat,Z3,YJ] at k2)
   |((with_reducible refine zwk fun _ _ _ _ _ _ _ k k2 h=> ?_);try simp at k;try simp only[Int.reduceToNat,Z3,YJ] at k2)
   |((with_reducible refine zwj fun _ _ _ _ _ _ _ k h=> ?_);try simp only[Int.reduceToNat,Z3] at k)
   |((with_reducible refine zz1 (fun _ k h=> ?_) fun _ k h=> ?_)<;>(try simp at k))
   |((with_reducible refine zB5 fun _ _ k h=> ?_);try simp at k))
  |((with_reducible refine zDy ?_);first
   |refine zq rfl ?_
   |refine zb rfl ?_
   |refine zyU rfl ?_
   |refine z6v rfl ?_
   |refine zsC rfl ?_
   |refine z9C rfl ?_
   |refine za4 rfl ?_
   |refine zr rfl rfl rfl (by simp[*];with_reducible rfl) ?_
   |refine z6U rfl rfl rfl rfl ?_
   |refine zkV rfl rfl rfl rfl ?_
   |refine z7H rfl (by first|(simp[*];done)|fail) ?_
   |refine z9J rfl (by first|(simp[*];done)|fail) ?_
   |refine zsD rfl rfl (by simp[*];rfl) ?_
   |(refine zyV rfl rfl h (by simp[*];rfl) (by first|(simp[*,zys,zAi,zAR,Hd.H];done)|fail) ?_;clear h;(repeat' (first|refine zqf fun _=> ?_|refine zrS ?_ ?_|refine zsL ?_ ?_));all_goals (intro _ _ h;simp only[zys,zAi,zAR,Hd.H,Nat.reduceEqDiff,if_true,if_false])))
  |((with_reducible refine zED ?_);first
   |(refine z3T rfl rfl fun Q' hQ=> ?_;simp[*];refine hQ.out _ ?_;clear hQ;clear Q')
   |(refine z5C rfl rfl fun Q1 Q2 h1 h2=> ?_;simp[*,z7n];(first|refine h1.out ?_|refine h2.out ?_);clear h1 h2;clear Q1 Q2;intro Q' hQ;simp[*];refine hQ.out _ ?_;clear hQ;clear Q')
   |(refine z2Z rfl fun Q' hQ=> ?_;simp[*];refine hQ.out _ ?_;clear hQ;clear Q'))
  |((with_reducible refine zEF ?_);first
   |refine tpN rfl ?_
   |refine tpA rfl ?_
   |refine tpO rfl rfl rfl (by simp[*,z0v,z0y];rfl) ?_
   |refine tpT rfl rfl rfl (by first|(simp[*];done)|fail) (by simp[*,z0v,z0y];rfl) ?_
   |refine tpF rfl rfl rfl (by first|(simp[*];done)|fail) (by simp[*];rfl) ?_)
  |((with_reducible refine zDK ?_);refine zks rfl (by simp[*];rfl) ?_)
  |((with_reducible refine And.intro ?_ ?_);rotate_left)
  |((with_reducible refine zGO ?_);simp[*,zb3];done)
  |(revert h;with_reducible refine zB2 (fun _ _ _ h=> ?_) fun _ _ h=> ?_)
  |(revert h;first
   |with_reducible refine zE6 (fun _ h=> ?_) fun _ h=> ?_
   |with_reducible refine zE7 (fun _ h=> ?_) fun _ h=> ?_
   |with_reducible refine zE8 (fun _ _ h=> ?_) fun _ _ h=> ?_
   |with_reducible refine zE5 (fun _ _ _ h=> ?_) fun _ _ h=> ?_
   |with_reducible refine zGT (fun _ h=> ?_) fun _ h=> ?_
   |((with_reducible refine zAY fun h=> ?_);cases h;simp[*];done)))):G:=g
end
section
open Go
structure Tape where
 l:List Int
 at_:Int
deriving Inhabited
structure DFA where
 letters:Int
 start:Int
 final:List Bool
 next:List (List Int)
deriving Inhabited
structure Imgs where
 sets:List Int
 class_:List Int
 height:List Int
 tiles:List (List Int)
 words:List ByteArray
 back:List ByteArray
deriving Inhabited
structure Dgm where
 sets:List Int
 next:List (List Int)
 below:List (List Bool)
deriving Inhabited
structure Hol where
 set:Int
 tiles:List Int
 words:List ByteArray
 perms:List (List Int)
deriving Inhabited
instance:IsS Hol:=⟨⟩
end
section
open Go
abbrev tI(l:List Int):T:=.sl l.length (l.map fun x=>.sc (.int .i64 x))
abbrev tO(l:List Int):T:=.os 1 l.length (l.map fun x=>.sc (.int .i64 x))
abbrev tR(l:List (List Int)):T:=.sl l.length (l.map fun x=>.sl x.length (x.map fun y=>.sc (.int .i64 y)))
abbrev tB(l:List Bool):T:=.sl l.length (l.map fun x=>.sc (.bool x))
abbrev tS(l:List ByteArray):T:=.sl l.length (l.map fun x=>.sc (.string x))
abbrev md(a b:Int):Int:=IntKind.i64.wrap (z0w .u64 (IntKind.u64.wrap (IntKind.i64.wrap (a+b))) 1)
attribute [simp] tI tO tR tB tS
end
section
attribute [simp] undef scB ext z1P z3U Function.comp_def zih zm1 zep zlV nav sub upd z5o z7Y z2J z7P z2f zlw z6h zBs z6J zag zeh znk onA kill z5h zhU zdu setCells z9R zdH zzM z5Q zcH zcs zwE zbN zcW setT moveT moveR mvA zGo zqg zoc plugL' zqW zmO z6l zBg zBf zy3 zBC zBB nrmO? plugL putR zai explode cellsE z5V rdV scE zxk zoj zEf zxj zv7 zqL zqA zqE zqC zqB zqK zua zqz ziY zqJ zqD zqF zqG zqH zqI zq0 zpX zpY zpZ zq1 zwV zwW zx0 zx1 zyG zyH zyL zwZ zyK zwX zyI zwY zyJ zwi zof rdK zDX zu8 zCV zn3 zyM zwO zul zvY zvZ List.map_flatMap zog zl1 zp5 z1z zBA unS zEl zEm zgE opE zAo zjk zqt zqj zsy zGY zaQ zoB zvx zo3 zeM zDe zbi zu9 zxb zA6 za2 za8 zb4 z8D zes zvv zzh zBj z8m freezeKids zzL zhO zpf zDs zgZ zu4 za7 zer zb0 z6e z6d z7R zrV zhN zb3 zvb zju zF5 zAh zsJ zu5 zgP zjv zzJ zaX zjw zzx zwt zp6 zDo znr zCU opn zgV z6i znQ zA9 zvh zDt z4Z zh7 z9K zgv clB ioF zDV zD4 zcZ za3 putF opF zeX z6F zui zeo zb8 zbg onE ids zh4 zh3 z9D zqP z9d z6P z8Z z7u z6N z6H zAT zst zkD zb7 zed zBa zql zkZ ziX zsK zDh zB9 zlN zB8 zcS zoR zAX ziX zlQ zDc zDg zDb zDf zEE zaf z0y wrF zcu noM zDu frz1 zwR zzK zbO zAU ziQ ziK zbM ziI zuf zeE zAD zwD zld zwC zAl zeF zeC zeB zcz zeD zg7 ziP ziJ znb zuw zuj zsf zCO zuY zDr zuZ zlv zcA zbW zmV zlt zig zzO zuA Option.map_some zjh zuz
end
section
def Mo(C0 C1:z0e):Prop:=∀f a o,C0 f a=some o->C1 f a=some o
section
variable {P:Program} {C0 C1:z0e}
theorem zeU(hMo:Mo C0 C1){wio:FuncId->Nat->Bool}{fr fr':Fr}{f:FuncId}{args:List E}{dst:Option Nat}(h:zcZ C0 wio fr f args dst=some fr'):Ev fun m=>zcZ C1 wio fr f args dst=some fr':=by
 unfold zcZ at h⊢
 split at h
 · cases h
 · rename_i ts deps io ha
   split at h
   · cases h
   · rename_i r outs hc
     refine⟨0,fun m _=> ?_⟩
     show(match C1 f ts with|none=>none|some (r,outs)=>_)=_
     rw[hMo _ _ _ hc]
     exact h
theorem zsN(hMo:Mo C0 C1){wio:FuncId->Nat->Bool}{fr fr':Fr}{o:Oper}(h:opF P C0 wio fr o=some fr'):Ev fun m=>opF P C1 wio fr o=some fr':=by
 unfold opF at h⊢
 split at h
 · exact .pure fun _=>h
 · split at h
   · exact zeU hMo h
   · cases h
 · exact .pure fun _=>h
 · exact .pure fun _=>h
 · exact .pure fun _=>h
theorem zp4(hMo:Mo C0 C1){wio:FuncId->Nat->Bool}{fr fr':Fr}{o:Oper}(h:zb8 P C0 wio fr o=some fr'):Ev fun m=>zb8 P C1 wio fr o=some fr':=by
 unfold zb8 at h⊢
 split at h
 · split at h
   · split at h
     · exact zeU hMo h
     · cases h
   · cases h
 · exact .pure fun _=>h
theorem zxw(hMo:Mo C0 C1){wio:FuncId->Nat->Bool}{M:Nat->Bool}{fr fr':Fr}{o:Oper}(h:wrF P C0 wio M fr o=some fr'):Ev fun m=>wrF P C1 wio M fr o=some fr':=by
 unfold wrF at h⊢
 split at h
 · split at h
   · cases h
   · split at h
     · exact zeU hMo h
     · split at h
       · rename_i hM
         simp only[hM,if_true]
         exact zeU hMo h
       · cases h
     · cases h
 · exact .pure fun _=>h
 · exact .pure fun _=>h
 · exact .pure fun _=>h
 · cases h
theorem zmE(hMo:Mo C0 C1){wio:FuncId->Nat->Bool}{ops:Array Oper}:∀ {l:List Oper} {fr fr':Fr},zeo P C0 wio ops l fr=some fr'->Ev fun m=>zeo P C1 wio ops l fr=some fr'
 | [],fr,fr',h=>.pure fun _=>h
 |o::rest,fr,fr',h=>by
  simp only[zeo] at h⊢
  split at h
  · cases h
  · split at h
    · rename_i fr1 h1
      exact(zsN hMo h1).both (zmE hMo h) fun m a1 a2=>by rw[a1];exact a2
    · cases h
  · split at h
    · rename_i fr1 h1
      exact(zmE hMo h)
    · cases h
theorem zeP(hMo:Mo C0 C1){wio:FuncId->Nat->Bool}{same:Bool}{M:Nat->Bool}{ops:Array Oper}:∀ {l:List (Nat×Oper×Nat)} {fr fr':Fr},zaf P C0 wio same M ops l fr=some fr'->Ev fun m=>zaf P C1 wio same M ops l fr=some fr'
 | [],fr,fr',h=>.pure fun _=>h
 |(k,o,mk)::rest,fr,fr',h=>by
  simp only[zaf] at h⊢
  split at h
  · cases h
  · split at h
    · exact zeP hMo h
    · cases h
  · split at h
    · rename_i hm
      simp only[if_pos hm]
      split at h
      · split at h
        · exact zeP hMo h
        · cases h
      · cases h
    · rename_i hm
      simp only[if_neg hm]
      split at h
      · rename_i fr1 h1
        have h2:Ev fun m=>(if mk=2 then opF P C1 wio fr o else if same=true then zb8 P C1 wio fr o else wrF P C1 wio M fr o)=some fr1:=by
         by_cases e:mk=2
         · simp only[if_pos e] at h1⊢;exact zsN hMo h1
         · simp only[if_neg e] at h1⊢
           by_cases e2:same=true
           · simp only[if_pos e2] at h1⊢;exact zp4 hMo h1
           · simp only[if_neg e2] at h1⊢;exact zxw hMo h1
        exact h2.both (zeP hMo h) fun m a1 a2=>by rw[a1];exact a2
      · cases h
theorem zaV(hMo:Mo C0 C1){wio:FuncId->Nat->Bool}{same:Bool}{M:Nat->Bool}{ops:Array Oper}:∀ {l:SchT} {fr fr':Fr},z6I P C0 wio same M ops l fr=some fr'->Ev fun m=>z6I P C1 wio same M ops l fr=some fr'
 | .nil,fr,fr',h=>.pure fun _=>h
 | .alt x y,fr,fr',h=>by
   simp only[z6I] at h⊢
   split at h
   · rename_i f1 f2 h1 h2
     obtain⟨rfl,hs⟩:=zdD h
     exact(zaV hMo h1).both (zaV hMo h2) fun m a1 a2=>by rw[a1,a2];exact zez hs
   · cases h
 | .op k mk rest,fr,fr',h=>by
   simp only[z6I] at h⊢
   split at h
   · cases h
   rename_i o ho
   try simp only[ho]
   split at h
   · cases h
   · split at h
     · exact zaV hMo h
     · cases h
   · split at h
     · rename_i hm
       simp only[if_pos hm]
       split at h
       · split at h
         · exact zaV hMo h
         · cases h
       · cases h
     · rename_i hm
       simp only[if_neg hm]
       split at h
       · rename_i fr1 h1
         have h2:Ev fun m=>(if mk=2 then opF P C1 wio fr o else if same=true then zb8 P C1 wio fr o else wrF P C1 wio M fr o)=some fr1:=by
          by_cases e:mk=2
          · simp only[if_pos e] at h1⊢;exact zsN hMo h1
          · simp only[if_neg e] at h1⊢
            by_cases e2:same=true
            · simp only[if_pos e2] at h1⊢;exact zp4 hMo h1
            · simp only[if_neg e2] at h1⊢;exact zxw hMo h1
         exact h2.both (zaV hMo h) fun m a1 a2=>by rw[a1];exact a2
       · cases h
theorem zqZ(hMo:Mo C0 C1){c:Cfg}{id:Nat}{ops:Array Oper}{fr fr':Fr}(h:z8E P C0 c id ops fr=some fr'):Ev fun m=>z8E P C1 c id ops fr=some fr':=by
 unfold z8E at h⊢
 split at h
 · exact zaV hMo h
 · split at h
   · exact zeP hMo h
   · cases h
theorem zou(hMo:Mo C0 C1){B:z0e->Fr->Option (X×Fr)}{cn:Fr->Fr}(hB:∀fr o,B C0 fr=some o->Ev fun m=>B C1 fr=some o):∀ {n:Nat} {fr:Fr} {o:X×Fr},zcK (B C0) cn n fr=some o->Ev fun m=>zcK (B C1) cn n fr=some o
 |0,fr,o,h=>by cases h
 |n+1,fr,o,h=>by
  simp only[zcK] at h⊢
  split at h
  · rename_i fr1 h1
    exact(hB _ _ h1).both (zou hMo hB h) fun m a1 a2=>by rw[a1];exact a2
  · rename_i x fr1 hne h1
    refine(hB _ _ h1).imp fun m a1=> ?_
    rw[a1]
    cases x with
    |n=>exact absurd rfl hne
    |x i=>exact h
    |r=>exact h
  · cases h
theorem zeS(hMo:Mo C0 C1){c:Cfg}{LF:Nat}:∀(b:Code) {fr:Fr} {o:X×Fr},z2p P C0 c LF b fr=some o->Ev fun m=>z2p P C1 c LF b fr=some o:=by
 intro b
 induction b with
 |skip=>intro fr o h;exact .pure fun _=>h
 |label l=>intro fr o h;exact .pure fun _=>h
 |exit id=>intro fr o h;exact .pure fun _=>h
 |ret=>intro fr o h;exact .pure fun _=>h
 |goto l=>intro fr o h;cases h
 |scope c ih=>intro fr o h;simp only[z2p] at h⊢;exact ih h
 |refuse s=>intro fr o h;cases h
 |rangeFunc=>intro fr o h;cases h
 |region id ops draw=>
  intro fr o h
  simp only[z2p] at h⊢
  split at h
  · rename_i hd
    simp only[hd,if_true]
    split at h
    · rename_i fr1 h1
      exact(zqZ hMo h1).imp fun m a1=>by rw[a1];exact h
    · cases h
  · rename_i hd
    simp only[hd,ZR,if_false]
    split at h
    · rename_i fr1 h1
      exact(zmE hMo h1).imp fun m a1=>by rw[a1];exact h
    · cases h
 |seq a b ih1 ih2=>
  intro fr o h
  simp only[z2p] at h⊢
  split at h
  · rename_i fr1 h1
    exact(ih1 h1).both (ih2 h) fun m a1 a2=>by rw[a1];exact a2
  · rename_i hne
    refine(ih1 h).imp fun m a1=> ?_
    rw[a1]
    obtain⟨x,fr1⟩:=o
    cases x with
    |n=>exact absurd h (hne _)
    |x i=>rfl
    |r=>rfl
 |cond c x y ih1 ih2=>
  intro fr o h
  simp only[z2p] at h⊢
  split at h
  · exact ih1 h
  · exact ih2 h
  · cases h
 |block id c ih=>
  intro fr o h
  simp only[z2p] at h⊢
  split at h
  · rename_i i fr1 h1
    exact(ih h1).imp fun m a1=>by rw[a1];exact h
  · rename_i hne
    refine(ih h).imp fun m a1=> ?_
    rw[a1]
    obtain⟨x,fr1⟩:=o
    cases x with
    |n=>rfl
    |x i=>exact absurd h (hne _ _)
    |r=>rfl
 |loop b ih=>
  intro fr o h
  simp only[z2p] at h⊢
  exact zou hMo (B:=fun C fr=>z2p P C c LF b fr) (fun fr o h=>ih h) h
theorem zyP(hMo:Mo C0 C1){c:Cfg}{LF:Nat}{fn:Func}{args:List T}{o:T×List T}(h:zkL P C0 c LF fn args=some o):Ev fun m=>zkL P C1 c LF fn args=some o:=by
 unfold zkL at h⊢
 split at h
 · rename_i hc
   simp only[if_pos hc]
   split at h
   · cases h
   · rename_i b hb
     split at h
     · rename_i fr h1
       exact(zeS hMo _ h1).imp fun m a1=>by rw[a1];exact h
     · rename_i fr h1
       exact(zeS hMo _ h1).imp fun m a1=>by rw[a1];exact h
     · cases h
 · cases h
end
class XMo(X:z0e->z0e):Prop where
 mo:∀ {C D:z0e},Mo C D->Mo (X C) (X D)
instance{x:z0e}:XMo (fun _=>x):=⟨fun _=>fun _ _ _ h=>h⟩
theorem zzf{D:z0e}:Mo (fun _ _=>none) D:=fun _ _ _ h=>by cases h
theorem ziS{P:Program}{X:z0e->z0e}[hx:XMo X]{cf:FuncId->Option Cfg}:∀n,Mo (z4J P X cf n) (z4J P X cf (n+1))
 |0=>fun f a o h=>by
  simp only[z4J] at h⊢
  split at h
  · cases h
  · rename_i hc
    exact hx.mo zzf f a o h
 |n+1=>fun f a o h=>by
  simp only[z4J] at h
  split at h
  · rename_i c hc
    split at h
    · rename_i fn hfn
      obtain⟨k,hk⟩:=zyP (ziS n) h
      exact zlc hc hfn (hk k (Z5 _))
    · cases h
  · rename_i hc
    simp only[z4J,hc]
    exact hx.mo (ziS n) f a o h
theorem zBw{P:Program}{X:z0e->z0e}[XMo X]{cf:FuncId->Option Cfg}(n:Nat){f:FuncId}{a:List T}{o:T×List T}(h:z4J P X cf n f a=some o):Lim P X cf f a=some o:=by
 refine zos (d:=n) fun m hm=> ?_
 obtain⟨k,rfl⟩:=YO hm
 clear hm
 induction k with
 |zero=>exact h
 |succ k ih=>exact ziS (n+k) f a o ih
end
section
def No1(c:z0a):Prop:=c.head?≠some 1
theorem Keep.frz1{w w':World}{K K':Nat->z0a}(k:Keep w w' K K' No1)(dep:Option Nat):Keep w w' (frz K dep) (frz K' dep) No1:=by
 have hn:∀b id,b<w.heap.size->(K b).head?=some (id+2)->K' b=K b/\w'.heap[b]? =w.heap[b]? :=fun b id hb e=>k.own b hb (by unfold No1;rw[e];simp)
 refine⟨fun b hb e=> ?_,fun b hb e=> ?_,k.size⟩
 · cases dep with
   |none=>exact k.fro b hb e
   |some id=>
    simp only[frz] at e⊢
    by_cases h:(K b).head?=some (id+2)
    · obtain⟨e1,e2⟩:=hn b id hb h
      rw[e1,if_pos h];exact⟨rfl,e2⟩
    · rw[if_neg h] at e
      obtain⟨e1,e2⟩:=k.fro b hb e
      rw[e1];exact⟨by simp,e2⟩
 · cases dep with
   |none=>exact k.own b hb e
   |some id=>
    simp only[frz] at e⊢
    by_cases h:(K b).head?=some (id+2)
    · obtain⟨e1,e2⟩:=hn b id hb h
      rw[e1];exact⟨rfl,e2⟩
    · rw[if_neg h] at e
      obtain⟨e1,e2⟩:=k.own b hb e
      rw[e1];exact⟨rfl,e2⟩
theorem ARep.keep1{w w':World}{K K':Nat->z0a}{R:Nat->Value}{ob:List (Nat×T)}{x:A}{u:Value}(h:ARep w K R ob x u)
 (hob:∀id t,z2f ob id=some t->TRep w K (col id) (R id) t) (k:Keep w w' K K' No1):ARep w' K' R ob x u:=by
 have k1:∀id (r:z0a) gb,K gb=col id++r->gb<w.heap.size->w'.heap[gb]? =w.heap[gb]? :=fun id r gb e hb=>(k.own gb hb (by unfold No1;rw[e];simp[col])).2
 cases x with
 |dead=>trivial
 |k v=>exact h
 |t dep x=>exact⟨TRep.keep h.1 (k.frz1 dep) (fun _ hc=>absurd rfl hc),h.2⟩
 |h id p=>
  obtain⟨h1,t,h2,h3⟩:=h
  refine⟨?_,t,h2,h3⟩
  rw[z6x (hob id t h2) (z1D id) h3 (fun r j s gb _ e hb=>z0Y (k1 id r gb e hb) j)];exact h1
 |a id p off=>
  obtain⟨hv,g,h1,h4,h5,t,h2,h3⟩:=h
  refine⟨hv,g,?_,h4,h5,t,h2,h3⟩
  rw[z6x (hob id t h2) (z1D id) h3 (fun r j s gb _ e hb=>z0Y (k1 id r gb e hb) j)];exact h1
 |tf n cs=>exact⟨h.1,TRep.keep h.2 (k.frz1 none) (fun _ hc=>absurd rfl hc)⟩
 |ea dep cs off=>
  obtain⟨g,o,F,h1,h2,h3,h4,h5,h6⟩:=h
  obtain⟨e1,e2⟩:=(k.frz1 dep).fro g h3 h2
  exact⟨g,o,F,h1,e1,Zx h3 k.size,fun j hj=>by rw[z0Y e2];exact h4 j hj,fun j t ht=>(h5 j t ht).keep (k.frz1 dep) (fun _ hc=>absurd rfl hc),h6⟩
theorem FRep.keep1{w w':World}{K K':Nat->z0a}{R G:Nat->Value}{fr:Fr}{a:Act}(h:FRep w K R G fr a)(k:Keep w w' K K' No1):FRep w' K' R G fr a:=
 ⟨fun i=>(h.tm i).mono fun x u hx=>hx.keep1 h.ob k,fun id t ht=>(h.ob id t ht).keep k (fun s _=>by unfold No1;simp[col]),h.nt,h.df⟩
def itK(r:Nat)(K:Nat->z0a)(b:Nat):z0a:=if b=r then [1] else K b
theorem FRep.put1{w:World}{K:Nat->z0a}{R G:Nat->Value}{fr:Fr}{a:Act}(h:FRep w K R G fr a){d:Nat}{x:A}{v:Value}(hd:d<fr.nt)(hx:ARep w K R fr.ob x v):
 FRep w K R G {fr with tm:=z7P fr.tm d (.one x)} (a.put (some d) v):=h.put hd hx
theorem zwa{P:Program}{w:World}{K:Nat->z0a}{R G:Nat->Value}{fr:Fr}{a:Act}{o:Oper}{x:Operand}{d:Nat}{ty ke e:TypeId}{kk:Option IntKind}{ks:List Value}{cs:List T}{next:Act->World->Prop}{Q:Exit->Act->World->Prop}
 (h:FRep w K R G fr a) (hop:o.op= .range ty x) (hd:o.dst=some d) (hdn:d<fr.nt) (hx:opE fr x= .one (.t none (.ms kk ks cs))) (ht:P.underlying ty=some (.map ke e))
 (hn:∀(bm:Nat) (ents:Array MapEntry) (clock:Nat) (F:Nat->Value),w.heap[bm]? =some (.map ents clock)->K bm= []->MapTs kk ents clock ks cs.length F->(∀j t,cs[j]? =some t->TRep w K [] (F j) t)->
   FRep (w.alloc (.mapIter (some bm) clock #[] clock)) (itK w.heap.size K) R G {fr with tm:=z7P fr.tm d (.one (.k (.pointer (some ⟨w.heap.size,0,none⟩))))} (a.put (some d) (.pointer (some ⟨w.heap.size,0,none⟩)))->
   Step w K (w.alloc (.mapIter (some bm) clock #[] clock)) (itK w.heap.size K)->next (a.put (some d) (.pointer (some ⟨w.heap.size,0,none⟩))) (w.alloc (.mapIter (some bm) clock #[] clock))):o.wp P a w next Q:=by
 have hr:=h.opE x
 rw[hx] at hr
 obtain⟨hr,-⟩:=hr
 generalize hu:a.eval x=u at hr
 have hr':TRep w K [] u (.ms kk ks cs):=hr
 clear hr
 cases hr' with
 |ms c g kk ks cs ents clock F hK hg hh hc=>
  have hrun:=run_range_map (P:=P) w ty ke e g ents clock ht hg
  have hold:∀b,b<w.heap.size->(w.alloc (.mapIter (some g) clock #[] clock)).heap[b]? =w.heap[b]? :=fun b hb=>heap_alloc_old w _ hb
  have hsz:w.heap.size<=(w.alloc (.mapIter (some g) clock #[] clock)).heap.size:=by simp
  have hik:∀b,b<w.heap.size->itK w.heap.size K b=K b:=fun b hb=>by unfold itK;rw[if_neg (by omega)]
  have hk:Keep w (w.alloc (.mapIter (some g) clock #[] clock)) K (itK w.heap.size K) (fun _=>True):=⟨fun b hb e=>⟨by rw[hik b hb];exact e,hold b hb⟩,fun b hb _=>⟨hik b hb,hold b hb⟩,hsz⟩
  unfold Oper.wp
  have hrun2:(execOp a.eval o).run P w= .ok (.value (.pointer (some ⟨w.heap.size,0,none⟩))) (w.alloc (.mapIter (some g) clock #[] clock)):=by
   simp only[execOp,hop,hu,Zc,hrun,Z2,Zg]
  rw[hrun2]
  simp only[Oper.upon,hd]
  exact hn g ents clock F hg hK hh hc ((h.keep hk).put hdn rfl) ⟨rfl,rfl,rfl,hsz,fun b hb _=>⟨hik b hb,hold b hb⟩,.olds hold⟩
structure ItStep(r:Nat)(w w':World):Prop where
 os:w'.os=w.os
 tape:w'.tape=w.tape
 output:w'.output=w.output
 size:w'.heap.size=w.heap.size
 other:∀b,b≠r->w'.heap[b]? =w.heap[b]?
variable{a:Act}{next:Act->World->Prop}{es:Array MapEntry}{seen:Array Nat}{Q:Exit->Act->World->Prop}{fr:Fr}{vis:List Nat}{e:MapEntry}{r since:Nat}{G R:Nat->Value}{K:Nat->z0a}{o:Oper}{x:Operand}{P:Program}{w w':World}
theorem ItStep.later{w0:World}{K0:Nat->z0a}(h:ItStep r w w')(s:Step w0 K0 w K)(hr:w0.heap.size<=r):Step w0 K0 w' K:=
 ⟨h.os.trans s.os,h.tape.trans s.tape,h.output.trans s.output,by rw[h.size];exact s.size,fun b hb hc=>⟨(s.old b hb hc).1,(h.other b (by omega)).trans (s.old b hb hc).2⟩,
  fun b arr e fz hb=>by
   obtain⟨a1,e1,f1,h1,h2⟩:=s.sz b arr e fz hb
   exact⟨a1,e1,f1,by rw[h.other b (by have:=z0P hb;omega)];exact h1,h2⟩⟩
theorem FRep.itStep(h:FRep w K R G fr a)(hr:K r= [1])(s:ItStep r w w'):FRep w' K R G fr a:=
 h.keep1 ⟨fun b hb e=>⟨e,s.other b (by rintro rfl;rw[hr] at e;cases e)⟩,fun b hb e=>⟨rfl,s.other b (by rintro rfl;unfold No1 at e;rw[hr] at e;simp at e)⟩,by rw[s.size];exact Z5 _⟩
theorem zqx(w w1:World)(r:Nat)(o:Obj)(h:w1=w∨w1=w.drew)(hlt:r<w.heap.size):ItStep r w (ChangeMaps.setBlock w1 r o)/\(ChangeMaps.setBlock w1 r o).heap[r]? =some o:=by
 have e:w1.heap=w.heap:=by rcases h with rfl|rfl<;>rfl
 refine⟨⟨?_,?_,?_,?_,fun b hb=> ?_⟩,?_⟩
 · rcases h with rfl|rfl<;>rfl
 · rcases h with rfl|rfl<;>rfl
 · rcases h with rfl|rfl<;>rfl
 · simp[ChangeMaps.setBlock,e]
 · simp[ChangeMaps.setBlock,e,ZZ,Ne.symm hb]
 · simp[ChangeMaps.setBlock,e,hlt]
theorem zm8{vs:Array Value}{cs:List T}(hl:vs.size=cs.length)(h:∀j t,cs[j]? =some t->TRep w K [] (vs.getD j undef) t):TRep w K [] (.tuple vs) (.tup cs):=
 .tup [] vs cs (fun j=>vs.getD j undef) hl (fun j hj=>by simp[Z7,show j<vs.size by omega]) (fun j t ht=>by simpa[ext] using h j t ht)
theorem zzg{d bm:Nat}
 (h:FRep w K R G fr a) (hop:o.op= .next x false) (hd:o.dst=some d) (hdn:d<fr.nt) (hx:opE fr x= .one (.k (.pointer (some ⟨r,0,none⟩)))) (hK:K r= [1])
 (hr:w.heap[r]? =some (.mapIter (some bm) since seen since)) (hb:w.heap[bm]? =some (.map es since)) (hold:∀x∈es.toList,x.born<since)
 (h0:(leftOf es seen).size=0->FRep w K R G {fr with tm:=z7P fr.tm d (.one (.t none (.tup [.sc (.bool false)])))} (a.put (some d) (.tuple #[.bool false]))->next (a.put (some d) (.tuple #[.bool false])) w)
 (h1:∀e∈(leftOf es seen).toList,∀w',ItStep r w w'->w'.heap[r]? =some (.mapIter (some bm) since (seen.push e.born) since)->
   FRep w' K R G {fr with tm:=z7P fr.tm d (.one (.t none (.tup [.sc (.bool true),.dead,.dead])))} (a.put (some d) (.tuple #[.bool true,e.key,e.val]))->next (a.put (some d) (.tuple #[.bool true,e.key,e.val])) w'):o.wp P a w next Q:=by
 have hv:a.eval x= .pointer (some ⟨r,0,none⟩):=by
  have:=h.opE x
  rw[hx] at this
  exact this
 rcases run_next_at (P:=P) w o.type r bm since since seen es since hr hb hold (Z5 _) with⟨hz,hrun⟩|⟨e,he,w1,hw1,hrun⟩
 · unfold Oper.wp
   have hrun2:(execOp a.eval o).run P w= .ok (.value (.tuple #[.bool false])) w:=by
    simp only[execOp,hop,hv,Zc,hrun,Z2,Zg]
   rw[hrun2]
   simp only[Oper.upon,hd]
   refine h0 hz (h.put1 hdn ⟨?_,fun _ e=>by cases e⟩)
   refine zm8 rfl fun j t ht=> ?_
   match j,ht with
   |0,ht=>cases ht;exact .sc _ _ rfl
 · obtain⟨hs,hg⟩:=zqx w w1 r (.mapIter (some bm) since (seen.push e.born) since) hw1 (z0P hr)
   unfold Oper.wp
   have hrun2:(execOp a.eval o).run P w= .ok (.value (.tuple #[.bool true,e.key,e.val])) (ChangeMaps.setBlock w1 r (.mapIter (some bm) since (seen.push e.born) since)):=by
    simp only[execOp,hop,hv,Zc,hrun,Z2,Zg]
   rw[hrun2]
   simp only[Oper.upon,hd]
   refine h1 e he _ hs hg ((h.itStep hK hs).put1 hdn ⟨?_,fun _ e=>by cases e⟩)
   refine zm8 rfl fun j t ht=> ?_
   match j,ht with
   |0,ht=>cases ht;exact .sc _ _ rfl
   |1,ht=>cases ht;exact .dead _ _
   |2,ht=>cases ht;exact .dead _ _
theorem zx4{d bm:Nat}{tk t:T}
 (h:FRep w K R G fr a) (hop:o.op= .entry x) (hd:o.dst=some d) (hdn:d<fr.nt) (hx:opE fr x= .one (.k (.pointer (some ⟨r,0,none⟩))))
 (hr:w.heap[r]? =some (.mapIter (some bm) since (seen.push e.born) since)) (hb:w.heap[bm]? =some (.map es since)) (he:e∈es.toList) (hnd:(es.toList.map (·.born)).Nodup) (htk:TRep w K [] e.key tk) (ht:TRep w K [] e.val t)
 (hn:FRep w K R G {fr with tm:=z7P fr.tm d (.one (.t none (.tup [tk,t])))} (a.put (some d) (.tuple #[e.key,e.val]))->next (a.put (some d) (.tuple #[e.key,e.val])) w):o.wp P a w next Q:=by
 have hv:a.eval x= .pointer (some ⟨r,0,none⟩):=by
  have:=h.opE x
  rw[hx] at this
  exact this
 have hrun:=run_entry_at (P:=P) w r bm since seen es since e hr hb he hnd
 unfold Oper.wp
 have hrun2:(execOp a.eval o).run P w= .ok (.value (.tuple #[e.key,e.val])) w:=by
  simp only[execOp,hop,hv,Zc,hrun,Z2,Zg]
 rw[hrun2]
 simp only[Oper.upon,hd]
 refine hn (h.put1 hdn ⟨?_,fun _ e=>by cases e⟩)
 refine zm8 rfl fun j t' ht'=> ?_
 match j,ht' with
 |0,ht'=>cases ht';exact htk
 |1,ht'=>cases ht';exact ht
section
variable {kk:Option IntKind} {ents:Array MapEntry} {clock:Nat} {ks:List Value} {n:Nat} {F:Nat->Value}
theorem MapTs.size(h:MapTs kk ents clock ks n F):ents.size=n:=by
 obtain⟨h1,h2,_⟩:=h
 have:=congrArg List.length h1
 simpa[h2] using this
theorem MapTs.old(h:MapTs kk ents clock ks n F):∀x∈ents.toList,x.born<clock:=fun x hx=>by
 obtain⟨j,hj,e⟩:=Zt hx
 obtain⟨_,_,_,_,h5,_⟩:=h
 exact h5 j x (by rw[←Zv,Z1 hj,e])
theorem MapTs.nodup(h:MapTs kk ents clock ks n F):(ents.toList.map (·.born)).Nodup:=by
 obtain⟨_,_,_,_,_,h6⟩:=h
 rw[List.nodup_iff_pairwise_ne,ZK]
 intro i j hi hj hij e
 simp only[Zh] at hi hj
 simp only[ZG] at e
 have:=h6 i j _ _ (by rw[←Zv,Z1 hi]) (by rw[←Zv,Z1 hj]) e
 omega
def z9B(ents:Array MapEntry)(vis:List Nat):Array Nat:=(vis.map fun i=>(ents[i]?.map (·.born)).getD 0).toArray
theorem zms(vis:List Nat)(i:Nat)(he:ents[i]? =some e):(z9B ents vis).push e.born=z9B ents (vis++ [i]):=by
 simp[z9B,he]
theorem zwz(h:MapTs kk ents clock ks n F)(hv:∀i∈vis,i<n)(he:e∈(leftOf ents (z9B ents vis)).toList):∃i,i<n/\ents[i]? =some e/\i∉vis/\e.val=F i:=by
 have hm:e∈ents/\ ¬e.born∈z9B ents vis:=by
  simpa[leftOf] using he
 obtain⟨hm,hns⟩:=hm
 obtain⟨i,hi,rfl⟩:=Array.getElem_of_mem hm
 have hs:=h.size
 obtain⟨h1,h2,h3,h4,h5,h6⟩:=h
 refine⟨i,by omega,by simp[hi],fun hin=>hns ?_,h4 i _ (by simp[hi])⟩
 simp only[z9B,List.mem_toArray,Zm]
 exact⟨i,hin,by simp[hi]⟩
theorem ztY(h:MapTs kk ents clock ks n F)(hv:∀i∈vis,i<n)(hz:(leftOf ents (z9B ents vis)).size=0):∀i,i<n->i∈vis:=fun i hi=>by
 have hs:=h.size
 obtain⟨h1,h2,h3,h4,h5,h6⟩:=h
 have he:leftOf ents (z9B ents vis)= #[]:=Array.eq_empty_of_size_eq_zero hz
 rw[leftOf,Array.filter_eq_empty_iff] at he
 have:=he (ents[i]'(by omega)) (Array.getElem_mem _)
 simp only[Yb,Bool.not_eq_false',XC,Bool.not_eq_false] at this
 have hc:(ents[i]'(by omega)).born∈z9B ents vis:=by simpa using this
 simp only[z9B,List.mem_toArray,Zm] at hc
 obtain⟨j,hj,e⟩:=hc
 have hjn:=hv j hj
 have hje:ents[j]? =some (ents[j]'(by omega)):=by simp[show j<ents.size by omega]
 rw[hje] at e
 have hie:ents[i]? =some (ents[i]'(by omega)):=by simp[show i<ents.size by omega]
 have e':(ents[j]'(by omega)).born=(ents[i]'(by omega)).born:=by simpa using e
 have:=h6 j i _ _ hje hie e'
 rw[←this];exact hj
end
theorem zqi{n:Nat}(hn:vis.Nodup)(hv:∀i∈vis,i<n)(ha:∀i,i<n->i∈vis):vis.Perm (List.range n):=by
 refine(List.perm_ext_iff_of_nodup hn YP).2 fun i=> ?_
 rw[Zk]
 exact⟨hv i,ha i⟩
theorem zeg:∀ {n:Nat} {vis:List Nat},vis.Nodup->(∀i∈vis,i<n)->vis.length<=n
 |0,vis,hn,hv=>by
  cases vis with
  |nil=>simp
  |cons a l=>exact absurd (hv a (by simp)) (by omega)
 |n+1,vis,hn,hv=>by
  have h1:(vis.erase n).Nodup:=hn.erase n
  have h2:=zeg (n:=n) h1 fun i hi=>by
   have:=(hn.mem_erase_iff).1 hi
   have:=hv i this.2
   omega
  rw[List.length_erase] at h2
  split at h2<;>omega
theorem zjK{ops:Array Oper}{l:List Oper}(hg:o.guard=none)(h:∀Kk:Act->World->Prop,(∀a w,wpList P ops Q l a w->Kk a w)->o.wp P a w Kk Q):wpList P ops Q (o::l) a w:=by
 refine wpList_step fun Kk hK=> ?_
 simp only[Region.wanted,hg,if_true]
 exact h Kk hK
theorem zfK{C:z0e}{cf:Cfg}{LF:Nat}{x y:Code}{fr':Fr}(h:z2p P C cf LF (.seq x y) fr=some (.n,fr')):∃f1,z2p P C cf LF x fr=some (.n,f1)/\z2p P C cf LF y f1=some (.n,fr'):=by
 simp only[z2p] at h
 split at h
 · rename_i f1 h1
   exact⟨f1,h1,h⟩
 · rename_i hne
   exact absurd h (hne _)
end
section
open Go
def zeq:List T->Option (List Int)
 | []=>some []
 | .sc (.int .i64 x)::l=>(zeq l).map (x:: ·)
 |_=>none
theorem z8d:∀xs:List Int,zeq (xs.map fun x=>.sc (.int .i64 x))=some xs
 | []=>rfl
 |x::xs=>by simp[zeq,z8d xs]
theorem z8e:∀ {cs:List T} {xs:List Int},zeq cs=some xs->cs=xs.map fun x=>.sc (.int .i64 x)
 | [],xs,h=>by simp[zeq] at h;subst h;rfl
 |c::cs,xs,h=>by
  unfold zeq at h
  split at h
  · rename_i he;cases he
  · rename_i x l he
    cases he
    simp only[Z4] at h
    obtain⟨ys,hy,rfl⟩:=h
    simp[←z8e hy]
  · cases h
def szN(s:Nat):Nat:=(List.range 7).countP fun q=>s.testBit q
def zyj(p r:Nat):Bool:=decide (szN r<szN p)||(decide (szN p=szN r)&&decide (p<=r))
def leI(a b:Int):Bool:=zyj a.toNat b.toNat
def zwH(x:Int):List Int->List Int
 | []=> [x]
 |y::l=>if leI x y=true then x::y::l else y::zwH x l
def zcj:List Int->List Int
 | []=> []
 |x::l=>zwH x (zcj l)
def zm7(xs:List Int):Option (List Int):=if xs≠ []/\xs.length<4611686018427387904/\xs.all (fun x=>decide (0<=x/\x<128))=true then some (zcj xs) else none
def zvy(fn:FuncId)(args:List T):Option (T×List T):=match args with
 | [.os 1 n cs,.sc (.func (.func f) fs gs)]=>if f=fn/\fs.isEmpty/\gs.isEmpty then(match zeq cs with|some xs=>if xs.length=n then(zm7 xs).map fun ys=>(.tup [],[.os 1 ys.length (ys.map fun x=>.sc (.int .i64 x)),.dead]) else none|none=>none) else none
 |_=>none
def zen(x:List Int):T:=.sl x.length (x.map fun z=>.sc (.int .i64 z))
def zmC:List T->Option (List (List Int))
 | []=>some []
 | .sl n cs::l=>(match zeq cs with|some x=>if x.length=n then(zmC l).map (x:: ·) else none|none=>none)
 |_=>none
theorem zkM:∀xs:List (List Int),zmC (xs.map zen)=some xs
 | []=>rfl
 |x::xs=>by simp[zen,zmC,z8d,zkM xs]
theorem zkN:∀ {cs:List T} {xs:List (List Int)},zmC cs=some xs->cs=xs.map zen
 | [],xs,h=>by simp[zmC] at h;subst h;rfl
 |c::cs,xs,h=>by
  unfold zmC at h
  split at h
  · rename_i he;cases he
  · rename_i n es l he
    cases he
    split at h
    case h_2=>cases h
    rename_i x hx
    split at h
    case isFalse=>cases h
    rename_i hn
    simp only[Z4] at h
    obtain⟨ys,hy,rfl⟩:=h
    subst hn
    rw[z8e hx,zkN hy,Zs,zen]
  · cases h
def zzz(x:List Int):List (List Int)->List (List Int)
 | []=> [x]
 |y::l=>if z8F x y<=0 then x::y::l else y::zzz x l
def z8Q:List (List Int)->List (List Int)
 | []=> []
 |x::l=>zzz x (z8Q l)
def zjP(xs:List (List Int)):Option (List (List Int)):=if xs≠ []/\xs.length<4611686018427387904 then some (z8Q xs) else none
def zvz(fn:FuncId)(args:List T):Option (T×List T):=match args with
 | [.os 1 n cs,.sc (.func (.func f) fs gs)]=>if f=fn/\fs.isEmpty/\gs.isEmpty then(match zmC cs with|some xs=>if xs.length=n then(zjP xs).map fun ys=>(.tup [],[.os 1 ys.length (ys.map zen),.dead]) else none|none=>none) else none
 |_=>none
def zha(xs:List Int):Option (List Int):=if xs≠ []/\xs.length<4611686018427387904 then some (xs.mergeSort fun x y=>decide (x<=y)) else none
def znB(args:List T):Option (T×List T):=match args with
 | [.os 1 n cs]=>(match zeq cs with|some xs=>if xs.length=n then(zha xs).map fun ys=>(.tup [],[.os 1 ys.length (ys.map fun x=>.sc (.int .i64 x))]) else none|none=>none)
 |_=>none
def zba(xs:List Int):Option (List Int):=if xs.length*8<=140737488355328 then some xs else none
def znC(args:List T):Option (T×List T):=match args with
 | [.sl n cs]=>(match zeq cs with|some xs=>if xs.length=n then(zba xs).map fun ys=>(.os 1 ys.length (ys.map fun x=>.sc (.int .i64 x)),[.dead]) else none|none=>none)
 |_=>none
def tzN(s:Nat):Nat:=(List.range 7).findIdx fun q=>s.testBit q
def vTz(x:Int):Option Int:=if 0<x/\x<128 then some ((tzN x.toNat:Nat):Int) else none
def xTz(args:List T):Option (T×List T):=match args with
 | [.sc (.int .u64 x)]=>(vTz x).map fun r=>(.sc (.int .i64 r),[.dead])
 |_=>none
def xtC:z0e:=fun f args=>if f=43 then xTz args else if f=97 then zvy 98 args else if f=40 then zvz 41 args else if f=210 then znB args else if f=45 then znC args else none
def z4v(r:List Int×T):List T:= [zen r.1,r.2]
def zee:List T->Option (List (List Int×T))
 | []=>some []
 | .sl n cs:: .sl m ds::l=>(match zeq cs with|some x=>if x.length=n then(zee l).map ((x,.sl m ds):: ·) else none|none=>none)
 |_=>none
theorem zhX:∀ {cs:List T} {xs:List (List Int×T)},zee cs=some xs->cs=xs.flatMap z4v/\ ∀r∈xs,∃m ds,r.2= .sl m ds
 | [],xs,h=>by simp[zee] at h;subst h;exact⟨rfl,fun r hr=>by cases hr⟩
 | [c],xs,h=>by cases c<;>simp[zee] at h
 |c::d::l,xs,h=>by
  unfold zee at h
  split at h
  · rename_i he;cases he
  · rename_i n cs m ds l' he
    cases he
    split at h
    case h_2=>cases h
    rename_i x hx
    split at h
    case isFalse=>cases h
    rename_i hn
    rw[Z4] at h
    obtain⟨ys,hy,rfl⟩:=h
    obtain⟨e1,e2⟩:=zhX hy
    refine⟨?_,fun r hr=> ?_⟩
    · rw[Ya,←e1,z4v,zen,z8e hx];subst hn;simp
    · rcases Zu.1 hr with rfl|hr
      · exact⟨_,_,rfl⟩
      · exact e2 r hr
  · cases h
theorem zfZ:∀(xs:List (List Int×T)),(∀r∈xs,∃m ds,r.2= .sl m ds)->zee (xs.flatMap z4v)=some xs
 | [],_=>rfl
 |r::xs,h=>by
  obtain⟨p,t⟩:=r
  obtain⟨m,ds,e⟩:=h _ (Zy ..)
  simp only at e
  subst e
  rw[Ya]
  simp only[z4v,zen,ZU,Y4,zee,z8d,Zh,if_true]
  rw[zfZ xs fun r hr=>h r (Zl _ hr)];rfl
def zvq(x:List Int×T):List (List Int×T)->List (List Int×T)
 | []=> [x]
 |y::l=>if zah x.1 y.1<0 then x::y::l else y::zvq x l
def z4O:List (List Int×T)->List (List Int×T)
 | []=> []
 |x::l=>zvq x (z4O l)
def zjE(fn:FuncId)(args:List T):Option (T×List T):=match args with
 | [.os 2 n cs,.sc (.func (.func f) fs gs)]=>if f=fn/\fs.isEmpty/\gs.isEmpty then(match zee cs with|some xs=>if xs.length=n/\xs.length<4611686018427387904/\(xs.map (·.1)).Nodup then some (.tup [],[.os 2 (z4O xs).length ((z4O xs).flatMap z4v),.dead]) else none|none=>none) else none
 |_=>none
def zw6:T->Option (List Int×T)
 | .agg [.sl n l,.sl m ds]=>(match zeq l with|some p=>if p.length=n then some (p,.sl m ds) else none|none=>none)
 |_=>none
def zfQ:List T->Option (List (List Int×T))
 | []=>some []
 |t::l=>(match zw6 t,zfQ l with|some r,some rs=>some (r::rs)|_,_=>none)
theorem zss{t:T}{r:List Int×T}(h:zw6 t=some r):t= .agg (z4v r)/\ ∃m ds,r.2= .sl m ds:=by
 unfold zw6 at h
 split at h
 · split at h
   · rename_i p hp
     split at h
     · rename_i hn
       cases h
       subst hn
       exact⟨by rw[z8e hp];simp[z4v,zen],_,_,rfl⟩
     · cases h
   · cases h
 · cases h
theorem zhT:∀ {l:List T} {rs:List (List Int×T)},zfQ l=some rs->l=rs.map (fun r=>.agg (z4v r))/\ ∀r∈rs,∃m ds,r.2= .sl m ds
 | [],rs,h=>by simp[zfQ] at h;subst h;exact⟨rfl,fun r hr=>by cases hr⟩
 |t::l,rs,h=>by
  rw[zfQ] at h
  split at h
  · rename_i r rs' h1 h2
    cases h
    obtain⟨a1,a2⟩:=zss h1
    obtain⟨b1,b2⟩:=zhT h2
    refine⟨by rw[a1,b1];rfl,fun q hq=> ?_⟩
    rcases Zu.1 hq with rfl|hq
    · exact a2
    · exact b2 q hq
  · cases h
noncomputable def zwh(c:Code):Code:=.seq (zgU c) (.seq (zgU (zb2 c)) (.seq (zgU (zb2 (zb2 c))) (zgU (zb2 (zb2 (zb2 c))))))
noncomputable def zh6:Code:=match Tryz.f18.body with|some c=>c|none=>.skip
noncomputable def cfRw:Cfg:= {wio:=fun f i=>(f==46&&(i==0))||(f==999999&&(i==0))||(f==777781&&(i==8)),live:=fun r=>if r=3 then some [0,5,20,21,22] else if r=7 then some [0,5,7,8,20,21,22,27,28] else if r=16 then some [0,5,7,8,9,10,13,20,21,22,27,28,52,53,54] else if r=25 then some [16,77] else none,dr:=fun r=>if r=18 then some [(0,0),(1,0),(2,0),(3,0),(4,0),(5,0),(6,1),(7,2),(8,0),(9,2)] else none,fz:=fun r=>if r=20 then some [13] else if r=23 then some [5] else if r=999998 then some [] else none}
open Classical in
noncomputable def zjH(C:z0e)(args:List T):Option (T×List T):=
 match z2p Tryz.prog C cfRw LFm (zwh zh6) (z6H 89 args) with
 |some (.n,fr)=>(match z2J fr.tm 5,z2J fr.tm 16,z2f fr.ob 16 with
  | .one (.t none (.ms kk ks cs)),.one (.h 16 []),some (.os 2 0 [])=>(match zfQ cs with
    |some rs=>if(rs.map (·.1)).Nodup/\rs.length*48<=140737488355328/\args.length<=89/\args.all (fun t=> !z6i t)=true/\fr.nt=89/\(∀r∈rs,z1P r.2=r.2) then some (.sl (z4O rs).length ((z4O rs).flatMap z4v),args.map fun _=>.dead) else none
    |none=>none)
  |_,_,_=>none)
 |_=>none
def zzW:Nat->Code->Code
 |0,_=>.skip
 |k+1,c=>.seq (zgU c) (zzW k (zb2 c))
noncomputable def zbj:Code:=match Tryz.f200.body with|some c=>c|none=>.skip
noncomputable def zF8:Cfg:= {wio:=fun f i=>(f==999999&&(i==0)),live:=fun r=>if r=5 then some [0,1,5,6] else none,dr:=fun r=>none}
noncomputable def zD2(C:z0e)(args:List T):Option (T×List T):=match args with
 | [.os 3 n0 cs0,t]=>
   if z6i t=true then none else
   (match z2p Tryz.prog C zF8 LFm (zzW 4 zbj) (z6H 42 [.os 3 n0 cs0,t]) with
   |some (.r,fr)=>(match z2J fr.tm 4 with
    | .one (.h i [])=>(match z5Q fr i [] with
      |some fr'=>(zcS Tryz.prog Tryz.f200 [] fr').bind fun x=>some (x.1,[.dead,.dead])
      |none=>none)
    |_=>none)
   |some (.n,fr)=>(match z2J fr.tm 0,z2J fr.tm 5 with
    | .one (.h i []),.one (.t none (.sc (.int .i64 m)))=>(match z2f fr.ob i with
      |some (.os 3 n cs)=>if 0<=m/\m<n/\fr.nt=42 then some (.sl m.toNat ((cs.take (m.toNat*3)).map z1P),[.dead,.dead]) else none
      |_=>none)
    |_,_=>none)
   |_=>none)
 |_=>none
def zyk(args:List T):Option (T×List T):=match args with
 | [.agg [.sc (.string s)],.agg [.sc (.int .i64 x),.sc (.int .i64 y),.sl 0 []],.sl n [.sc (.int .u64 z)]]=>if s.data.toList= [97]/\x=3/\y=0/\n=1/\z=1 then some (.sl 2 [.sl 1 [.sc (.int .u64 2)],.sl 0 []],[.dead,.dead,.dead]) else none
 |_=>none
def lvl(op:Int):Nat:=if op=4 then 1 else if op=6 then 2 else if op=5 then 3 else if op=8 then 4 else if op=7 then 5 else 6
mutual
def zwS:Nat->List T->Option (List UInt8)
 |k+1,[.sc (.int .i64 op),.sc (.int .i64 l),.sl n cs]=>
  if op=1 then some [48] else if op=3 then(if 0<=l/\l<26 then some [UInt8.ofNat (97+l.toNat)] else none)
  else if op=5 then zvt k 4 n cs else if op=7 then(zvt k 5 n cs).map (·++ [42]) else none
 |_,_=>none
def zvt:Nat->Nat->Nat->List T->Option (List UInt8)
 |k+1,zb6,n+1,.sc (.int .i64 op)::b::c::l=>(match zwS k [.sc (.int .i64 op),b,c],zvt k zb6 n l with
  |some x,some y=>some ((if zb6<=lvl op then x else [40]++x++ [41])++y)
  |_,_=>none)
 |_,_,0,[]=>some []
 |_,_,_,_=>none
end
def zD1(C:z0e)(args:List T):Option (T×List T):=match args with
 | [.agg cs]=>(match C 74 [.agg cs],zwS 40 cs with
   |some (.sc (.bool true),_),some bs=>if bs.length<=1000 then some (.sc (.string ⟨bs.toArray⟩),[.dead]) else none
   |_,_=>none)
 |_=>none
noncomputable def xtF(C:z0e):z0e:=fun f args=>if f=46 then zjE 47 args else if f=18 then zjH C args
 else if f=200 then zD2 C args
 else if f=78 then zyk args
 else if f=109 then zD1 C args else xtC f args
instance:XMo xtF:=⟨fun {C D} h f a o=>by
 unfold xtF
 split
 · exact id
 split
 · unfold zjH
   intro h2
   split at h2
   · rename_i fr hf
     obtain⟨n,hn⟩:=zeS h _ hf
     rw[hn n (Z5 _)]
     exact h2
   · cases h2
 split
 · unfold zD2
   split
   case h_2=>exact id
   rename_i n0 cs0 t
   split
   · exact id
   intro h2
   split at h2
   case h_3=>cases h2
   all_goals
    rename_i hf
    obtain⟨n,hn⟩:=zeS h _ hf
    rw[hn n (Z5 _)]
    exact h2
 split
 · exact id
 split
 · unfold zD1
   intro h2
   split at h2
   case h_2=>cases h2
   split at h2
   case h_2=>cases h2
   rename_i hv hb
   simp only[h _ _ _ hv,hb]
   exact h2
 · exact id⟩
end
section
open Go
noncomputable def zH6:Array Field:=match Tryz.prog.underlying 26 with|some (.struct fs)=>fs|_=> #[]
theorem zb1{P:Program}{t:TypeId}{a:Array Field}{x y:Nat}{zs:List T}(h:z2w P t=some ⟨.struct a,x,y,some zs⟩)(hc:(zs.all zcW&&a.toList.all fun f=>(z2w P f.type).isSome)=true):ziu P t=some zs:=by
 unfold ziu
 rw[h]
 exact if_pos (by simpa using hc)
@[simp] theorem zGA:z2w Tryz.prog 26=some ⟨.struct zH6,4,64,(some [(.sc (.int .i64 0)),(.sc (.int .i64 0)),(.os 1 0 []),(.os 1 0 [])])⟩:=by kernel_rfl
@[simp] abbrev zGN:=zb1 zGA (by kernel_rfl)
@[simp] abbrev bs26:=z1s zGN
noncomputable def zH5:Array Field:=match Tryz.prog.underlying 30 with|some (.struct fs)=>fs|_=> #[]
@[simp] theorem zGz:z2w Tryz.prog 30=some ⟨.struct zH5,3,56,(some [(.sc (.int .i64 0)),(.os 1 0 []),(.os 2 0 [])])⟩:=by kernel_rfl
@[simp] abbrev zGM:=zb1 zGz (by kernel_rfl)
@[simp] abbrev bs30:=z1s zGM
noncomputable def zH4:Array Field:=match Tryz.prog.underlying 33 with|some (.struct fs)=>fs|_=> #[]
@[simp] theorem zGy:z2w Tryz.prog 33=some ⟨.struct zH4,7,152,(some [(.sc (.int .i64 0)),(.os 1 0 []),(.os 2 0 []),(.os 1 0 []),(.os 1 0 []),(.os 1 0 []),(.os 4 0 [])])⟩:=by kernel_rfl
@[simp] abbrev zGL:=zb1 zGy (by kernel_rfl)
@[simp] abbrev bs33:=z1s zGL
noncomputable def zH3:Array Field:=match Tryz.prog.underlying 41 with|some (.struct fs)=>fs|_=> #[]
@[simp] theorem zGx:z2w Tryz.prog 41=some ⟨.struct zH3,4,80,(some [(.sc (.int .i64 0)),(.os 1 0 []),(.os 1 0 []),(.os 1 0 [])])⟩:=by kernel_rfl
@[simp] abbrev zGK:=zb1 zGx (by kernel_rfl)
@[simp] abbrev bs41:=z1s zGK
noncomputable def zH2:Array Field:=match Tryz.prog.underlying 50 with|some (.struct fs)=>fs|_=> #[]
@[simp] theorem zGw:z2w Tryz.prog 50=some ⟨.struct zH2,6,144,(some [(.os 1 0 []),(.os 1 0 []),(.os 1 0 []),(.os 1 0 []),(.os 1 0 []),(.os 1 0 [])])⟩:=by kernel_rfl
@[simp] abbrev zGJ:=zb1 zGw (by kernel_rfl)
@[simp] abbrev bs50:=z1s zGJ
noncomputable def zH1:Array Field:=match Tryz.prog.underlying 52 with|some (.struct fs)=>fs|_=> #[]
@[simp] theorem zGv:z2w Tryz.prog 52=some ⟨.struct zH1,14,304,(some [(.sc (.int .i64 0)),(.sc (.int .i64 0)),(.os 1 0 []),(.os 1 0 []),(.os 1 0 []),(.os 1 0 []),(.os 1 0 []),(.os 1 0 []),(.os 1 0 []),(.os 1 0 []),(.os 1 0 []),(.os 1 0 []),(.os 1 0 []),(.os 1 0 [])])⟩:=by kernel_rfl
@[simp] abbrev zGI:=zb1 zGv (by kernel_rfl)
@[simp] abbrev bs52:=z1s zGI
noncomputable def zH0:Array Field:=match Tryz.prog.underlying 74 with|some (.struct fs)=>fs|_=> #[]
@[simp] theorem zGu:z2w Tryz.prog 74=some ⟨.struct zH0,3,40,(some [(.sc (.int .i64 0)),(.sc (.int .i64 0)),(.os 3 0 [])])⟩:=by kernel_rfl
@[simp] abbrev zGH:=zb1 zGu (by kernel_rfl)
@[simp] abbrev bs74:=z1s zGH
noncomputable def zGZ:Array Field:=match Tryz.prog.underlying 80 with|some (.struct fs)=>fs|_=> #[]
@[simp] theorem zGt:z2w Tryz.prog 80=some ⟨.struct zGZ,2,32,(some [(.os 1 0 []),(.sc (.int .i64 0))])⟩:=by kernel_rfl
@[simp] abbrev zGG:=zb1 zGt (by kernel_rfl)
@[simp] abbrev bs80:=z1s zGG
noncomputable def zEA:Array Field:=match Tryz.prog.underlying 101 with|some (.struct fs)=>fs|_=> #[]
@[simp] theorem zDH:z2w Tryz.prog 101=some ⟨.struct zEA,2,48,(some [(.os 1 0 []),(.os 1 0 [])])⟩:=by kernel_rfl
@[simp] abbrev zDT:=zb1 zDH (by kernel_rfl)
@[simp] abbrev bs101:=z1s zDT
noncomputable def zEz:Array Field:=match Tryz.prog.underlying 113 with|some (.struct fs)=>fs|_=> #[]
@[simp] theorem zDG:z2w Tryz.prog 113=some ⟨.struct zEz,3,72,(some [(.os 1 0 []),(.os 1 0 []),(.os 1 0 [])])⟩:=by kernel_rfl
@[simp] abbrev zDS:=zb1 zDG (by kernel_rfl)
@[simp] abbrev bs113:=z1s zDS
noncomputable def zEy:Array Field:=match Tryz.prog.underlying 134 with|some (.struct fs)=>fs|_=> #[]
@[simp] theorem zDF:z2w Tryz.prog 134=some ⟨.struct zEy,1,16,(some [(.sc (.string ByteArray.empty))])⟩:=by kernel_rfl
@[simp] abbrev zDR:=zb1 zDF (by kernel_rfl)
@[simp] abbrev bs134:=z1s zDR
noncomputable def zEx:Array Field:=match Tryz.prog.underlying 157 with|some (.struct fs)=>fs|_=> #[]
@[simp] theorem zDE:z2w Tryz.prog 157=some ⟨.struct zEx,4,64,(some [(.sc (.int .i64 0)),(.os 3 0 []),(.os 1 0 []),(.sc (.int .i64 0))])⟩:=by kernel_rfl
@[simp] abbrev zDQ:=zb1 zDE (by kernel_rfl)
@[simp] abbrev bs157:=z1s zDQ
noncomputable def zEw:Array Field:=match Tryz.prog.underlying 159 with|some (.struct fs)=>fs|_=> #[]
@[simp] theorem zDD:z2w Tryz.prog 159=some ⟨.struct zEw,5,72,(some [(.sc (.int .i64 0)),(.os 3 0 []),(.os 1 0 []),(.sc (.int .i64 0)),(.sc (.map none))])⟩:=by kernel_rfl
@[simp] abbrev zDP:=zb1 zDD (by kernel_rfl)
@[simp] abbrev bs159:=z1s zDP
noncomputable def zEv:Array Field:=match Tryz.prog.underlying 187 with|some (.struct fs)=>fs|_=> #[]
@[simp] theorem zDC:z2w Tryz.prog 187=some ⟨.struct zEv,7,88,(some [(.sc (.int .i64 0)),(.sc (.int .i64 0)),(.os 3 0 []),(.sc (.int .i64 0)),(.sc (.int .i64 0)),(.os 3 0 []),(.sc (.bool false))])⟩:=by kernel_rfl
@[simp] abbrev zDO:=zb1 zDC (by kernel_rfl)
@[simp] abbrev bs187:=z1s zDO
noncomputable def zEu:Array Field:=match Tryz.prog.underlying 189 with|some (.struct fs)=>fs|_=> #[]
@[simp] theorem zDB:z2w Tryz.prog 189=some ⟨.struct zEu,2,16,(some [(.sc (.int .i64 0)),(.sc (.bool false))])⟩:=by kernel_rfl
@[simp] abbrev zDN:=zb1 zDB (by kernel_rfl)
@[simp] abbrev bs189:=z1s zDN
noncomputable def zEt:Array Field:=match Tryz.prog.underlying 223 with|some (.struct fs)=>fs|_=> #[]
@[simp] theorem zDA:z2w Tryz.prog 223=some ⟨.struct zEt,2,32,(some [(.os 1 0 []),(.sc (.map none))])⟩:=by kernel_rfl
@[simp] abbrev zDM:=zb1 zDA (by kernel_rfl)
@[simp] abbrev bs223:=z1s zDM
@[simp] theorem tyAll:z2w Tryz.prog 3=some ⟨.int .i64,1,8,(some [(.sc (.int .i64 0))])⟩/\z2w Tryz.prog 4=some ⟨.bool,1,1,(some [(.sc (.bool false))])⟩/\z2w Tryz.prog 5=some ⟨.int .u8,1,1,(some [(.sc (.int .u8 0))])⟩/\z2w Tryz.prog 9=some ⟨.string,1,16,(some [(.sc (.string ByteArray.empty))])⟩/\z2w Tryz.prog 22=some ⟨.slice 3,1,24,(some [(.os 1 0 [])])⟩/\z2w Tryz.prog 23=some ⟨.slice 4,1,24,(some [(.os 1 0 [])])⟩/\z2w Tryz.prog 24=some ⟨.slice 22,1,24,(some [(.os 1 0 [])])⟩/\z1p Tryz.prog 26 0=some (0,1,false)/\z1p Tryz.prog 26 1=some (1,1,false)/\z1p Tryz.prog 26 2=some (2,1,false)/\z1p Tryz.prog 26 3=some (3,1,false)/\z2w Tryz.prog 28=some ⟨.slice 101,1,24,(some [(.os 2 0 [])])⟩/\z1p Tryz.prog 30 0=some (0,1,false)/\z1p Tryz.prog 30 1=some (1,1,false)/\z1p Tryz.prog 30 2=some (2,1,false)/\z2w Tryz.prog 31=some ⟨.slice 41,1,24,(some [(.os 4 0 [])])⟩/\z1p Tryz.prog 33 0=some (0,3,true)/\z1p Tryz.prog 33 1=some (3,1,false)/\z1p Tryz.prog 33 2=some (4,1,false)/\z1p Tryz.prog 33 3=some (5,1,false)/\z1p Tryz.prog 33 4=some (6,1,false)/\z2w Tryz.prog 34=some ⟨.int .i64,1,8,(some [(.sc (.int .i64 0))])⟩/\z2w Tryz.prog 39=some ⟨.slice 9,1,24,(some [(.os 1 0 [])])⟩/\z1p Tryz.prog 41 0=some (0,1,false)/\z1p Tryz.prog 41 1=some (1,1,false)/\z1p Tryz.prog 41 2=some (2,1,false)/\z1p Tryz.prog 41 3=some (3,1,false)/\z2w Tryz.prog 45=some ⟨.pointer 80,1,8,(some [(.sc (.pointer none))])⟩/\z1p Tryz.prog 50 0=some (0,1,false)/\z1p Tryz.prog 50 1=some (1,1,false)/\z1p Tryz.prog 50 2=some (2,1,false)/\z1p Tryz.prog 50 3=some (3,1,false)/\z1p Tryz.prog 50 4=some (4,1,false)/\z1p Tryz.prog 50 5=some (5,1,false)/\z1p Tryz.prog 52 0=some (0,4,true)/\z1p Tryz.prog 52 1=some (4,6,true)/\z1p Tryz.prog 52 2=some (10,1,false)/\z1p Tryz.prog 52 3=some (11,1,false)/\z1p Tryz.prog 52 4=some (12,1,false)/\z1p Tryz.prog 52 5=some (13,1,false)/\z2w Tryz.prog 65=some ⟨.map 3 3,1,8,(some [(.sc (.map none))])⟩/\zb5 Tryz.prog 65=some ((some .i64),3)/\zim Tryz.prog 3=some (.int .i64 0)/\z2w Tryz.prog 72=some ⟨.slice 74,1,24,(some [(.os 3 0 [])])⟩/\z1p Tryz.prog 74 0=some (0,1,false)/\z1p Tryz.prog 74 1=some (1,1,false)/\z1p Tryz.prog 74 2=some (2,1,false)/\z1p Tryz.prog 80 0=some (0,1,false)/\z1p Tryz.prog 80 1=some (1,1,false)/\z2w Tryz.prog 84=some ⟨.slice 5,1,24,(some [(.os 1 0 [])])⟩/\z2w Tryz.prog 89=some ⟨.pointer 52,1,8,(some [(.sc (.pointer none))])⟩/\z2w Tryz.prog 91=some ⟨.map 9 4,1,8,(some [(.sc (.map none))])⟩/\zb5 Tryz.prog 91=some (none,4)/\zim Tryz.prog 4=some (.bool false)/\z2w Tryz.prog 97=some ⟨.int .u64,1,8,(some [(.sc (.int .u64 0))])⟩/\z2w Tryz.prog 98=some ⟨.map 9 101,1,8,(some [(.sc (.map none))])⟩/\zb5 Tryz.prog 98=some (none,101)/\zim Tryz.prog 101=some (.agg #[.slice none 0 0,.slice none 0 0])/\z2w Tryz.prog 99=some ⟨.slice 24,1,24,(some [(.os 1 0 [])])⟩/\z1p Tryz.prog 101 0=some (0,1,false)/\z1p Tryz.prog 101 1=some (1,1,false)/\z2w Tryz.prog 111=some ⟨.slice 23,1,24,(some [(.os 1 0 [])])⟩/\z1p Tryz.prog 113 0=some (0,1,false)/\z1p Tryz.prog 113 1=some (1,1,false)/\z1p Tryz.prog 113 2=some (2,1,false)/\z2w Tryz.prog 124=some ⟨.pointer 159,1,8,(some [(.sc (.pointer none))])⟩/\z1p Tryz.prog 134 0=some (0,1,false)/\z2w Tryz.prog 136=some ⟨.slice 147,1,24,(some [(.os 1 0 [])])⟩/\z2w Tryz.prog 139=some ⟨.slice 136,1,24,(some [(.os 1 0 [])])⟩/\z2w Tryz.prog 145=some ⟨.int .u32,1,4,(some [(.sc (.int .u32 0))])⟩/\z2w Tryz.prog 147=some ⟨.int .u64,1,8,(some [(.sc (.int .u64 0))])⟩/\z2w Tryz.prog 155=some ⟨.map 9 3,1,8,(some [(.sc (.map none))])⟩/\zb5 Tryz.prog 155=some (none,3)/\zim Tryz.prog 3=some (.int .i64 0)/\z1p Tryz.prog 157 0=some (0,1,false)/\z1p Tryz.prog 157 1=some (1,1,false)/\z1p Tryz.prog 157 2=some (2,1,false)/\z1p Tryz.prog 157 3=some (3,1,false)/\z1p Tryz.prog 159 0=some (0,4,true)/\z1p Tryz.prog 159 1=some (4,1,false)/\z2w Tryz.prog 168=some ⟨.int .i64,1,8,(some [(.sc (.int .i64 0))])⟩/\z2w Tryz.prog 184=some ⟨.pointer 3,1,8,(some [(.sc (.pointer none))])⟩/\z1p Tryz.prog 187 0=some (0,3,true)/\z1p Tryz.prog 187 1=some (3,3,true)/\z1p Tryz.prog 187 2=some (6,1,false)/\z1p Tryz.prog 189 0=some (0,1,false)/\z1p Tryz.prog 189 1=some (1,1,false)/\z2w Tryz.prog 199=some ⟨.map 201 3,1,8,(some [(.sc (.map none))])⟩/\zb5 Tryz.prog 199=some ((some .i16),3)/\zim Tryz.prog 3=some (.int .i64 0)/\z2w Tryz.prog 201=some ⟨.array 7 3,7,56,(some [(.sc (.int .i64 0)),(.sc (.int .i64 0)),(.sc (.int .i64 0)),(.sc (.int .i64 0)),(.sc (.int .i64 0)),(.sc (.int .i64 0)),(.sc (.int .i64 0))])⟩/\z1p Tryz.prog 223 0=some (0,1,false)/\z1p Tryz.prog 223 1=some (1,1,false)/\z2w Tryz.prog 236=some ⟨.pointer 223,1,8,(some [(.sc (.pointer none))])⟩:=by
  and_intros<;>kernel_rfl
@[simp] def z2g:Nat->List Nat:=fun _=> []
@[simp] def z0g:FuncId->Nat->Bool:=fun f i=>(f==999999&&(i==0))
@[simp] def z0h:Nat->Option (List Nat):=fun r=>none
@[simp] def zjN:FuncId->Nat->Bool:=fun f i=>(f==28&&(i==0))||(f==999999&&(i==0))
@[simp] def zpq:FuncId->Nat->Bool:=fun f i=>(f==59&&(i==0))||(f==999999&&(i==0))
@[simp] def zi2:Nat->Option (List Nat):=fun r=>if r=2 then some [0,1,7,8] else none
@[simp] def zpp:FuncId->Nat->Bool:=fun f i=>(f==200&&(i==0))||(f==999999&&(i==0))
@[simp] def zvD:FuncId->Nat->Bool:=fun f i=>(f==40&&(i==0))||(f==999999&&(i==0))
@[simp] def zD3:Nat->List Nat:=fun r=>if r=7 then [0] else []
@[simp] def zor:Nat->Option (List Nat):=fun r=>if r=3 then some [3,9,10,11] else none
@[simp] def znE:FuncId->Nat->Bool:=fun f i=>(f==106&&(i==0))||(f==999999&&(i==0))
@[simp] def znD:FuncId->Nat->Bool:=fun f i=>(f==142&&(i==2))||(f==999999&&(i==0))
@[simp] def ziR:Nat->Option (List Nat):=fun r=>if r=1 then some [0,1,2,3,8] else if r=4 then some [0,1,2,3,8,9] else none
@[simp] def zxN:FuncId->Nat->Bool:=fun f i=>(f==999999&&(i==0))||(f==777777&&(i==5||i==6))
@[simp] def ztW:Nat->Option (List Nat):=fun r=>if r=7 then some [3,4,6,45,46,47] else none
@[simp] def zxM:FuncId->Nat->Bool:=fun f i=>(f==28&&(i==0))||(f==10&&(i==0))||(f==11&&(i==0))||(f==999999&&(i==0))
@[simp] def ztV:Nat->Option (List Nat):=fun r=>if r=10 then some [1,2,4,6,44,45,46] else if r=21 then some [1,2,4,6,11,12,70,71,72] else none
@[simp] def ztU:Nat->Option (List Nat):=fun r=>if r=6 then some [1,4,6,29,30,31] else if r=13 then some [1,4,6,10,11,48,49,50] else none
@[simp] def zxL:FuncId->Nat->Bool:=fun f i=>(f==28&&(i==0))||(f==32&&(i==0))||(f==29&&(i==0))||(f==30&&(i==0))||(f==31&&(i==0))||(f==999999&&(i==0))
@[simp] def zxK:FuncId->Nat->Bool:=fun f i=>(f==34&&(i==0))||(f==999999&&(i==0))||(f==777777&&(i==34))
@[simp] def ztT:Nat->Option (List Nat):=fun r=>if r=8 then some [1,2,4,6,7,8,40,41,42] else if r=15 then some [1,2,4,6,7,8,64,65,66] else if r=19 then some [1,2,4,6,7,8,11,12,13,64,65,66,75,76] else if r=26 then some [1,2,4,6,7,8,11,15,64,65,66,117,118,119] else none
@[simp] def ztS:Nat->Option (List Nat):=fun r=>if r=5 then some [0,5,6,7] else if r=8 then some [0,5,6,7,29,30] else none
@[simp] def ztR:Nat->Option (List Nat):=fun r=>if r=4 then some [0,3,4,5,26,27] else none
@[simp] def ztQ:Nat->Option (List Nat):=fun r=>if r=12 then some [2,5,7,8,9,10,53,54] else if r=19 then some [2,5,7,8,10,85,86,87] else if r=23 then some [2,5,7,8,10,14,17,85,86,87,99,100] else none
@[simp] def ztP:Nat->Option (List Nat):=fun r=>if r=3 then some [1,4,11,12,13] else if r=11 then some [1,4,7,36,37,38] else none
@[simp] def ztO:Nat->Option (List Nat):=fun r=>if r=4 then some [2,3,4,5,8,10,11,35,36,37] else if r=10 then some [2,4,5,8,10,11,14,53,54,55] else if r=13 then some [2,4,5,8,10,11,14,16,53,54,55,60,61] else none
@[simp] def zxJ:FuncId->Nat->Bool:=fun f i=>(f==70&&(i==0))||(f==69&&(i==0))||(f==999999&&(i==0))
@[simp] def zxI:FuncId->Nat->Bool:=fun f i=>(f==77&&(i==0))||(f==999999&&(i==0))
@[simp] def zxH:FuncId->Nat->Bool:=fun f i=>(f==32&&(i==0))||(f==999999&&(i==0))
@[simp] def ztN:Nat->Option (List Nat):=fun r=>if r=3 then some [6,7,17,18] else if r=6 then some [6,7,8,17,18,25,26,27] else none
@[simp] def ztM:Nat->Option (List Nat):=fun r=>if r=5 then some [0,1,6,7,8,9] else if r=9 then some [0,1,6,7,8,10] else if r=13 then some [0,1,6,7,8,10,11,12] else if r=17 then some [0,1,6,7,8,10,11,13] else none
@[simp] def ztL:Nat->Option (List Nat):=fun r=>if r=4 then some [0,1,4,5,6,22,23,24] else if r=9 then some [0,1,4,5,6,8,9,10,22,23,24] else if r=13 then some [0,1,4,5,6,8,9,10,11,12,22,23,24] else if r=15 then some [0,1,4,5,6,8,9,10,11,12,22,23,24,50,51,52] else none
@[simp] def ztK:Nat->Option (List Nat):=fun r=>if r=5 then some [0,1,6,7,8,9] else if r=10 then some [0,1,6,7,8,9,10,11] else none
@[simp] def ztJ:Nat->Option (List Nat):=fun r=>if r=2 then some [1,2,3,12,13] else if r=6 then some [1,2,3,7,8,12,13,17,18,19] else none
@[simp] def ztI:Nat->Option (List Nat):=fun r=>if r=3 then some [2,3,4,11,12,13] else if r=10 then some [2,3,4,35,36,37] else if r=15 then some [2,4,67,68,69] else none
@[simp] def ztH:Nat->Option (List Nat):=fun r=>if r=2 then some [1,10,11,12] else if r=8 then some [1,7,10,11,12,22,23,24] else none
@[simp] def ztG:Nat->Option (List Nat):=fun r=>if r=11 then some [6,7,8,35,36,37] else if r=16 then some [6,7,8,11,35,36,37] else if r=19 then some [6,7,8,11,35,36,37,55,56,57] else none
@[simp] def ztF:Nat->Option (List Nat):=fun r=>if r=5 then some [0,2,8,9,10,11,20,21,22] else none
@[simp] def ztE:Nat->Option (List Nat):=fun r=>if r=2 then some [0,1,9,10,11] else none
@[simp] def ztD:Nat->Option (List Nat):=fun r=>if r=4 then some [0,5,6,10,11,12] else none
@[simp] def ztC:Nat->Option (List Nat):=fun r=>if r=3 then some [0,1,5,14,15] else none
@[simp] def zxG:FuncId->Nat->Bool:=fun f i=>(f==97&&(i==0))||(f==999999&&(i==0))
@[simp] def ztB:Nat->Option (List Nat):=fun r=>if r=3 then some [1,2,4,5,24,25,26] else if r=9 then some [1,2,4,5,8,44,45,46] else if r=13 then some [1,2,4,5,8,9,10,44,45,46,59,60] else if r=20 then some [1,4,8,87,88] else if r=24 then some [1,4,8,12,13,87,88,97,98,99] else if r=27 then some [1,4,8,12,13,15,16,87,88,97,98,99,104,105,106] else none
@[simp] def ztA:Nat->Option (List Nat):=fun r=>if r=4 then some [1,4,5,15,16] else if r=8 then some [1,4,5,6,15,16,24,25,26] else none
@[simp] def ztz:Nat->Option (List Nat):=fun r=>if r=4 then some [1,2,5,6,23,24] else if r=8 then some [1,2,5,6,7,23,24,33,34] else if r=17 then some [1,2,9,60,61,62] else if r=21 then some [1,2,9,11,60,61,62,75,76] else none
@[simp] def zty:Nat->Option (List Nat):=fun r=>if r=5 then some [1,2,5,21,22,23] else if r=12 then some [2,5,8,45,46,47] else if r=15 then some [2,5,8,10,45,46,47,51,52,53] else none
@[simp] def ztx:Nat->Option (List Nat):=fun r=>if r=6 then some [2,6,7,8,9] else if r=9 then some [2,6,7,8,9,38,39,40] else none
@[simp] def zxF:FuncId->Nat->Bool:=fun f i=>(f==103&&(i==0))||(f==999999&&(i==0))
@[simp] def ztw:Nat->Option (List Nat):=fun r=>if r=3 then some [1,5,8,9,10] else none
@[simp] def ztv:Nat->Option (List Nat):=fun r=>if r=3 then some [1,2,5,15,16] else if r=8 then some [1,2,5,25,26] else if r=11 then some [1,2,5,7,25,26,29,30,31] else none
@[simp] def ztu:Nat->Option (List Nat):=fun r=>if r=3 then some [0,1,5,14,15,16] else if r=9 then some [0,5,8,28,29,30] else none
@[simp] def ztt:Nat->Option (List Nat):=fun r=>if r=3 then some [3,10,11,12] else none
@[simp] def zts:Nat->Option (List Nat):=fun r=>if r=3 then some [2,3,21,22,23] else none
@[simp] def ztr:Nat->Option (List Nat):=fun r=>if r=9 then some [1,3,38,39,40] else if r=14 then some [1,3,38,39,40,49,50,51] else none
@[simp] def ztq:Nat->Option (List Nat):=fun r=>if r=5 then some [1,2,4,5,6,7,28,29,30] else if r=10 then some [1,2,4,5,6,7,8,10,28,29,30,47,48,49] else if r=20 then some [2,6,13,14,15,87,88,89] else none
@[simp] def ztp:Nat->Option (List Nat):=fun r=>if r=3 then some [0,1,5,6] else if r=6 then some [0,1,5,6,7] else none
@[simp] def zto:Nat->Option (List Nat):=fun r=>if r=3 then some [1,5,11,12,13] else none
@[simp] def ztn:Nat->Option (List Nat):=fun r=>if r=4 then some [11,14,38,39] else if r=11 then some [0,3,4,11,87,88,89] else none
@[simp] def ztm:Nat->Option (List Nat):=fun r=>if r=5 then some [2,6,7,8,9] else if r=8 then some [2,6,7,8,9,30,31] else none
@[simp] def ztl:Nat->Option (List Nat):=fun r=>if r=3 then some [1,2,7,11,12,13] else none
@[simp] def zxE:FuncId->Nat->Bool:=fun f i=>(f==140&&(i==0))||(f==141&&(i==0))||(f==999999&&(i==0))
@[simp] def ztk:Nat->Option (List Nat):=fun r=>if r=2 then some [0,1,2,6,7,8] else if r=7 then some [0,1,2,6] else if r=9 then some [0,1,2,6,7,8] else none
@[simp] def ztj:Nat->Option (List Nat):=fun r=>if r=20 then some [1,53,54,55] else none
@[simp] def zti:Nat->Option (List Nat):=fun r=>if r=5 then some [1,2,3,20,21,22] else none
@[simp] def zth:Nat->Option (List Nat):=fun r=>if r=6 then some [2,4,5,7,31,32] else if r=11 then some [2,4,7,39,40,41] else none
@[simp] def ztg:Nat->Option (List Nat):=fun r=>if r=5 then some [1,3,4,24,25,26] else if r=10 then some [1,3,4] else if r=13 then some [1,3,4,7,8,46,47,48] else if r=17 then some [1,3,4,7,8,9,11,46,47,48,58,59,60] else none
@[simp] def zxD:FuncId->Nat->Bool:=fun f i=>(f==180&&(i==0))||(f==141&&(i==0))||(f==999999&&(i==0))
@[simp] def ztf:Nat->Option (List Nat):=fun r=>if r=3 then some [0,1,4,10,11] else if r=9 then some [0,10,13] else if r=15 then some [0,2,4,14,15] else if r=21 then some [0,14,17] else if r=33 then some [0,1,2,3,4,18,19,20,21,22] else none
@[simp] def zte:Nat->Option (List Nat):=fun r=>if r=5 then some [1,2,23,24,25] else none
@[simp] def zxC:FuncId->Nat->Bool:=fun f i=>(f==190&&(i==0))||(f==999999&&(i==0))
@[simp] def ztd:Nat->Option (List Nat):=fun r=>if r=5 then some [0,2,3,8,11,12,13] else if r=10 then some [0,2,3,8,11,12,13,14,15,36,37] else none
@[simp] def ztc:Nat->Option (List Nat):=fun r=>if r=4 then some [0,13,14,15] else none
@[simp] def zxB:FuncId->Nat->Bool:=fun f i=>(f==198&&(i==0))||(f==999999&&(i==0))
@[simp] def ztb:Nat->Option (List Nat):=fun r=>if r=2 then some [0,2,4,10,11] else none
@[simp] def zta:Nat->Option (List Nat):=fun r=>if r=4 then some [2,3,4,5,6,7,21,22,23] else none
@[simp] def zt9:Nat->Option (List Nat):=fun r=>if r=5 then some [2,4,5,6,7,20,21,22] else if r=14 then some [4,6,7,11,54,55,56] else none
@[simp] def zxA:FuncId->Nat->Bool:=fun f i=>(f==210&&(i==0))||(f==999999&&(i==0))||(f==777777&&(i==211))
@[simp] def zt8:Nat->Option (List Nat):=fun r=>if r=1 then some [0,1,2,3,10] else none
@[simp] def zt7:Nat->Option (List Nat):=fun r=>if r=3 then some [0,5,8,9,10] else none
@[simp] def zxz:FuncId->Nat->Bool:=fun f i=>(f==213&&(i==0))||(f==999999&&(i==0))
@[simp] def zt6:Nat->Option (List Nat):=fun r=>if r=4 then some [0,3] else if r=9 then some [0,3,4,5] else none
@[simp] def zxy:FuncId->Nat->Bool:=fun f i=>(f==219&&(i==0))||(f==999999&&(i==0))
@[simp] def zt5:Nat->Option (List Nat):=fun r=>if r=4 then some [0,1,5] else if r=9 then some [0,1,5,6,7] else none
@[simp] def zxx:FuncId->Nat->Bool:=fun f i=>(f==230&&(i==0))||(f==999999&&(i==0))
@[simp] def zt4:Nat->Option (List Nat):=fun r=>if r=2 then some [0,1,2,3,4,10,11] else none
@[simp] def zt3:Nat->Option (List Nat):=fun r=>if r=2 then some [0,1,2,11,12,13] else none
abbrev KX(c:Cfg)(w:FuncId->Nat->Bool)(l:Nat->Option (List Nat))(r:Nat->List Nat):Prop:=c.wio=w/\c.live=l/\c.wr=r
def C0(w:FuncId->Nat->Bool)(l:Nat->Option (List Nat)):Cfg:= {wio:=w,live:=l,dr:=fun r=>none}
def cf3:Cfg:= {wio:=zxN,live:=ztW,dr:=fun r=>if r=9 then some [(0,0),(1,0),(2,0),(3,0),(4,0),(5,0),(6,0),(7,0),(8,0),(9,0),(10,0),(11,0),(12,0),(13,0),(14,0),(15,0),(16,0),(17,0),(18,0),(19,0),(20,0),(21,0),(22,0),(23,0),(24,0),(25,1),(26,0),(27,0),(28,0),(29,0),(30,0),(31,0),(32,0),(33,0),(34,0),(35,0),(36,0),(37,0),(38,0)] else none}
def cf4:Cfg:= {wio:=zxM,live:=z0h,dr:=fun r=>none,fz:=fun r=>if r=999998 then some [] else none}
def cf5:Cfg:= {wio:=z0g,live:=ztV,dr:=fun r=>if r=26 then some [(0,0),(2,0),(3,0),(4,0),(1,1),(5,0),(6,2),(7,0)] else none,fz:=fun r=>if r=7 then some [6] else if r=999998 then some [] else none,dt:=fun r=>if r=25 then some (.op 0 0 (.op 1 0 (.op 2 0 (.op 3 0 (.op 4 0 (.alt (.op 5 1 (.op 6 0 (.op 7 1 (.op 8 2 .nil)))) (.op 7 1 (.op 5 1 (.op 6 0 (.op 8 2 .nil)))))))))) else none}
def cf6:Cfg:= {wio:=z0g,live:=ztU,dr:=fun r=>none,fz:=fun r=>if r=11 then some [6] else if r=999998 then some [] else none,dt:=fun r=>if r=15 then some (.op 0 0 (.op 1 0 (.op 2 0 (.op 3 0 (.op 4 0 (.op 5 0 (.op 6 0 (.alt (.op 7 1 (.op 8 0 (.op 9 0 (.op 10 3 (.op 11 1 (.op 12 2 (.op 13 0 .nil))))))) (.op 11 1 (.op 7 1 (.op 8 0 (.op 9 0 (.op 10 3 (.op 12 2 (.op 13 0 .nil))))))))))))))) else none}
def cf7:Cfg:= {wio:=z0g,live:=fun r=>if r=4 then some [0,1,12,13] else none,dr:=fun r=>if r=6 then some [(0,0),(1,0),(2,0),(3,0),(4,0),(5,0),(6,0),(7,0),(8,0)] else none}
def cf8:Cfg:=C0 z0g z0h
def cf9:Cfg:=C0 z0g z0h
def zGm:Cfg:= {wio:=zxL,live:=z0h,dr:=fun r=>none,fz:=fun r=>if r=999998 then some [] else none}
def zGl:Cfg:=C0 zjN z0h
def zGk:Cfg:= {wio:=zxK,live:=ztT,dr:=fun r=>if r=25 then some [(0,0),(1,0),(2,0),(3,0),(4,0),(5,0),(6,0),(7,0),(8,0),(9,0),(10,0),(11,0),(12,0),(13,0)] else if r=28 then some [(0,0),(1,0),(2,0),(3,0),(4,0),(5,0),(6,0),(7,0),(8,0),(9,0),(10,0),(11,0),(12,0),(13,0),(14,1),(15,0),(16,0),(17,2)] else none,fz:=fun r=>if r=999998 then some [] else none,dt:=fun r=>if r=4 then some (.op 0 0 (.op 1 0 (.op 2 0 (.op 3 0 (.op 4 0 (.alt (.op 5 1 (.op 6 0 (.op 7 1 (.op 8 2 .nil)))) (.op 7 1 (.op 5 1 (.op 6 0 (.op 8 2 .nil)))))))))) else none}
def zGj:Cfg:=C0 z0g z0h
def zGi:Cfg:=C0 z0g z0h
def zGh:Cfg:= {wio:=z0g,live:=fun r=>if r=6 then some [1,5,26,27] else none,dr:=fun r=>none,fz:=fun r=>if r=999998 then some [] else none}
def zGg:Cfg:= {wio:=zvD,live:=ztS,dr:=fun r=>none,fz:=fun r=>if r=2 then some [4] else if r=11 then some [9] else if r=999998 then some [] else none}
def zGf:Cfg:= {wio:=z0g,live:=z0h,dr:=fun r=>if r=2 then some [(0,0),(1,0),(2,0),(3,0),(4,0),(5,0),(6,0),(7,0),(8,0),(9,0),(10,0),(11,0),(12,0),(13,0),(14,1),(15,0)] else none}
def zGe:Cfg:= {wio:=z0g,live:=ztR,dr:=fun r=>if r=2 then some [(0,0),(1,0),(2,0),(3,0),(4,0),(5,0),(6,0),(7,0),(8,0),(9,0),(10,0),(11,1),(12,0),(13,0)] else if r=8 then some [(0,0),(1,0),(2,0),(3,0),(4,0),(5,0),(6,0),(7,0),(8,0),(9,0),(10,0),(11,0),(12,0),(13,0)] else none}
def zhw:SchT:=.nil
def zdh:SchT:=.op 13 2 zhw
def z8H:SchT:=.op 11 0 zdh
def zhx:SchT:=.op 12 1 zdh
def z8I:SchT:=.op 4 1 z8H
def z8J:SchT:=.op 6 1 z8H
def z8K:SchT:=.op 8 1 z8H
def z8L:SchT:=.op 10 1 z8H
def z8M:SchT:=.op 11 0 zhx
def zat:SchT:=.alt (.op 4 1 z8J) (.op 6 1 z8I)
def zau:SchT:=.alt (.op 4 1 z8K) (.op 8 1 z8I)
def zav:SchT:=.alt (.op 4 1 z8L) (.op 10 1 z8I)
def zaw:SchT:=.alt (.op 4 1 z8M) (.op 12 1 z8I)
def zax:SchT:=.alt (.op 6 1 z8K) (.op 8 1 z8J)
def zay:SchT:=.alt (.op 6 1 z8L) (.op 10 1 z8J)
def zaz:SchT:=.alt (.op 6 1 z8M) (.op 12 1 z8J)
def zaA:SchT:=.alt (.op 8 1 z8L) (.op 10 1 z8K)
def zaB:SchT:=.alt (.op 8 1 z8M) (.op 12 1 z8K)
def zaC:SchT:=.alt (.op 10 1 z8M) (.op 12 1 z8L)
def zdi:SchT:=.alt (.op 4 1 zax) (.alt (.op 6 1 zau) (.op 8 1 zat))
def zdj:SchT:=.alt (.op 4 1 zay) (.alt (.op 6 1 zav) (.op 10 1 zat))
def zdk:SchT:=.alt (.op 4 1 zaz) (.alt (.op 6 1 zaw) (.op 12 1 zat))
def zdl:SchT:=.alt (.op 4 1 zaA) (.alt (.op 8 1 zav) (.op 10 1 zau))
def zdm:SchT:=.alt (.op 4 1 zaB) (.alt (.op 8 1 zaw) (.op 12 1 zau))
def zdn:SchT:=.alt (.op 4 1 zaC) (.alt (.op 10 1 zaw) (.op 12 1 zav))
def zdo:SchT:=.alt (.op 6 1 zaA) (.alt (.op 8 1 zay) (.op 10 1 zax))
def zdp:SchT:=.alt (.op 6 1 zaB) (.alt (.op 8 1 zaz) (.op 12 1 zax))
def zdq:SchT:=.alt (.op 6 1 zaC) (.alt (.op 10 1 zaz) (.op 12 1 zay))
def zdr:SchT:=.alt (.op 8 1 zaC) (.alt (.op 10 1 zaB) (.op 12 1 zaA))
def zhy:SchT:=.alt (.op 4 1 zdo) (.alt (.op 6 1 zdl) (.alt (.op 8 1 zdj) (.op 10 1 zdi)))
def zhz:SchT:=.alt (.op 4 1 zdp) (.alt (.op 6 1 zdm) (.alt (.op 8 1 zdk) (.op 12 1 zdi)))
def zhA:SchT:=.alt (.op 4 1 zdq) (.alt (.op 6 1 zdn) (.alt (.op 10 1 zdk) (.op 12 1 zdj)))
def zk9:SchT:=.alt (.op 4 1 zdr) (.alt (.op 8 1 zdn) (.alt (.op 10 1 zdm) (.op 12 1 zdl)))
def zka:SchT:=.alt (.op 6 1 zdr) (.alt (.op 8 1 zdq) (.alt (.op 10 1 zdp) (.op 12 1 zdo)))
def zkb:SchT:=.alt (.op 4 1 zka) (.alt (.op 6 1 zk9) (.alt (.op 8 1 zhA) (.alt (.op 10 1 zhz) (.op 12 1 zhy))))
def zkc:SchT:=.op 9 0 zkb
def zkd:SchT:=.op 7 0 zkc
def zke:SchT:=.op 5 0 zkd
def zkf:SchT:=.op 3 0 zke
def zkg:SchT:=.op 2 0 zkf
def zkh:SchT:=.op 1 0 zkg
def zki:SchT:=.op 0 0 zkh
def zET:Cfg:= {wio:=z0g,live:=ztQ,dr:=fun r=>if r=14 then some [(0,0),(1,0),(2,0),(3,0),(4,0),(5,1),(6,0),(7,2)] else if r=16 then some [(0,0),(1,0),(2,0),(3,0),(4,0),(5,0),(6,0),(7,0),(8,0),(9,0),(10,0),(11,0),(12,0),(13,0),(14,2)] else if r=26 then some [(0,0),(1,0),(2,0),(3,0),(4,0),(5,0),(6,0),(7,0),(8,2)] else none,fz:=fun r=>if r=8 then some [5] else if r=10 then some [8] else if r=999998 then some [] else none,dt:=fun r=>if r=10 then some (zki) else none}
def zGd:Cfg:= {wio:=zpq,live:=ztP,dr:=fun r=>if r=13 then some [(0,0),(1,0),(2,0),(3,0),(4,0),(5,0),(6,0),(7,0)] else if r=17 then some [(0,0),(1,0),(2,0),(3,0)] else none,fz:=fun r=>if r=16 then some [1,4] else if r=999998 then some [] else none,dt:=fun r=>if r=7 then some (.op 1 3 (.op 2 0 (.op 3 0 (.op 4 0 (.op 5 0 (.op 6 0 (.alt (.op 0 1 (.op 7 1 (.op 8 2 (.op 9 0 (.op 10 2 .nil))))) (.op 7 1 (.alt (.op 0 1 (.op 8 2 (.op 9 0 (.op 10 2 .nil)))) (.op 8 2 (.op 0 1 (.op 9 0 (.op 10 2 .nil))))))))))))) else none}
def zGc:Cfg:= {wio:=z0g,live:=ztO,dr:=fun r=>if r=6 then some [(0,0),(1,0),(2,0),(3,0),(4,0),(5,0),(6,0),(7,1),(8,2),(9,0),(10,2)] else if r=16 then some [(0,0),(1,0),(2,0),(4,0),(5,0),(6,0),(7,0),(8,0),(3,1),(9,1),(10,0),(11,0)] else if r=17 then some [(0,0),(1,0),(2,0),(3,0),(4,0),(5,0),(6,0),(7,0),(8,0),(9,0),(10,0)] else if r=18 then some [(0,0),(1,0),(2,0),(3,0),(4,0),(5,0),(6,0),(7,0),(8,0),(9,0),(10,0),(11,0),(12,0),(13,0)] else if r=19 then some [(0,0),(1,0),(3,0),(4,0),(2,1),(5,1),(6,0)] else none,fz:=fun r=>if r=999998 then some [] else none}
def zGb:Cfg:= {wio:=zxJ,live:=fun r=>if r=5 then some [4,7] else none,dr:=fun r=>none}
def zGa:Cfg:= {wio:=z0g,live:=z0h,dr:=fun r=>none,fz:=fun r=>if r=999998 then some [] else none}
def zG9:Cfg:= {wio:=z0g,live:=z0h,dr:=fun r=>none,fz:=fun r=>if r=999998 then some [] else none}
def zG8:Cfg:=C0 z0g z0h
def zG7:Cfg:=C0 zxI z0h
def zG6:Cfg:= {wio:=z0g,live:=z0h,dr:=fun r=>if r=1 then some [(0,0),(1,0),(2,0),(3,0),(4,0),(5,0),(6,0),(7,0),(8,0),(9,0)] else if r=4 then some [(0,0),(1,0),(2,0),(3,0),(4,0),(5,0),(6,0),(7,0),(8,0),(9,0),(10,0),(11,0),(12,1),(13,0)] else none}
def zG5:Cfg:= {wio:=zxH,live:=ztN,dr:=fun r=>none,fz:=fun r=>if r=999998 then some [] else none}
def zjQ:SchT:=.nil
def zjR:SchT:=.op 16 2 zjQ
def zjS:SchT:=.op 15 0 zjR
def zjT:SchT:=.op 14 2 zjS
def zeY:SchT:=.op 12 2 zjT
def zeZ:SchT:=.op 11 1 zeY
def zf0:SchT:=.op 13 3 zeY
def z9T:SchT:=.op 6 2 zf0
def zf1:SchT:=.op 8 2 zf0
def zjU:SchT:=.op 10 1 zeZ
def zf2:SchT:=.op 13 3 zeZ
def zc1:SchT:=.op 1 2 z9T
def z9U:SchT:=.op 5 1 z9T
def zc2:SchT:=.alt (.op 6 2 zf1) (.op 8 2 z9T)
def z9V:SchT:=.alt (.op 6 2 zf2) (.op 11 1 z9T)
def zf3:SchT:=.alt (.op 8 2 zf2) (.op 11 1 zf1)
def zf4:SchT:=.op 13 3 zjU
def zc3:SchT:=.alt (.op 1 2 z9U) (.op 5 1 zc1)
def zf5:SchT:=.alt (.op 1 2 zc2) (.op 8 2 zc1)
def zc4:SchT:=.alt (.op 1 2 z9V) (.op 11 1 zc1)
def zjV:SchT:=.op 4 0 z9U
def zc5:SchT:=.alt (.op 5 1 zc2) (.op 8 2 z9U)
def z9W:SchT:=.alt (.op 5 1 z9V) (.op 11 1 z9U)
def zc6:SchT:=.alt (.op 6 2 zf3) (.alt (.op 8 2 z9V) (.op 11 1 zc2))
def zc7:SchT:=.alt (.op 6 2 zf4) (.op 10 1 z9V)
def zjW:SchT:=.alt (.op 8 2 zf4) (.op 10 1 zf3)
def zjX:SchT:=.op 4 3 zc3
def zf6:SchT:=.alt (.op 1 2 zc5) (.alt (.op 5 1 zf5) (.op 8 2 zc3))
def zc8:SchT:=.alt (.op 1 2 z9W) (.alt (.op 5 1 zc4) (.op 11 1 zc3))
def zf7:SchT:=.alt (.op 1 2 zc6) (.alt (.op 8 2 zc4) (.op 11 1 zf5))
def zf8:SchT:=.alt (.op 1 2 zc7) (.op 10 1 zc4)
def zc9:SchT:=.op 3 1 zjV
def zjY:SchT:=.op 4 3 zc5
def zjZ:SchT:=.op 4 0 z9W
def zca:SchT:=.alt (.op 5 1 zc6) (.alt (.op 8 2 z9W) (.op 11 1 zc5))
def zcb:SchT:=.alt (.op 5 1 zc7) (.op 10 1 z9W)
def zf9:SchT:=.alt (.op 6 2 zjW) (.alt (.op 8 2 zc7) (.op 10 1 zc6))
def zfa:SchT:=.alt (.op 1 2 zc9) (.op 3 1 zjX)
def zk0:SchT:=.op 4 3 zf6
def zk1:SchT:=.op 4 3 zc8
def zfb:SchT:=.alt (.op 1 2 zca) (.alt (.op 5 1 zf7) (.alt (.op 8 2 zc8) (.op 11 1 zf6)))
def zfc:SchT:=.alt (.op 1 2 zcb) (.alt (.op 5 1 zf8) (.op 10 1 zc8))
def zk2:SchT:=.alt (.op 1 2 zf9) (.alt (.op 8 2 zf8) (.op 10 1 zf7))
def zfd:SchT:=.alt (.op 3 1 zjY) (.op 8 2 zc9)
def zcc:SchT:=.alt (.op 3 1 zjZ) (.op 11 1 zc9)
def zk3:SchT:=.op 4 3 zca
def zk4:SchT:=.op 4 0 zcb
def zfe:SchT:=.alt (.op 5 1 zf9) (.alt (.op 8 2 zcb) (.op 10 1 zca))
def zk5:SchT:=.alt (.op 1 2 zfd) (.alt (.op 3 1 zk0) (.op 8 2 zfa))
def zff:SchT:=.alt (.op 1 2 zcc) (.alt (.op 3 1 zk1) (.op 11 1 zfa))
def zk6:SchT:=.op 4 3 zfb
def zk7:SchT:=.op 4 3 zfc
def zk8:SchT:=.alt (.op 1 2 zfe) (.alt (.op 5 1 zk2) (.alt (.op 8 2 zfc) (.op 10 1 zfb)))
def zfg:SchT:=.alt (.op 3 1 zk3) (.alt (.op 8 2 zcc) (.op 11 1 zfd))
def zfh:SchT:=.alt (.op 3 1 zk4) (.op 10 1 zcc)
def znG:SchT:=.op 4 3 zfe
def znH:SchT:=.alt (.op 1 2 zfg) (.alt (.op 3 1 zk6) (.alt (.op 8 2 zff) (.op 11 1 zk5)))
def znI:SchT:=.alt (.op 1 2 zfh) (.alt (.op 3 1 zk7) (.op 10 1 zff))
def znJ:SchT:=.op 4 3 zk8
def znK:SchT:=.alt (.op 3 1 znG) (.alt (.op 8 2 zfh) (.op 10 1 zfg))
def znL:SchT:=.alt (.op 1 2 znK) (.alt (.op 3 1 znJ) (.alt (.op 8 2 znI) (.op 10 1 znH)))
def znM:SchT:=.op 9 3 znL
def znN:SchT:=.op 7 3 znM
def znO:SchT:=.op 2 3 znN
def znP:SchT:=.op 0 3 znO
def zES:Cfg:= {wio:=zjN,live:=ztM,dr:=fun r=>if r=20 then some [(0,0),(1,0),(2,0),(3,0),(4,0),(5,0),(6,0),(7,0),(8,0),(9,0),(10,0),(11,2)] else if r=21 then some [(1,0),(2,0),(3,0),(5,3),(6,3),(7,3),(8,3),(0,1),(4,2),(9,2),(10,0)] else none,wr:=zD3,fz:=fun r=>if r=999998 then some [] else none,dt:=fun r=>if r=7 then some (znP) else none}
def zG4:Cfg:= {wio:=zjN,live:=ztL,dr:=fun r=>if r=6 then some [(0,0),(1,0),(2,0),(3,1),(4,0),(5,1),(6,2),(7,0),(8,2)] else none,wr:=fun r=>if r=6 then [0] else []}
def zG3:Cfg:= {wio:=zjN,live:=ztK,dr:=fun r=>if r=7 then some [(0,0),(1,0),(2,0),(3,1),(4,0),(5,1),(6,2),(7,0),(8,2)] else none,wr:=zD3}
def zG2:Cfg:=C0 z0g ztJ
def zG1:Cfg:= {wio:=zpq,live:=ztI,dr:=fun r=>if r=17 then some [(0,0),(1,0),(2,0),(3,0),(4,0),(5,0),(6,0),(7,1),(8,0),(9,2)] else none,fz:=fun r=>if r=8 then some [3] else none,dt:=fun r=>if r=12 then some (.op 1 0 (.op 2 0 (.op 3 0 (.op 4 0 (.op 5 0 (.op 6 0 (.op 7 0 (.op 8 0 (.op 9 0 (.op 10 0 (.op 11 0 (.op 12 0 (.op 13 0 (.op 14 0 (.op 15 0 (.op 16 0 (.alt (.op 0 1 (.op 17 1 (.op 18 2 (.op 19 0 (.op 20 0 (.op 21 2 .nil)))))) (.op 17 1 (.alt (.op 0 1 (.op 18 2 (.op 19 0 (.op 20 0 (.op 21 2 .nil))))) (.op 18 2 (.op 0 1 (.op 19 0 (.op 20 0 (.op 21 2 .nil)))))))))))))))))))))))) else none}
def zG0:Cfg:=C0 z0g zi2
def zFZ:Cfg:=C0 z0g ztH
def zFY:Cfg:= {wio:=zvD,live:=ztG,dr:=fun r=>none,fz:=fun r=>if r=7 then some [5] else if r=22 then some [14] else if r=999998 then some [] else none}
def zFX:Cfg:=C0 z0g zor
def zFW:Cfg:= {wio:=z0g,live:=ztF,dr:=fun r=>if r=12 then some [(0,0),(1,0),(2,0),(3,0),(4,0),(5,0),(6,0),(7,0),(8,0),(9,0),(10,0),(11,0),(12,0),(13,0)] else none}
def zFV:Cfg:=C0 z0g ztE
def zFU:Cfg:=C0 z0g ztD
def zFT:Cfg:= {wio:=z0g,live:=ztC,dr:=fun r=>none,fz:=fun r=>if r=999998 then some [] else none}
def zFS:Cfg:= {wio:=z0g,live:=fun r=>if r=3 then some [3,6,7,8] else none,dr:=fun r=>none}
def zFR:Cfg:=C0 z0g z0h
def zFQ:Cfg:=C0 z0g zi2
def zFP:Cfg:= {wio:=z0g,live:=z0h,dr:=fun r=>none,fz:=fun r=>if r=1 then some [3,5] else none}
def zFO:Cfg:=C0 z0g z0h
def zFN:Cfg:= {wio:=zxG,live:=fun r=>if r=3 then some [3,18,19] else none,dr:=fun r=>if r=1 then some [(0,0),(1,0),(2,0),(3,0),(4,0),(5,0),(6,1),(7,0),(8,0),(9,0),(10,0),(11,0)] else none}
def zFM:Cfg:= {wio:=z0g,live:=ztB,dr:=fun r=>if r=11 then some [(0,0),(1,0),(2,0),(3,0),(4,0),(5,1),(6,0),(7,2)] else if r=15 then some [(0,0),(1,0),(2,0),(3,0),(4,0),(5,0),(6,0),(7,0),(8,0),(9,0),(10,1),(11,0),(12,0),(13,0),(14,2)] else if r=17 then some [(0,0),(1,0),(2,0),(3,0),(4,0),(5,1),(6,0),(7,2)] else none,dt:=fun r=>if r=7 then some (.op 0 0 (.op 1 0 (.op 2 0 (.op 4 0 (.op 5 0 (.alt (.op 3 1 (.alt (.op 6 1 (.op 7 0 (.op 8 1 (.op 9 2 .nil)))) (.op 8 1 (.op 6 1 (.op 7 0 (.op 9 2 .nil)))))) (.alt (.op 6 1 (.alt (.op 3 1 (.op 7 0 (.op 8 1 (.op 9 2 .nil)))) (.op 8 1 (.op 3 1 (.op 7 0 (.op 9 2 .nil)))))) (.op 8 1 (.alt (.op 3 1 (.op 6 1 (.op 7 0 (.op 9 2 .nil)))) (.op 6 1 (.op 3 1 (.op 7 0 (.op 9 2 .nil))))))))))))) else none}
def zFL:Cfg:=C0 z0g ztA
def zFK:Cfg:= {wio:=zpq,live:=ztz,dr:=fun r=>if r=23 then some [(0,0),(1,0),(2,0),(3,0),(4,0),(5,0),(6,0),(7,0),(8,0),(9,0),(10,0),(11,0),(12,0),(13,0),(14,0),(15,0),(16,0),(17,0),(18,0)] else if r=24 then some [(0,0),(1,0),(2,0),(3,0),(4,0),(5,0),(6,0),(7,0),(8,0),(9,0),(10,0),(11,0),(12,0),(13,2)] else none,fz:=fun r=>if r=14 then some [5] else none}
def zFJ:Cfg:= {wio:=z0g,live:=zty,dr:=fun r=>if r=17 then some [(0,0),(1,0),(2,0),(3,0),(4,0),(5,0),(6,0),(7,0),(8,0),(9,0),(10,0),(11,0),(12,0),(13,0),(14,1),(15,0)] else none}
def zFI:Cfg:= {wio:=z0g,live:=ztx,dr:=fun r=>if r=8 then some [(0,0),(1,0),(2,0),(3,0),(4,0),(5,0),(6,0),(7,0),(8,0),(9,0)] else if r=13 then some [(0,0),(1,0),(2,0),(3,0),(4,0),(5,0),(6,0),(7,0),(8,0),(9,0),(10,0),(11,0),(12,1),(13,0),(14,0),(15,0),(16,2)] else none}
def zFH:Cfg:=C0 zxF z0h
def zFG:Cfg:= {wio:=z0g,live:=z0h,dr:=fun r=>if r=1 then some [(0,0),(1,0),(2,0),(3,0),(4,0),(5,0),(6,0),(7,0),(8,0),(9,0),(10,0),(11,0),(12,0),(13,0),(14,0),(15,0),(16,0),(17,0),(18,0),(19,0),(20,1),(21,0)] else none}
def zFF:Cfg:=C0 z0g ztw
def zFE:Cfg:= {wio:=z0g,live:=ztv,dr:=fun r=>if r=13 then some [(0,0),(1,0),(2,0),(3,0),(4,0),(5,0),(6,0),(7,0),(8,0),(9,0),(10,0),(11,0),(12,0),(13,0),(14,2)] else none}
def zFD:Cfg:=C0 z0g ztu
def zFC:Cfg:= {wio:=z0g,live:=fun r=>if r=2 then some [5,6,7] else none,dr:=fun r=>none}
def zFB:Cfg:=C0 z0g ztt
def zFA:Cfg:=C0 z0g z0h
def zFz:Cfg:=C0 znE z0h
def zFy:Cfg:=C0 z0g z0h
def zFx:Cfg:= {wio:=z0g,live:=z0h,dr:=fun r=>if r=1 then some [(0,0),(1,0),(2,0),(3,0),(4,0),(5,0),(6,0),(7,0),(8,0),(9,0),(10,0),(11,0),(12,0)] else none}
def zFw:Cfg:= {wio:=znE,live:=fun r=>if r=3 then some [0,3,16,17] else none,dr:=fun r=>if r=8 then some [(0,0),(1,0),(2,0),(3,0),(4,0),(5,1),(6,0),(7,0),(8,0),(9,0),(10,0),(11,0)] else none,dt:=fun r=>if r=5 then some (.op 0 0 (.op 1 0 (.op 2 0 (.op 3 0 (.op 4 0 (.op 5 0 (.op 6 0 (.op 7 0 (.op 8 0 (.op 9 0 (.op 10 0 (.op 11 0 (.op 12 0 (.alt (.op 13 1 (.op 14 0 (.op 15 0 (.op 16 3 (.op 17 1 (.op 18 2 (.op 19 0 .nil))))))) (.op 17 1 (.op 13 1 (.op 14 0 (.op 15 0 (.op 16 3 (.op 18 2 (.op 19 0 .nil))))))))))))))))))))) else none}
def zFv:Cfg:= {wio:=z0g,live:=zts,dr:=fun r=>if r=1 then some [(0,0),(1,0),(2,0),(3,0),(4,0),(5,0),(6,0),(7,0),(8,0),(9,0),(10,0),(11,1),(12,2)] else if r=5 then some [(0,0),(1,0),(2,0),(3,1),(4,1),(5,2),(6,0),(7,2)] else none}
def zFu:Cfg:=C0 z0g ztr
def zFt:Cfg:= {wio:=z0g,live:=ztq,dr:=fun r=>if r=14 then some [(0,0),(1,0),(2,0),(3,0),(4,0),(5,0),(6,0),(7,1),(8,2),(9,0),(10,2)] else none}
def zFs:Cfg:=C0 z0g z0h
def zFr:Cfg:= {wio:=z0g,live:=fun r=>if r=4 then some [0,1,18,19] else none,dr:=fun r=>none}
def zFq:Cfg:=C0 z0g z0h
def zFp:Cfg:= {wio:=z0g,live:=z0h,dr:=fun r=>if r=0 then some [(0,0),(1,0),(2,0),(3,0),(4,0),(5,0),(6,0),(7,0),(8,0),(9,0),(10,2)] else none}
def zFo:Cfg:=C0 z0g z0h
def zFn:Cfg:=C0 z0g z0h
def zFm:Cfg:= {wio:=z0g,live:=ztp,dr:=fun r=>if r=8 then some [(0,0),(1,0),(2,0),(3,0),(4,0),(5,0),(6,0),(7,0),(8,1),(9,0),(10,0),(11,1),(12,2),(13,0)] else none}
def zFl:Cfg:= {wio:=z0g,live:=z0h,dr:=fun r=>if r=1 then some [(0,0),(1,0),(2,0),(3,0),(4,0),(5,0),(6,0),(7,0),(8,0),(9,0),(10,0),(11,0),(12,0),(13,0),(14,0),(15,0),(16,0),(17,0),(18,0),(19,0),(20,0),(21,0),(22,1),(23,0)] else none}
def zFk:Cfg:= {wio:=z0g,live:=fun r=>if r=2 then some [1,7,8,9] else none,dr:=fun r=>none}
def zFj:Cfg:= {wio:=z0g,live:=fun r=>if r=5 then some [3,14,15] else none,dr:=fun r=>none}
def zFi:Cfg:=C0 z0g zor
def zFh:Cfg:=C0 z0g zto
def zFg:Cfg:= {wio:=z0g,live:=ztn,dr:=fun r=>if r=13 then some [(0,0),(1,0),(2,0),(3,0),(4,0),(5,0),(6,0),(7,0),(8,0),(9,0),(10,0),(11,0),(12,0),(13,0),(14,0),(15,0),(16,0),(17,0),(18,0),(19,1),(20,0),(21,0),(22,2)] else none}
def zFf:Cfg:=C0 z0g z0h
def zFe:Cfg:=C0 z0g z0h
def zFd:Cfg:= {wio:=z0g,live:=z0h,dr:=fun r=>if r=1 then some [(0,0),(1,0),(2,0),(3,0),(4,0),(5,0),(6,0),(7,0),(8,0),(9,0),(10,0),(11,0),(12,0),(13,0),(14,0),(15,0),(16,0),(17,0),(18,0)] else none}
def zFc:Cfg:= {wio:=z0g,live:=ztm,dr:=fun r=>if r=10 then some [(0,0),(1,0),(2,0),(3,0),(4,0),(5,0),(6,1),(7,0)] else if r=14 then some [(0,0),(1,0),(2,0),(3,0),(4,0),(5,0),(6,0),(7,0),(8,1),(9,0),(10,0),(11,1),(12,2),(13,0)] else none}
def zFb:Cfg:=C0 z0g z0h
def zFa:Cfg:=C0 z0g z0h
def zF9:Cfg:=C0 z0g z0h
def zCN:Cfg:=C0 z0g ztl
def zCM:Cfg:=C0 z0g z0h
def zCL:Cfg:= {wio:=z0g,live:=z0h,dr:=fun r=>if r=1 then some [(0,0),(1,0),(2,0),(3,0),(4,0),(5,0),(6,0),(7,0),(8,1),(9,0)] else none}
def zCK:Cfg:=C0 zxE ztk
def zCJ:Cfg:=C0 znD z0h
def zCI:Cfg:=C0 z0g ztj
def zCH:Cfg:= {wio:=z0g,live:=z0h,dr:=fun r=>if r=2 then some [(0,0),(1,0),(2,0),(3,0),(4,0),(6,0),(5,1),(7,2)] else none,dt:=fun r=>if r=3 then some (.op 0 0 (.op 1 0 (.op 2 0 (.op 3 0 (.op 4 0 (.op 5 0 (.op 6 0 (.op 7 1 (.op 8 2 (.op 9 3 (.op 11 3 (.op 12 3 (.op 13 3 (.alt (.op 10 2 (.op 14 2 .nil)) (.op 14 2 (.op 10 2 .nil)))))))))))))))) else none}
def zCG:Cfg:=C0 z0g zti
def zCF:Cfg:=C0 z0g z0h
def zCE:Cfg:= {wio:=z0g,live:=fun r=>if r=10 then some [19,20,21] else none,dr:=fun r=>none}
def zCD:Cfg:=C0 z0g zth
def zCC:Cfg:=C0 z0g ztg
def zCB:Cfg:=C0 z0g z0h
def zCA:Cfg:=C0 z0g z0h
def zCz:Cfg:=C0 z0g z0h
def zCy:Cfg:=C0 z0g z0h
def zCx:Cfg:= {wio:=z0g,live:=ziR,dr:=fun r=>if r=4 then some [(0,0),(1,0),(2,0),(3,0),(4,0),(5,0),(6,0),(7,0),(8,0),(9,0),(10,0),(11,0),(12,0),(13,0),(14,1),(15,0),(16,0)] else if r=6 then some [(0,0),(1,0),(2,3),(3,3),(4,3),(5,0),(6,0),(7,0),(8,0),(9,0),(10,0),(11,0),(12,0),(13,0),(14,0),(15,2),(16,0),(17,2)] else none}
def zCw:Cfg:= {wio:=zxD,live:=ztf,dr:=fun r=>if r=5 then some [(0,0),(1,0),(2,0),(3,0),(4,0),(5,0),(6,0),(7,0),(8,0),(9,1),(10,0)] else if r=11 then some [(0,0),(1,0),(2,3),(3,3),(4,3),(5,0),(6,0),(7,0),(8,0),(9,0),(10,0),(11,0),(12,0),(13,0),(14,0),(15,2),(16,0),(17,2)] else if r=17 then some [(0,0),(1,0),(2,0),(3,0),(4,0),(5,0),(6,0),(7,0),(8,0),(9,1),(10,0),(11,0)] else if r=23 then some [(0,0),(1,0),(2,3),(3,3),(4,3),(5,0),(6,0),(7,0),(8,0),(9,0),(10,0),(11,0),(12,0),(13,0),(14,0),(15,2),(16,0),(17,2)] else if r=35 then some [(0,0),(1,0),(2,0),(3,0),(4,0),(5,0),(6,0),(7,0),(8,0),(9,0),(10,0),(11,1),(12,0),(13,0)] else none}
def zCv:Cfg:=C0 znD zte
def zCu:Cfg:=C0 z0g z0h
def zCt:Cfg:=C0 z0g z0h
def zCs:Cfg:= {wio:=z0g,live:=z0h,dr:=fun r=>if r=16 then some [(0,0),(1,0),(2,0),(5,0),(3,1),(4,1),(6,0),(7,2)] else none,fz:=fun r=>if r=19 then some [5] else none,dt:=fun r=>if r=14 then some (.op 0 0 (.op 1 0 (.op 2 0 (.op 3 0 (.op 4 0 (.alt (.op 5 1 (.op 6 1 (.op 7 2 .nil))) (.op 6 1 (.op 5 1 (.op 7 2 .nil))))))))) else none}
def zCr:Cfg:=C0 z0g z0h
def zCq:Cfg:= {wio:=zxC,live:=ztd,dr:=fun r=>if r=17 then some [(0,0),(1,0),(2,0),(3,0),(4,1),(5,1),(6,2),(7,0),(8,2)] else none,dt:=fun r=>if r=18 then some (.op 1 3 (.alt (.op 0 2 (.alt (.op 2 2 (.op 3 2 (.op 4 0 (.op 5 0 .nil)))) (.op 3 2 (.op 2 2 (.op 4 0 (.op 5 0 .nil)))))) (.op 2 2 (.op 0 2 (.op 3 2 (.op 4 0 (.op 5 0 .nil))))))) else none}
def zCp:Cfg:=C0 z0g z0h
def zCo:Cfg:=C0 z0g z0h
def zCn:Cfg:=C0 z0g z0h
def zCm:Cfg:=C0 z0g ztc
def zCl:Cfg:=C0 z0g z0h
def zCk:Cfg:= {wio:=z0g,live:=z0h,dr:=fun r=>if r=1 then some [(0,0),(1,0),(2,0),(3,0),(4,0),(5,0),(6,0),(7,0),(8,0),(9,0),(10,0),(11,0),(12,0),(13,0),(14,0),(15,0),(16,0),(17,0),(18,0)] else none}
def zCj:Cfg:=C0 z0g z0h
def zCi:Cfg:=C0 zxB ztb
def zCh:Cfg:=C0 zpp z0h
def zCg:Cfg:=C0 zpp z0h
def zCf:Cfg:=C0 zpp z0h
def zCe:Cfg:=C0 z0g z0h
def zCd:Cfg:= {wio:=z0g,live:=zta,dr:=fun r=>if r=7 then some [(0,0),(1,0),(2,3),(3,3),(4,0),(5,0),(6,3),(7,3),(8,0),(9,2),(10,0),(11,2)] else none,dt:=fun r=>if r=1 then some (.op 0 0 (.op 1 0 (.op 2 0 (.op 4 0 (.op 5 0 (.op 6 0 (.alt (.op 3 1 (.op 8 0 (.op 7 1 (.op 9 0 .nil)))) (.op 7 1 (.op 3 1 (.op 8 0 (.op 9 0 .nil))))))))))) else if r=11 then some (.op 0 0 (.op 1 0 (.op 2 0 (.op 4 0 (.op 5 0 (.op 6 0 (.alt (.op 3 1 (.alt (.op 7 1 (.op 8 0 (.op 9 1 (.op 10 2 .nil)))) (.op 9 1 (.op 7 1 (.op 8 0 (.op 10 2 .nil)))))) (.op 9 1 (.op 3 1 (.op 7 1 (.op 8 0 (.op 10 2 .nil)))))))))))) else none}
def zft:SchT:=.nil
def zbu:SchT:=.op 14 0 zft
def zfu:SchT:=.op 10 1 zbu
def zbv:SchT:=.op 13 2 zbu
def zfv:SchT:=.alt (.op 10 1 zbv) (.op 13 2 zfu)
def zbw:SchT:=.op 12 0 zbv
def zbx:SchT:=.op 8 1 zbw
def zby:SchT:=.op 12 0 zfv
def zfw:SchT:=.op 11 0 zbw
def z9q:SchT:=.op 6 2 zfw
def zfx:SchT:=.alt (.op 8 1 zby) (.op 10 1 zbx)
def zfy:SchT:=.op 11 0 zbx
def zfz:SchT:=.op 11 0 zby
def zbz:SchT:=.op 5 1 z9q
def zbA:SchT:=.alt (.op 6 2 zfy) (.op 8 1 z9q)
def zbB:SchT:=.alt (.op 6 2 zfz) (.op 10 1 z9q)
def zfA:SchT:=.op 11 0 zfx
def zfB:SchT:=.alt (.op 5 1 zbA) (.op 8 1 zbz)
def zhB:SchT:=.alt (.op 5 1 zbB) (.op 10 1 zbz)
def zhC:SchT:=.alt (.op 6 2 zfA) (.alt (.op 8 1 zbB) (.op 10 1 zbA))
def zhD:SchT:=.alt (.op 5 1 zhC) (.alt (.op 8 1 zhB) (.op 10 1 zfB))
def zhE:SchT:=.op 9 3 zhD
def zhF:SchT:=.op 7 3 zhE
def zhG:SchT:=.op 4 0 zhF
def zhH:SchT:=.op 3 0 zhG
def zhI:SchT:=.op 2 0 zhH
def zhJ:SchT:=.op 1 3 zhI
def zhK:SchT:=.op 0 3 zhJ
def zA5:Cfg:= {wio:=z0g,live:=zt9,dr:=fun r=>if r=18 then some [(0,0),(2,0),(3,0),(4,0),(5,0),(1,1),(6,2),(7,0)] else none,fz:=fun r=>if r=13 then some [6] else none,dt:=fun r=>if r=10 then some (zhK) else none}
def zCc:Cfg:=C0 z0g zi2
def zCb:Cfg:=C0 z0g z0h
def zCa:Cfg:=C0 z0g z0h
def zC9:Cfg:= {wio:=zxA,live:=z0h,dr:=fun r=>none,fz:=fun r=>if r=999998 then some [] else none}
def zC8:Cfg:= {wio:=z0g,live:=zt8,dr:=fun r=>if r=3 then some [(0,0),(1,0),(2,0),(3,0),(4,3),(5,3),(6,3),(7,3),(8,0),(9,0),(10,0),(11,0),(12,0),(13,0),(14,0),(15,0),(16,0),(17,0),(18,0),(19,0),(20,0),(21,2),(22,0),(23,2)] else none}
def zC7:Cfg:=C0 z0g z0h
def zC6:Cfg:=C0 z0g zt7
def zC5:Cfg:=C0 z0g z0h
def zC4:Cfg:=C0 zxz z0h
def zC3:Cfg:=C0 z0g z0h
def zC2:Cfg:=C0 z0g z0h
def zC1:Cfg:=C0 z0g z0h
def zC0:Cfg:= {wio:=z0g,live:=zt6,dr:=fun r=>if r=6 then some [(0,0),(1,0),(2,0),(3,0),(4,0),(5,0),(6,0),(7,0),(8,0),(9,0)] else if r=11 then some [(0,0),(1,0),(2,0),(3,0),(4,0),(5,0),(6,0),(7,0),(8,0),(9,0)] else none}
def zBZ:Cfg:=C0 zxy z0h
def zBY:Cfg:=C0 z0g z0h
def zBX:Cfg:= {wio:=z0g,live:=zt5,dr:=fun r=>if r=6 then some [(0,0),(1,0),(2,0),(3,0),(4,0),(5,0),(6,0),(7,0),(8,0),(9,0),(10,1)] else if r=11 then some [(0,0),(1,0),(2,0),(3,0),(4,0),(5,0),(6,0),(7,0),(8,0),(9,0),(10,1),(11,0)] else none}
def zBW:Cfg:=C0 z0g z0h
def zBV:Cfg:= {wio:=zxx,live:=zt4,dr:=fun r=>if r=17 then some [(0,0),(1,0),(2,0),(3,0),(4,0),(5,0),(6,0),(7,0),(8,0),(9,0),(10,0),(11,0),(12,0),(13,1),(14,0),(15,0),(16,0)] else none}
def zBU:Cfg:=C0 z0g zt3
def zBT:Cfg:= {wio:=z0g,live:=ziR,dr:=fun r=>if r=4 then some [(0,0),(1,0),(2,0),(3,0),(4,0),(5,0),(6,0),(7,0),(8,0),(9,0),(10,0),(11,0),(12,0),(13,0),(14,1),(15,0),(16,0)] else if r=6 then some [(0,0),(1,0),(2,3),(3,3),(4,3),(5,0),(6,0),(7,0),(8,0),(9,0),(10,0),(11,0),(12,0),(13,0),(14,0),(15,2),(16,0),(17,2)] else none}
@[simp] theorem kxAll:KX cf3 zxN ztW z2g/\KX cf4 zxM z0h z2g/\KX cf5 z0g ztV z2g/\KX cf6 z0g ztU z2g/\KX cf7 z0g (fun r=>if r=4 then some [0,1,12,13] else none) z2g/\KX cf8 z0g z0h z2g/\KX cf9 z0g z0h z2g/\KX zGm zxL z0h z2g/\KX zGl zjN z0h z2g/\KX zGk zxK ztT z2g/\KX zGj z0g z0h z2g/\KX zGi z0g z0h z2g/\KX zGh z0g (fun r=>if r=6 then some [1,5,26,27] else none) z2g/\KX zGg zvD ztS z2g/\KX zGf z0g z0h z2g/\KX zGe z0g ztR z2g/\KX zET z0g ztQ z2g/\KX zGd zpq ztP z2g/\KX zGc z0g ztO z2g/\KX zGb zxJ (fun r=>if r=5 then some [4,7] else none) z2g/\KX zGa z0g z0h z2g/\KX zG9 z0g z0h z2g/\KX zG8 z0g z0h z2g/\KX zG7 zxI z0h z2g/\KX zG6 z0g z0h z2g/\KX zG5 zxH ztN z2g/\KX zES zjN ztM zD3/\KX zG4 zjN ztL (fun r=>if r=6 then [0] else [])/\KX zG3 zjN ztK zD3/\KX zG2 z0g ztJ z2g/\KX zG1 zpq ztI z2g/\KX zG0 z0g zi2 z2g/\KX zFZ z0g ztH z2g/\KX zFY zvD ztG z2g/\KX zFX z0g zor z2g/\KX zFW z0g ztF z2g/\KX zFV z0g ztE z2g/\KX zFU z0g ztD z2g/\KX zFT z0g ztC z2g/\KX zFS z0g (fun r=>if r=3 then some [3,6,7,8] else none) z2g/\KX zFR z0g z0h z2g/\KX zFQ z0g zi2 z2g/\KX zFP z0g z0h z2g/\KX zFO z0g z0h z2g/\KX zFN zxG (fun r=>if r=3 then some [3,18,19] else none) z2g/\KX zFM z0g ztB z2g/\KX zFL z0g ztA z2g/\KX zFK zpq ztz z2g/\KX zFJ z0g zty z2g/\KX zFI z0g ztx z2g/\KX zFH zxF z0h z2g/\KX zFG z0g z0h z2g/\KX zFF z0g ztw z2g/\KX zFE z0g ztv z2g/\KX zFD z0g ztu z2g/\KX zFC z0g (fun r=>if r=2 then some [5,6,7] else none) z2g/\KX zFB z0g ztt z2g/\KX zFA z0g z0h z2g/\KX zFz znE z0h z2g/\KX zFy z0g z0h z2g/\KX zFx z0g z0h z2g/\KX zFw znE (fun r=>if r=3 then some [0,3,16,17] else none) z2g/\KX zFv z0g zts z2g/\KX zFu z0g ztr z2g/\KX zFt z0g ztq z2g/\KX zFs z0g z0h z2g/\KX zFr z0g (fun r=>if r=4 then some [0,1,18,19] else none) z2g/\KX zFq z0g z0h z2g/\KX zFp z0g z0h z2g/\KX zFo z0g z0h z2g/\KX zFn z0g z0h z2g/\KX zFm z0g ztp z2g/\KX zFl z0g z0h z2g/\KX zFk z0g (fun r=>if r=2 then some [1,7,8,9] else none) z2g/\KX zFj z0g (fun r=>if r=5 then some [3,14,15] else none) z2g/\KX zFi z0g zor z2g/\KX zFh z0g zto z2g/\KX zFg z0g ztn z2g/\KX zFf z0g z0h z2g/\KX zFe z0g z0h z2g/\KX zFd z0g z0h z2g/\KX zFc z0g ztm z2g/\KX zFb z0g z0h z2g/\KX zFa z0g z0h z2g/\KX zF9 z0g z0h z2g/\KX zCN z0g ztl z2g/\KX zCM z0g z0h z2g/\KX zCL z0g z0h z2g/\KX zCK zxE ztk z2g/\KX zCJ znD z0h z2g/\KX zCI z0g ztj z2g/\KX zCH z0g z0h z2g/\KX zCG z0g zti z2g/\KX zCF z0g z0h z2g/\KX zCE z0g (fun r=>if r=10 then some [19,20,21] else none) z2g/\KX zCD z0g zth z2g/\KX zCC z0g ztg z2g/\KX zCB z0g z0h z2g/\KX zCA z0g z0h z2g/\KX zCz z0g z0h z2g/\KX zCy z0g z0h z2g/\KX zCx z0g ziR z2g/\KX zCw zxD ztf z2g/\KX zCv znD zte z2g/\KX zCu z0g z0h z2g/\KX zCt z0g z0h z2g/\KX zCs z0g z0h z2g/\KX zCr z0g z0h z2g/\KX zCq zxC ztd z2g/\KX zCp z0g z0h z2g/\KX zCo z0g z0h z2g/\KX zCn z0g z0h z2g/\KX zCm z0g ztc z2g/\KX zCl z0g z0h z2g/\KX zCk z0g z0h z2g/\KX zCj z0g z0h z2g/\KX zCi zxB ztb z2g/\KX zCh zpp z0h z2g/\KX zCg zpp z0h z2g/\KX zCf zpp z0h z2g/\KX zCe z0g z0h z2g/\KX zCd z0g zta z2g/\KX zA5 z0g zt9 z2g/\KX zCc z0g zi2 z2g/\KX zCb z0g z0h z2g/\KX zCa z0g z0h z2g/\KX zC9 zxA z0h z2g/\KX zC8 z0g zt8 z2g/\KX zC7 z0g z0h z2g/\KX zC6 z0g zt7 z2g/\KX zC5 z0g z0h z2g/\KX zC4 zxz z0h z2g/\KX zC3 z0g z0h z2g/\KX zC2 z0g z0h z2g/\KX zC1 z0g z0h z2g/\KX zC0 z0g zt6 z2g/\KX zBZ zxy z0h z2g/\KX zBY z0g z0h z2g/\KX zBX z0g zt5 z2g/\KX zBW z0g z0h z2g/\KX zBV zxx zt4 z2g/\KX zBU z0g zt3 z2g/\KX zBT z0g ziR z2g:=by
  and_intros<;>rfl
def cg0:List (Nat×Cfg):= [(3,cf3),(4,cf4),(5,cf5),(6,cf6),(7,cf7),(8,cf8),(9,cf9),(10,zGm),(11,zGl),(12,zGk)]
def cg1:List (Nat×Cfg):= [(13,zGj),(14,zGi),(15,zGh),(16,zGg),(17,zGf),(19,zGe),(21,zGd),(22,zGc),(23,zGb),(24,zGa)]
def cg2:List (Nat×Cfg):= [(25,zG9),(26,zG8),(27,zG7),(28,zG6),(29,zG5),(31,zG4),(32,zG3),(33,zG2),(34,zG1),(35,zG0)]
def cg3:List (Nat×Cfg):= [(36,zFZ),(37,zFY),(38,zFX),(39,zFW),(41,zFV),(42,zFU),(44,zFT),(48,zFS),(49,zFR),(50,zFQ)]
def cg4:List (Nat×Cfg):= [(51,zFP),(52,zFO),(53,zFN),(54,zFM),(55,zFL),(56,zFK),(57,zFJ),(58,zFI),(59,zFH),(60,zFG)]
def cg5:List (Nat×Cfg):= [(61,zFF),(62,zFE),(63,zFD),(64,zFC),(65,zFB),(66,zFA),(67,zFz),(68,zFy),(69,zFx),(70,zFw)]
def cg6:List (Nat×Cfg):= [(71,zFv),(72,zFu),(73,zFt),(74,zFs),(75,zFr),(76,zFq),(77,zFp),(79,zFo),(80,zFn),(81,zFm)]
def cg7:List (Nat×Cfg):= [(82,zFl),(83,zFk),(84,zFj),(85,zFi),(86,zFh),(87,zFg),(89,zFf),(93,zFe),(94,zFd),(95,zFc)]
def cg8:List (Nat×Cfg):= [(96,zFb),(98,zFa),(99,zF9),(100,zCN),(101,zCM),(102,zCL),(103,zCK),(104,zCJ),(105,zCI),(106,zCH)]
def cg9:List (Nat×Cfg):= [(107,zCG),(108,zCF),(110,zCE),(111,zCD),(112,zCC),(119,zCB),(128,zCA),(129,zCz),(139,zCy),(140,zCx)]
def cg10:List (Nat×Cfg):= [(141,zCw),(142,zCv),(143,zCu),(144,zCt),(145,zCs),(148,zCr),(149,zCq),(150,zCp),(151,zCo),(154,zCn)]
def cg11:List (Nat×Cfg):= [(161,zCm),(162,zCl),(178,zCk),(179,zCj),(180,zCi),(181,zCh),(182,zCg),(183,zCf),(184,zCe),(185,zCd)]
def cg12:List (Nat×Cfg):= [(189,zCc),(190,zCb),(191,zCa),(192,zC9),(198,zC8),(199,zC7),(201,zC6),(202,zC5),(203,zC4),(204,zC3)]
def cg13:List (Nat×Cfg):= [(205,zC2),(206,zC1),(211,zC0),(213,zBZ),(214,zBY),(215,zBX),(216,zBW),(219,zBV),(220,zBU),(230,zBT)]
def cg14:List (Nat×Cfg):= [(20,zET),(30,zES),(186,zA5)]
def zlA(f:FuncId):Option Cfg:=((cg0++cg1++cg2++cg3++cg4++cg5++cg6++cg7++cg8++cg9++cg10++cg11++cg12++cg13++cg14).find? fun x=>x.1==f).map (·.2)
def zlJ(fn:Func):Code:=match fn.body with|some c=>c|none=>.skip
theorem bdy(fn:Func)(h:fn.body.isSome=true):fn.body=some (zlJ fn):=by
 unfold zlJ
 cases hb:fn.body with
 |some c=>rfl
 |none=>rw[hb] at h;cases h
noncomputable def xt:z0e->z0e:=xtF
noncomputable def L:z0e:=Lim Tryz.prog xt zlA
theorem zrf{f:FuncId}{c:Cfg}{fn:Func}{args:List T}{o:T×List T}(hc:zlA f=some c)(hfn:Tryz.prog.funcs[f]? =some fn)(h:zkL Tryz.prog L c LFm fn args=some o):L f args=some o:=zzs hc hfn h
end
section
open Go
variable{cf:Cfg}{c:Code}{fn:Func}{f:FuncId}{args outs:List T}{r:T}
theorem z5i(hc:zlA f=some cf)(hfn:Tryz.prog.funcs[f]? =some fn)(hb:fn.body=some c)(ha:args.length<=fn.ntmps/\(args.filter z6i).length<=1:=by exact⟨of_decide_eq_true rfl,of_decide_eq_true rfl⟩)(hz:cf.fz 999998=none:=by rfl)(g:wpC Tryz.prog L cf LFm c (z6H fn.ntmps args) (zzO Tryz.prog fn args r outs):=by simp only[z6H,z7u,z6N,z8Z,z6i];exact zm2):L f args=some (r,outs):=zrf hc hfn (zso hb ha g hz)
theorem zeu(hc:zlA f=some cf)(hfn:Tryz.prog.funcs[f]? =some fn)(hb:fn.body=some c)(ha:args.length<=fn.ntmps/\(args.filter z6i).length<=1:=by exact⟨of_decide_eq_true rfl,of_decide_eq_true rfl⟩)(hz:(cf.fz 999998).isSome=true:=by rfl)(g:wpC Tryz.prog L cf LFm c (z6H fn.ntmps args) (zuA Tryz.prog fn args r outs):=by simp only[z6H,z7u,z6N,z8Z,z6i];exact zm2):L f args=some (r,outs):=zrf hc hfn (zew hb ha hz g)
end
section
open Go Go.IntKind
noncomputable section
abbrev z6a(a0:DFA)(w22:Int)(v28:List Int):Int->Option (Int⊕(Int⊕Int))
 |w30=>
 if w30<(v28.length:Int) then
 (atI v28 w30).bind fun v32=>
 if v32<0 then
 z0i<|
 z0i<|
 some 4
 else
 if(a0.final.length:Int)<=v32 then
 z0i<|
 z0i<|
 some 4
 else
 z0c (i64.wrap (w30+1))
 else
 z0i<|
 z0c (i64.wrap (w22+1))
variable{a0:DFA}{a1 a2:Int}
instance{w22:Int}{v28:List Int}:Hd (z6a a0 w22 v28):=⟨fun w30=>([(51,xI w30)],[])⟩
abbrev z5x(a0:DFA):Int->Option (Int⊕Int)
 |w22=>
 if w22<(a0.next.length:Int) then
 (atI a0.next w22).bind fun v28=>
 if(v28.length:Int)=a0.letters then
 z0k (z6a a0 w22 v28) LFm 0
 else
 z0i<|
 some 4
 else
 z0i<|
 some 0
instance:Hd (z5x a0):=⟨fun w22=>([(40,xI w22)],[])⟩
def z7v(a0:DFA):Option (Int):=
 if a0.letters<1 then
 some 1
 else
 if 6<a0.letters then
 some 1
 else
 if 512<(a0.final.length:Int) then
 some 3
 else
 if(a0.next.length:Int)=(a0.final.length:Int) then
 if a0.start<0 then
 some 4
 else
 if(a0.final.length:Int)<=a0.start then
 some 4
 else
 z0k (z5x a0) LFm 0
 else
 some 4
instance:Ok (z7v a0) (fun r=>L 72 [.agg [.sc (.int .i64 a0.letters),.sc (.int .i64 a0.start),(tB a0.final),(tR a0.next)]]=some (.sc (.int .i64 r),[.dead])):=⟨fun r h=>by have h:=z4u h;unfold z7v at h;exact z5i rfl Tryz.func72 (bdy Tryz.f72 rfl)⟩
def z5s(a0:DFA):Option (Int):=
 (z7v a0).bind fun v2=>
 if v2=0 then
 if 12<(a0.final.length:Int) then
 some 3
 else
 some 0
 else
 some v2
instance:Ok (z5s a0) (fun r=>L 52 [.agg [.sc (.int .i64 a0.letters),.sc (.int .i64 a0.start),(tB a0.final),(tR a0.next)]]=some (.sc (.int .i64 r),[.dead])):=⟨fun r h=>by have h:=z4u h;unfold z5s at h;exact z5i rfl Tryz.func52 (bdy Tryz.f52 rfl)⟩
abbrev z7h(a0:DFA)(a1:Int)(a2:Int):Int×Int->Option ((Int×Int)⊕Int)
 |(w11,w12)=>
 if w12<(a0.next.length:Int) then
 (atI a0.next w12).bind fun v15=>
 chk (¬w12<0)<|
 if(z2X .i64 (z0w .i64 a1 w12) 1)=1 then
 (atI v15 a2).bind fun v16=>
 chk (¬v16<0)<|
 z0c (orI .i64 w11 (zmx .i64 1 v16),i64.wrap (w12+1))
 else
 z0c (w11,i64.wrap (w12+1))
 else
 z0i<|
 some w11
instance:Hd (z7h a0 a1 a2):=⟨fun(w11,w12)=>([(7,xI w11),(13,xI w12)],[])⟩
def z6X(a0:DFA)(a1:Int)(a2:Int):Option (Int):=
 z0k (z7h a0 a1 a2) LFm (0,0)
instance:Ok (z6X a0 a1 a2) (fun r=>L 100 [.agg [.sc (.int .i64 a0.letters),.sc (.int .i64 a0.start),(tB a0.final),(tR a0.next)],.sc (.int .i64 a1),.sc (.int .i64 a2)]=some (.sc (.int .i64 r),[.dead,.dead,.dead])):=⟨fun r h=>by have h:=z4u h;unfold z6X at h;exact z5i rfl Tryz.func100 (bdy Tryz.f100 rfl)⟩
def z3W(a0:Int)(a1:Int):Option (Bool):=
 some (decide ((zgR .i64 a1 a0)=0))
instance{a0:Int}:Ok (z3W a0 a1) (fun r=>L 101 [.sc (.int .i64 a0),.sc (.int .i64 a1)]=some (.sc (.bool r),[.dead,.dead])):=⟨fun r h=>by have h:=z4u h;unfold z3W at h;exact z5i rfl Tryz.func101 (bdy Tryz.f101 rfl)⟩
abbrev z5t(a0:DFA)(w77:Int):Int×List Bool×List Int×List ByteArray->Option ((Int×List Bool×List Int×List ByteArray)⊕((Int×List Bool×List Int×List ByteArray)⊕(List Int×List ByteArray)))
 |(w105,w106,w107,w108)=>
 if w105<a0.letters then
 (atI w107 w77).bind fun v114=>
 (z6X a0 v114 w105).bind fun v115=>
 (atI w106 v115).bind fun v116=>
 if v116=true then
 z0c (i64.wrap (w105+1),w106,w107,w108)
 else
 chk (z1B 8 (w107.length+1))<|
 (atI w108 w77).bind fun v118=>
 chk (z9O v118 ⟨#[UInt8.ofNat (u8.wrap (i64.wrap (97+w105))).toNat]⟩)<|
 chk (z1B 16 (w108.length+1))<|
 z0c (i64.wrap (w105+1),(w106.set v115.toNat true),w107++ [v115],w108++ [v118++⟨#[UInt8.ofNat (u8.wrap (i64.wrap (97+w105))).toNat]⟩])
 else
 z0i<|
 z0c (i64.wrap (w77+1),w106,w107,w108)
instance{w77:Int}:Hd (z5t a0 w77):=⟨fun(w105,w106,w107,w108)=>([(31,xI w105)],[(6,.os 1 w106.length (w106.map fun x0=>.sc (.bool x0))),(7,(tO w107)),(8,.os 1 w108.length (w108.map fun x0=>.sc (.string x0)))])⟩
abbrev z8f(a0:DFA):Int×List Bool×List Int×List ByteArray->Option ((Int×List Bool×List Int×List ByteArray)⊕(List Int×List ByteArray))
 |(w77,w78,w79,w80)=>
 if w77<(w79.length:Int) then
 z0k (z5t a0 w77) LFm (0,w78,w79,w80)
 else
 z0i<|
 some (w79,w80)
instance:Hd (z8f a0):=⟨fun(w77,w78,w79,w80)=>([(9,xI w77)],[(6,.os 1 w78.length (w78.map fun x0=>.sc (.bool x0))),(7,(tO w79)),(8,.os 1 w80.length (w80.map fun x0=>.sc (.string x0)))])⟩
def z7t(a0:DFA)(a1:Int):Option (List Int×List ByteArray):=
 chk (¬(a0.final.length:Int)<0)<|
 chk (z0X 1 (zmx .i64 1 (a0.final.length:Int)))<|
 chk (0<=a1/\a1<(zmx .i64 1 (a0.final.length:Int)))<|
 z0k (z8f a0) LFm (0,((List.replicate (zmx .i64 1 (a0.final.length:Int)).toNat (false:Bool)).set a1.toNat true),[a1],[ByteArray.empty])
instance:Ok (z7t a0 a1) (fun r=>L 95 [.agg [.sc (.int .i64 a0.letters),.sc (.int .i64 a0.start),(tB a0.final),(tR a0.next)],.sc (.int .i64 a1)]=some (.tup [(tO r.1),.os 1 r.2.length (r.2.map fun x0=>.sc (.string x0))],[.dead,.dead])):=⟨fun r h=>by have h:=z4u h;unfold z7t at h;exact z5i rfl Tryz.func95 (bdy Tryz.f95 rfl)⟩
def z3n(a0:Int):Option (Int):=
 chk (¬1<0)<|
 chk (¬2<0)<|
 chk (¬4<0)<|
 chk (¬8<0)<|
 chk (¬16<0)<|
 chk (¬32<0)<|
 some (z2X .i64 (i64.wrap (u64.wrap ((u64.wrap ((u64.wrap ((z2X .u64 (u64.wrap ((z0w .u64 (u64.wrap ((z2X .u64 (z0w .u64 (u64.wrap ((z2X .u64 (z0w .u64 a0 1) 6148914691236517205)+(z2X .u64 a0 6148914691236517205))) 2) 3689348814741910323)+(z2X .u64 (u64.wrap ((z2X .u64 (z0w .u64 a0 1) 6148914691236517205)+(z2X .u64 a0 6148914691236517205))) 3689348814741910323))) 4)+(u64.wrap ((z2X .u64 (z0w .u64 (u64.wrap ((z2X .u64 (z0w .u64 a0 1) 6148914691236517205)+(z2X .u64 a0 6148914691236517205))) 2) 3689348814741910323)+(z2X .u64 (u64.wrap ((z2X .u64 (z0w .u64 a0 1) 6148914691236517205)+(z2X .u64 a0 6148914691236517205))) 3689348814741910323))))) 1085102592571150095)+(z0w .u64 (z2X .u64 (u64.wrap ((z0w .u64 (u64.wrap ((z2X .u64 (z0w .u64 (u64.wrap ((z2X .u64 (z0w .u64 a0 1) 6148914691236517205)+(z2X .u64 a0 6148914691236517205))) 2) 3689348814741910323)+(z2X .u64 (u64.wrap ((z2X .u64 (z0w .u64 a0 1) 6148914691236517205)+(z2X .u64 a0 6148914691236517205))) 3689348814741910323))) 4)+(u64.wrap ((z2X .u64 (z0w .u64 (u64.wrap ((z2X .u64 (z0w .u64 a0 1) 6148914691236517205)+(z2X .u64 a0 6148914691236517205))) 2) 3689348814741910323)+(z2X .u64 (u64.wrap ((z2X .u64 (z0w .u64 a0 1) 6148914691236517205)+(z2X .u64 a0 6148914691236517205))) 3689348814741910323))))) 1085102592571150095) 8)))+(z0w .u64 (u64.wrap ((z2X .u64 (u64.wrap ((z0w .u64 (u64.wrap ((z2X .u64 (z0w .u64 (u64.wrap ((z2X .u64 (z0w .u64 a0 1) 6148914691236517205)+(z2X .u64 a0 6148914691236517205))) 2) 3689348814741910323)+(z2X .u64 (u64.wrap ((z2X .u64 (z0w .u64 a0 1) 6148914691236517205)+(z2X .u64 a0 6148914691236517205))) 3689348814741910323))) 4)+(u64.wrap ((z2X .u64 (z0w .u64 (u64.wrap ((z2X .u64 (z0w .u64 a0 1) 6148914691236517205)+(z2X .u64 a0 6148914691236517205))) 2) 3689348814741910323)+(z2X .u64 (u64.wrap ((z2X .u64 (z0w .u64 a0 1) 6148914691236517205)+(z2X .u64 a0 6148914691236517205))) 3689348814741910323))))) 1085102592571150095)+(z0w .u64 (z2X .u64 (u64.wrap ((z0w .u64 (u64.wrap ((z2X .u64 (z0w .u64 (u64.wrap ((z2X .u64 (z0w .u64 a0 1) 6148914691236517205)+(z2X .u64 a0 6148914691236517205))) 2) 3689348814741910323)+(z2X .u64 (u64.wrap ((z2X .u64 (z0w .u64 a0 1) 6148914691236517205)+(z2X .u64 a0 6148914691236517205))) 3689348814741910323))) 4)+(u64.wrap ((z2X .u64 (z0w .u64 (u64.wrap ((z2X .u64 (z0w .u64 a0 1) 6148914691236517205)+(z2X .u64 a0 6148914691236517205))) 2) 3689348814741910323)+(z2X .u64 (u64.wrap ((z2X .u64 (z0w .u64 a0 1) 6148914691236517205)+(z2X .u64 a0 6148914691236517205))) 3689348814741910323))))) 1085102592571150095) 8))) 16)))+(z0w .u64 (u64.wrap ((u64.wrap ((z2X .u64 (u64.wrap ((z0w .u64 (u64.wrap ((z2X .u64 (z0w .u64 (u64.wrap ((z2X .u64 (z0w .u64 a0 1) 6148914691236517205)+(z2X .u64 a0 6148914691236517205))) 2) 3689348814741910323)+(z2X .u64 (u64.wrap ((z2X .u64 (z0w .u64 a0 1) 6148914691236517205)+(z2X .u64 a0 6148914691236517205))) 3689348814741910323))) 4)+(u64.wrap ((z2X .u64 (z0w .u64 (u64.wrap ((z2X .u64 (z0w .u64 a0 1) 6148914691236517205)+(z2X .u64 a0 6148914691236517205))) 2) 3689348814741910323)+(z2X .u64 (u64.wrap ((z2X .u64 (z0w .u64 a0 1) 6148914691236517205)+(z2X .u64 a0 6148914691236517205))) 3689348814741910323))))) 1085102592571150095)+(z0w .u64 (z2X .u64 (u64.wrap ((z0w .u64 (u64.wrap ((z2X .u64 (z0w .u64 (u64.wrap ((z2X .u64 (z0w .u64 a0 1) 6148914691236517205)+(z2X .u64 a0 6148914691236517205))) 2) 3689348814741910323)+(z2X .u64 (u64.wrap ((z2X .u64 (z0w .u64 a0 1) 6148914691236517205)+(z2X .u64 a0 6148914691236517205))) 3689348814741910323))) 4)+(u64.wrap ((z2X .u64 (z0w .u64 (u64.wrap ((z2X .u64 (z0w .u64 a0 1) 6148914691236517205)+(z2X .u64 a0 6148914691236517205))) 2) 3689348814741910323)+(z2X .u64 (u64.wrap ((z2X .u64 (z0w .u64 a0 1) 6148914691236517205)+(z2X .u64 a0 6148914691236517205))) 3689348814741910323))))) 1085102592571150095) 8)))+(z0w .u64 (u64.wrap ((z2X .u64 (u64.wrap ((z0w .u64 (u64.wrap ((z2X .u64 (z0w .u64 (u64.wrap ((z2X .u64 (z0w .u64 a0 1) 6148914691236517205)+(z2X .u64 a0 6148914691236517205))) 2) 3689348814741910323)+(z2X .u64 (u64.wrap ((z2X .u64 (z0w .u64 a0 1) 6148914691236517205)+(z2X .u64 a0 6148914691236517205))) 3689348814741910323))) 4)+(u64.wrap ((z2X .u64 (z0w .u64 (u64.wrap ((z2X .u64 (z0w .u64 a0 1) 6148914691236517205)+(z2X .u64 a0 6148914691236517205))) 2) 3689348814741910323)+(z2X .u64 (u64.wrap ((z2X .u64 (z0w .u64 a0 1) 6148914691236517205)+(z2X .u64 a0 6148914691236517205))) 3689348814741910323))))) 1085102592571150095)+(z0w .u64 (z2X .u64 (u64.wrap ((z0w .u64 (u64.wrap ((z2X .u64 (z0w .u64 (u64.wrap ((z2X .u64 (z0w .u64 a0 1) 6148914691236517205)+(z2X .u64 a0 6148914691236517205))) 2) 3689348814741910323)+(z2X .u64 (u64.wrap ((z2X .u64 (z0w .u64 a0 1) 6148914691236517205)+(z2X .u64 a0 6148914691236517205))) 3689348814741910323))) 4)+(u64.wrap ((z2X .u64 (z0w .u64 (u64.wrap ((z2X .u64 (z0w .u64 a0 1) 6148914691236517205)+(z2X .u64 a0 6148914691236517205))) 2) 3689348814741910323)+(z2X .u64 (u64.wrap ((z2X .u64 (z0w .u64 a0 1) 6148914691236517205)+(z2X .u64 a0 6148914691236517205))) 3689348814741910323))))) 1085102592571150095) 8))) 16))) 32)))) 127)
instance{a0:Int}:Ok (z3n a0) (fun r=>L 179 [.sc (.int .u64 a0)]=some (.sc (.int .i64 r),[.dead])):=⟨fun r h=>by have h:=z4u h;unfold z3n at h;exact z5i rfl Tryz.func179 (bdy Tryz.f179 rfl)⟩
def z4T(a0:Int):Option (Int):=
 (z3n a0).bind fun v2=>
 some v2
instance{a0:Int}:Ok (z4T a0) (fun r=>L 139 [.sc (.int .u64 a0)]=some (.sc (.int .i64 r),[.dead])):=⟨fun r h=>by have h:=z4u h;unfold z4T at h;exact z5i rfl Tryz.func139 (bdy Tryz.f139 rfl)⟩
def z6W(a0:Int):Option (Int):=
 (z4T (u64.wrap a0)).bind fun v2=>
 some v2
instance{a0:Int}:Ok (z6W a0) (fun r=>L 99 [.sc (.int .i64 a0)]=some (.sc (.int .i64 r),[.dead])):=⟨fun r h=>by have h:=z4u h;unfold z6W at h;exact z5i rfl Tryz.func99 (bdy Tryz.f99 rfl)⟩
end
end
section
open Go Go.IntKind
noncomputable section
variable{a1 a2 a3:Int}{a0 m0 m2 m3:List Int}{rf:List Int->Int->Int->Int->List Int->Option (List Int)}
def cmp_isNaN_int(a0:Int):Option (Bool):=
 some (!decide (a0=a0))
instance{a0:Int}:Ok (cmp_isNaN_int a0) (fun r=>L 93 [.sc (.int .i64 a0)]=some (.sc (.bool r),[.dead])):=⟨fun r h=>by have h:=z4u h;unfold cmp_isNaN_int at h;exact z5i rfl Tryz.func93 (bdy Tryz.f93 rfl)⟩
def cmp_Compare_int(a0:Int)(a1:Int):Option (Int):=
 (cmp_isNaN_int a0).bind fun v3=>
 (cmp_isNaN_int a1).bind fun v4=>
 if v3=true then
 if v4=true then
 some 0
 else
 some (-1)
 else
 if v4=true then
 some 1
 else
 if a0<a1 then
 some (-1)
 else
 if a1<a0 then
 some 1
 else
 some 0
instance{a0:Int}:Ok (cmp_Compare_int a0 a1) (fun r=>L 49 [.sc (.int .i64 a0),.sc (.int .i64 a1)]=some (.sc (.int .i64 r),[.dead,.dead])):=⟨fun r h=>by have h:=z4u h;unfold cmp_Compare_int at h;exact z5i rfl Tryz.func49 (bdy Tryz.f49 rfl)⟩
def z1c(a0:Int)(a1:Int)(m1:List Int):Option (Int):=
 (atI m1 a0).bind fun v4=>
 (atI m1 a1).bind fun v5=>
 (cmp_Compare_int v4 v5).bind fun v6=>
 some v6
instance{a0:Int}{m1:List Int}:Ok (z1c a0 a1 m1) (fun r=>L 102 [.sc (.int .i64 a0),.sc (.int .i64 a1),.pr [(tI m1)]]=some (.sc (.int .i64 r),[.dead,.dead,.dead])):=⟨fun r h=>by have h:=z4u h;unfold z1c at h;exact z5i rfl Tryz.func102 (bdy Tryz.f102 rfl)⟩
abbrev z1v(a1:Int)(m3:List Int)(w95:Int):Int×List Int->Option ((Int×List Int)⊕((Int×List Int)⊕List Int))
 |(w127,w128)=>
 if a1<w127 then
 (atI w128 w127).bind fun v136=>
 (atI w128 (i64.wrap (w127-1))).bind fun v137=>
 (z1c v136 v137 m3).bind fun v138=>
 if v138<0 then
 (atI (w128.set w127.toNat v137) (i64.wrap (w127-1))).bind fun v142=>
 z0c (i64.wrap (w127-1),((w128.set w127.toNat v137).set (i64.wrap (w127-1)).toNat v136))
 else
 z0i<|
 z0c (i64.wrap (w95+1),w128)
 else
 z0i<|
 z0c (i64.wrap (w95+1),w128)
instance{w95:Int}:Hd (z1v a1 m3 w95):=⟨fun(w127,w128)=>([(9,xI w127)],[(0,(tO w128))])⟩
abbrev z1w(a1:Int)(a2:Int)(m3:List Int):Int×List Int->Option ((Int×List Int)⊕List Int)
 |(w95,w96)=>
 if w95<a2 then
 z0k (z1v a1 m3 w95) LFm (w95,w96)
 else
 z0i<|
 some w96
instance:Hd (z1w a1 a2 m3):=⟨fun(w95,w96)=>([(8,xI w95)],[(0,(tO w96))])⟩
def z0B(a0:List Int)(a1:Int)(a2:Int)(m3:List Int):Option (List Int):=
 z0k (z1w a1 a2 m3) LFm (i64.wrap (a1+1),a0)
instance:Ok (z0B a0 a1 a2 m3) (fun r=>L 140 [(tO a0),.sc (.int .i64 a1),.sc (.int .i64 a2),.cl 102 [.pr [(tI m3)]]]=some (.tup [],[(tO r),.dead,.dead,.dead])):=⟨fun r h=>by have h:=z4u h;unfold z0B at h;exact z5i rfl Tryz.func140 (bdy Tryz.f140 rfl)⟩
abbrev z1N(a1:Int)(a2:Int)(a3:Int):Int×List Int->Option ((Int×List Int)⊕List Int)
 |(w19,w20)=>
 if w19<a3 then
 (atI w20 (i64.wrap (a2+w19))).bind fun v25=>
 (atI w20 (i64.wrap (a1+w19))).bind fun v26=>
 (atI (w20.set (i64.wrap (a1+w19)).toNat v25) (i64.wrap (a2+w19))).bind fun v28=>
 z0c (i64.wrap (w19+1),((w20.set (i64.wrap (a1+w19)).toNat v25).set (i64.wrap (a2+w19)).toNat v26))
 else
 z0i<|
 some w20
instance:Hd (z1N a1 a2 a3):=⟨fun(w19,w20)=>([(10,xI w19)],[(0,(tO w20))])⟩
def z0s(a0:List Int)(a1:Int)(a2:Int)(a3:Int)(m0:List Int):Option (List Int):=
 z0k (z1N a1 a2 a3) LFm (0,a0)
instance:Ok (z0s a0 a1 a2 a3 m0) (fun r=>L 198 [(tO a0),.sc (.int .i64 a1),.sc (.int .i64 a2),.sc (.int .i64 a3),.cl 102 [.pr [(tI m0)]]]=some (.tup [],[(tO r),.dead,.dead,.dead,.dead])):=⟨fun r h=>by have h:=z4u h;unfold z0s at h;exact z5i rfl Tryz.func198 (bdy Tryz.f198 rfl)⟩
abbrev z1Z(a2:Int)(m0:List Int):Int×Int×List Int->Option ((Int×Int×List Int)⊕List Int)
 |(w13,w15,w14)=>
 if w13=w15 then
 z0i<|
 (z0s w14 (i64.wrap (a2-w13)) a2 w13 m0).bind fun v18=>
 some v18
 else
 if w15<w13 then
 (z0s w14 (i64.wrap (a2-w13)) a2 w15 m0).bind fun v19=>
 z0c (i64.wrap (w13-w15),w15,v19)
 else
 (z0s w14 (i64.wrap (a2-w13)) (i64.wrap ((i64.wrap (a2+w15))-w13)) w13 m0).bind fun v20=>
 z0c (w13,i64.wrap (w15-w13),v20)
instance:Hd (z1Z a2 m0):=⟨fun(w13,w15,w14)=>([(10,xI w13),(11,xI w15)],[(0,(tO w14))])⟩
def z0T(a0:List Int)(a1:Int)(a2:Int)(a3:Int)(m0:List Int):Option (List Int):=
 z0k (z1Z a2 m0) LFm (i64.wrap (a2-a1),i64.wrap (a3-a2),a0)
instance:Ok (z0T a0 a1 a2 a3 m0) (fun r=>L 180 [(tO a0),.sc (.int .i64 a1),.sc (.int .i64 a2),.sc (.int .i64 a3),.cl 102 [.pr [(tI m0)]]]=some (.tup [],[(tO r),.dead,.dead,.dead,.dead])):=⟨fun r h=>by have h:=z4u h;unfold z0T at h;exact z5i rfl Tryz.func180 (bdy Tryz.f180 rfl)⟩
abbrev z1Q(w102:Int):Int×List Int->Option ((Int×List Int)⊕List Int)
 |(w114,w115)=>
 if w114<(i64.wrap (w102-1)) then
 (atI w115 (i64.wrap (w114+1))).bind fun v120=>
 (atI w115 w114).bind fun v121=>
 (atI (w115.set w114.toNat v120) (i64.wrap (w114+1))).bind fun v123=>
 z0c (i64.wrap (w114+1),((w115.set w114.toNat v120).set (i64.wrap (w114+1)).toNat v121))
 else
 z0i<|
 some w115
instance{w102:Int}:Hd (z1Q w102):=⟨fun(w114,w115)=>([(13,xI w114)],[(0,(tO w115))])⟩
abbrev z1R(a0:List Int)(a1:Int)(m0:List Int):Int×Int->Option ((Int×Int)⊕List Int)
 |(w102,w103)=>
 if w102<w103 then
 chk (¬1<0)<|
 (atI a0 (md w102 w103)).bind fun v107=>
 (atI a0 a1).bind fun v108=>
 (z1c v107 v108 m0).bind fun v109=>
 if v109<0 then
 z0c (i64.wrap ((md w102 w103)+1),w103)
 else
 z0c (w102,i64.wrap (z0w .u64 (u64.wrap (i64.wrap (w102+w103))) 1))
 else
 z0i<|
 z0k (z1Q w102) LFm (a1,a0)
instance:Hd (z1R a0 a1 m0):=⟨fun(w102,w103)=>([(10,xI w102),(11,xI w103)],[])⟩
abbrev z1I(w128:Int):Int×List Int->Option ((Int×List Int)⊕List Int)
 |(w139,w140)=>
 if w128<w139 then
 (atI w140 (i64.wrap (w139-1))).bind fun v145=>
 (atI w140 w139).bind fun v146=>
 (atI (w140.set w139.toNat v145) (i64.wrap (w139-1))).bind fun v148=>
 z0c (i64.wrap (w139-1),((w140.set w139.toNat v145).set (i64.wrap (w139-1)).toNat v146))
 else
 z0i<|
 some w140
instance{w128:Int}:Hd (z1I w128):=⟨fun(w139,w140)=>([(17,xI w139)],[(0,(tO w140))])⟩
abbrev z1J(a0:List Int)(a2:Int)(m0:List Int):Int×Int->Option ((Int×Int)⊕List Int)
 |(w128,w127)=>
 if w128<w127 then
 chk (¬1<0)<|
 (atI a0 a2).bind fun v132=>
 (atI a0 (md w128 w127)).bind fun v133=>
 (z1c v132 v133 m0).bind fun v134=>
 if v134<0 then
 z0c (w128,i64.wrap (z0w .u64 (u64.wrap (i64.wrap (w128+w127))) 1))
 else
 z0c (i64.wrap ((md w128 w127)+1),w127)
 else
 z0i<|
 z0k (z1I w128) LFm (a2,a0)
instance:Hd (z1J a0 a2 m0):=⟨fun(w128,w127)=>([(14,xI w128),(15,xI w127)],[])⟩
abbrev z1H(a0:List Int)(a1:Int)(a2:Int)(a3:Int)(m0:List Int)(rf:List Int->Int->Int->Int->List Int->Option (List Int)):Int×Int->Option ((Int×Int)⊕List Int)
 |(w153,w152)=>
 if w153<w152 then
 chk (¬1<0)<|
 (atI a0 (i64.wrap ((i64.wrap ((i64.wrap ((md a1 a3)+a2))-1))-(md w153 w152)))).bind fun v157=>
 (atI a0 (md w153 w152)).bind fun v158=>
 (z1c v157 v158 m0).bind fun v159=>
 if v159<0 then
 z0c (w153,i64.wrap (z0w .u64 (u64.wrap (i64.wrap (w153+w152))) 1))
 else
 z0c (i64.wrap ((md w153 w152)+1),w152)
 else
 z0i<|
 if w153<a2 then
 if a2<(i64.wrap ((i64.wrap ((md a1 a3)+a2))-w153)) then
 (z0T a0 w153 a2 (i64.wrap ((i64.wrap ((md a1 a3)+a2))-w153)) m0).bind fun v160=>
 if a1<w153 then
 if w153<(md a1 a3) then
 (rf v160 a1 w153 (md a1 a3) m0).bind fun v161=>
 if(md a1 a3)<(i64.wrap ((i64.wrap ((md a1 a3)+a2))-w153)) then
 if(i64.wrap ((i64.wrap ((md a1 a3)+a2))-w153))<a3 then
 (rf v161 (md a1 a3) (i64.wrap ((i64.wrap ((md a1 a3)+a2))-w153)) a3 m0).bind fun v162=>
 some v162
 else
 some v161
 else
 some v161
 else
 if(md a1 a3)<(i64.wrap ((i64.wrap ((md a1 a3)+a2))-w153)) then
 if(i64.wrap ((i64.wrap ((md a1 a3)+a2))-w153))<a3 then
 (rf v160 (md a1 a3) (i64.wrap ((i64.wrap ((md a1 a3)+a2))-w153)) a3 m0).bind fun v163=>
 some v163
 else
 some v160
 else
 some v160
 else
 if(md a1 a3)<(i64.wrap ((i64.wrap ((md a1 a3)+a2))-w153)) then
 if(i64.wrap ((i64.wrap ((md a1 a3)+a2))-w153))<a3 then
 (rf v160 (md a1 a3) (i64.wrap ((i64.wrap ((md a1 a3)+a2))-w153)) a3 m0).bind fun v164=>
 some v164
 else
 some v160
 else
 some v160
 else
 if a1<w153 then
 if w153<(md a1 a3) then
 (rf a0 a1 w153 (md a1 a3) m0).bind fun v165=>
 if(md a1 a3)<(i64.wrap ((i64.wrap ((md a1 a3)+a2))-w153)) then
 if(i64.wrap ((i64.wrap ((md a1 a3)+a2))-w153))<a3 then
 (rf v165 (md a1 a3) (i64.wrap ((i64.wrap ((md a1 a3)+a2))-w153)) a3 m0).bind fun v166=>
 some v166
 else
 some v165
 else
 some v165
 else
 if(md a1 a3)<(i64.wrap ((i64.wrap ((md a1 a3)+a2))-w153)) then
 if(i64.wrap ((i64.wrap ((md a1 a3)+a2))-w153))<a3 then
 (rf a0 (md a1 a3) (i64.wrap ((i64.wrap ((md a1 a3)+a2))-w153)) a3 m0).bind fun v167=>
 some v167
 else
 some a0
 else
 some a0
 else
 if(md a1 a3)<(i64.wrap ((i64.wrap ((md a1 a3)+a2))-w153)) then
 if(i64.wrap ((i64.wrap ((md a1 a3)+a2))-w153))<a3 then
 (rf a0 (md a1 a3) (i64.wrap ((i64.wrap ((md a1 a3)+a2))-w153)) a3 m0).bind fun v168=>
 some v168
 else
 some a0
 else
 some a0
 else
 if a1<w153 then
 if w153<(md a1 a3) then
 (rf a0 a1 w153 (md a1 a3) m0).bind fun v169=>
 if(md a1 a3)<(i64.wrap ((i64.wrap ((md a1 a3)+a2))-w153)) then
 if(i64.wrap ((i64.wrap ((md a1 a3)+a2))-w153))<a3 then
 (rf v169 (md a1 a3) (i64.wrap ((i64.wrap ((md a1 a3)+a2))-w153)) a3 m0).bind fun v170=>
 some v170
 else
 some v169
 else
 some v169
 else
 if(md a1 a3)<(i64.wrap ((i64.wrap ((md a1 a3)+a2))-w153)) then
 if(i64.wrap ((i64.wrap ((md a1 a3)+a2))-w153))<a3 then
 (rf a0 (md a1 a3) (i64.wrap ((i64.wrap ((md a1 a3)+a2))-w153)) a3 m0).bind fun v171=>
 some v171
 else
 some a0
 else
 some a0
 else
 if(md a1 a3)<(i64.wrap ((i64.wrap ((md a1 a3)+a2))-w153)) then
 if(i64.wrap ((i64.wrap ((md a1 a3)+a2))-w153))<a3 then
 (rf a0 (md a1 a3) (i64.wrap ((i64.wrap ((md a1 a3)+a2))-w153)) a3 m0).bind fun v172=>
 some v172
 else
 some a0
 else
 some a0
instance:Hd (z1H a0 a1 a2 a3 m0 rf):=⟨fun(w153,w152)=>([(20,xI w153),(21,xI w152)],[])⟩
abbrev z1F(a0:List Int)(a1:Int)(a2:Int)(a3:Int)(m0:List Int)(rf:List Int->Int->Int->Int->List Int->Option (List Int)):Int×Int->Option ((Int×Int)⊕List Int)
 |(w177,w176)=>
 if w177<w176 then
 chk (¬1<0)<|
 (atI a0 (i64.wrap ((i64.wrap ((i64.wrap ((md a1 a3)+a2))-1))-(md w177 w176)))).bind fun v181=>
 (atI a0 (md w177 w176)).bind fun v182=>
 (z1c v181 v182 m0).bind fun v183=>
 if v183<0 then
 z0c (w177,i64.wrap (z0w .u64 (u64.wrap (i64.wrap (w177+w176))) 1))
 else
 z0c (i64.wrap ((md w177 w176)+1),w176)
 else
 z0i<|
 if w177<a2 then
 if a2<(i64.wrap ((i64.wrap ((md a1 a3)+a2))-w177)) then
 (z0T a0 w177 a2 (i64.wrap ((i64.wrap ((md a1 a3)+a2))-w177)) m0).bind fun v184=>
 if a1<w177 then
 if w177<(md a1 a3) then
 (rf v184 a1 w177 (md a1 a3) m0).bind fun v185=>
 if(md a1 a3)<(i64.wrap ((i64.wrap ((md a1 a3)+a2))-w177)) then
 if(i64.wrap ((i64.wrap ((md a1 a3)+a2))-w177))<a3 then
 (rf v185 (md a1 a3) (i64.wrap ((i64.wrap ((md a1 a3)+a2))-w177)) a3 m0).bind fun v186=>
 some v186
 else
 some v185
 else
 some v185
 else
 if(md a1 a3)<(i64.wrap ((i64.wrap ((md a1 a3)+a2))-w177)) then
 if(i64.wrap ((i64.wrap ((md a1 a3)+a2))-w177))<a3 then
 (rf v184 (md a1 a3) (i64.wrap ((i64.wrap ((md a1 a3)+a2))-w177)) a3 m0).bind fun v187=>
 some v187
 else
 some v184
 else
 some v184
 else
 if(md a1 a3)<(i64.wrap ((i64.wrap ((md a1 a3)+a2))-w177)) then
 if(i64.wrap ((i64.wrap ((md a1 a3)+a2))-w177))<a3 then
 (rf v184 (md a1 a3) (i64.wrap ((i64.wrap ((md a1 a3)+a2))-w177)) a3 m0).bind fun v188=>
 some v188
 else
 some v184
 else
 some v184
 else
 if a1<w177 then
 if w177<(md a1 a3) then
 (rf a0 a1 w177 (md a1 a3) m0).bind fun v189=>
 if(md a1 a3)<(i64.wrap ((i64.wrap ((md a1 a3)+a2))-w177)) then
 if(i64.wrap ((i64.wrap ((md a1 a3)+a2))-w177))<a3 then
 (rf v189 (md a1 a3) (i64.wrap ((i64.wrap ((md a1 a3)+a2))-w177)) a3 m0).bind fun v190=>
 some v190
 else
 some v189
 else
 some v189
 else
 if(md a1 a3)<(i64.wrap ((i64.wrap ((md a1 a3)+a2))-w177)) then
 if(i64.wrap ((i64.wrap ((md a1 a3)+a2))-w177))<a3 then
 (rf a0 (md a1 a3) (i64.wrap ((i64.wrap ((md a1 a3)+a2))-w177)) a3 m0).bind fun v191=>
 some v191
 else
 some a0
 else
 some a0
 else
 if(md a1 a3)<(i64.wrap ((i64.wrap ((md a1 a3)+a2))-w177)) then
 if(i64.wrap ((i64.wrap ((md a1 a3)+a2))-w177))<a3 then
 (rf a0 (md a1 a3) (i64.wrap ((i64.wrap ((md a1 a3)+a2))-w177)) a3 m0).bind fun v192=>
 some v192
 else
 some a0
 else
 some a0
 else
 if a1<w177 then
 if w177<(md a1 a3) then
 (rf a0 a1 w177 (md a1 a3) m0).bind fun v193=>
 if(md a1 a3)<(i64.wrap ((i64.wrap ((md a1 a3)+a2))-w177)) then
 if(i64.wrap ((i64.wrap ((md a1 a3)+a2))-w177))<a3 then
 (rf v193 (md a1 a3) (i64.wrap ((i64.wrap ((md a1 a3)+a2))-w177)) a3 m0).bind fun v194=>
 some v194
 else
 some v193
 else
 some v193
 else
 if(md a1 a3)<(i64.wrap ((i64.wrap ((md a1 a3)+a2))-w177)) then
 if(i64.wrap ((i64.wrap ((md a1 a3)+a2))-w177))<a3 then
 (rf a0 (md a1 a3) (i64.wrap ((i64.wrap ((md a1 a3)+a2))-w177)) a3 m0).bind fun v195=>
 some v195
 else
 some a0
 else
 some a0
 else
 if(md a1 a3)<(i64.wrap ((i64.wrap ((md a1 a3)+a2))-w177)) then
 if(i64.wrap ((i64.wrap ((md a1 a3)+a2))-w177))<a3 then
 (rf a0 (md a1 a3) (i64.wrap ((i64.wrap ((md a1 a3)+a2))-w177)) a3 m0).bind fun v196=>
 some v196
 else
 some a0
 else
 some a0
instance:Hd (z1F a0 a1 a2 a3 m0 rf):=⟨fun(w177,w176)=>([(20,xI w177),(21,xI w176)],[])⟩
def z0G(rf:List Int->Int->Int->Int->List Int->Option (List Int))(a0:List Int)(a1:Int)(a2:Int)(a3:Int)(m0:List Int):Option (List Int):=
 if(i64.wrap (a2-a1))=1 then
 z0k (z1R a0 a1 m0) LFm (a2,a3)
 else
 if(i64.wrap (a3-a2))=1 then
 z0k (z1J a0 a2 m0) LFm (a1,a2)
 else
 chk (¬1<0)<|
 if(md a1 a3)<a2 then
 z0k (z1H a0 a1 a2 a3 m0 rf) LFm (i64.wrap ((i64.wrap ((md a1 a3)+a2))-a3),i64.wrap (z0w .u64 (u64.wrap (i64.wrap (a1+a3))) 1))
 else
 z0k (z1F a0 a1 a2 a3 m0 rf) LFm (a1,a2)
theorem z3A[ih:∀(a0:List Int) (a1:Int) (a2:Int) (a3:Int) (m0:List Int),Ok (rf a0 a1 a2 a3 m0) (fun r=>L 141 [(tO a0),.sc (.int .i64 a1),.sc (.int .i64 a2),.sc (.int .i64 a3),.cl 102 [.pr [(tI m0)]]]=some (.tup [],[(tO r),.dead,.dead,.dead,.dead]))]:Ok (z0G rf a0 a1 a2 a3 m0) (fun r=>L 141 [(tO a0),.sc (.int .i64 a1),.sc (.int .i64 a2),.sc (.int .i64 a3),.cl 102 [.pr [(tI m0)]]]=some (.tup [],[(tO r),.dead,.dead,.dead,.dead])):=⟨fun r h=>by have h:=z4u h;unfold z0G at h;exact z5i rfl Tryz.func141 (bdy Tryz.f141 rfl)⟩
def z0l:Nat->List Int->Int->Int->Int->List Int->Option (List Int)
 |0=>fun _ _ _ _ _=>none
 |k+1=>z0G (z0l k)
instance:∀ {k:Nat} {a0:List Int} {a1:Int} {a2:Int} {a3:Int} {m0:List Int},Ok (z0l k a0 a1 a2 a3 m0) (fun r=>L 141 [(tO a0),.sc (.int .i64 a1),.sc (.int .i64 a2),.sc (.int .i64 a3),.cl 102 [.pr [(tI m0)]]]=some (.tup [],[(tO r),.dead,.dead,.dead,.dead])):=by
 intro k
 induction k with
 |zero=>intros;exact⟨fun r h=>by cases h⟩
 |succ k ih=>intros;have ih2:= @ih;exact z3A (rf:=z0l k)
abbrev z0I(a1:Int)(m2:List Int)(w45:Int):Int×Int×List Int->Option ((Int×Int×List Int)⊕((Int×List Int)⊕List Int))
 |(w55,w56,w57)=>
 if w56<=a1 then
 (z0l 5000 w57 w55 (i64.wrap (w55+w45)) w56 m2).bind fun v59=>
 z0c (w56,i64.wrap (w56+(i64.wrap (2*w45))),v59)
 else
 z0i<|
 if(i64.wrap (w55+w45))<a1 then
 (z0l 5000 w57 w55 (i64.wrap (w55+w45)) a1 m2).bind fun v60=>
 z0c (i64.wrap (w45*2),v60)
 else
 z0c (i64.wrap (w45*2),w57)
instance{w45:Int}:Hd (z0I a1 m2 w45):=⟨fun(w55,w56,w57)=>([(7,xI w55),(8,xI w56)],[(0,(tO w57))])⟩
abbrev z0J(a1:Int)(m2:List Int):Int×List Int->Option ((Int×List Int)⊕List Int)
 |(w45,w46)=>
 if w45<a1 then
 z0k (z0I a1 m2 w45) LFm (0,i64.wrap (2*w45),w46)
 else
 z0i<|
 some w46
instance:Hd (z0J a1 m2):=⟨fun(w45,w46)=>([(6,xI w45)],[(0,(tO w46))])⟩
abbrev z0K(a1:Int)(m2:List Int):Int×Int×List Int->Option ((Int×Int×List Int)⊕List Int)
 |(w32,w33,w34)=>
 if w33<=a1 then
 (z0B w34 w32 w33 m2).bind fun v36=>
 z0c (w33,i64.wrap (w33+20),v36)
 else
 z0i<|
 (z0B w34 w32 a1 m2).bind fun v37=>
 z0k (z0J a1 m2) LFm (20,v37)
instance:Hd (z0K a1 m2):=⟨fun(w32,w33,w34)=>([(7,xI w32),(8,xI w33)],[(0,(tO w34))])⟩
def z0R(a0:List Int)(a1:Int)(m2:List Int):Option (List Int):=
 z0k (z0K a1 m2) LFm (0,20,a0)
instance:Ok (z0R a0 a1 m2) (fun r=>L 103 [(tO a0),.sc (.int .i64 a1),.cl 102 [.pr [(tI m2)]]]=some (.tup [],[(tO r),.dead,.dead])):=⟨fun r h=>by have h:=z4u h;unfold z0R at h;exact z5i rfl Tryz.func103 (bdy Tryz.f103 rfl)⟩
def z0n(a0:List Int)(m4:List Int):Option (List Int):=
 (z0R a0 (a0.length:Int) m4).bind fun v2=>
 some v2
instance{m4:List Int}:Ok (z0n a0 m4) (fun r=>L 59 [(tO a0),.cl 102 [.pr [(tI m4)]]]=some (.tup [],[(tO r),.dead])):=⟨fun r h=>by have h:=z4u h;unfold z0n at h;exact z5i rfl Tryz.func59 (bdy Tryz.f59 rfl)⟩
abbrev z2s(a0:Dgm)(w136:Int)(w138:List Int):Int×List Int->Option ((Int×List Int)⊕((Int×List Int×List Int)⊕List Int))
 |(w159,w160)=>
 if w159<(a0.sets.length:Int) then
 (atI a0.below w159).bind fun v165=>
 (atI v165 w136).bind fun v166=>
 if v166=true then
 (atI w160 w136).bind fun v167=>
 z0c (i64.wrap (w159+1),(w160.set w136.toNat (i64.wrap (v167+1))))
 else
 z0c (i64.wrap (w159+1),w160)
 else
 z0i<|
 z0c (i64.wrap (w136+1),w160,(w138.set w136.toNat w136))
instance{a0:Dgm}{w136:Int}{w138:List Int}:Hd (z2s a0 w136 w138):=⟨fun(w159,w160)=>([(34,xI w159)],[(5,.vr [(tO w160)])])⟩
abbrev z2o(a0:Dgm)(a1:List Int)(w193:Int)(v221:Int):Int×List Int->Option ((Int×List Int)⊕((Int×List Int)⊕List Int))
 |(w231,w232)=>
 if w231<(a0.sets.length:Int) then
 (atI a0.below w231).bind fun v240=>
 (atI v240 v221).bind fun v241=>
 if v241=true then
 (atI a1 w231).bind fun v242=>
 (atI a1 v221).bind fun v243=>
 if v242=v243 then
 z0c (i64.wrap (w231+1),w232)
 else
 (atI w232 v221).bind fun v244=>
 (atI w232 w231).bind fun v245=>
 z0c (i64.wrap (w231+1),(w232.set v221.toNat (if v244<(i64.wrap (v245+1)) then(i64.wrap (v245+1)) else v244)))
 else
 z0c (i64.wrap (w231+1),w232)
 else
 z0i<|
 z0c (i64.wrap (w193+1),w232)
instance{a0:Dgm}{a1:List Int}{w193:Int}{v221:Int}:Hd (z2o a0 a1 w193 v221):=⟨fun(w231,w232)=>([(76,xI w231)],[(9,(tO w232))])⟩
abbrev z2P(a0:Dgm)(a1:List Int)(v169:List Int):Int×List Int->Option ((Int×List Int)⊕List Int)
 |(w193,w194)=>
 if w193<(v169.length:Int) then
 (atI v169 w193).bind fun v221=>
 (atI a0.sets v221).bind fun v222=>
 (z6W v222).bind fun v223=>
 if v223=1 then
 z0c (i64.wrap (w193+1),w194)
 else
 z0k (z2o a0 a1 w193 v221) LFm (0,w194)
 else
 z0i<|
 some w194
instance{a0:Dgm}{a1:List Int}{v169:List Int}:Hd (z2P a0 a1 v169):=⟨fun(w193,w194)=>([(62,xI w193)],[(9,(tO w194))])⟩
abbrev z3g(a0:Dgm)(a1:List Int):Int×List Int×List Int->Option ((Int×List Int×List Int)⊕List Int)
 |(w136,w137,w138)=>
 if w136<(a0.sets.length:Int) then
 (atI w138 w136).bind fun v154=>
 z0k (z2s a0 w136 w138) LFm (0,w137)
 else
 z0i<|
 (z0n w138 w137).bind fun v169=>
 chk (z0X 8 (a0.sets.length:Int))<|
 z0k (z2P a0 a1 v169) LFm (0,List.replicate (a0.sets.length:Int).toNat (0:Int))
instance{a0:Dgm}{a1:List Int}:Hd (z3g a0 a1):=⟨fun(w136,w137,w138)=>([(24,xI w136)],[(5,.vr [(tO w137)]),(6,(tO w138))])⟩
def z2U(a0:Dgm)(a1:List Int):Option (List Int):=
 chk (z0X 8 (a0.sets.length:Int))<|
 z0k (z3g a0 a1) LFm (0,List.replicate (a0.sets.length:Int).toNat (0:Int),List.replicate (a0.sets.length:Int).toNat (0:Int))
instance{a0:Dgm}{a1:List Int}:Ok (z2U a0 a1) (fun r=>L 56 [.agg [(tI a0.sets),(tR a0.next),.sl a0.below.length (a0.below.map fun x0=>(tB x0))],(tI a1)]=some ((tO r),[.dead,.dead])):=⟨fun r h=>by have h:=z4u h;unfold z2U at h;exact z5i rfl Tryz.func56 (bdy Tryz.f56 rfl)⟩
end
end
section
open Go Go.IntKind
noncomputable section
variable{v46:DFA×Tape}{a1 a2:Int}{v32:Int×Tape}{v201:List ByteArray}{a0:Tape}
def zcE(a0:Int)(a1:Int):Option (Int):=
 if a1<1 then
 some 0
 else
 chk (¬a1=0)<|
 if(Int.tmod a0 a1)<0 then
 some (i64.wrap ((Int.tmod a0 a1)+a1))
 else
 some (Int.tmod a0 a1)
instance{a0:Int}:Ok (zcE a0 a1) (fun r=>L 80 [.sc (.int .i64 a0),.sc (.int .i64 a1)]=some (.sc (.int .i64 r),[.dead,.dead])):=⟨fun r h=>by have h:=z4u h;unfold zcE at h;exact z5i rfl Tryz.func80 (bdy Tryz.f80 rfl)⟩
def z1m(a0:Tape)(a1:Int):Option (Int×Tape):=
 if(a0.l.length:Int)<=a0.at_ then
 some (0,a0)
 else
 (atI a0.l (i64.wrap ((i64.wrap (a0.at_+1))-1))).bind fun v3=>
 (zcE v3 a1).bind fun v4=>
 some (v4,(⟨a0.l,i64.wrap (a0.at_+1)⟩:Tape))
instance:Ok (z1m a0 a1) (fun r=>L 28 [.vr [(tI a0.l),.sc (.int .i64 a0.at_)],.sc (.int .i64 a1)]=some (.sc (.int .i64 r.1),[.vr [(tI r.2.l),.sc (.int .i64 r.2.at_)],.dead])):=⟨fun r h=>by have h:=z4u h;unfold z1m at h;exact z5i rfl Tryz.func28 (bdy Tryz.f28 rfl)⟩
def zcD(a0:List Int):Option (Tape):=
 if 80<(a0.length:Int) then
 (z6w a0 0 80).bind fun v2=>
 some (⟨v2,0⟩:Tape)
 else
 some (⟨a0,0⟩:Tape)
instance{a0:List Int}:Ok (zcD a0) (fun r=>L 9 [(tI a0)]=some (.vr [(tI r.l),.sc (.int .i64 r.at_)],[.dead])):=⟨fun r h=>by have h:=z4u h;unfold zcD at h;exact z5i rfl Tryz.func9 (bdy Tryz.f9 rfl)⟩
def z4I(a0:Tape):Option (Int×Tape):=
 (z1m a0 8).bind fun v2=>
 some (i64.wrap (2-(zD6 .i64 v2.1 7)),v2.2)
instance:Ok (z4I a0) (fun r=>L 11 [.vr [(tI a0.l),.sc (.int .i64 a0.at_)]]=some (.sc (.int .i64 r.1),[.vr [(tI r.2.l),.sc (.int .i64 r.2.at_)]])):=⟨fun r h=>by have h:=z4u h;unfold z4I at h;exact z5i rfl Tryz.func11 (bdy Tryz.f11 rfl)⟩
abbrev z5F(a1:Int)(v32:Int×Tape)(w42:Int)(w45:List Bool)(w46:List (List Int))(v55:Int×Tape):Int×List Int×Int×List Int->Option ((Int×List Int×Int×List Int)⊕((Int×List Int×Int×List Bool×List (List Int))⊕(DFA×Tape)))
 |(w57,w58,w59,w60)=>
 if w57<a1 then
 (z1m (⟨w58,w59⟩:Tape) (i64.wrap (1+v32.1))).bind fun v62=>
 chk (z1B 8 (w60.length+1))<|
 z0c (i64.wrap (w57+1),v62.2.l,v62.2.at_,w60++ [v62.1])
 else
 z0i<|
 chk (z1B 24 (w46.length+1))<|
 z0c (i64.wrap (w42+1),w58,w59,w45++ [decide (v55.1=1)],w46++ [w60])
instance{w42:Int}{w45:List Bool}{w46:List (List Int)}{v55:Int×Tape}:Hd (z5F a1 v32 w42 w45 w46 v55):=⟨fun(w57,w58,w59,w60)=>([(11,xI w57)],[(0,.vr [(tI w58),.sc (.int .i64 w59)]),(10,(tO w60))])⟩
abbrev z5X(a1:Int)(v32:Int×Tape)(v33:Int×Tape):Int×List Int×Int×List Bool×List (List Int)->Option ((Int×List Int×Int×List Bool×List (List Int))⊕(DFA×Tape))
 |(w42,w43,w44,w45,w46)=>
 if w42<(i64.wrap (1+v32.1)) then
 (z1m (⟨w43,w44⟩:Tape) 2).bind fun v55=>
 chk (z1B 1 (w45.length+1))<|
 z0k (z5F a1 v32 w42 w45 w46 v55) LFm (0,v55.2.l,v55.2.at_,[])
 else
 z0i<|
 some ((⟨a1,v33.1,w45,w46⟩:DFA),(⟨w43,w44⟩:Tape))
instance{v33:Int×Tape}:Hd (z5X a1 v32 v33):=⟨fun(w42,w43,w44,w45,w46)=>([(9,xI w42)],[(0,.vr [(tI w43),.sc (.int .i64 w44)]),(7,.vr [.sc (.int .i64 a1),.sc (.int .i64 v33.1),.os 1 w45.length (w45.map fun x0=>.sc (.bool x0)),.os 1 w46.length (w46.map fun x0=>(tO x0))])])⟩
def z5G(a0:Tape)(a1:Int)(a2:Int):Option (DFA×Tape):=
 (z1m a0 a2).bind fun v32=>
 (z1m v32.2 (i64.wrap (1+v32.1))).bind fun v33=>
 z0k (z5X a1 v32 v33) LFm (0,v33.2.l,v33.2.at_,[],[])
instance:Ok (z5G a0 a1 a2) (fun r=>L 32 [.vr [(tI a0.l),.sc (.int .i64 a0.at_)],.sc (.int .i64 a1),.sc (.int .i64 a2)]=some (.agg [.sc (.int .i64 r.1.letters),.sc (.int .i64 r.1.start),.os 1 r.1.final.length (r.1.final.map fun x0=>.sc (.bool x0)),.os 1 r.1.next.length (r.1.next.map fun x0=>(tO x0))],[.vr [(tI r.2.l),.sc (.int .i64 r.2.at_)],.dead,.dead])):=⟨fun r h=>by have h:=z4u h;unfold z5G at h;exact z5i rfl Tryz.func32 (bdy Tryz.f32 rfl)⟩
abbrev z4A(w61:Int)(v77:List Int)(v46:DFA×Tape):Int×List (List Int)->Option ((Int×List (List Int))⊕((Int×List (List Int))⊕(DFA×Tape)))
 |(w81,w82)=>
 (atI w82 w61).bind fun v87=>
 if w81<(v77.length:Int) then
 (atI v87 w81).bind fun v88=>
 z0c (i64.wrap (w81+1),(w82.set w61.toNat (v87.set w81.toNat (if w61<v88 then v88 else w61))))
 else
 z0i<|
 z0c (i64.wrap (w61+1),w82)
instance{w61:Int}{v77:List Int}:Hd (z4A w61 v77 v46):=⟨fun(w81,w82)=>([(27,xI w81)],[(7,.vr [.sc (.int .i64 v46.1.letters),.sc (.int .i64 v46.1.start),.os 1 v46.1.final.length (v46.1.final.map fun x0=>.sc (.bool x0)),.os 1 w82.length (w82.map fun x0=>(tO x0))])])⟩
abbrev z4B(v46:DFA×Tape):Int×List (List Int)->Option ((Int×List (List Int))⊕(DFA×Tape))
 |(w61,w62)=>
 if w61<(v46.1.next.length:Int) then
 (atI w62 w61).bind fun v77=>
 z0k (z4A w61 v77 v46) LFm (0,w62)
 else
 z0i<|
 some ((⟨v46.1.letters,0,v46.1.final,w62⟩:DFA),v46.2)
instance:Hd (z4B v46):=⟨fun(w61,w62)=>([(18,xI w61)],[(7,.vr [.sc (.int .i64 v46.1.letters),.sc (.int .i64 v46.1.start),.os 1 v46.1.final.length (v46.1.final.map fun x0=>.sc (.bool x0)),.os 1 w62.length (w62.map fun x0=>(tO x0))])])⟩
def z4H(a0:Tape)(a1:Int)(a2:Int):Option (DFA×Tape):=
 (z5G a0 a1 a2).bind fun v46=>
 z0k (z4B v46) LFm (0,v46.1.next)
instance:Ok (z4H a0 a1 a2) (fun r=>L 29 [.vr [(tI a0.l),.sc (.int .i64 a0.at_)],.sc (.int .i64 a1),.sc (.int .i64 a2)]=some (.agg [.sc (.int .i64 r.1.letters),.sc (.int .i64 r.1.start),(tB r.1.final),(tR r.1.next)],[.vr [(tI r.2.l),.sc (.int .i64 r.2.at_)],.dead,.dead])):=⟨fun r h=>by have h:=z4u h;unfold z4H at h;exact zeu rfl Tryz.func29 (bdy Tryz.f29 rfl)⟩
def z2N(v90:Int×Tape)(w125:Int):Int×List Int×Int×List (List Int)×List Int->Option ((Int×List Int×Int×List (List Int)×List Int)⊕((Int×List Int×Int×List (List Int))⊕(DFA×Tape)))
 |(w162,w163,w164,w165,w166)=>
 if w162<(i64.wrap (1+v90.1)) then
 (z1m (⟨w163,w164⟩:Tape) (w166.length:Int)).bind fun v173=>
 (atI w165 w162).bind fun v174=>
 (atI w166 v173.1).bind fun v175=>
 (atI v174 w125).bind fun v176=>
 (z6w w166 0 v173.1).bind fun v177=>
 (z6w w166 (i64.wrap (v173.1+1)) (w166.length:Int)).bind fun v178=>
 chk (z1B 8 (v177.length))<|
 chk (z1B 8 (v177.length+v178.length))<|
 z0c (i64.wrap (w162+1),v173.2.l,v173.2.at_,(w165.set w162.toNat (v174.set w125.toNat v175)),v177++v178)
 else
 z0i<|
 z0c (i64.wrap (w125+1),w163,w164,w165)
def z2L(a1:Int)(v90:Int×Tape)(v91:Int×Tape)(w96:List Bool)(w125:Int):Int×List Int×Int×List (List Int)×List Int->Fr
 |(w162,w163,w164,w165,w166)=>⟨90,[(0,.one (.a 0 [] (0))),(1,.one (.t none (.sc (.int .i64 a1)))),(6,.one (.a 6 [] (0))),(7,.one (.a 7 [] (0))),(8,.one (.t none (.sc (.int .i64 (i64.wrap (1+v90.1)))))),(10,.one (.t none (.sc (.int .i64 w125)))),(11,.one (.h 11 [])),(13,.one (.t none (.sc (.int .i64 w162)))),(1090,.one (.a 0 [] (0)))],[(0,.vr [(tI w163),.sc (.int .i64 w164)]),(6,.vr [.sc (.int .i64 0),.sc (.int .i64 0),.os 1 0 [],.os 1 0 []]),(7,.vr [.sc (.int .i64 a1),.sc (.int .i64 v91.1),.os 1 w96.length (w96.map fun x0=>.sc (.bool x0)),.os 1 w165.length (w165.map fun x0=>(tO x0))]),(11,(tO w166))]⟩
def z2O(v90:Int×Tape)(w125:Int)(w126:List Int)(w127:Int)(w128:List (List Int)):Int×List Int->Option ((Int×List Int)⊕((Int×List Int×Int×List (List Int))⊕(DFA×Tape)))
 |(w154,w155)=>
 if w154<(i64.wrap (1+v90.1)) then
 chk (z1B 8 (w155.length+1))<|
 z0c (i64.wrap (w154+1),w155++ [w154])
 else
 z0i<|
 z0k (z2N v90 w125) LFm (0,w126,w127,w128,w155)
def z2M(a1:Int)(v90:Int×Tape)(v91:Int×Tape)(w96:List Bool)(w125:Int)(w126:List Int)(w127:Int)(w128:List (List Int)):Int×List Int->Fr
 |(w154,w155)=>⟨90,[(0,.one (.a 0 [] (0))),(1,.one (.t none (.sc (.int .i64 a1)))),(6,.one (.a 6 [] (0))),(7,.one (.a 7 [] (0))),(8,.one (.t none (.sc (.int .i64 (i64.wrap (1+v90.1)))))),(10,.one (.t none (.sc (.int .i64 w125)))),(11,.one (.h 11 [])),(12,.one (.t none (.sc (.int .i64 w154)))),(1090,.one (.a 0 [] (0)))],[(0,.vr [(tI w126),.sc (.int .i64 w127)]),(6,.vr [.sc (.int .i64 0),.sc (.int .i64 0),.os 1 0 [],.os 1 0 []]),(7,.vr [.sc (.int .i64 a1),.sc (.int .i64 v91.1),.os 1 w96.length (w96.map fun x0=>.sc (.bool x0)),.os 1 w128.length (w128.map fun x0=>(tO x0))]),(11,(tO w155))]⟩
def z3e(a1:Int)(v90:Int×Tape)(v91:Int×Tape)(w96:List Bool):Int×List Int×Int×List (List Int)->Option ((Int×List Int×Int×List (List Int))⊕(DFA×Tape))
 |(w125,w126,w127,w128)=>
 if w125<a1 then
 z0k (z2O v90 w125 w126 w127 w128) LFm (0,[])
 else
 z0i<|
 some ((⟨a1,v91.1,w96,w128⟩:DFA),(⟨w126,w127⟩:Tape))
def z3c(a1:Int)(v90:Int×Tape)(v91:Int×Tape)(w96:List Bool):Int×List Int×Int×List (List Int)->Fr
 |(w125,w126,w127,w128)=>⟨90,[(0,.one (.a 0 [] (0))),(1,.one (.t none (.sc (.int .i64 a1)))),(6,.one (.a 6 [] (0))),(7,.one (.a 7 [] (0))),(8,.one (.t none (.sc (.int .i64 (i64.wrap (1+v90.1)))))),(10,.one (.t none (.sc (.int .i64 w125)))),(1090,.one (.a 0 [] (0)))],[(0,.vr [(tI w126),.sc (.int .i64 w127)]),(6,.vr [.sc (.int .i64 0),.sc (.int .i64 0),.os 1 0 [],.os 1 0 []]),(7,.vr [.sc (.int .i64 a1),.sc (.int .i64 v91.1),.os 1 w96.length (w96.map fun x0=>.sc (.bool x0)),.os 1 w128.length (w128.map fun x0=>(tO x0))])]⟩
def z3f(a1:Int)(v90:Int×Tape)(v91:Int×Tape):Int×List Int×Int×List Bool×List (List Int)->Option ((Int×List Int×Int×List Bool×List (List Int))⊕(DFA×Tape))
 |(w93,w94,w95,w96,w97)=>
 if w93<(i64.wrap (1+v90.1)) then
 (z1m (⟨w94,w95⟩:Tape) 2).bind fun v99=>
 chk (z1B 1 (w96.length+1))<|
 chk (z0X 8 a1)<|
 chk (z1B 24 (w97.length+1))<|
 z0c (i64.wrap (w93+1),v99.2.l,v99.2.at_,w96++ [decide (v99.1=1)],w97++ [List.replicate a1.toNat (0:Int)])
 else
 z0i<|
 z0k (z3e a1 v90 v91 w96) LFm (0,w94,w95,w97)
def z3d(a1:Int)(v90:Int×Tape)(v91:Int×Tape):Int×List Int×Int×List Bool×List (List Int)->Fr
 |(w93,w94,w95,w96,w97)=>⟨90,[(0,.one (.a 0 [] (0))),(1,.one (.t none (.sc (.int .i64 a1)))),(6,.one (.a 6 [] (0))),(7,.one (.a 7 [] (0))),(8,.one (.t none (.sc (.int .i64 (i64.wrap (1+v90.1)))))),(9,.one (.t none (.sc (.int .i64 w93)))),(1090,.one (.a 0 [] (0)))],[(0,.vr [(tI w94),.sc (.int .i64 w95)]),(6,.vr [.sc (.int .i64 0),.sc (.int .i64 0),.os 1 0 [],.os 1 0 []]),(7,.vr [.sc (.int .i64 a1),.sc (.int .i64 v91.1),.os 1 w96.length (w96.map fun x0=>.sc (.bool x0)),.os 1 w97.length (w97.map fun x0=>(tO x0))])]⟩
def z2T(a0:Tape)(a1:Int)(a2:Int):Option (DFA×Tape):=
 (z1m a0 a2).bind fun v90=>
 (z1m v90.2 (i64.wrap (1+v90.1))).bind fun v91=>
 z0k (z3f a1 v90 v91) LFm (0,v91.2.l,v91.2.at_,[],[])
instance:Ok (z2T a0 a1 a2) (fun r=>L 30 [.vr [(tI a0.l),.sc (.int .i64 a0.at_)],.sc (.int .i64 a1),.sc (.int .i64 a2)]=some (.agg [.sc (.int .i64 r.1.letters),.sc (.int .i64 r.1.start),(tB r.1.final),(tR r.1.next)],[.vr [(tI r.2.l),.sc (.int .i64 r.2.at_)],.dead,.dead])):=⟨fun r h0=>by
 simp only[z2T] at h0
 refine zrf rfl Tryz.func30 (zew (bdy Tryz.f30 rfl) ⟨of_decide_eq_true rfl,of_decide_eq_true rfl⟩ rfl ?_)
 simp only[z6H,z7u,z6N,z8Z,z6i]
 refine zp (zs ?_)
 refine z0d (zp (zs ?_))
 refine z0d (zp ?_)
 obtain⟨v90,f115,h1⟩:=z1t h0
 have f115k:=Ok.ok _ f115
 try simp at f115k
 refine zr rfl rfl rfl (by simp[f115k];rfl) ?_
 refine z0d (zp ?_)
 obtain⟨v91,f116,h2⟩:=z1t h1
 have f116k:=Ok.ok _ f116
 try simp at f116k
 refine zr rfl rfl rfl (by simp[f116k];rfl) ?_
 refine z0d (zp (zp (zs ?_)))
 refine z0d (zb rfl (z8a h2 (z3d a1 v90 v91) rfl rfl (by simp[z3d]) fun s o1 h3 hr1=> ?_))
 obtain⟨w93,w94,w95,w96,w97⟩:=s
 simp only[z3f] at h3
 simp only[z3d]
 refine zp (zp (zs ?_))
 refine z0d ?_
 by_cases c125:w93<(i64.wrap (1+v90.1))
 ·rw[if_pos c125] at h3
  refine z7H rfl (by simp[c125]) (z6v rfl (z0d (zp (zb rfl ?_))))
  obtain⟨v99,f126,h4⟩:=z1t h3
  have f126k:=Ok.ok _ f126
  try simp at f126k
  obtain⟨f127,h5⟩:=zEU h4
  obtain⟨f128,h6⟩:=zEk h5
  obtain⟨f129,h7⟩:=zlD h6
  refine zkV rfl rfl rfl rfl ?_
  refine zxP [(0,0,3,1),(1,2,3,2),(2,7,3,3),(3,9,3,4),(4,1,2,5),(4,3,1,6),(4,8,2,7),(4,10,1,8),(5,3,1,9),(5,8,2,10),(5,10,1,11),(6,4,3,12),(7,1,2,10),(7,3,1,13),(7,10,1,15),(8,1,2,11),(8,3,1,14),(8,8,2,15),(8,11,1,16),(9,4,3,17),(10,3,1,18),(10,10,1,20),(11,3,1,19),(11,8,2,20),(11,11,1,21),(12,1,2,17),(12,5,1,22),(12,8,2,23),(12,10,1,24),(13,4,3,23),(14,4,3,24),(15,1,2,20),(15,3,1,25),(15,11,1,27),(16,1,2,21),(16,3,1,26),(16,8,2,27),(17,5,1,28),(17,8,2,29),(17,10,1,30),(18,4,0,29),(19,4,3,30),(20,3,1,31),(20,11,1,33),(21,3,1,32),(21,8,2,33),(22,1,2,28),(22,8,2,34),(22,10,1,35),(23,1,2,29),(23,5,1,34),(23,10,1,36),(24,1,2,30),(24,5,1,35),(24,8,2,36),(24,11,1,37),(25,4,3,36),(26,4,3,37),(27,1,2,33),(27,3,1,38),(28,6,2,39),(28,8,2,40),(28,10,1,41),(29,5,1,40),(29,10,1,42),(30,5,1,41),(30,8,2,42),(30,11,1,43),(31,4,0,42),(32,4,3,43),(33,3,1,44),(34,1,2,40),(34,10,1,45),(35,1,2,41),(35,8,2,45),(35,11,1,46),(36,1,2,42),(36,5,1,45),(36,11,1,47),(37,1,2,43),(37,5,1,46),(37,8,2,47),(38,4,3,47),(39,8,2,48),(39,10,1,49),(40,6,2,48),(40,10,1,50),(41,6,2,49),(41,8,2,50),(41,11,1,51),(42,5,1,50),(42,11,1,52),(43,5,1,51),(43,8,2,52),(44,4,0,52),(45,1,2,50),(45,11,1,53),(46,1,2,51),(46,8,2,53),(47,1,2,52),(47,5,1,53),(48,13,3,55),(49,8,2,54),(49,11,1,56),(50,6,2,54),(50,11,1,57),(51,6,2,56),(51,8,2,57),(52,5,1,57),(53,1,2,57),(54,13,3,59),(55,10,1,59),(56,8,2,58),(57,6,2,58),(58,13,3,60),(59,11,1,60),(60,12,2,61),(61,14,2,62),(62,15,0,63),(63,16,2,64)] 64 (by kernel_rfl) ?_
  iterate 12 (refine z1r rfl rfl rfl rfl (by simp[z0v,z0y,f126k,f127,f128,f129];rfl) ?_)
  refine z1q rfl rfl rfl rfl (by simp[z0v,z0y,f126k,f127,f128,f129]) ?_
  refine z1r rfl rfl rfl rfl (by simp[z0v,z0y,f126k,f127,f128,f129];rfl) ?_
  refine z1r rfl rfl rfl rfl (by simp[z0v,z0y,f126k,f127,f128,f129];rfl) ?_
  refine z1q rfl rfl rfl rfl (by simp[z0v,z0y,f126k,f127,f128,f129]) ?_
  refine z1r rfl rfl rfl rfl (by simp[z0v,z0y,f126k,f127,f128,f129];rfl) ?_
  refine z1q rfl rfl rfl rfl (by simp[z0v,z0y,f126k,f127,f128,f129]) ?_
  iterate 5 (refine z1r rfl rfl rfl rfl (by simp[z0v,z0y,f126k,f127,f128,f129];rfl) ?_)
  refine z1q rfl rfl rfl rfl (by simp[z0v,z0y,f126k,f127,f128,f129]) ?_
  refine z1r rfl rfl rfl rfl (by simp[z0v,z0y,f126k,f127,f128,f129];rfl) ?_
  refine z1q rfl rfl rfl rfl (by simp[z0v,z0y,f126k,f127,f128,f129]) ?_
  iterate 3 (refine z1r rfl rfl rfl rfl (by simp[z0v,z0y,f126k,f127,f128,f129];rfl) ?_)
  iterate 3 (refine z1q rfl rfl rfl rfl (by simp[z0v,z0y,f126k,f127,f128,f129]) ?_)
  refine z1r rfl rfl rfl rfl (by simp[z0v,z0y,f126k,f127,f128,f129];rfl) ?_
  refine z1r rfl rfl rfl rfl (by simp[z0v,z0y,f126k,f127,f128,f129];rfl) ?_
  refine z1q rfl rfl rfl rfl (by simp[z0v,z0y,f126k,f127,f128,f129]) ?_
  refine z1r rfl rfl rfl rfl (by simp[z0v,z0y,f126k,f127,f128,f129];rfl) ?_
  refine z1q rfl rfl rfl rfl (by simp[z0v,z0y,f126k,f127,f128,f129]) ?_
  iterate 3 (refine z1r rfl rfl rfl rfl (by simp[z0v,z0y,f126k,f127,f128,f129];rfl) ?_)
  refine z1q rfl rfl rfl rfl (by simp[z0v,z0y,f126k,f127,f128,f129]) ?_
  refine z1q rfl rfl rfl rfl (by simp[z0v,z0y,f126k,f127,f128,f129]) ?_
  iterate 3 (refine z1r rfl rfl rfl rfl (by simp[z0v,z0y,f126k,f127,f128,f129];rfl) ?_)
  refine z1q rfl rfl rfl rfl (by simp[z0v,z0y,f126k,f127,f128,f129]) ?_
  refine z1q rfl rfl rfl rfl (by simp[z0v,z0y,f126k,f127,f128,f129]) ?_
  refine z1r rfl rfl rfl rfl (by simp[z0v,z0y,f126k,f127,f128,f129];rfl) ?_
  refine z1r rfl rfl rfl rfl (by simp[z0v,z0y,f126k,f127,f128,f129];rfl) ?_
  refine z1q rfl rfl rfl rfl (by simp[z0v,z0y,f126k,f127,f128,f129]) ?_
  refine z1q rfl rfl rfl rfl (by simp[z0v,z0y,f126k,f127,f128,f129]) ?_
  refine z1r rfl rfl rfl rfl (by simp[z0v,z0y,f126k,f127,f128,f129];rfl) ?_
  iterate 3 (refine z1q rfl rfl rfl rfl (by simp[z0v,z0y,f126k,f127,f128,f129]) ?_)
  refine z1r rfl rfl rfl rfl (by simp[z0v,z0y,f126k,f127,f128,f129];rfl) ?_
  iterate 3 (refine z1q rfl rfl rfl rfl (by simp[z0v,z0y,f126k,f127,f128,f129]) ?_)
  iterate 4 (refine z1r rfl rfl rfl rfl (by simp[z0v,z0y,f126k,f127,f128,f129];rfl) ?_)
  refine z1q rfl rfl rfl rfl (by simp[z0v,z0y,f126k,f127,f128,f129]) ?_
  refine z1r rfl rfl rfl rfl (by simp[z0v,z0y,f126k,f127,f128,f129];rfl) ?_
  refine z1q rfl rfl rfl rfl (by simp[z0v,z0y,f126k,f127,f128,f129]) ?_
  refine z1q rfl rfl rfl rfl (by simp[z0v,z0y,f126k,f127,f128,f129]) ?_
  refine z1r rfl rfl rfl rfl (by simp[z0v,z0y,f126k,f127,f128,f129];rfl) ?_
  refine z1q rfl rfl rfl rfl (by simp[z0v,z0y,f126k,f127,f128,f129]) ?_
  refine z1q rfl rfl rfl rfl (by simp[z0v,z0y,f126k,f127,f128,f129]) ?_
  refine z1r rfl rfl rfl rfl (by simp[z0v,z0y,f126k,f127,f128,f129];rfl) ?_
  refine z1q rfl rfl rfl rfl (by simp[z0v,z0y,f126k,f127,f128,f129]) ?_
  refine z1r rfl rfl rfl rfl (by simp[z0v,z0y,f126k,f127,f128,f129];rfl) ?_
  refine z1q rfl rfl rfl rfl (by simp[z0v,z0y,f126k,f127,f128,f129]) ?_
  refine z1q rfl rfl rfl rfl (by simp[z0v,z0y,f126k,f127,f128,f129]) ?_
  refine z1r rfl rfl rfl rfl (by simp[z0v,z0y,f126k,f127,f128,f129];rfl) ?_
  refine z1q rfl rfl rfl rfl (by simp[z0v,z0y,f126k,f127,f128,f129]) ?_
  refine z1q rfl rfl rfl rfl (by simp[z0v,z0y,f126k,f127,f128,f129]) ?_
  refine z1r rfl rfl rfl rfl (by simp[z0v,z0y,f126k,f127,f128,f129];rfl) ?_
  iterate 4 (refine z1q rfl rfl rfl rfl (by simp[z0v,z0y,f126k,f127,f128,f129]) ?_)
  refine z1r rfl rfl rfl rfl (by simp[z0v,z0y,f126k,f127,f128,f129];rfl) ?_
  refine z1r rfl rfl rfl rfl (by simp[z0v,z0y,f126k,f127,f128,f129];rfl) ?_
  refine z1q rfl rfl rfl rfl (by simp[z0v,z0y,f126k,f127,f128,f129]) ?_
  refine z1r rfl rfl rfl rfl (by simp[z0v,z0y,f126k,f127,f128,f129];rfl) ?_
  refine z1q rfl rfl rfl rfl (by simp[z0v,z0y,f126k,f127,f128,f129]) ?_
  refine z1q rfl rfl rfl rfl (by simp[z0v,z0y,f126k,f127,f128,f129]) ?_
  refine z1r rfl rfl rfl rfl (by simp[z0v,z0y,f126k,f127,f128,f129];rfl) ?_
  refine z1q rfl rfl rfl rfl (by simp[z0v,z0y,f126k,f127,f128,f129]) ?_
  refine z1r rfl rfl rfl rfl (by simp[z0v,z0y,f126k,f127,f128,f129];rfl) ?_
  iterate 4 (refine z1q rfl rfl rfl rfl (by simp[z0v,z0y,f126k,f127,f128,f129]) ?_)
  refine z1r rfl rfl rfl rfl (by simp[z0v,z0y,f126k,f127,f128,f129];rfl) ?_
  iterate 4 (refine z1q rfl rfl rfl rfl (by simp[z0v,z0y,f126k,f127,f128,f129]) ?_)
  iterate 3 (refine z1r rfl rfl rfl rfl (by simp[z0v,z0y,f126k,f127,f128,f129];rfl) ?_)
  refine z1q rfl rfl rfl rfl (by simp[z0v,z0y,f126k,f127,f128,f129]) ?_
  refine z1r rfl rfl rfl rfl (by simp[z0v,z0y,f126k,f127,f128,f129];rfl) ?_
  iterate 4 (refine z1q rfl rfl rfl rfl (by simp[z0v,z0y,f126k,f127,f128,f129]) ?_)
  refine z1r rfl rfl rfl rfl (by simp[z0v,z0y,f126k,f127,f128,f129];rfl) ?_
  refine z1q rfl rfl rfl rfl (by simp[z0v,z0y,f126k,f127,f128,f129]) ?_
  refine z1r rfl rfl rfl rfl (by simp[z0v,z0y,f126k,f127,f128,f129];rfl) ?_
  refine z1q rfl rfl rfl rfl (by simp[z0v,z0y,f126k,f127,f128,f129]) ?_
  refine z1r rfl rfl rfl rfl (by simp[z0v,z0y,f126k,f127,f128,f129];rfl) ?_
  refine z1q rfl rfl rfl rfl (by simp[z0v,z0y,f126k,f127,f128,f129]) ?_
  iterate 4 (refine z1r rfl rfl rfl rfl (by simp[z0v,z0y,f126k,f127,f128,f129];rfl) ?_)
  refine zyc rfl ?_
  refine zks rfl (by simp[f126k,f127,f128,f129];rfl) ?_
  refine z4X (z0d (zs ?_))
  have ho:=z4j h7
  refine z5j ho ?_
  simp[z3d]
 ·rw[if_neg c125] at h3
  refine z9J rfl (by simp[c125]) (z9C rfl (z7x ?_))
  obtain⟨rr1,h4,ho1⟩:=z3K h3
  have hs1:=hr1 _ ho1
  subst hs1
  refine z6t ho1 (z3D rfl (z0d (zp (zp (zs ?_)))))
  refine z0d (zb rfl (z8a h4 (z3c a1 v90 v91 w96) rfl rfl (by simp[z3c]) fun s o2 h5 hr2=> ?_))
  obtain⟨w125,w126,w127,w128⟩:=s
  simp only[z3e] at h5
  simp only[z3c]
  refine zp (zp (zs ?_))
  refine z0d ?_
  by_cases c196:w125<a1
  ·rw[if_pos c196] at h5
   refine z7H rfl (by simp[c196]) (z6v rfl (z0d (zp (zb rfl (zp (zs ?_))))))
   refine z0d (zp (zp (zs ?_)))
   refine z0d (zb rfl (z8a h5 (z2M a1 v90 v91 w96 w125 w126 w127 w128) rfl rfl (by simp[z2M]) fun s o3 h6 hr3=> ?_))
   obtain⟨w154,w155⟩:=s
   simp only[z2O] at h6
   simp only[z2M]
   refine zp (zp (zs ?_))
   refine z0d ?_
   by_cases c200:w154<(i64.wrap (1+v90.1))
   ·rw[if_pos c200] at h6
    refine z7H rfl (by simp[c200]) (z6v rfl (z0d (zp (zb rfl ?_))))
    obtain⟨f201,h7⟩:=zlD h6
    refine zr rfl rfl rfl (by simp[f201];rfl) ?_
    refine z4X (z0d (zs ?_))
    have ho:=z4j h7
    refine z5j ho ?_
    simp[z2M]
   ·rw[if_neg c200] at h6
    refine z9J rfl (by simp[c200]) (z9C rfl (z7x ?_))
    obtain⟨rr3,h7,ho3⟩:=z3K h6
    have hs3:=hr3 _ ho3
    subst hs3
    refine z6t ho3 (z3D rfl (z0d (zp (zs ?_))))
    refine z0d (zb rfl (z8a h7 (z2L a1 v90 v91 w96 w125) rfl rfl (by simp[z2L]) fun s o4 h8 hr4=> ?_))
    obtain⟨w162,w163,w164,w165,w166⟩:=s
    simp only[z2N] at h8
    simp only[z2L]
    refine zp (zp (zs ?_))
    refine z0d ?_
    by_cases c220:w162<(i64.wrap (1+v90.1))
    ·rw[if_pos c220] at h8
     refine z7H rfl (by simp[c220]) (z6v rfl (z0d (zp (zb rfl (zp ?_)))))
     obtain⟨v173,f221,h9⟩:=z1t h8
     have f221k:=Ok.ok _ f221
     try simp at f221k
     refine zr rfl rfl rfl (by simp[f221k];rfl) ?_
     refine z0d (zp ?_)
     obtain⟨v174,f222,h10⟩:=z8G h9
     obtain⟨v175,f223,h11⟩:=z8G h10
     obtain⟨v176,f224,h12⟩:=z8G h11
     refine z6U rfl rfl rfl rfl ?_;repeat' ((first|refine z3T rfl rfl fun Q' hQ=> ?_|refine z2Z rfl fun Q' hQ=> ?_);simp[f222,f223,f224];refine hQ.out _ ?_;clear hQ;clear Q')
     refine z0d ?_
     obtain⟨v177,f225,h13⟩:=z1t h12
     obtain⟨f225a,f225b,f225c,-⟩:=z5q f225
     obtain⟨f225d,f225g⟩:=zct f225a f225b
     have f225e:=zdC (g:=fun x:Int=>(.sc (.int .i64 x):T)) f225
     try simp at f225e
     have f225f:=zdB f225
     try simp only[Int.reduceToNat,Z3,YJ] at f225f
     obtain⟨v178,f226,h14⟩:=z1t h13
     obtain⟨f226a,f226b,f226c,-⟩:=z5q f226
     obtain⟨f226d,f226g⟩:=zct f226a f226b
     have f226e:=zdC (g:=fun x:Int=>(.sc (.int .i64 x):T)) f226
     try simp at f226e
     have f226f:=zdB f226
     try simp only[Int.reduceToNat,Z3,YJ] at f226f
     obtain⟨f227,h15⟩:=zlD h14
     obtain⟨f228,h16⟩:=zlD h15
     refine z6U rfl rfl rfl rfl ?_;repeat' ((first|refine z3T rfl rfl fun Q' hQ=> ?_|refine z2Z rfl fun Q' hQ=> ?_);simp[f222,f225a,f225b,f225c,f225d,f225g,f225e,f225f,f226a,f226b,f226c,f226d,f226g,f226e,f226f,f227,f228];refine hQ.out _ ?_;clear hQ;clear Q')
     refine z4X (z0d (zr rfl rfl rfl (by simp[f222];rfl) ?_))
     have ho:=z4j h16
     refine z5j ho ?_
     simp[z2L]
    ·rw[if_neg c220] at h8
     refine z9J rfl (by simp[c220]) (z9C rfl (z7x ?_))
     obtain⟨rr4,h9,ho4⟩:=z3K h8
     have hs4:=hr4 _ ho4
     subst hs4
     refine z6t ho4 (z3D rfl (z4X (z0d (zs ?_))))
     have ho:=z4j h9
     refine z5j ho ?_
     simp[z3c]
  ·rw[if_neg c196] at h5
   refine z9J rfl (by simp[c196]) (z9C rfl (z7x ?_))
   obtain⟨rr2,h6,ho2⟩:=z3K h5
   have hs2:=hr2 _ ho2
   subst hs2
   refine z6t ho2 (z3D rfl (z0d (zp (zs ?_))))
   refine z0d (za4 rfl ?_)
   cases h6
   simp⟩
abbrev zcB(a0:Int)(a1:Int)(w31:Int):Int×List ByteArray->Option ((Int×List ByteArray)⊕((Int×List ByteArray)⊕List ByteArray))
 |(w43,w44)=>
 if w43<a0 then
 (atI w44 w31).bind fun v47=>
 if(v47.size:Int)<a1 then
 chk (z9O v47 ⟨#[UInt8.ofNat (u8.wrap (i64.wrap (97+w43))).toNat]⟩)<|
 chk (z1B 16 (w44.length+1))<|
 z0c (i64.wrap (w43+1),w44++ [v47++⟨#[UInt8.ofNat (u8.wrap (i64.wrap (97+w43))).toNat]⟩])
 else
 z0i<|
 z0c (i64.wrap (w31+1),w44)
 else
 z0i<|
 z0c (i64.wrap (w31+1),w44)
instance{a0:Int}{w31:Int}:Hd (zcB a0 a1 w31):=⟨fun(w43,w44)=>([(7,xI w43)],[(5,.os 1 w44.length (w44.map fun x0=>.sc (.string x0)))])⟩
abbrev zcC(a0:Int)(a1:Int):Int×List ByteArray->Option ((Int×List ByteArray)⊕List ByteArray)
 |(w31,w32)=>
 if w31<(w32.length:Int) then
 z0k (zcB a0 a1 w31) LFm (0,w32)
 else
 z0i<|
 some w32
instance{a0:Int}:Hd (zcC a0 a1):=⟨fun(w31,w32)=>([(6,xI w31)],[(5,.os 1 w32.length (w32.map fun x0=>.sc (.string x0)))])⟩
def z6V(a0:Int)(a1:Int):Option (List ByteArray):=
 z0k (zcC a0 a1) LFm (0,[ByteArray.empty])
instance{a0:Int}:Ok (z6V a0 a1) (fun r=>L 81 [.sc (.int .i64 a0),.sc (.int .i64 a1)]=some (.os 1 r.length (r.map fun x0=>.sc (.string x0)),[.dead,.dead])):=⟨fun r h=>by have h:=z4u h;unfold z6V at h;exact z5i rfl Tryz.func81 (bdy Tryz.f81 rfl)⟩
abbrev z6K(v201:List ByteArray)(w385:ByteArray):Int×Int->Option ((Int×Int)⊕((ByteArray×Int)⊕((Int×List Int)⊕((Int×List Int×Int×List Bool×List (List Int))⊕(DFA×Tape)))))
 |(w394,w395)=>
 if w395<(v201.length:Int) then
 (atI v201 w395).bind fun v397=>
 if v397=w385 then
 z0c (w395,i64.wrap (w395+1))
 else
 z0c (w394,i64.wrap (w395+1))
 else
 z0i<|
 (zod w385 1 (w385.size:Int)).bind fun v398=>
 z0c (v398,w394)
instance{w385:ByteArray}:Hd (z6K v201 w385):=⟨fun(w394,w395)=>([(12,xI w394),(52,xI w395)],[])⟩
abbrev z4b(v201:List ByteArray)(w357:Int)(w358:List Int):ByteArray×Int->Option ((ByteArray×Int)⊕((Int×List Int)⊕((Int×List Int×Int×List Bool×List (List Int))⊕(DFA×Tape))))
 |(w385,w386)=>
 if w386=(-1) then
 z0k (z6K v201 w385) LFm (w386,0)
 else
 z0i<|
 chk (z1B 8 (w358.length+1))<|
 z0c (i64.wrap (w357+1),w358++ [w386])
instance{w357:Int}{w358:List Int}:Hd (z4b v201 w357 w358):=⟨fun(w385,w386)=>([(11,xS w385),(12,xI w386)],[])⟩
abbrev z3o(a1:Int)(v201:List ByteArray)(w266:Int)(w269:List Bool)(w270:List (List Int))(v335:ByteArray)(v336:Int×Tape):Int×List Int->Option ((Int×List Int)⊕((Int×List Int×Int×List Bool×List (List Int))⊕(DFA×Tape)))
 |(w357,w358)=>
 if w357<a1 then
 chk (z9O v335 ⟨#[UInt8.ofNat (u8.wrap (i64.wrap (97+w357))).toNat]⟩)<|
 z0k (z4b v201 w357 w358) LFm (v335++⟨#[UInt8.ofNat (u8.wrap (i64.wrap (97+w357))).toNat]⟩,(-1))
 else
 z0i<|
 chk (z1B 24 (w270.length+1))<|
 z0c (i64.wrap (w266+1),v336.2.l,v336.2.at_,w269++ [decide (v336.1=1)],w270++ [w358])
instance{w266:Int}{w269:List Bool}{w270:List (List Int)}{v335:ByteArray}{v336:Int×Tape}:Hd (z3o a1 v201 w266 w269 w270 v335 v336):=⟨fun(w357,w358)=>([(10,xI w357)],[(9,(tO w358))])⟩
abbrev z4k(a1:Int)(v201:List ByteArray):Int×List Int×Int×List Bool×List (List Int)->Option ((Int×List Int×Int×List Bool×List (List Int))⊕(DFA×Tape))
 |(w266,w267,w268,w269,w270)=>
 if w266<(v201.length:Int) then
 (atI v201 w266).bind fun v335=>
 (z1m (⟨w267,w268⟩:Tape) 2).bind fun v336=>
 chk (z1B 1 (w269.length+1))<|
 z0k (z3o a1 v201 w266 w269 w270 v335 v336) LFm (0,[])
 else
 z0i<|
 some ((⟨a1,0,w269,w270⟩:DFA),(⟨w267,w268⟩:Tape))
instance:Hd (z4k a1 v201):=⟨fun(w266,w267,w268,w269,w270)=>([(24,xI w266)],[(0,.vr [(tI w267),.sc (.int .i64 w268)]),(5,.vr [.sc (.int .i64 a1),.sc (.int .i64 0),.os 1 w269.length (w269.map fun x0=>.sc (.bool x0)),.os 1 w270.length (w270.map fun x0=>(tO x0))])])⟩
def z4l(a0:Tape)(a1:Int):Option (DFA×Tape):=
 (z1m a0 2).bind fun v200=>
 (z6V a1 (i64.wrap (1+v200.1))).bind fun v201=>
 z0k (z4k a1 v201) LFm (0,v200.2.l,v200.2.at_,[],[])
instance:Ok (z4l a0 a1) (fun r=>L 31 [.vr [(tI a0.l),.sc (.int .i64 a0.at_)],.sc (.int .i64 a1)]=some (.agg [.sc (.int .i64 r.1.letters),.sc (.int .i64 r.1.start),.os 1 r.1.final.length (r.1.final.map fun x0=>.sc (.bool x0)),.os 1 r.1.next.length (r.1.next.map fun x0=>(tO x0))],[.vr [(tI r.2.l),.sc (.int .i64 r.2.at_)],.dead])):=⟨fun r h=>by have h:=z4u h;unfold z4l at h;exact z5i rfl Tryz.func31 (bdy Tryz.f31 rfl)⟩
def z5H(a0:Tape)(a1:Int)(a2:Int):Option (DFA×Tape):=
 (z1m a0 6).bind fun v6=>
 if v6.1=1 then
 (z4H v6.2 a1 a2).bind fun v7=>
 some (v7.1,v7.2)
 else
 if v6.1=2 then
 (z2T v6.2 a1 (if 4<a2 then 4 else a2)).bind fun v8=>
 some (v8.1,v8.2)
 else
 if v6.1=3 then
 (z4l v6.2 a1).bind fun v9=>
 some (v9.1,v9.2)
 else
 (z5G v6.2 a1 a2).bind fun v10=>
 some (v10.1,v10.2)
instance:Ok (z5H a0 a1 a2) (fun r=>L 10 [.vr [(tI a0.l),.sc (.int .i64 a0.at_)],.sc (.int .i64 a1),.sc (.int .i64 a2)]=some (.agg [.sc (.int .i64 r.1.letters),.sc (.int .i64 r.1.start),(tB r.1.final),(tR r.1.next)],[.vr [(tI r.2.l),.sc (.int .i64 r.2.at_)],.dead,.dead])):=⟨fun r h=>by have h:=z4u h;unfold z5H at h;exact zeu rfl Tryz.func10 (bdy Tryz.f10 rfl)⟩
end
end
section
open Go
structure TapeOk(t:Tape):Prop where
 a0:0<=t.at_
 a1:t.at_<=t.l.length
 a2:t.l.length<=80
theorem zmX(x n:Int)(h1:1<=n)(h2:n<4611686018427387904):∃v,zcE x n=some v/\0<=v/\v<n:=by
 have hx:x.tmod n<n:=Int.tmod_lt_of_pos _ (by omega)
 have hy: -n<x.tmod n:=Int.lt_tmod_of_pos x (by omega)
 unfold zcE
 rw[if_neg (by omega),z0j _ (by omega)]
 split
 · rw[z2Y (by omega) (by omega)];exact⟨_,rfl,by omega,by omega⟩
 · exact⟨_,rfl,by omega,by omega⟩
theorem z7z{t:Tape}(ht:TapeOk t)(n:Int)(h1:1<=n)(h2:n<4611686018427387904):∃v t',z1m t n=some (v,t')/\0<=v/\v<n/\TapeOk t':=by
 obtain⟨a0,a1,a2⟩:=ht
 unfold z1m
 split
 · exact⟨_,_,rfl,by omega,by omega,a0,a1,a2⟩
 · rename_i hlt
   rw[z2Y (x:=t.at_+1) (by omega) (by omega),z2Y (by omega) (by omega)]
   obtain⟨k,hk⟩:=ZF a0
   have e:t.at_+1-1=(k:Int):=by omega
   rw[e,z1k (by omega)]
   obtain⟨v,hv,h3,h4⟩:=zmX t.l[k] n h1 h2
   simp only[Z0,hv]
   exact⟨_,_,rfl,h3,h4,by simp only;omega,by simp only;omega,a2⟩
theorem zBi(l:List Int):∃t,zcD l=some t/\TapeOk t:=by
 unfold zcD
 split
 · rename_i h
   have:=zfW (xs:=l) (k:=80) (by omega)
   simp only[Int.cast_ofNat_Int] at this
   rw[this]
   exact⟨_,rfl,by simp,by simp,by simp only[Zq];omega⟩
 · exact⟨_,rfl,by simp,by simp,by simp;omega⟩
end
section
open Go
def z9f(m n:Nat)(r:List Int):Prop:=r.length=m/\ ∀x∈r,0<=x/\x<n
structure DfaOk(d:DFA)(m n:Nat):Prop where
 lt:d.letters=m
 m1:1<=m
 m6:m<=6
 n1:1<=n
 fin:d.final.length=n
 nl:d.next.length=n
 s0:0<=d.start
 s1:d.start<n
 row:∀r∈d.next,z9f m n r
theorem ziN{σ τ ρ:Type}{b:σ->Option (σ⊕(τ⊕ρ))}(I:σ->Prop)(m:σ->Nat)(Post:τ->Prop){s:σ}(hI:I s)(hm:m s<LFm)
 (step:∀s,I s->(∃s',b s=some (.inl s')/\I s'/\m s'<m s)∨(∃r,b s=some (.inr (.inl r))/\Post r)):∃r,z0k b LFm s=some (.inl r)/\Post r:=by
 obtain⟨r,h1,r',h2,h3⟩:=z2c I m (fun r=>∃t,r= .inl t/\Post t) (fun s hs=>(step s hs).imp id fun⟨r,h,hp⟩=>⟨_,h,r,rfl,hp⟩) LFm s hI hm
 exact⟨r',by rw[h1,h2],h3⟩
theorem zcy{α:Type}{l:List α}{x y:α}:y∈l++ [x]↔y∈l∨y=x:=by simp
theorem zyd{t:Tape}(ht:TapeOk t)(m most:Nat)(hm:1<=m/\m<=6)(hk:1<=most/\most<=1000):∃d t' n,z5G t m most=some (d,t')/\DfaOk d m n/\n<=most/\TapeOk t':=by
 unfold z5G
 obtain⟨v,t1,e1,v0,v1,ht1⟩:=z7z ht (most:Int) (by omega) (by omega)
 simp only[e1,Z0]
 obtain⟨k,rfl⟩:=ZF v0
 have hw:IntKind.i64.wrap (1+(k:Int))=((k+1:Nat):Int):=by rw[z2Y (by omega) (by omega)];omega
 rw[hw]
 obtain⟨s,t2,e2,s0,s1,ht2⟩:=z7z ht1 ((k+1:Nat):Int) (by omega) (by omega)
 simp only[e2,Z0]
 refine Exists.elim (z2c (b:=z5X m ((k:Int),t1) (s,t2)) (fun z=>0<=z.1/\z.1<=(k+1:Nat)/\TapeOk ⟨z.2.1,z.2.2.1⟩/\(z.2.2.2.1.length:Int)=z.1/\(z.2.2.2.2.length:Int)=z.1/\ ∀r∈z.2.2.2.2,z9f m (k+1) r) (fun z=>k+2-z.1.toNat)
  (fun r=>DfaOk r.1 m (k+1)/\TapeOk r.2) ?_ LFm (0,t2.l,t2.at_,[],[]) ⟨by simp,by simp;omega,ht2,by simp,by simp,by simp⟩ (by simp only[LFm];omega)) fun r h=>⟨r.1,r.2,k+1,h.1,h.2.1,by omega,h.2.2⟩
 rintro⟨i,tl,ta,fs,rs⟩ ⟨i0,i1,i2,i3,i4,i5⟩
 simp only at i0 i1 i2 i3 i4 i5⊢
 simp only[z5X,hw]
 by_cases hi:i<((k+1:Nat):Int)
 · left
   rw[if_pos hi]
   obtain⟨u,t3,e3,u0,u1,ht3⟩:=z7z i2 2 (by omega) (by omega)
   simp only[e3,Z0]
   rw[z0j _ (by unfold z1B;omega)]
   refine Exists.elim (ziN (b:=z5F m ((k:Int),t1) i fs rs (u,t3)) (fun z=>0<=z.1/\z.1<=m/\TapeOk ⟨z.2.1,z.2.2.1⟩/\(z.2.2.2.length:Int)=z.1/\ ∀x∈z.2.2.2,0<=x/\x<(k+1:Nat)) (fun z=>m+1-z.1.toNat)
    (fun z=>z.1=i+1/\TapeOk ⟨z.2.1,z.2.2.1⟩/\(z.2.2.2.1.length:Int)=i+1/\(z.2.2.2.2.length:Int)=i+1/\ ∀r∈z.2.2.2.2,z9f m (k+1) r) (s:=(0,t3.l,t3.at_,[])) ⟨by simp,by simp,ht3,by simp,by simp⟩ (by simp only[LFm];omega) ?_) fun r h=>⟨_,h.1,⟨by have:=h.2.1;omega,by have:=h.2.1;omega,h.2.2.1,by have:=h.2.1;have:=h.2.2.2.1;omega,by have:=h.2.1;have:=h.2.2.2.2.1;omega,h.2.2.2.2.2⟩,by have:=h.2.1;omega⟩
   rintro⟨j,ul,ua,row⟩ ⟨j0,j1,j2,j3,j4⟩
   simp only at j0 j1 j2 j3 j4⊢
   simp only[z5F,hw]
   by_cases hj:j<(m:Int)
   · left
     rw[if_pos hj]
     obtain⟨x,t4,e4,x0,x1,ht4⟩:=z7z j2 ((k+1:Nat):Int) (by omega) (by omega)
     simp only[e4,Z0]
     rw[z0j _ (by unfold z1B;omega),z2Y (by omega) (by omega)]
     refine⟨_,rfl,⟨by simp only;omega,by simp only;omega,ht4,by simp only[Za,ZE];omega,fun y hy=> ?_⟩,by simp only;omega⟩
     rcases zcy.1 hy with h|rfl
     · exact j4 y h
     · exact⟨x0,x1⟩
   · right
     rw[if_neg hj,z0j _ (by unfold z1B;omega),z2Y (by omega) (by omega)]
     refine⟨_,rfl,by simp only,j2,by simp only[Za,ZE];omega,by simp only[Za,ZE];omega,fun y hy=> ?_⟩
     rcases zcy.1 hy with h|rfl
     · exact i5 y h
     · exact⟨by omega,j4⟩
 · right
   rw[if_neg hi]
   exact⟨_,rfl,⟨rfl,hm.1,hm.2,by omega,by simp only;omega,by simp only;omega,s0,s1,i5⟩,i2⟩
theorem zqv{t:Tape}(ht:TapeOk t):∃m t',z4I t=some (((m:Nat):Int),t')/\1<=m/\m<=2/\TapeOk t':=by
 unfold z4I
 obtain⟨v,t1,e1,v0,v1,ht1⟩:=z7z ht 8 (by omega) (by omega)
 simp only[e1,Z0]
 obtain⟨k,rfl⟩:=ZF v0
 have:zD6 .i64 (k:Int) 7=((k/7:Nat):Int):=by
  unfold zD6
  rw[show((k:Int).tdiv 7)=((k/7:Nat):Int) by rfl,z2Y (by omega) (by omega)]
 rw[this,z2Y (by omega) (by omega)]
 exact⟨2-k/7,t1,by congr 2;omega,by omega,by omega,ht1⟩
end
section
open Go
variable{rs:List (List Int)}{xs:List Int}{k m n:Nat}{t:Tape}
theorem zo8(h:∀r∈rs,z9f m n r){r':List Int}(hr:z9f m n r')(i:Nat):∀r∈rs.set i r',z9f m n r:=fun r hm=>by grind
theorem zsq{r:List Int}(h:z9f m n r){x:Int}(hx:0<=x/\x<n)(j:Nat):z9f m n (r.set j x):=⟨by simp[h.1],fun y hy=>by
 rcases Xt hy with h'|rfl
 · exact h.2 y h'
 · exact hx⟩
theorem zsr(h:∀r∈rs,z9f m n r)(hk:k<rs.length):z9f m n rs[k]:=h _ (Zw hk)
theorem zqm(ht:TapeOk t)(m most:Nat)(hm:1<=m/\m<=6)(hk:1<=most/\most<=1000):∃d t' n,z4H t m most=some (d,t')/\DfaOk d m n/\n<=most/\TapeOk t':=by
 unfold z4H
 obtain⟨d,t1,n,e1,hd,hn,ht1⟩:=zyd ht m most hm hk
 simp only[e1,Z0]
 refine Exists.elim (z2c (b:=z4B (d,t1)) (fun z=>0<=z.1/\z.1<=n/\z.2.length=n/\ ∀r∈z.2,z9f m n r) (fun z=>n+1-z.1.toNat) (fun r=>DfaOk r.1 m n/\TapeOk r.2) ?_ LFm (0,d.next) ⟨by simp,by simp,hd.nl,hd.row⟩ (by simp only[LFm];omega)) fun r h=>⟨r.1,r.2,n,h.1,h.2.1,hn,h.2.2⟩
 rintro⟨i,rs⟩ ⟨i0,i1,i2,i3⟩
 simp only at i0 i1 i2 i3⊢
 simp only[z4B,hd.nl]
 obtain⟨i,rfl⟩:=ZF i0
 by_cases hi:(i:Int)<n
 · left
   rw[if_pos hi,z1k (by omega)]
   simp only[Z0]
   have hri:=zsr i3 (show i<rs.length by omega)
   refine Exists.elim (ziN (b:=z4A (i:Int) rs[i] _) (fun z=>0<=z.1/\z.1<=m/\z.2.length=n/\ ∀r∈z.2,z9f m n r) (fun z=>m+1-z.1.toNat) (fun z=>z.1=(i:Int)+1/\z.2.length=n/\ ∀r∈z.2,z9f m n r) (s:=(0,rs)) ⟨by simp,by simp,i2,i3⟩ (by simp only[LFm];omega) ?_) fun r h=>⟨_,h.1,⟨by have:=h.2.1;omega,by have:=h.2.1;omega,h.2.2.1,h.2.2.2⟩,by have:=h.2.1;omega⟩
   rintro⟨j,us⟩ ⟨j0,j1,j2,j3⟩
   simp only at j0 j1 j2 j3⊢
   obtain⟨j,rfl⟩:=ZF j0
   simp only[z4A,hri.1]
   rw[z1k (by omega)]
   simp only[Z0]
   have hui:=zsr j3 (show i<us.length by omega)
   by_cases hj:(j:Int)<m
   · left
     rw[if_pos hj,z1k (by rw[hui.1];omega),z2Y (by omega) (by omega)]
     simp only[Z0]
     refine⟨_,rfl,⟨by simp only;omega,by simp only;omega,by simp only[Xj];exact j2,zo8 j3 (zsq hui ?_ _) _⟩,by simp only;omega⟩
     have:=hui.2 _ (Zw (show j<us[i].length by rw[hui.1];omega))
     split<;>omega
   · right
     rw[if_neg hj,z2Y (by omega) (by omega)]
     exact⟨_,rfl,rfl,j2,j3⟩
 · right
   rw[if_neg hi]
   exact⟨_,rfl,⟨hd.lt,hd.m1,hd.m6,hd.n1,hd.fin,by simp only;omega,by simp,by simp only;have:=hd.n1;omega,i3⟩,ht1⟩
theorem zw5(m n:Nat)(hn:1<=n):z9f m n (List.replicate m 0):=⟨by simp,fun x hx=>by rw[(List.mem_replicate.1 hx).2];omega⟩
theorem zyZ(h:k<xs.length):z6w xs 0 (k:Int)=some (xs.take k):=zfW (by omega)
theorem zyY(h:k<xs.length):z6w xs ((k:Int)+1) (xs.length:Int)=some (xs.drop (k+1)):=by
 have:=zmG (xs:=xs) (k:=k+1) (by omega)
 rwa [show((k+1:Nat):Int)=(k:Int)+1 by omega] at this
theorem zwd(ht:TapeOk t)(m most:Nat)(hm:1<=m/\m<=6)(hk:1<=most/\most<=1000):∃d t' n,z2T t m most=some (d,t')/\DfaOk d m n/\n<=most/\TapeOk t':=by
 unfold z2T
 obtain⟨v,t1,e1,v0,v1,ht1⟩:=z7z ht (most:Int) (by omega) (by omega)
 simp only[e1,Z0]
 obtain⟨k,rfl⟩:=ZF v0
 have hw:IntKind.i64.wrap (1+(k:Int))=((k+1:Nat):Int):=by rw[z2Y (by omega) (by omega)];omega
 rw[hw]
 obtain⟨s,t2,e2,s0,s1,ht2⟩:=z7z ht1 ((k+1:Nat):Int) (by omega) (by omega)
 simp only[e2,Z0]
 refine Exists.elim (z2c (b:=z3f m ((k:Int),t1) (s,t2)) (fun z=>0<=z.1/\z.1<=(k+1:Nat)/\TapeOk ⟨z.2.1,z.2.2.1⟩/\(z.2.2.2.1.length:Int)=z.1/\(z.2.2.2.2.length:Int)=z.1/\ ∀r∈z.2.2.2.2,z9f m (k+1) r) (fun z=>k+2-z.1.toNat)
  (fun r=>DfaOk r.1 m (k+1)/\TapeOk r.2) ?_ LFm (0,t2.l,t2.at_,[],[]) ⟨by simp,by simp;omega,ht2,by simp,by simp,by simp⟩ (by simp only[LFm];omega)) fun r h=>⟨r.1,r.2,k+1,h.1,h.2.1,by omega,h.2.2⟩
 rintro⟨i,tl,ta,fs,rs⟩ ⟨i0,i1,i2,i3,i4,i5⟩
 simp only at i0 i1 i2 i3 i4 i5⊢
 simp only[z3f,hw]
 by_cases hi:i<((k+1:Nat):Int)
 · left
   rw[if_pos hi]
   obtain⟨u,t3,e3,u0,u1,ht3⟩:=z7z i2 2 (by omega) (by omega)
   simp only[e3,Z0]
   rw[z0j _ (by unfold z1B;omega),z0j _ (by unfold z0X;omega),z0j _ (by unfold z1B;omega),z2Y (by omega) (by omega)]
   refine⟨_,rfl,⟨by simp only;omega,by simp only;omega,ht3,by simp only[Za,ZE];omega,by simp only[Za,ZE];omega,fun y hy=> ?_⟩,by simp only;omega⟩
   rcases zcy.1 hy with h|rfl
   · exact i5 y h
   · exact zw5 m (k+1) (by omega)
 · right
   rw[if_neg hi]
   refine Exists.elim (z2c (b:=z3e m ((k:Int),t1) (s,t2) fs) (fun z=>0<=z.1/\z.1<=m/\TapeOk ⟨z.2.1,z.2.2.1⟩/\z.2.2.2.length=k+1/\ ∀r∈z.2.2.2,z9f m (k+1) r) (fun z=>m+1-z.1.toNat)
    (fun r=>DfaOk r.1 m (k+1)/\TapeOk r.2) ?_ LFm (0,tl,ta,rs) ⟨by simp,by simp,i2,by simp only;omega,i5⟩ (by simp only[LFm];omega)) fun r h=>⟨r,by rw[h.1];rfl,h.2⟩
   rintro⟨a,ul,ua,us⟩ ⟨a0,a1,a2,a3,a4⟩
   simp only at a0 a1 a2 a3 a4⊢
   obtain⟨a,rfl⟩:=ZF a0
   simp only[z3e]
   by_cases ha:(a:Int)<m
   · left
     rw[if_pos ha]
     refine Exists.elim (ziN (b:=z2O ((k:Int),t1) (a:Int) ul ua us) (fun z=>0<=z.1/\z.1<=(k+1:Nat)/\(z.2.length:Int)=z.1/\ ∀x∈z.2,0<=x/\x<(k+1:Nat)) (fun z=>k+2-z.1.toNat)
      (fun z=>z.1=(a:Int)+1/\TapeOk ⟨z.2.1,z.2.2.1⟩/\z.2.2.2.length=k+1/\ ∀r∈z.2.2.2,z9f m (k+1) r) (s:=(0,[])) ⟨by simp,by simp;omega,by simp,by simp⟩ (by simp only[LFm];omega) ?_) fun r h=>⟨_,h.1,⟨by have:=h.2.1;omega,by have:=h.2.1;omega,h.2.2.1,h.2.2.2.1,h.2.2.2.2⟩,by have:=h.2.1;omega⟩
     rintro⟨q,left⟩ ⟨q0,q1,q2,q3⟩
     simp only at q0 q1 q2 q3⊢
     simp only[z2O,hw]
     by_cases hq:q<((k+1:Nat):Int)
     · left
       rw[if_pos hq,z0j _ (by unfold z1B;omega),z2Y (by omega) (by omega)]
       refine⟨_,rfl,⟨by simp only;omega,by simp only;omega,by simp only[Za,ZE];omega,fun y hy=> ?_⟩,by simp only;omega⟩
       rcases zcy.1 hy with h|rfl
       · exact q3 y h
       · omega
     · right
       rw[if_neg hq]
       refine Exists.elim (ziN (b:=z2N ((k:Int),t1) (a:Int)) (fun z=>0<=z.1/\z.1<=(k+1:Nat)/\TapeOk ⟨z.2.1,z.2.2.1⟩/\z.2.2.2.1.length=k+1/\(∀r∈z.2.2.2.1,z9f m (k+1) r)/\(z.2.2.2.2.length:Int)=(k+1:Nat)-z.1/\ ∀x∈z.2.2.2.2,0<=x/\x<(k+1:Nat)) (fun z=>k+2-z.1.toNat)
        (fun z=>z.1=(a:Int)+1/\TapeOk ⟨z.2.1,z.2.2.1⟩/\z.2.2.2.length=k+1/\ ∀r∈z.2.2.2,z9f m (k+1) r) (s:=(0,ul,ua,us,left)) ⟨by simp,by simp;omega,a2,a3,a4,by simp only;omega,q3⟩ (by simp only[LFm];omega) ?_) fun r h=>⟨r,by rw[h.1];rfl,h.2⟩
       rintro⟨p,xl,xa,xs,lf⟩ ⟨p0,p1,p2,p3,p4,p5,p6⟩
       simp only at p0 p1 p2 p3 p4 p5 p6⊢
       obtain⟨p,rfl⟩:=ZF p0
       simp only[z2N,hw]
       by_cases hp:(p:Int)<((k+1:Nat):Int)
       · left
         rw[if_pos hp]
         obtain⟨x,t4,e4,x0,x1,ht4⟩:=z7z p2 (lf.length:Int) (by omega) (by omega)
         obtain⟨x,rfl⟩:=ZF x0
         have hrp:=zsr p4 (show p<xs.length by omega)
         have hlx:x<lf.length:=by omega
         simp only[e4,Z0]
         rw[z1k (show p<xs.length by omega)]
         simp only[Z0]
         rw[z1k hlx]
         simp only[Z0]
         rw[z1k (show a<xs[p].length by rw[hrp.1];omega),z2Y (x:=(x:Int)+1) (by omega) (by omega),zyZ hlx]
         simp only[Z0]
         rw[zyY hlx]
         simp only[Z0]
         rw[z0j _ (by unfold z1B;simp only[Zq];omega),z0j _ (by unfold z1B;simp only[Zq,Y8];omega),z2Y (by omega) (by omega)]
         refine⟨_,rfl,⟨by simp only;omega,by simp only;omega,ht4,by simp only[Xj];exact p3,zo8 p4 (zsq hrp (p6 _ (Zw hlx)) _) _,by simp only[Za,Zq,Y8];omega,fun y hy=> ?_⟩,by simp only;omega⟩
         rcases Ze.1 hy with h|h
         · grind
         · grind
       · right
         rw[if_neg hp,z2Y (by omega) (by omega)]
         exact⟨_,rfl,rfl,p2,p3,p4⟩
   · right
     rw[if_neg ha]
     exact⟨_,rfl,⟨rfl,hm.1,hm.2,by omega,by simp only;omega,a3,s0,s1,a4⟩,a2⟩
end
section
open Go
variable{d:DFA}{a b m n q s:Nat}
theorem zev(h:a<2^62):IntKind.i64.wrap (a:Int)=(a:Int):=z2Y (by omega) (by omega)
theorem zxq(ha:a<2^62)(hb:b<2^62):z2X .i64 (a:Int) (b:Int)=((a&&&b:Nat):Int):=by
 unfold z2X
 have e:(BitVec.ofInt IntKind.i64.bits (a:Int)&&&BitVec.ofInt IntKind.i64.bits (b:Int)).toNat=a&&&b:=by
  show(BitVec.ofInt 64 (a:Int)&&&BitVec.ofInt 64 (b:Int)).toNat=_
  rw[BitVec.toNat_and,BitVec.toNat_ofInt,BitVec.toNat_ofInt]
  have h1:((a:Int)%((2^64:Nat):Int)).toNat=a:=by omega
  have h2:((b:Int)%((2^64:Nat):Int)).toNat=b:=by omega
  rw[h1,h2]
 rw[e]
 exact zev (X2 Nat.and_le_left ha)
theorem zz6{k:Nat}(ha:a<2^k)(hb:b<2^k):a|||b<2^k:=Nat.or_lt_two_pow ha hb
theorem zmK(ha:a<2^62)(hb:b<2^62):orI .i64 (a:Int) (b:Int)=((a|||b:Nat):Int):=by
 unfold orI
 have e:(BitVec.ofInt IntKind.i64.bits (a:Int)|||BitVec.ofInt IntKind.i64.bits (b:Int)).toNat=a|||b:=by
  show(BitVec.ofInt 64 (a:Int)|||BitVec.ofInt 64 (b:Int)).toNat=_
  rw[BitVec.toNat_or,BitVec.toNat_ofInt,BitVec.toNat_ofInt]
  have h1:((a:Int)%((2^64:Nat):Int)).toNat=a:=by omega
  have h2:((b:Int)%((2^64:Nat):Int)).toNat=b:=by omega
  rw[h1,h2]
 rw[e]
 exact zev (zz6 ha hb)
theorem zgQ(ha:a<2^62)(hb:b<2^62):zgR .i64 (a:Int) (b:Int)=0↔a&&&b=a:=by
 unfold zgR
 have e:(BitVec.ofInt IntKind.i64.bits (a:Int)&&& ~~~ BitVec.ofInt IntKind.i64.bits (b:Int)).toNat=(BitVec.ofNat 64 a&&& ~~~ BitVec.ofNat 64 b).toNat:=by
  show(BitVec.ofInt 64 (a:Int)&&& ~~~ BitVec.ofInt 64 (b:Int)).toNat=_
  congr 2
 rw[e]
 have hle:(BitVec.ofNat 64 a&&& ~~~ BitVec.ofNat 64 b).toNat<=a:=by
  rw[BitVec.toNat_and]
  refine ZJ Nat.and_le_left ?_
  simp only[BitVec.toNat_ofNat]
  omega
 rw[zev (by omega)]
 have ta:∀i,(BitVec.ofNat 64 a).toNat.testBit i=a.testBit i:=fun i=>by
  rw[BitVec.toNat_ofNat,YZ (by omega)]
 have tb:∀i,(BitVec.ofNat 64 b).toNat.testBit i=b.testBit i:=fun i=>by
  rw[BitVec.toNat_ofNat,YZ (by omega)]
 have hz:∀i,(BitVec.ofNat 64 a&&& ~~~ BitVec.ofNat 64 b).toNat.testBit i=(a.testBit i&& !(b.testBit i)):=fun i=>by
  rw[BitVec.testBit_toNat,BitVec.getLsbD_and,BitVec.getLsbD_not]
  by_cases hi:i<64
  · simp only[hi,decide_true,YN]
    rw[←BitVec.testBit_toNat,←BitVec.testBit_toNat,ta,tb]
  · have:a.testBit i=false:=YS (Zx ha (Zi (by omega) (by omega)))
    rw[←BitVec.testBit_toNat,ta,this];simp
 constructor
 · intro h
   have h0:(BitVec.ofNat 64 a&&& ~~~ BitVec.ofNat 64 b).toNat=0:=by omega
   apply ZS
   intro i
   have:=hz i
   rw[h0,X9] at this
   rw[XG]
   revert this
   cases a.testBit i<;>cases b.testBit i<;>simp
 · intro h
   have:(BitVec.ofNat 64 a&&& ~~~ BitVec.ofNat 64 b).toNat=0:=by
    apply ZS
    intro i
    have e2:(a&&&b).testBit i=a.testBit i:=by rw[h]
    rw[XG] at e2
    rw[hz,X9]
    revert e2
    cases a.testBit i<;>cases b.testBit i<;>simp
   omega
theorem zo4(hq:q<=64):z0w .i64 (a:Int) (q:Int)=((a>>>q:Nat):Int):=by
 unfold z0w
 have e:min ((q:Int).toNat) IntKind.i64.bits=q:=by
  show min ((q:Int).toNat) 64=q
  omega
 rw[e,Xs,Int.fdiv_eq_ediv_of_nonneg _ (by exact Int.pow_nonneg (by omega))]
 simp
theorem z8t(hq:q<=61):zmx .i64 1 (q:Int)=((2^q:Nat):Int):=by
 rw[zsa]
 have e:min ((q:Int).toNat) IntKind.i64.bits=q:=by
  show min ((q:Int).toNat) 64=q
  omega
 rw[e,Int.one_mul]
 have:((2:Int)^q)=((2^q:Nat):Int):=by simp
 rw[this]
 exact zev (Yn (by omega) (by omega))
theorem zgM(ha:a<2^62)(hq:q<=64):(z2X .i64 (z0w .i64 (a:Int) (q:Int)) 1=1)↔a.testBit q=true:=by
 rw[zo4 hq,show(1:Int)=((1:Nat):Int) from rfl,zxq (by rw[Xs];exact X2 (Nat.div_le_self _ _) ha) (by decide),Nat.testBit]
 have:(1&&&a>>>q)=(a>>>q)&&&1:=Nat.and_comm ..
 rw[this]
 have h2:=Nat.and_one_is_mod (a>>>q)
 rw[h2]
 simp only[bne_iff_ne,ne_eq]
 omega
theorem zDw(h:q<2^62):IntKind.u64.wrap (q:Int)=(q:Int):=by rw[XB];omega
def ziH(rows:List (List Int))(s a:Nat):Nat->Nat
 |0=>0
 |q+1=>if s.testBit q=true then ziH rows s a q|||2^((rows.getD q []).getD a 0).toNat else ziH rows s a q
def mvN(d:DFA)(s a:Nat):Nat:=ziH d.next s a d.next.length
theorem zbG(hd:DfaOk d m n)(hq:q<n)(ha:a<m):∃h1:q<d.next.length,∃h2:a<d.next[q].length,(d.next.getD q []).getD a 0=d.next[q][a]/\0<=d.next[q][a]/\d.next[q][a]<n:=by
 have h1:q<d.next.length:=by rw[hd.nl];exact hq
 have hr:=hd.row _ (Zw h1)
 have h2:a<d.next[q].length:=by rw[hr.1];exact ha
 exact⟨h1,h2,by simp[List.getD,h1,h2],hr.2 _ (Zw h2)⟩
theorem zok{d:DFA}{m n:Nat}(hd:DfaOk d m n){s a:Nat}(ha:a<m)(p:Nat):∀q,q<=n->((ziH d.next s a q).testBit p=true↔ ∃i,i<q/\s.testBit i=true/\((d.next.getD i []).getD a 0).toNat=p)
 |0,_=>by simp[ziH]
 |q+1,hq=>by
  have ih:=zok hd (s:=s) ha p q (by omega)
  unfold ziH
  by_cases hb:s.testBit q=true
  · rw[if_pos hb,YE,Y7,ih,Yh]
    constructor
    · rintro(⟨i,h1,h2,h3⟩|h)
      · exact⟨i,by omega,h2,h3⟩
      · exact⟨q,by omega,hb,by simpa using h⟩
    · rintro⟨i,h1,h2,h3⟩
      by_cases e:i=q
      · subst e;right;simpa using h3
      · left;exact⟨i,by omega,h2,h3⟩
  · rw[if_neg hb,ih]
    constructor
    · rintro⟨i,h1,h2,h3⟩;exact⟨i,by omega,h2,h3⟩
    · rintro⟨i,h1,h2,h3⟩
      by_cases e:i=q
      · subst e;exact absurd h2 hb
      · exact⟨i,by omega,h2,h3⟩
theorem zg2{d:DFA}{m n:Nat}(hd:DfaOk d m n){s a:Nat}(ha:a<m):∀q,q<=n->ziH d.next s a q<2^n
 |0,_=>Yv n
 |q+1,hq=>by
  have ih:=zg2 hd (s:=s) ha q (by omega)
  unfold ziH
  split
  · obtain⟨h1,h2,e,h3,h4⟩:=zbG hd (q:=q) (by omega) ha
    refine zz6 ih (Yn (by omega) ?_)
    rw[e];omega
  · exact ih
theorem z9t(hd:DfaOk d m n)(ha:a<m)(p:Nat):(mvN d s a).testBit p=true↔ ∃i,i<n/\s.testBit i=true/\((d.next.getD i []).getD a 0).toNat=p:=by
 unfold mvN;rw[hd.nl];exact zok hd ha p n (Z5 _)
theorem zcx(hd:DfaOk d m n)(ha:a<m):mvN d s a<2^n:=by
 unfold mvN;rw[hd.nl];exact zg2 hd ha n (Z5 _)
theorem zfV(h:n<=12):2^n<=4096:=Zi (n:=2) (by omega) h
theorem zsW(hd:DfaOk d m n)(hn:n<=12)(hs:s<2^n)(ha:a<m):z6X d (s:Int) (a:Int)=some ((mvN d s a:Nat):Int):=by
 have h12:=zfV hn
 unfold z6X mvN
 refine z0x (s:=((0:Int),(0:Int))) n (fun q=>(((ziH d.next s a q:Nat):Int),(q:Int))) rfl (by simp only[LFm];omega) (fun q hq=> ?_) ?_
 · have hlt:=zg2 hd (s:=s) ha q (by omega)
   obtain⟨h1,h2,e,h3,h4⟩:=zbG hd (q:=q) hq ha
   simp only[z7h]
   rw[if_pos (by omega),z1k h1]
   simp only[Z0]
   rw[z0j _ (by omega),z1g (by omega)]
   by_cases hb:s.testBit q=true
   · rw[if_pos ((zgM (by omega) (by omega)).2 hb),z1k h2]
     simp only[Z0]
     obtain⟨v,hv⟩:=ZF h3
     rw[z0j _ (by omega),hv,z8t (by omega),zmK (by omega) (Yn (by omega) (by omega))]
     simp only[ziH]
     rw[if_pos hb,e,hv,Z3]
   · rw[if_neg (fun h=>hb ((zgM (by omega) (by omega)).1 h))]
     simp only[ziH]
     rw[if_neg hb]
 · simp only[z7h]
   rw[if_neg (by rw[hd.nl];omega),hd.nl]
end
section
open Go
variable{d:DFA}{k m n:Nat}
def zq7(d:DFA)(r:List Int):Bool:=decide ((r.length:Int)=d.letters)&&r.all fun x=>decide (0<=x/\x<(d.final.length:Int))
def zhP(d:DFA):Bool:=decide (d.next.length=d.final.length)&&decide (0<=d.start/\d.start<(d.final.length:Int))&&d.next.all (zq7 d)
def zAd(d:DFA):Int:=if d.letters<1∨6<d.letters then 1 else if 512<d.final.length then 3 else if zhP d=true then 0 else 4
def zDp(d:DFA):Prop:=d.final.length<2^61/\d.next.length<2^61/\ ∀r∈d.next,r.length<2^61
theorem zvE(hc:zDp d):z0k (z5x d) LFm 0=some (if d.next.all (zq7 d)=true then 0 else 4):=by
 rw[zg8 (l:=d.next) ([]:List Int) (zq7 d) (A:=some 4) (B:=some 0) (by have:=hc.2.1;omega) (fun k hk=> ?_) ?_]
 · split<;>rfl
 · simp only[z5x]
   rw[if_neg (by omega)]
 · simp only[z5x]
   have hkl:=hc.2.1
   have hrl:=hc.2.2 _ (Zw hk)
   rw[if_pos (by omega),z1k hk]
   simp only[Z0,List.getD,Z1 hk,Zb]
   by_cases hl:(d.next[k].length:Int)=d.letters
   · rw[if_pos hl]
     rw[zg8 (l:=d.next[k]) (0:Int) (fun x=>decide (0<=x/\x<(d.final.length:Int))) (A:=z0i (some 4)) (B:=z0c ((k+1:Nat):Int)) (by omega) (fun j hj=> ?_) ?_]
     · simp only[zq7,hl,decide_true,YN]
     · simp only[z6a]
       rw[if_neg (by omega),z1g (by omega)]
     · simp only[z6a]
       rw[if_pos (by omega),z1k hj]
       simp only[Z0,List.getD,Z1 hj,Zb]
       by_cases h1:d.next[k][j]<0
       · rw[if_pos h1,if_neg (by simp;omega)]
       · rw[if_neg h1]
         by_cases h2:(d.final.length:Int)<=d.next[k][j]
         · rw[if_pos h2,if_neg (by simp;omega)]
         · rw[if_neg h2,if_pos (by simp;omega),z1g (by omega)]
   · rw[if_neg hl]
     rw[if_neg (by simp[zq7,hl])]
theorem zuI(hc:zDp d):z7v d=some (zAd d):=by
 unfold z7v zAd
 by_cases h1:d.letters<1
 · rw[if_pos h1,if_pos (.inl h1)]
 rw[if_neg h1]
 by_cases h2:6<d.letters
 · rw[if_pos h2,if_pos (.inr h2)]
 have hno:¬(d.letters<1∨6<d.letters):=by omega
 rw[if_neg h2,if_neg hno]
 by_cases h3:512<(d.final.length:Int)
 · have h3':512<d.final.length:=by omega
   rw[if_pos h3,if_pos h3']
 have h3':¬512<d.final.length:=by omega
 rw[if_neg h3,if_neg h3']
 by_cases h4:(d.next.length:Int)=(d.final.length:Int)
 · rw[if_pos h4]
   by_cases h5:d.start<0
   · rw[if_pos h5,if_neg (by simp[zhP];omega)]
   rw[if_neg h5]
   by_cases h6:(d.final.length:Int)<=d.start
   · rw[if_pos h6,if_neg (by simp[zhP];omega)]
   rw[if_neg h6,zvE hc]
   congr 1
   have e1:decide (d.next.length=d.final.length)=true:=by simp;omega
   have e2:decide (0<=d.start/\d.start<(d.final.length:Int))=true:=by simp;omega
   simp only[zhP,e1,e2,YN]
 · rw[if_neg h4,if_neg (by simp[zhP];omega)]
def zD9(d:DFA):Int:=if zAd d=0 then(if 12<d.final.length then 3 else 0) else zAd d
theorem zm6(hc:zDp d):z5s d=some (zD9 d):=by
 unfold z5s zD9
 rw[zuI hc]
 simp only[Z0]
 split
 · split
   · rw[if_pos (by omega)]
   · rw[if_neg (by omega)]
 · rfl
theorem zAz(hd:DfaOk d m n)(hn:n<=512):zAd d=0:=by
 have h1:=hd.lt
 have h2:=hd.m1
 have h3:=hd.m6
 have hf:=hd.fin
 have hl:=hd.nl
 unfold zAd
 rw[if_neg (by omega),if_neg (by omega),if_pos]
 have e1:decide (d.next.length=d.final.length)=true:=by simp;omega
 have e2:decide (0<=d.start/\d.start<(d.final.length:Int))=true:=by have:=hd.s0;have:=hd.s1;simp;omega
 simp only[zhP,e1,e2,YN,Zn]
 intro r hr
 obtain⟨a,b⟩:=hd.row r hr
 have e3:decide ((r.length:Int)=d.letters)=true:=by simp;omega
 simp only[zq7,e3,YN,Zn,decide_eq_true_eq]
 intro x hx
 have:=b x hx
 omega
theorem zBq(hd:DfaOk d m n)(hn:n<=12):zD9 d=0:=by
 have hf:=hd.fin
 unfold zD9
 rw[zAz hd (by omega),if_pos rfl,if_neg (by omega)]
theorem zBR(hd:DfaOk d m n)(hn:n<=12):zDp d:=⟨by rw[hd.fin];omega,by rw[hd.nl];omega,fun r hr=>by have:=(hd.row r hr).1;have:=hd.m6;omega⟩
theorem zlG{w:ByteArray}(h:k<w.size):w[k]=w.data.toList.getD k 0:=by
 have h':k<w.data.toList.length:=by rw[Yj];exact h
 rw[List.getD,Z1 h',Zb,Xi]
 rfl
def zvC(m:Nat)(w:ByteArray):Prop:=w.size<=2048/\ ∀c∈w.data.toList,97<=c.toNat/\c.toNat<97+m
instance(m:Nat)(w:ByteArray):Decidable (zvC m w):=by unfold zvC;exact inferInstance
theorem zbU{r p:Nat}(hr:r<2^62)(hp:p<2^62):z3W (r:Int) (p:Int)=some (decide (p&&&r=p)):=by
 unfold z3W
 congr 1
 rw[Yf];simp only[decide_eq_true_eq]
 exact zgQ hp hr
def z4y(d:DFA):Nat->List UInt8->Nat
 |s,[]=>s
 |s,c::w=>z4y d (mvN d s (c.toNat-97)) w
theorem z6T(d:DFA):∀(s:Nat) (u v:List UInt8),z4y d s (u++v)=z4y d (z4y d s u) v
 |s,[],v=>rfl
 |s,c::u,v=>by simp only[ZU,z4y,z6T]
theorem zfP{d:DFA}{m n:Nat}(hd:DfaOk d m n):∀ {w:List UInt8} {s:Nat},s<2^n->(∀c∈w,97<=c.toNat/\c.toNat<97+m)->z4y d s w<2^n
 | [],s,hs,_=>hs
 |c::w,s,hs,hw=>by
  have hc:=hw c (Zy ..)
  exact zfP (w:=w) (s:=mvN d s (c.toNat-97)) hd (zcx hd (by omega)) fun c' hc'=>hw c' (Zl _ hc')
theorem zku{α:Type}{l:List α}(h:k<l.length):l.take (k+1)=l.take k++ [l[k]]:=by rw[ZA h]
end
section
open Go
def zrg(a:Nat):ByteArray:=⟨#[UInt8.ofNat (97+a)]⟩
abbrev RS:=List Nat×List ByteArray
def zky(d:DFA)(i a:Nat)(st:RS):RS:=if mvN d (st.1.getD i 0) a∈st.1 then st else(st.1++ [mvN d (st.1.getD i 0) a],st.2++ [st.2.getD i ByteArray.empty++zrg a])
def z9M(d:DFA)(i:Nat)(st:RS):Nat->RS
 |0=>st
 |a+1=>zky d i a (z9M d i st a)
def z8v(d:DFA)(m s:Nat):Nat->RS
 |0=>([s],[ByteArray.empty])
 |k+1=>if k<(z8v d m s k).1.length then z9M d k (z8v d m s k) m else z8v d m s k
structure RInv(d:DFA)(m n s:Nat)(st:RS):Prop where
 nd:st.1.Nodup
 lt:∀x∈st.1,x<2^n
 len:st.2.length=st.1.length
 f0:st.1[0]? =some s
 w0:st.2[0]? =some ByteArray.empty
 ok:∀i,i<st.1.length->(st.2.getD i ByteArray.empty).size<=i/\(∀c∈(st.2.getD i ByteArray.empty).data.toList,97<=c.toNat/\c.toNat<97+m)/\z4y d s (st.2.getD i ByteArray.empty).data.toList=st.1.getD i 0
variable{d:DFA}{S l:List Nat}{a i m n s x:Nat}{α:Type}
variable{st:RS}
theorem z8x{l r:List α}(d:α)(h:i<l.length):(l++r).getD i d=l.getD i d:=by grind
theorem zaa{l:List α}{x d:α}(h:i=l.length):(l++ [x]).getD i d=x:=by
 subst h;simp[List.getD]
theorem z0f(h:i<l.length):l.getD i 0∈l:=by grind
theorem z8c{α:Type}:∀ {l r:List α},l.Nodup->(∀x∈l,x∈r)->l.length<=r.length
 | [],r,_,_=>by simp
 |x::l,r,hn,hs=>by
  obtain⟨a,b,rfl⟩:=List.append_of_mem (hs x (Zy ..))
  have hn':=YH.1 hn
  have:=z8c (r:=a++b) hn'.2 fun y hy=>by grind
  simp only[Zr,Za] at*
  omega
theorem z2n{N:Nat}(hn:l.Nodup)(hl:∀x∈l,x<N):l.length<=N:=by
 have:=z8c hn (r:=List.range N) fun x hx=>Zk.2 (hl x hx)
 simpa using this
theorem z8b(a:Nat):(zrg a).data.toList= [UInt8.ofNat (97+a)]:=rfl
theorem zcX(u v:ByteArray):(u++v).data.toList=u.data.toList++v.data.toList:=by simp
theorem zeT(u v:ByteArray):(u++v).size=u.size+v.size:=by simp
theorem z7q(a:Nat):(zrg a).size=1:=rfl
theorem zaN(h:a<26):(UInt8.ofNat (97+a)).toNat=97+a:=by simp[Xp];omega
theorem zvQ(hd:DfaOk d m n)(h:RInv d m n s st)(hi:i<st.1.length)(ha:a<m):
 RInv d m n s (zky d i a st)/\mvN d (st.1.getD i 0) a∈(zky d i a st).1/\ ∃S W,(zky d i a st).1=st.1++S/\(zky d i a st).2=st.2++W:=by
 have hm6:=hd.m6
 unfold zky
 split
 · rename_i hm
   exact⟨h,hm,[],[],by simp,by simp⟩
 · rename_i hm
   obtain⟨o1,o2,o3⟩:=h.ok i hi
   refine⟨⟨?_,?_,by simp[h.len],?_,?_,?_⟩,by simp,_,_,rfl,rfl⟩
   · refine Yu.2 ⟨h.nd,by simp,fun x hx y hy=> ?_⟩
     obtain rfl:y=_:=by simpa using hy
     exact fun e=>hm (e▸hx)
   · intro x hx
     rcases Ze.1 hx with hx|hx
     · exact h.lt x hx
     · obtain rfl:x=_:=by simpa using hx
       exact zcx hd ha
   · rw[ZL (by omega)];exact h.f0
   · rw[ZL (by rw[h.len];omega)];exact h.w0
   · intro j hj
     simp only[Za,ZE] at hj
     by_cases e:j=st.1.length
     · rw[zaa e,zaa (by rw[h.len];exact e),zeT,zcX,z8b,z7q,z6T,o3]
       refine⟨by omega,fun c hc=> ?_,?_⟩
       · rcases Ze.1 hc with hc|hc
         · exact o2 c hc
         · obtain rfl:=Zj.1 hc
           rw[zaN (by omega)];omega
       · simp only[z4y]
         rw[zaN (by omega),Ym]
     · rw[z8x _ (show j<st.2.length by rw[h.len];omega),z8x _ (show j<st.1.length by omega)]
       exact h.ok j (by omega)
theorem ziZ{d:DFA}{m n s:Nat}(hd:DfaOk d m n){st:RS}(h:RInv d m n s st){i:Nat}(hi:i<st.1.length):∀a,a<=m->
 RInv d m n s (z9M d i st a)/\(∀b,b<a->mvN d (st.1.getD i 0) b∈(z9M d i st a).1)/\(∃S W,(z9M d i st a).1=st.1++S/\(z9M d i st a).2=st.2++W)
 |0,_=>⟨h,fun b hb=>by omega,[],[],by simp[z9M],by simp[z9M]⟩
 |a+1,ha=>by
  obtain⟨h1,h2,S,W,h3,h4⟩:=ziZ hd h hi a (by omega)
  have hi':i<(z9M d i st a).1.length:=by rw[h3,Za];omega
  obtain⟨k1,k2,S',W',k3,k4⟩:=zvQ hd h1 hi' (show a<m by omega)
  have e:(z9M d i st a).1.getD i 0=st.1.getD i 0:=by rw[h3,z8x _ hi]
  rw[e] at k2
  refine⟨k1,fun b hb=> ?_,S++S',W++W',by rw[z9M,k3,h3,Zo],by rw[z9M,k4,h4,Zo]⟩
  by_cases hb':b=a
  · subst hb';exact k2
  · rw[z9M,k3];exact Ze.2 (.inl (h2 b (by omega)))
theorem zbD{d:DFA}{m n s:Nat}(hd:DfaOk d m n)(hs:s<2^n):∀k,RInv d m n s (z8v d m s k)/\ ∀j,j<k->j<(z8v d m s k).1.length->∀a,a<m->mvN d ((z8v d m s k).1.getD j 0) a∈(z8v d m s k).1
 |0=>⟨⟨by simp[z8v],by simpa[z8v] using hs,rfl,rfl,rfl,fun i hi=>by
   obtain rfl:i=0:=by simpa[z8v] using hi
   exact⟨Z5 _,fun c hc=>by simp[z8v,List.getD] at hc,rfl⟩⟩,fun j hj=>by omega⟩
 |k+1=>by
  obtain⟨h1,h2⟩:=zbD hd hs k
  unfold z8v
  split
  · rename_i hk
    obtain⟨k1,k2,S,W,k3,k4⟩:=ziZ hd h1 hk m (Z5 _)
    refine⟨k1,fun j hj hjl a ha=> ?_⟩
    by_cases e:j=k
    · grind
    · have hj':j<(z8v d m s k).1.length:=by omega
      have:=h2 j (by omega) hj' a ha
      rw[show(z9M d k (z8v d m s k) m).1.getD j 0=(z8v d m s k).1.getD j 0 by rw[k3,z8x _ hj'],k3]
      exact Ze.2 (.inl this)
  · grind
theorem zmz(hd:DfaOk d m n)(hs:s<2^n)(k:Nat):(z8v d m s k).1.length<=2^n:=z2n (zbD hd hs k).1.nd (zbD hd hs k).1.lt
theorem zix{d:DFA}{m s:Nat}{k:Nat}(h:¬k<(z8v d m s k).1.length):∀j,k<=j->z8v d m s j=z8v d m s k
 |0,hj=>by grind
 |j+1,hj=>by
  by_cases e:k=j+1
  · rw[e]
  · have ih:=zix h j (by omega)
    rw[z8v,ih,if_neg (by omega)]
def z1C(d:DFA)(m n s:Nat):RS:=z8v d m s (2^n)
theorem zeb(hd:DfaOk d m n)(hs:s<2^n)(hx:x∈(z1C d m n s).1)(ha:a<m):mvN d x a∈(z1C d m n s).1:=by
 obtain⟨i,hi,rfl⟩:=Zt hx
 have hl:=zmz hd hs (2^n)
 have:=(zbD hd hs (2^n)).2 i (by unfold z1C at hi;omega) hi a ha
 have e:(z8v d m s (2^n)).1.getD i 0=(z1C d m n s).1[i]:=by
  show(z1C d m n s).1.getD i 0=_
  rw[List.getD,Z1 hi,Zb]
 rw[e] at this
 exact this
theorem z6u(hd:DfaOk d m n)(hs:s<2^n):RInv d m n s (z1C d m n s):=(zbD hd hs _).1
def toI(l:List Nat):List Int:=l.map fun x=>((x:Nat):Int)
theorem z0b(l:List Nat):(toI l).length=l.length:=by simp[toI]
theorem z5B(l:List Nat)(x:Nat):toI (l++ [x])=toI l++ [((x:Nat):Int)]:=by simp[toI]
theorem z1u(h:i<l.length):atI (toI l) (i:Int)=some ((l.getD i 0:Nat):Int):=by
 rw[z1k (by rw[z0b];exact h)]
 simp[toI,List.getD,h]
theorem zyz{l:List ByteArray}(h:i<l.length):atI l (i:Int)=some (l.getD i ByteArray.empty):=by
 rw[z1k h,List.getD,Z1 h,Zb]
def zl6(n:Nat)(S:List Nat):List Bool:=(List.range (2^n)).map fun x=>decide (x∈S)
theorem zBo(h:x<2^n):atI (zl6 n S) (x:Int)=some (decide (x∈S)):=by
 rw[z1k (by simpa[zl6] using h)];simp[zl6]
theorem zsX:(zl6 n S).set x true=zl6 n (S++ [x]):=by
 apply Zf (by simp[zl6])
 intro i h1 h2
 simp only[zl6,Y9,ZG,ZQ,Ze,Zj]
 by_cases e:x=i
 · subst e;simp
 · grind
theorem zsY:(List.replicate (2^n) false).set s true=zl6 n [s]:=by
 have:List.replicate (2^n) false=zl6 n []:=by
  apply Zf (by simp[zl6])
  intro i h1 h2
  simp[zl6]
 rw[this,zsX];rfl
def zEn(S:List Nat):List (Int×Bool):=S.map fun x=>(((x:Nat):Int),true)
theorem map_set{x:Nat}:∀ {S:List Nat},x∉S->z8p ((x:Nat):Int) true (zEn S)=zEn (S++ [x])
 | [],_=>rfl
 |y::S,h=>by
  have ih:=map_set (x:=x) (S:=S) (fun hh=>h (Zl _ hh))
  have hne:y≠x:=fun e=>h (by simp[e])
  simp only[zEn,Zs,z8p,ZU]
  rw[if_neg (by omega)]
  congr 1
theorem ziT(h:a<26):(⟨#[UInt8.ofNat (IntKind.u8.wrap (IntKind.i64.wrap (97+(a:Int)))).toNat]⟩:ByteArray)=zrg a:=by
 rw[z2Y (by omega) (by omega),zDx (by omega) (by omega)]
 have:(97+(a:Int)).toNat=97+a:=by omega
 rw[this];rfl
theorem zn4(hd:DfaOk d m n)(hn:n<=12)(h:RInv d m n s st)(hi:i<st.1.length):
 z0k (z5t d i) LFm (0,zl6 n st.1,toI st.1,st.2)=z0c (((i+1:Nat):Int),zl6 n (z9M d i st m).1,toI (z9M d i st m).1,(z9M d i st m).2):=by
 have h12:=zfV hn
 have hm6:=hd.m6
 have hl:=z2n h.nd h.lt
 refine z0x (s:=((0:Int),zl6 n st.1,toI st.1,st.2)) m (fun a=>((a:Int),zl6 n (z9M d i st a).1,toI (z9M d i st a).1,(z9M d i st a).2)) rfl (by simp only[LFm];omega) (fun a ha=> ?_) ?_
 · obtain⟨k1,_,S,W,k3,k4⟩:=ziZ hd h hi a (by omega)
   have hl2:=z2n k1.nd k1.lt
   have hi':i<(z9M d i st a).1.length:=by rw[k3,Za];omega
   have hx:(z9M d i st a).1.getD i 0<2^n:=k1.lt _ (z0f hi')
   obtain⟨o1,_,_⟩:=k1.ok i hi'
   simp only[z5t]
   rw[if_pos (by rw[hd.lt];omega),z1u hi']
   simp only[Z0]
   rw[zsW hd hn hx ha]
   simp only[Z0]
   rw[zBo (zcx hd ha)]
   simp only[Z0,decide_eq_true_eq]
   rw[z1g (by omega),z9M]
   unfold zky
   have hml:=zcx hd (s:=(z9M d i st a).1.getD i 0) ha
   have hlt:=hd.lt
   clear hd h k3 k4
   revert hml
   generalize z9M d i st a=st' at*
   generalize mvN d (st'.1.getD i 0) a=x
   intro hml
   by_cases hm:x∈st'.1
   · rw[if_pos hm,if_pos hm]
   · rw[if_neg hm,if_neg hm,z0j _ (by unfold z1B;rw[z0b];omega),zyz (by rw[k1.len];exact hi'),Z0]
     rw[ziT (by omega),z0j _ (by unfold z9O;rw[z7q];omega),z0j _ (by unfold z1B;rw[k1.len];omega),Z3,zsX]
     rw[z5B]
 · simp only[z5t]
   rw[if_neg (by rw[hd.lt];omega),z1g (by omega)]
theorem zw9(hd:DfaOk d m n)(hn:n<=12)(hs:s<2^n):z7t d (s:Int)=some (toI (z1C d m n s).1,(z1C d m n s).2):=by
 have h12:=zfV hn
 have hp:=Yv n
 unfold z7t
 rw[hd.fin,z0j _ (by omega),z8t (by omega),z0j _ (by unfold z0X;omega),z0j _ (by omega),Z3,Z3,zsY]
 refine ziO (s:=((0:Int),zl6 n [s],[(s:Int)],[ByteArray.empty])) (fun z=>∃k:Nat,k<=2^n/\z=((k:Int),zl6 n (z8v d m s k).1,toI (z8v d m s k).1,(z8v d m s k).2)) (fun z=>2^n+1-z.1.toNat) ⟨0,by omega,rfl⟩ (by simp only[LFm];omega) ?_
 rintro z ⟨k,hk,rfl⟩
 have hl:=zmz hd hs k
 simp only[z8f]
 by_cases h:k<(z8v d m s k).1.length
 · left
   rw[if_pos (by rw[z0b];omega),zn4 hd hn (zbD hd hs k).1 h]
   refine⟨_,rfl,⟨k+1,by omega,?_⟩,by simp only;omega⟩
   rw[z8v,if_pos h]
 · right
   rw[if_neg (by rw[z0b];omega)]
   unfold z1C
   rw[zix h _ hk]
end
section
open Go
theorem zuN(x y:Int):∃c,cmp_Compare_int x y=some c/\(c<0↔x<y):=by
 simp only[cmp_Compare_int,cmp_isNaN_int,decide_true,Xe,Z0,ZR,if_false]
 by_cases h1:x<y
 · rw[if_pos h1];exact⟨_,rfl,by omega⟩
 · rw[if_neg h1]
   by_cases h2:y<x
   · rw[if_pos h2];exact⟨_,rfl,by omega⟩
   · rw[if_neg h2];exact⟨_,rfl,by omega⟩
def kv(K:List Int)(x:Int):Int:=K.getD x.toNat 0
def zF1(K:List Int)(x:Int):Prop:=0<=x/\x<K.length
abbrev zGq(K:List Int)(l:List Int):Prop:=∀x∈l,zF1 K x
abbrev zHn(K:List Int)(l:List Int):Prop:=l.Pairwise fun x y=>kv K x<=kv K y
def zA1(K:List Int):SrtC where
 cmp x y:=z1c x y K
 key x:=kv K x*1048576+x
 ok x:=zF1 K x/\x<1048576
 law x y hx hy h:=by
  obtain⟨i,rfl⟩:=ZF hx.1.1
  obtain⟨j,rfl⟩:=ZF hy.1.1
  have hi:i<K.length:=by have:=hx.1.2;omega
  have hj:j<K.length:=by have:=hy.1.2;omega
  obtain⟨c,h1,h2⟩:=zuN K[i] K[j]
  refine⟨c,?_,?_⟩
  · unfold z1c
    rw[z1k hi,Z0,z1k hj,Z0,h1];rfl
  · rw[h2]
    have e1:kv K (i:Int)=K[i]:=by simp[kv,List.getD,hi]
    have e2:kv K (j:Int)=K[j]:=by simp[kv,List.getD,hj]
    have:=hx.2
    have:=hy.2
    omega
theorem znW:∀k,z0l k=fun l a m b K=>zwP k l a m b (zA1 K)
 |0=>rfl
 |k+1=>by
  show z0G (z0l k)=_
  rw[znW k]
  rfl
theorem zvR(l K:List Int):z0n l K=zBG l (zA1 K):=by
 have h9:z0I=fun a K w=>zbR a (zA1 K) w:=by
  unfold z0I
  rw[znW]
  all_goals rfl
 have h7:z0J=fun a K=>zdL a (zA1 K):=by
  unfold z0J
  rw[h9]
  all_goals rfl
 have h2:z0K=fun a K=>zdM a (zA1 K):=by
  unfold z0K
  rw[h7]
  all_goals rfl
 unfold z0n z0R
 rw[h2]
 all_goals rfl
theorem zvf(n:Nat):((List.range n).map fun x=>((x:Nat):Int)).Pairwise (·< ·):=YC _ (fun a b (h:a<b)=>by omega) XD
theorem zs1{K:List Int}{n:Nat}(hv:zGq K (toI (List.range n)))(hn:(toI (List.range n)).length<=5000):∃S,z0n (toI (List.range n)) K=some S/\zHn K S/\S.Perm (toI (List.range n)):=by
 have hok:∀x∈toI (List.range n),(zA1 K).ok x:=fun x hx=>⟨hv x hx,by
  rw[z0b,ZD] at hn
  obtain⟨i,hi,rfl⟩:=Zm.1 hx
  have:=Zk.1 hi
  omega⟩
 obtain⟨S,e,h1,h2⟩:=zmt (K:=zA1 K) hok (zvf n) hn
 refine⟨S,by rw[zvR,e],?_,h2⟩
 refine Xz (fun {x y} hx hy h=> ?_) h1
 have o1:=hok x (h2.mem_iff.1 hx)
 have o2:=hok y (h2.mem_iff.1 hy)
 have a1:=o1.1.1
 have a2:=o1.2
 have b1:=o2.1.1
 have b2:=o2.2
 have h3:kv K x*1048576+x<=kv K y*1048576+y:=h
 show kv K x<=kv K y
 omega
end
end Go.Proofs.YtianakjpgmmflaaGreatDoor
