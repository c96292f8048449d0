/- Proved here: a part of the proof of the law at hand, in one text: no condition. -/
import Derived.Test.YtiobkcdgggbljaaGreatDoorMMI2
import Derived.Test.YtiobkcdgggbljaaGreatDoorProg
import Derived.KernelRfl
set_option linter.unusedVariables false
set_option linter.unusedSimpArgs false
set_option linter.unusedSectionVars false
set_option maxRecDepth 100000
set_option maxHeartbeats 6000000
namespace Go.Proofs.YtiobkcdgggbljaaGreatDoor
section
open Go Go.IntKind
structure SrtC where
 cmp:Int->Int->Option Int
 key:Int->Int
 ok:Int->Prop
 law:∀x y,ok x->ok y->y<x->∃c,cmp x y=some c/\(c<0↔key x<key y)
noncomputable section
abbrev zjF(a1:Int)(a3_0_0:SrtC)(w95:Int):Int×List Int->Option ((Int×List Int)⊕((Int×List Int)⊕List Int))
 |(w127,w128)=>
 if a1<w127 then
  (atI w128 w127).bind fun v136=>
  (atI w128 (i64.wrap (w127-1))).bind fun v137=>
  (a3_0_0.cmp v136 v137).bind fun v138=>
  if v138<0 then
   (atI (w128.set w127.toNat v137) (i64.wrap (w127-1))).bind fun v142=>
   z0c (i64.wrap (w127-1),((w128.set w127.toNat v137).set (i64.wrap (w127-1)).toNat v136))
  else
   z0d<|
   z0c (i64.wrap (w95+1),w128)
 else
  z0d<|
  z0c (i64.wrap (w95+1),w128)
abbrev zjG(a1:Int)(a2:Int)(a3_0_0:SrtC):Int×List Int->Option ((Int×List Int)⊕List Int)
 |(w95,w96)=>
 if w95<a2 then
  z0h (zjF a1 a3_0_0 w95) LFm (w95,w96)
 else
  z0d<|
  some w96
def zEF(a0:List Int)(a1:Int)(a2:Int)(a3_0_0:SrtC):Option (List Int):=
 z0h (zjG a1 a2 a3_0_0) LFm (i64.wrap (a1+1),a0)
abbrev zvf(a1:Int)(a2:Int)(a3:Int):Int×List Int->Option ((Int×List Int)⊕List Int)
 |(w19,w20)=>
 if w19<a3 then
  (atI w20 (i64.wrap (a2+w19))).bind fun v25=>
  (atI w20 (i64.wrap (a1+w19))).bind fun v26=>
  (atI (w20.set (i64.wrap (a1+w19)).toNat v25) (i64.wrap (a2+w19))).bind fun v28=>
  z0c (i64.wrap (w19+1),((w20.set (i64.wrap (a1+w19)).toNat v25).set (i64.wrap (a2+w19)).toNat v26))
 else
  z0d<|
  some w20
def zD0(a0:List Int)(a1:Int)(a2:Int)(a3:Int)(a4_0_0:SrtC):Option (List Int):=
 z0h (zvf a1 a2 a3) LFm (0,a0)
abbrev zvg(a2:Int)(a4_0_0:SrtC):Int×Int×List Int->Option ((Int×Int×List Int)⊕List Int)
 |(w13,w15,w14)=>
 if w13=w15 then
  z0d<|
  (zD0 w14 (i64.wrap (a2-w13)) a2 w13 a4_0_0).bind fun v18=>
  some v18
 else
  if w15<w13 then
   (zD0 w14 (i64.wrap (a2-w13)) a2 w15 a4_0_0).bind fun v19=>
   z0c (i64.wrap (w13-w15),w15,v19)
  else
   (zD0 w14 (i64.wrap (a2-w13)) (i64.wrap ((i64.wrap (a2+w15))-w13)) w13 a4_0_0).bind fun v20=>
   z0c (w13,i64.wrap (w15-w13),v20)
def zEE(a0:List Int)(a1:Int)(a2:Int)(a3:Int)(a4_0_0:SrtC):Option (List Int):=
 z0h (zvg a2 a4_0_0) LFm (i64.wrap (a2-a1),i64.wrap (a3-a2),a0)
abbrev zjC(w102:Int):Int×List Int->Option ((Int×List Int)⊕List Int)
 |(w114,w115)=>
 if w114<(i64.wrap (w102-1)) then
  (atI w115 (i64.wrap (w114+1))).bind fun v120=>
  (atI w115 w114).bind fun v121=>
  (atI (w115.set w114.toNat v120) (i64.wrap (w114+1))).bind fun v123=>
  z0c (i64.wrap (w114+1),((w115.set w114.toNat v120).set (i64.wrap (w114+1)).toNat v121))
 else
  z0d<|
  some w115
abbrev zjD(a0:List Int)(a1:Int)(a4_0_0:SrtC):Int×Int->Option ((Int×Int)⊕List Int)
 |(w102,w103)=>
 if w102<w103 then
  chk (¬1<0)<|
  (atI a0 (i64.wrap (z1D .u64 (IntKind.u64.wrap (i64.wrap (w102+w103))) 1))).bind fun v107=>
  (atI a0 a1).bind fun v108=>
  (a4_0_0.cmp v107 v108).bind fun v109=>
  if v109<0 then
   z0c (i64.wrap ((i64.wrap (z1D .u64 (IntKind.u64.wrap (i64.wrap (w102+w103))) 1))+1),w103)
  else
   z0c (w102,i64.wrap (z1D .u64 (IntKind.u64.wrap (i64.wrap (w102+w103))) 1))
 else
  z0d<|
  z0h (zjC w102) LFm (a1,a0)
abbrev zjE(w128:Int):Int×List Int->Option ((Int×List Int)⊕List Int)
 |(w139,w140)=>
 if w128<w139 then
  (atI w140 (i64.wrap (w139-1))).bind fun v145=>
  (atI w140 w139).bind fun v146=>
  (atI (w140.set w139.toNat v145) (i64.wrap (w139-1))).bind fun v148=>
  z0c (i64.wrap (w139-1),((w140.set w139.toNat v145).set (i64.wrap (w139-1)).toNat v146))
 else
  z0d<|
  some w140
abbrev zft(a0:List Int)(a2:Int)(a4_0_0:SrtC):Int×Int->Option ((Int×Int)⊕List Int)
 |(w128,w127)=>
 if w128<w127 then
  chk (¬1<0)<|
  (atI a0 a2).bind fun v132=>
  (atI a0 (i64.wrap (z1D .u64 (IntKind.u64.wrap (i64.wrap (w128+w127))) 1))).bind fun v133=>
  (a4_0_0.cmp v132 v133).bind fun v134=>
  if v134<0 then
   z0c (w128,i64.wrap (z1D .u64 (IntKind.u64.wrap (i64.wrap (w128+w127))) 1))
  else
   z0c (i64.wrap ((i64.wrap (z1D .u64 (IntKind.u64.wrap (i64.wrap (w128+w127))) 1))+1),w127)
 else
  z0d<|
  z0h (zjE w128) LFm (a2,a0)
abbrev zbJ(a0:List Int)(a1:Int)(a2:Int)(a3:Int)(a4_0_0:SrtC)(rf:List Int->Int->Int->Int->SrtC->Option (List Int)):Int×Int->Option ((Int×Int)⊕List Int)
 |(w153,w152)=>
 if w153<w152 then
  chk (¬1<0)<|
  (atI a0 (i64.wrap ((i64.wrap ((i64.wrap ((i64.wrap (z1D .u64 (IntKind.u64.wrap (i64.wrap (a1+a3))) 1))+a2))-1))-(i64.wrap (z1D .u64 (IntKind.u64.wrap (i64.wrap (w153+w152))) 1))))).bind fun v157=>
  (atI a0 (i64.wrap (z1D .u64 (IntKind.u64.wrap (i64.wrap (w153+w152))) 1))).bind fun v158=>
  (a4_0_0.cmp v157 v158).bind fun v159=>
  if v159<0 then
   z0c (w153,i64.wrap (z1D .u64 (IntKind.u64.wrap (i64.wrap (w153+w152))) 1))
  else
   z0c (i64.wrap ((i64.wrap (z1D .u64 (IntKind.u64.wrap (i64.wrap (w153+w152))) 1))+1),w152)
 else
  z0d<|
  if w153<a2 then
   if a2<(i64.wrap ((i64.wrap ((i64.wrap (z1D .u64 (IntKind.u64.wrap (i64.wrap (a1+a3))) 1))+a2))-w153)) then
    (zEE a0 w153 a2 (i64.wrap ((i64.wrap ((i64.wrap (z1D .u64 (IntKind.u64.wrap (i64.wrap (a1+a3))) 1))+a2))-w153)) a4_0_0).bind fun v160=>
    if a1<w153 then
     if w153<(i64.wrap (z1D .u64 (IntKind.u64.wrap (i64.wrap (a1+a3))) 1)) then
      (rf v160 a1 w153 (i64.wrap (z1D .u64 (IntKind.u64.wrap (i64.wrap (a1+a3))) 1)) a4_0_0).bind fun v161=>
      if(i64.wrap (z1D .u64 (IntKind.u64.wrap (i64.wrap (a1+a3))) 1))<(i64.wrap ((i64.wrap ((i64.wrap (z1D .u64 (IntKind.u64.wrap (i64.wrap (a1+a3))) 1))+a2))-w153)) then
       if(i64.wrap ((i64.wrap ((i64.wrap (z1D .u64 (IntKind.u64.wrap (i64.wrap (a1+a3))) 1))+a2))-w153))<a3 then
        (rf v161 (i64.wrap (z1D .u64 (IntKind.u64.wrap (i64.wrap (a1+a3))) 1)) (i64.wrap ((i64.wrap ((i64.wrap (z1D .u64 (IntKind.u64.wrap (i64.wrap (a1+a3))) 1))+a2))-w153)) a3 a4_0_0).bind fun v162=>
        some v162
       else
        some v161
      else
       some v161
     else
      if(i64.wrap (z1D .u64 (IntKind.u64.wrap (i64.wrap (a1+a3))) 1))<(i64.wrap ((i64.wrap ((i64.wrap (z1D .u64 (IntKind.u64.wrap (i64.wrap (a1+a3))) 1))+a2))-w153)) then
       if(i64.wrap ((i64.wrap ((i64.wrap (z1D .u64 (IntKind.u64.wrap (i64.wrap (a1+a3))) 1))+a2))-w153))<a3 then
        (rf v160 (i64.wrap (z1D .u64 (IntKind.u64.wrap (i64.wrap (a1+a3))) 1)) (i64.wrap ((i64.wrap ((i64.wrap (z1D .u64 (IntKind.u64.wrap (i64.wrap (a1+a3))) 1))+a2))-w153)) a3 a4_0_0).bind fun v163=>
        some v163
       else
        some v160
      else
       some v160
    else
     if(i64.wrap (z1D .u64 (IntKind.u64.wrap (i64.wrap (a1+a3))) 1))<(i64.wrap ((i64.wrap ((i64.wrap (z1D .u64 (IntKind.u64.wrap (i64.wrap (a1+a3))) 1))+a2))-w153)) then
      if(i64.wrap ((i64.wrap ((i64.wrap (z1D .u64 (IntKind.u64.wrap (i64.wrap (a1+a3))) 1))+a2))-w153))<a3 then
       (rf v160 (i64.wrap (z1D .u64 (IntKind.u64.wrap (i64.wrap (a1+a3))) 1)) (i64.wrap ((i64.wrap ((i64.wrap (z1D .u64 (IntKind.u64.wrap (i64.wrap (a1+a3))) 1))+a2))-w153)) a3 a4_0_0).bind fun v164=>
       some v164
      else
       some v160
     else
      some v160
   else
    if a1<w153 then
     if w153<(i64.wrap (z1D .u64 (IntKind.u64.wrap (i64.wrap (a1+a3))) 1)) then
      (rf a0 a1 w153 (i64.wrap (z1D .u64 (IntKind.u64.wrap (i64.wrap (a1+a3))) 1)) a4_0_0).bind fun v165=>
      if(i64.wrap (z1D .u64 (IntKind.u64.wrap (i64.wrap (a1+a3))) 1))<(i64.wrap ((i64.wrap ((i64.wrap (z1D .u64 (IntKind.u64.wrap (i64.wrap (a1+a3))) 1))+a2))-w153)) then
       if(i64.wrap ((i64.wrap ((i64.wrap (z1D .u64 (IntKind.u64.wrap (i64.wrap (a1+a3))) 1))+a2))-w153))<a3 then
        (rf v165 (i64.wrap (z1D .u64 (IntKind.u64.wrap (i64.wrap (a1+a3))) 1)) (i64.wrap ((i64.wrap ((i64.wrap (z1D .u64 (IntKind.u64.wrap (i64.wrap (a1+a3))) 1))+a2))-w153)) a3 a4_0_0).bind fun v166=>
        some v166
       else
        some v165
      else
       some v165
     else
      if(i64.wrap (z1D .u64 (IntKind.u64.wrap (i64.wrap (a1+a3))) 1))<(i64.wrap ((i64.wrap ((i64.wrap (z1D .u64 (IntKind.u64.wrap (i64.wrap (a1+a3))) 1))+a2))-w153)) then
       if(i64.wrap ((i64.wrap ((i64.wrap (z1D .u64 (IntKind.u64.wrap (i64.wrap (a1+a3))) 1))+a2))-w153))<a3 then
        (rf a0 (i64.wrap (z1D .u64 (IntKind.u64.wrap (i64.wrap (a1+a3))) 1)) (i64.wrap ((i64.wrap ((i64.wrap (z1D .u64 (IntKind.u64.wrap (i64.wrap (a1+a3))) 1))+a2))-w153)) a3 a4_0_0).bind fun v167=>
        some v167
       else
        some a0
      else
       some a0
    else
     if(i64.wrap (z1D .u64 (IntKind.u64.wrap (i64.wrap (a1+a3))) 1))<(i64.wrap ((i64.wrap ((i64.wrap (z1D .u64 (IntKind.u64.wrap (i64.wrap (a1+a3))) 1))+a2))-w153)) then
      if(i64.wrap ((i64.wrap ((i64.wrap (z1D .u64 (IntKind.u64.wrap (i64.wrap (a1+a3))) 1))+a2))-w153))<a3 then
       (rf a0 (i64.wrap (z1D .u64 (IntKind.u64.wrap (i64.wrap (a1+a3))) 1)) (i64.wrap ((i64.wrap ((i64.wrap (z1D .u64 (IntKind.u64.wrap (i64.wrap (a1+a3))) 1))+a2))-w153)) a3 a4_0_0).bind fun v168=>
       some v168
      else
       some a0
     else
      some a0
  else
   if a1<w153 then
    if w153<(i64.wrap (z1D .u64 (IntKind.u64.wrap (i64.wrap (a1+a3))) 1)) then
     (rf a0 a1 w153 (i64.wrap (z1D .u64 (IntKind.u64.wrap (i64.wrap (a1+a3))) 1)) a4_0_0).bind fun v169=>
     if(i64.wrap (z1D .u64 (IntKind.u64.wrap (i64.wrap (a1+a3))) 1))<(i64.wrap ((i64.wrap ((i64.wrap (z1D .u64 (IntKind.u64.wrap (i64.wrap (a1+a3))) 1))+a2))-w153)) then
      if(i64.wrap ((i64.wrap ((i64.wrap (z1D .u64 (IntKind.u64.wrap (i64.wrap (a1+a3))) 1))+a2))-w153))<a3 then
       (rf v169 (i64.wrap (z1D .u64 (IntKind.u64.wrap (i64.wrap (a1+a3))) 1)) (i64.wrap ((i64.wrap ((i64.wrap (z1D .u64 (IntKind.u64.wrap (i64.wrap (a1+a3))) 1))+a2))-w153)) a3 a4_0_0).bind fun v170=>
       some v170
      else
       some v169
     else
      some v169
    else
     if(i64.wrap (z1D .u64 (IntKind.u64.wrap (i64.wrap (a1+a3))) 1))<(i64.wrap ((i64.wrap ((i64.wrap (z1D .u64 (IntKind.u64.wrap (i64.wrap (a1+a3))) 1))+a2))-w153)) then
      if(i64.wrap ((i64.wrap ((i64.wrap (z1D .u64 (IntKind.u64.wrap (i64.wrap (a1+a3))) 1))+a2))-w153))<a3 then
       (rf a0 (i64.wrap (z1D .u64 (IntKind.u64.wrap (i64.wrap (a1+a3))) 1)) (i64.wrap ((i64.wrap ((i64.wrap (z1D .u64 (IntKind.u64.wrap (i64.wrap (a1+a3))) 1))+a2))-w153)) a3 a4_0_0).bind fun v171=>
       some v171
      else
       some a0
     else
      some a0
   else
    if(i64.wrap (z1D .u64 (IntKind.u64.wrap (i64.wrap (a1+a3))) 1))<(i64.wrap ((i64.wrap ((i64.wrap (z1D .u64 (IntKind.u64.wrap (i64.wrap (a1+a3))) 1))+a2))-w153)) then
     if(i64.wrap ((i64.wrap ((i64.wrap (z1D .u64 (IntKind.u64.wrap (i64.wrap (a1+a3))) 1))+a2))-w153))<a3 then
      (rf a0 (i64.wrap (z1D .u64 (IntKind.u64.wrap (i64.wrap (a1+a3))) 1)) (i64.wrap ((i64.wrap ((i64.wrap (z1D .u64 (IntKind.u64.wrap (i64.wrap (a1+a3))) 1))+a2))-w153)) a3 a4_0_0).bind fun v172=>
      some v172
     else
      some a0
    else
     some a0
def zve(rf:List Int->Int->Int->Int->SrtC->Option (List Int))(a0:List Int)(a1:Int)(a2:Int)(a3:Int)(a4_0_0:SrtC):Option (List Int):=
 if(i64.wrap (a2-a1))=1 then
  z0h (zjD a0 a1 a4_0_0) LFm (a2,a3)
 else
  if(i64.wrap (a3-a2))=1 then
   z0h (zft a0 a2 a4_0_0) LFm (a1,a2)
  else
   chk (¬1<0)<|
   if(i64.wrap (z1D .u64 (IntKind.u64.wrap (i64.wrap (a1+a3))) 1))<a2 then
    z0h (zbJ a0 a1 a2 a3 a4_0_0 rf) LFm (i64.wrap ((i64.wrap ((i64.wrap (z1D .u64 (IntKind.u64.wrap (i64.wrap (a1+a3))) 1))+a2))-a3),i64.wrap (z1D .u64 (IntKind.u64.wrap (i64.wrap (a1+a3))) 1))
   else
    z0h (zbJ a0 a1 a2 a3 a4_0_0 rf) LFm (a1,a2)
def zxP:Nat->List Int->Int->Int->Int->SrtC->Option (List Int)
 |0=>fun _ _ _ _ _=>none
 |k+1=>zve (zxP k)
abbrev zcA(a1:Int)(a2_0_0:SrtC)(w45:Int):Int×Int×List Int->Option ((Int×Int×List Int)⊕((Int×List Int)⊕List Int))
 |(w55,w56,w57)=>
 if w56<=a1 then
  (zxP 5000 w57 w55 (i64.wrap (w55+w45)) w56 a2_0_0).bind fun v59=>
  z0c (w56,i64.wrap (w56+(i64.wrap (2*w45))),v59)
 else
  z0d<|
  if(i64.wrap (w55+w45))<a1 then
   (zxP 5000 w57 w55 (i64.wrap (w55+w45)) a1 a2_0_0).bind fun v60=>
   z0c (i64.wrap (w45*2),v60)
  else
   z0c (i64.wrap (w45*2),w57)
abbrev zet(a1:Int)(a2_0_0:SrtC):Int×List Int->Option ((Int×List Int)⊕List Int)
 |(w45,w46)=>
 if w45<a1 then
  z0h (zcA a1 a2_0_0 w45) LFm (0,i64.wrap (2*w45),w46)
 else
  z0d<|
  some w46
abbrev zeu(a1:Int)(a2_0_0:SrtC):Int×Int×List Int->Option ((Int×Int×List Int)⊕List Int)
 |(w32,w33,w34)=>
 if w33<=a1 then
  (zEF w34 w32 w33 a2_0_0).bind fun v36=>
  z0c (w33,i64.wrap (w33+20),v36)
 else
  z0d<|
  (zEF w34 w32 a1 a2_0_0).bind fun v37=>
  z0h (zet a1 a2_0_0) LFm (20,v37)
def zG6(a0:List Int)(a1:Int)(a2_0_0:SrtC):Option (List Int):=
 z0h (zeu a1 a2_0_0) LFm (0,20,a0)
def zD1(a0:List Int)(a1_0_0:SrtC):Option (List Int):=
 (zG6 a0 (a0.length:Int) a1_0_0).bind fun v2=>
 some v2
end
end
section
open Go Go.IntKind
variable{x:Int}{P R V:List Int}{i w:Nat}{K:SrtC}{α:Type}
theorem zCI(i j:Nat)(h:i+j<4611686018427387904):i64.wrap (z1D .u64 (IntKind.u64.wrap (i64.wrap ((i:Int)+j))) 1)=(((i+j)/2:Nat):Int):=by
 have e1:IntKind.u64.wrap (i64.wrap ((i:Int)+j))=(((i+j:Nat)):Int):=by
  rw[z2z (by omega) (by omega),Xr];omega
 have e2:z1D .u64 (((i+j:Nat)):Int) 1=(((i+j)/2:Nat):Int):=by
  unfold z1D
  have:min ((1:Int).toNat) IntKind.u64.bits=1:=by decide
  rw[this,XC _ (by decide)]
  omega
 rw[e1,e2,z2z (by omega) (by omega)]
theorem at0(A:List α)(x:α)(B:List α)(h:i=A.length):atI (A++x::B) (i:Int)=some x:=by
 subst h
 rw[z0Q (by simp)];simp
theorem at1(A:List α)(x y:α)(B:List α)(h:i=A.length+1):atI (A++x::y::B) (i:Int)=some y:=by
 have:A++x::y::B=(A++ [x])++y::B:=by simp
 rw[this]
 exact at0 _ _ _ (by simpa using h)
theorem zAc(A:List α)(x z:α)(B:List α)(h:i=A.length):(A++x::B).set i z=A++z::B:=by
 subst h;simp
theorem put1(A:List α)(x y z:α)(B:List α)(h:i=A.length+1):(A++x::y::B).set i z=A++x::z::B:=by
 have:A++x::y::B=(A++ [x])++y::B:=by simp
 rw[this,zAc _ _ _ _ (by simpa using h)];simp
abbrev kvC(K:SrtC)(x:Int):Int:=K.key x
abbrev okS(K:SrtC)(x:Int):Prop:=K.ok x
abbrev zke(K:SrtC)(l:List Int):Prop:=∀x∈l,okS K x
abbrev zbT(K:SrtC)(l:List Int):Prop:=l.Pairwise fun x y=>kvC K x<=kvC K y
abbrev Bef(U V:List Int):Prop:=∀x∈U,∀y∈V,x<y
theorem zEK{y:Int}(hx:okS K x)(hy:okS K y)(h:y<x):∃c,K.cmp x y=some c/\(c<0↔kvC K x<kvC K y):=K.law x y hx hy h
theorem zbD{t:Nat}(h:t<V.length):V.getD t 0∈V:=by grind
theorem zAM{S:List Int}(hv:zke K (S++ [x]))(hs:zbT K S)(hb:∀y∈S,y<x)(hl:P.length+S.length<2^40)(hw:w=P.length+S.length):
 ∃S',z0h (zjF (P.length:Int) K (w:Int)) LFm ((w:Int),P++S++x::R)=some (.inl (((w+1:Nat):Int),P++S'++R))/\zbT K S'/\S'.Perm (S++ [x]):=by
 refine Exists.elim (z1r (b:=zjF (P.length:Int) K (w:Int)) (fun z=>∃S1 S2,S1++S2=S/\z=(((P.length+S1.length:Nat):Int),P++S1++x::(S2++R))/\ ∀y∈S2,kvC K x<kvC K y) (fun z=>z.1.toNat)
  (fun r=>∃S',r= .inl (((w+1:Nat):Int),P++S'++R)/\zbT K S'/\S'.Perm (S++ [x])) ?_ LFm ((w:Int),P++S++x::R) ⟨S,[],by simp,by rw[hw];simp,by simp⟩ (by simp only[LFm];omega)) fun r h=>by grind
 rintro z ⟨S1,S2,rfl,rfl,h2⟩
 have hlen:S1.length+S2.length<2^40:=by grind
 have fin:(∀y∈S1,kvC K y<=kvC K x)->zbT K (S1++x::S2)/\(S1++x::S2).Perm (S1++S2++ [x]):=fun hle=>by
  refine⟨?_,?_⟩
  · rw[zbT,YD] at hs⊢
    refine⟨hs.1,ZC.2 ⟨fun y hy=>by have:=h2 y hy;omega,hs.2.1⟩,fun a ha b hb=> ?_⟩
    rcases Zv.1 hb with rfl|hb
    · exact hle a ha
    · exact hs.2.2 a ha b hb
  · grind
 simp only[zjF]
 rcases List.eq_nil_or_concat S1 with rfl|⟨S0,y,rfl⟩
 · right
   rw[if_neg (by simp)]
   obtain⟨f1,f2⟩:=fin (fun y hy=>by simp at hy)
   refine⟨_,rfl,x::S2,?_,by simpa using f1,by simpa using f2⟩
   have:i64.wrap ((w:Int)+1)=((w+1:Nat):Int):=by rw[z2z (by omega) (by omega)];omega
   rw[this];simp
 · simp only[List.concat_eq_append] at*
   have hy:okS K y:=hv y (by simp)
   have hx:okS K x:=hv x (by simp)
   have e1:P++(S0++ [y])++x::(S2++R)=(P++S0)++y::x::(S2++R):=by simp
   have hn:(P.length+(S0++ [y]).length:Nat)=(P++S0).length+1:=by simp;omega
   have hj:i64.wrap ((((P++S0).length+1:Nat):Int)-1)=(((P++S0).length:Nat):Int):=by
    rw[z2z (by simp at hlen⊢;omega) (by simp at hlen⊢;simp at hl;omega)];omega
   rw[e1,hn,if_pos (by simp;omega),at1 _ _ _ _ rfl,Z0,hj,at0 _ _ _ rfl,Z0]
   obtain⟨c,hc,hc2⟩:=zEK hx hy (hb y (by simp))
   rw[hc,Z0]
   by_cases hlt:c<0
   · left
     rw[if_pos hlt,Z2,put1 _ _ _ _ _ rfl,at0 _ _ _ rfl,Z0,Z2,zAc _ _ _ _ rfl]
     refine⟨_,rfl,⟨S0,y::S2,by simp,?_,fun z hz=> ?_⟩,by simp only;omega⟩
     · simp
     · grind
   · right
     rw[if_neg hlt]
     have hyx:kvC K y<=kvC K x:=by grind
     obtain⟨f1,f2⟩:=fin (fun z hz=>by
      rcases Ze.1 hz with hz|hz
      · grind
      · obtain rfl:=Zi.1 hz;exact hyx)
     refine⟨_,rfl,S0++ [y]++x::S2,?_,f1,f2⟩
     have:i64.wrap ((w:Int)+1)=((w+1:Nat):Int):=by rw[z2z (by omega) (by omega)];omega
     rw[this];simp
theorem zp0{X:List Int}(hv:zke K X)(hX:X.Pairwise (·< ·))(hl:P.length+X.length<2^40){a b:Nat}(ha:a=P.length)(hb:b=P.length+X.length):
 ∃S,zEF (P++X++R) (a:Int) (b:Int) K=some (P++S++R)/\zbT K S/\S.Perm X:=by
 subst ha hb
 unfold zEF
 rw[z0H (by omega)]
 cases X with
 |nil=>
  refine⟨[],?_,by simp,.refl _⟩
  rw[show LFm=(LFm-1)+1 from rfl,z0h]
  simp only[zjG]
  rw[if_neg (by simp;omega)]
  rfl
 |cons x X=>
  refine Exists.elim (z1r (b:=zjG (P.length:Int) ((P.length+(x::X).length:Nat):Int) K) (fun z=>∃S U T,S≠ []/\z=(((P.length+S.length:Nat):Int),P++S++(U++R))/\zbT K S/\T++U=x::X/\S.Perm T) (fun z=>P.length+(x::X).length+1-z.1.toNat)
   (fun r=>∃S,r=P++S++R/\zbT K S/\S.Perm (x::X)) ?_ LFm ((P.length+1:Nat),P++x::X++R) ⟨[x],X,[x],by simp,by simp,by simp,rfl,.refl _⟩ (by simp only[LFm];omega)) fun r h=>by grind
  rintro z ⟨S,U,T,h0,rfl,h1,hT,hST⟩
  have h2:(S++U).Perm (x::X):=by grind
  have hlen:=h2.length_eq
  rw[Z7] at hlen
  simp only[zjG]
  cases U with
  |nil=>
   right
   rw[if_neg (by simp at hlen⊢;omega)]
   exact⟨_,rfl,S,by simp,h1,by simpa using h2⟩
  |cons u U=>
   left
   rw[if_pos (by simp at hlen⊢;omega)]
   have hvS:zke K (S++ [u]):=fun y hy=>hv y (h2.mem_iff.1 (by
    rcases Ze.1 hy with hy|hy
    · exact Ze.2 (.inl hy)
    · obtain rfl:=Zi.1 hy;simp))
   have hbu:∀y∈S,y<u:=fun y hy=>by
    have hp:(T++u::U).Pairwise (·< ·):=by rw[hT];exact hX
    exact(YD.1 hp).2.2 y (hST.mem_iff.1 hy) u (Zz ..)
   obtain⟨S',e,s1,s2⟩:=zAM (P:=P) (S:=S) (R:=U++R) (x:=u) hvS h1 hbu (by simp at hlen hl⊢;omega) rfl
   have e':P++S++(u::U++R)=P++S++u::(U++R):=rfl
   rw[e',e]
   have hS':=s2.length_eq
   simp at hS'
   refine⟨_,rfl,⟨S',U,T++ [u],fun h=>by rw[h] at hS';simp at hS',?_,s1,by rw[Zu];exact hT,s2.trans (hST.append_right [u])⟩,?_⟩
   · simp only[hS']
     congr 1
   · grind
theorem zwC(hl:P.length+V.length<2^40)(hw:w=P.length+V.length+1):
 z0h (zjC (w:Int)) LFm ((P.length:Int),P++x::(V++R))=some (P++V++x::R):=by
 refine z0q (s:=((P.length:Int),P++x::(V++R))) V.length (fun k=>(((P.length+k:Nat):Int),(P++V.take k)++x::(V.drop k++R))) (by simp) (by simp only[LFm];omega) (fun k hk=> ?_) ?_
 · have hlk:P.length+k=(P++V.take k).length:=by rw[Z7,Zp];omega
   simp only[zjC]
   rw[z2z (x:=(w:Int)-1) (by omega) (by omega),if_pos (by omega)]
   have hj:i64.wrap (((P.length+k:Nat):Int)+1)=((P.length+k+1:Nat):Int):=by rw[z2z (by omega) (by omega)];omega
   rw[hj,Yl hk,ZO,hlk,at1 _ _ _ _ rfl,Z0,at0 _ _ _ rfl,Z0,Z2,zAc _ _ _ _ rfl,at1 _ _ _ _ rfl,Z0,Z2,put1 _ _ _ _ _ rfl]
   rw[ZB hk]
   have e2:P.length+(k+1)=(P++V.take k).length+1:=by omega
   rw[e2]
   simp only[Zu,ZO,Yb]
 · simp only[zjC]
   rw[z2z (x:=(w:Int)-1) (by omega) (by omega),if_neg (by omega)]
   simp
theorem zry(hl:P.length+V.length<2^40):
 z0h (zjE (P.length:Int)) LFm (((P.length+V.length:Nat):Int),P++V++x::R)=some (P++x::(V++R)):=by
 refine z0q (s:=(((P.length+V.length:Nat):Int),P++V++x::R)) V.length (fun k=>(((P.length+(V.length-k):Nat):Int),(P++V.take (V.length-k))++x::(V.drop (V.length-k)++R))) (by simp) (by simp only[LFm];omega) (fun k hk=> ?_) ?_
 · obtain⟨j,hj⟩:∃j,V.length-k=j+1:=⟨V.length-k-1,by omega⟩
   have hjl:j<V.length:=by omega
   have e3:V.length-(k+1)=j:=by omega
   have hlk:P.length+j=(P++V.take j).length:=by grind
   rw[hj,e3]
   simp only[zjE]
   rw[if_pos (by omega)]
   have hw:i64.wrap (((P.length+(j+1):Nat):Int)-1)=((P.length+j:Nat):Int):=by rw[z2z (by omega) (by omega)];omega
   have e1:(P++V.take (j+1))++x::(V.drop (j+1)++R)=(P++V.take j)++V[j]::x::(V.drop (j+1)++R):=by
    rw[ZB hjl];simp only[Zu,ZO,Yb]
   have e2:P.length+(j+1)=(P++V.take j).length+1:=by omega
   rw[hw,e1,hlk,e2,at0 _ _ _ rfl,Z0,at1 _ _ _ _ rfl,Z0,Z2,put1 _ _ _ _ _ rfl,at0 _ _ _ rfl,Z0,Z2,zAc _ _ _ _ rfl,Yl hjl]
   rfl
 · grind
end
section
open Go Go.IntKind
theorem zed{P X M Y R:List Int}(K:SrtC)(hxy:X.length=Y.length)(hl:P.length+X.length+M.length+Y.length<2^40){a b n:Nat}(ha:a=P.length)(hb:b=P.length+X.length+M.length)(hn:n=X.length):
 zD0 (P++(X++(M++(Y++R)))) (a:Int) (b:Int) (n:Int) K=some (P++(Y++(M++(X++R)))):=by
 subst ha hb hn
 unfold zD0
 refine z0q (s:=((0:Int),P++(X++(M++(Y++R))))) X.length (fun k=>((k:Int),P++(Y.take k++(X.drop k++(M++(X.take k++(Y.drop k++R))))))) (by simp) (by simp only[LFm];omega) (fun k hk=> ?_) ?_
 · have hk':k<Y.length:=by omega
   simp only[zvf]
   have e1:i64.wrap ((((P.length+X.length+M.length:Nat)):Int)+(k:Int))=((P.length+X.length+M.length+k:Nat):Int):=by rw[z2z (by omega) (by omega)];omega
   have e2:i64.wrap ((P.length:Int)+(k:Int))=((P.length+k:Nat):Int):=by rw[z2z (by omega) (by omega)];omega
   rw[if_pos (by omega),e1,e2,z0H (by omega),Yl hk,Yl hk']
   have f1:P++(Y.take k++(X[k]::X.drop (k+1)++(M++(X.take k++(Y[k]::Y.drop (k+1)++R)))))=(P++Y.take k)++X[k]::(X.drop (k+1)++(M++(X.take k++Y[k]::(Y.drop (k+1)++R)))):=by grind
   have l1:P.length+k=(P++Y.take k).length:=by grind
   have g:∀z:Int,(P++Y.take k)++z::(X.drop (k+1)++(M++(X.take k++Y[k]::(Y.drop (k+1)++R))))=((P++Y.take k)++z::(X.drop (k+1)++(M++X.take k)))++Y[k]::(Y.drop (k+1)++R):=fun z=>by grind
   have l2:∀z:Int,P.length+X.length+M.length+k=((P++Y.take k)++z::(X.drop (k+1)++(M++X.take k))).length:=fun z=>by grind
   rw[f1,l1]
   conv=>lhs;rw[show(P++List.take k Y++X[k]::(List.drop (k+1) X++(M++(List.take k X++Y[k]::(List.drop (k+1) Y++R)))))=_ from g X[k]]
   rw[at0 _ _ _ (l2 X[k]),Z0,←g,at0 _ _ _ rfl,Z0,Z2,zAc _ _ _ _ rfl,g,at0 _ _ _ (l2 Y[k]),Z0,Z2,zAc _ _ _ _ (l2 Y[k])]
   rw[ZB hk,ZB hk']
   simp only[Zu,ZO,Yb]
 · grind
theorem rotate{P U V R:List Int}(K:SrtC)(hU:U≠ [])(hV:V≠ [])(hl:P.length+U.length+V.length<2^40){a m b:Nat}(ha:a=P.length)(hm:m=P.length+U.length)(hb:b=P.length+U.length+V.length):
 zEE (P++(U++(V++R))) (a:Int) (m:Int) (b:Int) K=some (P++(V++(U++R))):=by
 subst ha hm hb
 unfold zEE
 have e1:i64.wrap (((P.length+U.length:Nat):Int)-(P.length:Int))=(U.length:Int):=by rw[z2z (by omega) (by omega)];omega
 have e2:i64.wrap (((P.length+U.length+V.length:Nat):Int)-((P.length+U.length:Nat):Int))=(V.length:Int):=by rw[z2z (by omega) (by omega)];omega
 rw[e1,e2]
 refine zbF (s:=((U.length:Int),(V.length:Int),P++(U++(V++R)))) (fun z=>∃(A X Y B:List Int),X≠ []/\Y≠ []/\A.length+X.length=P.length+U.length/\A.length+X.length+Y.length<=P.length+U.length+V.length/\z=((X.length:Int),(Y.length:Int),A++(X++(Y++B)))/\A++(Y++(X++B))=P++(V++(U++R))) (fun z=>z.1.toNat+z.2.1.toNat) ⟨P,U,V,R,hU,hV,rfl,by omega,rfl,rfl⟩ (by simp only[LFm];omega) ?_
 rintro z ⟨A,X,Y,B,hX,hY,hm,hb,rfl,hfin⟩
 have x0:=ZM.2 hX
 have y0:=ZM.2 hY
 have hmi:i64.wrap (((P.length+U.length:Nat):Int)-(X.length:Int))=(A.length:Int):=by rw[z2z (by omega) (by omega)];omega
 simp only[zvg]
 by_cases h1:(X.length:Int)=(Y.length:Int)
 · right
   rw[if_pos h1,hmi]
   have:=zed (P:=A) (X:=X) (M:= []) (Y:=Y) (R:=B) K (by omega) (by simp;omega) rfl (b:=P.length+U.length) (by simp;omega) rfl
   rw[Yb,Yb] at this
   rw[this,Z0,hfin]
 · left
   rw[if_neg h1]
   by_cases h2:(Y.length:Int)<(X.length:Int)
   · rw[if_pos h2,hmi]
     have hx1:(X.take Y.length).length=Y.length:=by rw[Zp];omega
     have:=zed (P:=A) (X:=X.take Y.length) (M:=X.drop Y.length) (Y:=Y) (R:=B) K hx1 (by simp only[Zp,Yi];omega) rfl (b:=P.length+U.length) (by simp only[Zp,Yi];omega) (n:=Y.length) hx1.symm
     have e:A++(X.take Y.length++(X.drop Y.length++(Y++B)))=A++(X++(Y++B)):=by
      rw[←Zu (X.take Y.length),ZQ]
     rw[e] at this
     rw[this,Z0]
     have hw:i64.wrap ((X.length:Int)-(Y.length:Int))=((X.drop Y.length).length:Int):=by rw[z2z (by omega) (by omega),Yi];omega
     refine⟨_,rfl,⟨A++Y,X.drop Y.length,X.take Y.length,B,?_,?_,?_,?_,?_,?_⟩,?_⟩
     · grind
     · grind
     · grind
     · grind
     · grind
     · rw[←hfin,Zu,←Zu (X.take Y.length),ZQ]
     · grind
   · rw[if_neg h2,hmi]
     have hlt:X.length<Y.length:=by omega
     have hb1:i64.wrap (i64.wrap (((P.length+U.length:Nat):Int)+(Y.length:Int))-(X.length:Int))=((P.length+U.length+Y.length-X.length:Nat):Int):=by
      rw[z2z (x:=((P.length+U.length:Nat):Int)+(Y.length:Int)) (by omega) (by omega),z2z (by omega) (by omega)];omega
     have hy1:(Y.drop (Y.length-X.length)).length=X.length:=by rw[Yi];omega
     have:=zed (P:=A) (X:=X) (M:=Y.take (Y.length-X.length)) (Y:=Y.drop (Y.length-X.length)) (R:=B) K hy1.symm (by simp only[Zp,Yi];omega) rfl (b:=P.length+U.length+Y.length-X.length) (by simp only[Zp];omega) rfl
     have e:A++(X++(Y.take (Y.length-X.length)++(Y.drop (Y.length-X.length)++B)))=A++(X++(Y++B)):=by
      rw[←Zu (Y.take (Y.length-X.length)),ZQ]
     rw[e] at this
     rw[hb1,this,Z0]
     have hw:i64.wrap ((Y.length:Int)-(X.length:Int))=((Y.take (Y.length-X.length)).length:Int):=by rw[z2z (by omega) (by omega),Zp];omega
     refine⟨_,rfl,⟨A,Y.drop (Y.length-X.length),Y.take (Y.length-X.length),X++B,?_,?_,?_,?_,?_,?_⟩,?_⟩
     · grind
     · grind
     · rw[hy1];exact hm
     · rw[hy1,Zp];omega
     · rw[hw,hy1]
     · rw[←hfin,←Zu (Y.take (Y.length-X.length)),ZQ]
     · grind
theorem zv8{ρ:Type}{b:Int×Int->Option ((Int×Int)⊕ρ)}{p:Nat->Bool}{lo hi:Nat}{Post:ρ->Prop}(hlh:lo<=hi)(h40:hi<2^40)(hmono:∀i j,lo<=i->i<j->j<hi->p j=true->p i=true)
 (step:∀i j:Nat,lo<=i->i<j->j<=hi->b ((i:Int),(j:Int))=if p ((i+j)/2)=true then z0c ((((i+j)/2+1:Nat):Int),(j:Int)) else z0c ((i:Int),(((i+j)/2:Nat):Int)))
 (last:∀s,lo<=s->s<=hi->(∀k,lo<=k->k<s->p k=true)->(∀k,s<=k->k<hi->p k=false)->∃r,b ((s:Int),(s:Int))=some (.inr r)/\Post r):
 ∃r,z0h b LFm ((lo:Int),(hi:Int))=some r/\Post r:=by
 refine z1r (fun z=>∃i j:Nat,lo<=i/\i<=j/\j<=hi/\z=((i:Int),(j:Int))/\(∀k,lo<=k->k<i->p k=true)/\(∀k,j<=k->k<hi->p k=false)) (fun z=>(z.2-z.1).toNat) Post ?_ LFm _ ⟨lo,hi,by omega,hlh,by omega,rfl,fun k h1 h2=>by omega,fun k h1 h2=>by omega⟩ (by simp only[LFm];omega)
 rintro z ⟨i,j,h1,h2,h3,rfl,h4,h5⟩
 by_cases hij:i<j
 · left
   rw[step i j h1 hij h3]
   by_cases hp:p ((i+j)/2)=true
   · rw[if_pos hp]
     refine⟨_,rfl,⟨(i+j)/2+1,j,by omega,by omega,h3,rfl,fun k k1 k2=> ?_,h5⟩,by simp only;omega⟩
     by_cases e:k=(i+j)/2
     · rw[e];exact hp
     · grind
   · rw[if_neg hp]
     refine⟨_,rfl,⟨i,(i+j)/2,h1,by omega,by omega,rfl,h4,fun k k1 k2=> ?_⟩,by simp only;omega⟩
     by_cases e:k=(i+j)/2
     · rw[e];simpa using hp
     · grind
 · right
   obtain rfl:i=j:=by omega
   exact last i h1 h3 h4 h5
end
section
open Go Go.IntKind
variable{x:Int}{P R V V1 V2:List Int}{rf:List Int->Int->Int->Int->SrtC->Option (List Int)}{N a b k m t:Nat}{K:SrtC}
theorem atM{A B:List Int}{i:Nat}(h:t<V.length)(hi:i=A.length+t):atI (A++(V++B)) (i:Int)=some (V.getD t 0):=by
 subst hi
 rw[z0Q (by simp;omega)]
 congr 1
 rw[List.getElem_append_right (by omega)]
 have:A.length+t-A.length=t:=by omega
 simp only[this]
 rw[List.getElem_append_left h,List.getD,Z1 h,Z4]
theorem zED(hv:zke K V)(h:t<V.length):okS K (V.getD t 0):=by grind
theorem z8s(hs:zbT K V){i j:Nat}(hij:i<=j)(hj:j<V.length):kvC K (V.getD i 0)<=kvC K (V.getD j 0):=by
 rw[List.getD,List.getD,Z1 hj,Z1 (show i<V.length by omega),Z4,Z4]
 by_cases e:i=j
 · subst e;omega
 · exact ZG.1 hs i j (by omega) hj (by omega)
theorem z7h(h:x∈V.take k):∃i,i<k/\i<V.length/\x=V.getD i 0:=by
 obtain⟨i,hi,rfl⟩:=Zn h
 have hi':i<k/\i<V.length:=by rw[Zp] at hi;omega
 refine⟨i,hi'.1,hi'.2,?_⟩
 rw[XE,List.getD,Z1 hi'.2,Z4]
theorem z7i(h:x∈V.drop k):∃i,k<=i/\i<V.length/\x=V.getD i 0:=by
 obtain⟨i,hi,rfl⟩:=Zn h
 have hi':k+i<V.length:=by rw[Yi] at hi;omega
 refine⟨k+i,by omega,hi',?_⟩
 rw[List.getElem_drop,List.getD,Z1 hi',Z4]
theorem zsI(hs:zbT K (V1++V2))(h1:∀y∈V1,kvC K y<=kvC K x)(h2:∀y∈V2,kvC K x<=kvC K y):zbT K (V1++x::V2):=by
 rw[zbT,YD] at hs⊢
 refine⟨hs.1,ZC.2 ⟨h2,hs.2.1⟩,fun a ha b hb=> ?_⟩
 rcases Zv.1 hb with rfl|hb
 · exact h1 a ha
 · exact hs.2.2 a ha b hb
def tl3(rf:List Int->Int->Int->Int->SrtC->Option (List Int))(K:SrtC)(M E b:Int)(v:List Int):Option (List Int):=
 if M<E then(if E<b then(rf v M E b K).bind fun r=>some r else some v) else some v
def tl2(rf:List Int->Int->Int->Int->SrtC->Option (List Int))(K:SrtC)(a s M E b:Int)(v:List Int):Option (List Int):=
 if a<s then(if s<M then(rf v a s M K).bind fun r=>tl3 rf K M E b r else tl3 rf K M E b v) else tl3 rf K M E b v
def tl1(rf:List Int->Int->Int->Int->SrtC->Option (List Int))(K:SrtC)(a m s M E b:Int)(v:List Int):Option (List Int):=
 if s<m then(if m<E then(zEE v s m E K).bind fun r=>tl2 rf K a s M E b r else tl2 rf K a s M E b v) else tl2 rf K a s M E b v
def zk9(rf:List Int->Int->Int->Int->SrtC->Option (List Int))(K:SrtC)(N:Nat):Prop:=
 ∀ {P U V R:List Int} {a m b:Nat},U≠ []->V≠ []->zke K (U++V)->zbT K U->zbT K V->Bef U V->P.length+U.length+V.length<2^40->U.length+V.length<=N->a=P.length->m=P.length+U.length->b=P.length+U.length+V.length->
   ∃W,rf (P++(U++(V++R))) (a:Int) (m:Int) (b:Int) K=some (P++(W++R))/\zbT K W/\W.Perm (U++V)
theorem zlE(hrf:zk9 rf K N){U:List Int}(hv:zke K (U++V))(hsU:zbT K U)(hsV:zbT K V)(hBf:Bef U V)(hl:P.length+U.length+V.length<2^40)(hN:U.length+V.length<=N)(ha:a=P.length)(hm:m=P.length+U.length)(hb:b=P.length+U.length+V.length)
 (f:List Int->Option (List Int)):
 ∃W,(if(a:Int)<(m:Int) then(if(m:Int)<(b:Int) then(rf (P++(U++(V++R))) (a:Int) (m:Int) (b:Int) K).bind f else f (P++(U++(V++R)))) else f (P++(U++(V++R))))=f (P++(W++R))/\zbT K W/\W.Perm (U++V):=by
 by_cases h1:U= []
 · grind
 · have h1':=ZM.2 h1
   rw[if_pos (by omega)]
   by_cases h2:V= []
   · grind
   · have h2':=ZM.2 h2
     rw[if_pos (by omega)]
     obtain⟨W,e,w1,w2⟩:=hrf h1 h2 hv hsU hsV hBf hl hN ha hm hb (R:=R)
     exact⟨W,by rw[e,Z0],w1,w2⟩
theorem zBU(hrf:zk9 rf K N){U1 U2:List Int}{s M E:Nat}(hv:zke K (U1++U2++(V1++V2)))(hsU:zbT K (U1++U2))(hsV:zbT K (V1++V2))(hBf:Bef (U1++U2) (V1++V2))(hl:P.length+U1.length+U2.length+V1.length+V2.length<2^40)
 (h1:U1.length+V1.length<=N) (h2:U2.length+V2.length<=N) (ha:a=P.length) (hs:s=a+U1.length) (hm:m=s+U2.length) (hE:E=m+V1.length) (hb:b=E+V2.length) (hM:M=s+V1.length)
 (c1:∀x∈U1,∀y∈V2,kvC K x<=kvC K y) (c2:∀x∈V1,∀y∈U2,kvC K x<=kvC K y):
 ∃W,tl1 rf K (a:Int) (m:Int) (s:Int) (M:Int) (E:Int) (b:Int) (P++(U1++U2++(V1++V2++R)))=some (P++(W++R))/\zbT K W/\W.Perm (U1++U2++(V1++V2)):=by
 have e0:tl1 rf K (a:Int) (m:Int) (s:Int) (M:Int) (E:Int) (b:Int) (P++(U1++U2++(V1++V2++R)))=tl2 rf K (a:Int) (s:Int) (M:Int) (E:Int) (b:Int) (P++(U1++(V1++(U2++(V2++R))))):=by
  unfold tl1
  by_cases hu:U2= []
  · grind
  · have hu':=ZM.2 hu
    rw[if_pos (by omega)]
    by_cases hw:V1= []
    · grind
    · have hw':=ZM.2 hw
      rw[if_pos (by omega)]
      have:=rotate (P:=P++U1) (U:=U2) (V:=V1) (R:=V2++R) K hu hw (by simp;omega) (a:=s) (m:=m) (b:=E) (by simp;omega) (by simp;omega) (by simp;omega)
      have e:P++U1++(U2++(V1++(V2++R)))=P++(U1++U2++(V1++V2++R)):=by simp only[Zu]
      rw[e] at this
      rw[this,Z0]
      simp only[Zu]
 rw[e0]
 have q1:=YD.1 hsU
 have q2:=YD.1 hsV
 have m1:∀x∈U1++V1,x∈U1++U2++(V1++V2):=fun x hx=>by grind
 have m2:∀x∈U2++V2,x∈U1++U2++(V1++V2):=fun x hx=>by grind
 obtain⟨L,e1,l1,l2⟩:=zlE (R:=U2++(V2++R)) hrf (P:=P) (U:=U1) (V:=V1) (fun x hx=>hv x (m1 x hx)) q1.1 q2.1 (fun x hx y hy=>hBf x (Ze.2 (.inl hx)) y (Ze.2 (.inl hy))) (by omega) h1 ha (m:=s) (by omega) (b:=M) (by omega) (tl3 rf K (M:Int) (E:Int) (b:Int))
 have hL:=l2.length_eq
 rw[Z7] at hL
 unfold tl2
 rw[e1]
 obtain⟨Rw,e2,r1,r2⟩:=zlE (R:=R) hrf (P:=P++L) (U:=U2) (V:=V2) (fun x hx=>hv x (m2 x hx)) q1.2.1 q2.2.1 (fun x hx y hy=>hBf x (Ze.2 (.inr hx)) y (Ze.2 (.inr hy))) (by rw[Z7];omega) h2 (a:=M) (by rw[Z7];omega) (m:=E) (by rw[Z7];omega) (b:=b) (by rw[Z7];omega) (fun r=>some r)
 unfold tl3
 have e:P++(L++(U2++(V2++R)))=P++L++(U2++(V2++R)):=by simp only[Zu]
 rw[e,e2]
 refine⟨L++Rw,by simp only[Zu],?_,?_⟩
 · grind
 · grind
theorem zld(hrf:zk9 rf K N){U:List Int}(hv:zke K (U++V))(hsU:zbT K U)(hsV:zbT K V)(hBf:Bef U V)(hl:P.length+U.length+V.length<2^40){M lo hi:Nat}(ha:a=P.length)(hm:m=P.length+U.length)(hb:b=P.length+U.length+V.length)
 (hU2:2<=U.length) (hV2:2<=V.length) (hN:U.length+V.length<=N+1) (hM:M=(a+b)/2) (hlo:(lo=a/\m<=M)∨(lo=M+m-b/\M<m)) (hhi:(hi=m/\m<=M)∨(hi=M/\M<m)):
 ∃r,z0h (zbJ (P++(U++(V++R))) (a:Int) (m:Int) (b:Int) K rf) LFm ((lo:Int),(hi:Int))=some r/\ ∃W,r=P++(W++R)/\zbT K W/\W.Perm (U++V):=by
 have hvU:zke K U:=fun x hx=>hv x (Ze.2 (.inl hx))
 have hvV:zke K V:=fun x hx=>hv x (Ze.2 (.inr hx))
 have cM:i64.wrap (z1D .u64 (IntKind.u64.wrap (i64.wrap ((a:Int)+b))) 1)=(M:Int):=by rw[zCI _ _ (by omega),hM]
 have cN:i64.wrap ((M:Int)+(m:Int))=((M+m:Nat):Int):=by rw[z2z (by omega) (by omega)];omega
 have cP:i64.wrap (((M+m:Nat):Int)-1)=((M+m-1:Nat):Int):=by rw[z2z (by omega) (by omega)];omega
 refine zv8 (p:=fun c=>decide (kvC K (U.getD (c-a) 0)<=kvC K (V.getD (M+m-1-c-m) 0))) (by omega) (by omega) (fun i j h1 h2 h3 hp=> ?_) (fun i j h1 h2 h3=> ?_) (fun s h1 h2 h3 h4=> ?_)
 · simp only[decide_eq_true_eq] at hp⊢
   have k1:=z8s hsU (i:=i-a) (j:=j-a) (by omega) (by omega)
   have k2:=z8s hsV (i:=M+m-1-j-m) (j:=M+m-1-i-m) (by omega) (by omega)
   omega
 · simp only[zbJ]
   rw[if_pos (by omega),z0e _ (by omega),cM,zCI i j (by omega),cN,cP]
   have hc:(i+j)/2<hi/\lo<=(i+j)/2:=by omega
   have w1:i64.wrap (((M+m-1:Nat):Int)-(((i+j)/2:Nat):Int))=((M+m-1-(i+j)/2:Nat):Int):=by rw[z2z (by omega) (by omega)];omega
   have e1:P++(U++(V++R))=(P++U)++(V++R):=by simp only[Zu]
   have g1:atI (P++(U++(V++R))) ((M+m-1-(i+j)/2:Nat):Int)=some (V.getD (M+m-1-(i+j)/2-m) 0):=by
    rw[e1];exact atM (by omega) (by rw[Z7];omega)
   have g2:atI (P++(U++(V++R))) (((i+j)/2:Nat):Int)=some (U.getD ((i+j)/2-a) 0):=atM (by omega) (by omega)
   rw[w1,g1,Z0,g2,Z0]
   obtain⟨c,hc1,hc2⟩:=zEK (zED hvV (t:=M+m-1-(i+j)/2-m) (by omega)) (zED hvU (t:=(i+j)/2-a) (by omega)) (hBf _ (zbD (by omega)) _ (zbD (by omega)))
   rw[hc1,Z0]
   simp only[decide_eq_true_eq]
   by_cases h:c<0
   · grind
   · have:=(not_congr hc2).1 h
     rw[if_neg h,if_pos (by omega),z0H (by omega)]
 · have wE:i64.wrap (((M+m:Nat):Int)-(s:Int))=((M+m-s:Nat):Int):=by rw[z2z (by omega) (by omega)];omega
   have hx:(zbJ (P++(U++(V++R))) (a:Int) (m:Int) (b:Int) K rf) ((s:Int),(s:Int))=z0d (tl1 rf K (a:Int) (m:Int) (s:Int) (M:Int) ((M+m-s:Nat):Int) (b:Int) (P++(U++(V++R)))):=by
    simp only[zbJ]
    rw[if_neg (by omega),cM,cN,wE]
    rfl
   have hsa:a<=s/\s<=m/\s<=M:=by omega
   have tU:U.take (s-a)++U.drop (s-a)=U:=ZQ ..
   have tV:V.take (M-s)++V.drop (M-s)=V:=ZQ ..
   have lU1:(U.take (s-a)).length=s-a:=by rw[Zp];omega
   have lU2:(U.drop (s-a)).length=m-s:=by rw[Yi];omega
   have lV1:(V.take (M-s)).length=M-s:=by rw[Zp];omega
   have lV2:(V.drop (M-s)).length=b-(M+m-s):=by rw[Yi];omega
   have c1:∀x∈U.take (s-a),∀y∈V.drop (M-s),kvC K x<=kvC K y:=fun x hx y hy=>by
    obtain⟨i,i1,i2,rfl⟩:=z7h hx
    obtain⟨j,j1,j2,rfl⟩:=z7i hy
    have hs1:lo<=s-1/\s-1<s:=by omega
    have:=h3 (s-1) hs1.1 hs1.2
    simp only[decide_eq_true_eq] at this
    have k1:=z8s hsU (i:=i) (j:=s-1-a) (by omega) (by omega)
    have k2:=z8s hsV (i:=M+m-1-(s-1)-m) (j:=j) (by omega) (by omega)
    omega
   have c2:∀x∈V.take (M-s),∀y∈U.drop (s-a),kvC K x<=kvC K y:=fun x hx y hy=>by
    obtain⟨i,i1,i2,rfl⟩:=z7h hx
    obtain⟨j,j1,j2,rfl⟩:=z7i hy
    have hs1:s<=s/\s<hi:=by omega
    have:=h4 s hs1.1 hs1.2
    simp only[decide_eq_false_iff_not] at this
    have k1:=z8s hsU (i:=s-a) (j:=j) (by omega) (by omega)
    have k2:=z8s hsV (i:=i) (j:=M+m-1-s-m) (by omega) (by omega)
    omega
   obtain⟨W,e,w1,w2⟩:=zBU (P:=P) (U1:=U.take (s-a)) (U2:=U.drop (s-a)) (V1:=V.take (M-s)) (V2:=V.drop (M-s)) (R:=R) hrf (a:=a) (m:=m) (b:=b) (s:=s) (M:=M) (E:=M+m-s) (by rw[tU,tV];exact hv) (by rw[tU];exact hsU) (by rw[tV];exact hsV) (by rw[tU,tV];exact hBf) (by omega) (by omega) (by omega) ha (by omega) (by omega) (by omega) (by omega) (by omega) c1 c2
   rw[tU,tV] at e w2
   rw[hx,e]
   exact⟨_,rfl,W,rfl,w1,w2⟩
theorem zgh{K:SrtC}:∀(k:Nat) {P U V R:List Int} {a m b:Nat},U≠ []->V≠ []->zke K (U++V)->zbT K U->zbT K V->Bef U V->P.length+U.length+V.length<2^40->U.length+V.length<=k->a=P.length->m=P.length+U.length->b=P.length+U.length+V.length->
 ∃W,zxP k (P++(U++(V++R))) (a:Int) (m:Int) (b:Int) K=some (P++(W++R))/\zbT K W/\W.Perm (U++V)
 |0,P,U,V,R,a,m,b,hU,_,_,_,_,_,_,hk,_,_,_=>by
  have:=ZM.2 hU
  omega
 |k+1,P,U,V,R,a,m,b,hU,hV,hv,hsU,hsV,hBf,hl,hk,ha,hm,hb=>by
  have u0:=ZM.2 hU
  have v0:=ZM.2 hV
  have hvU:zke K U:=fun x hx=>hv x (Ze.2 (.inl hx))
  have hvV:zke K V:=fun x hx=>hv x (Ze.2 (.inr hx))
  have cU:i64.wrap ((m:Int)-(a:Int))=(U.length:Int):=by rw[z2z (by omega) (by omega)];omega
  have cV:i64.wrap ((b:Int)-(m:Int))=(V.length:Int):=by rw[z2z (by omega) (by omega)];omega
  show ∃W,zve (zxP k) (P++(U++(V++R))) (a:Int) (m:Int) (b:Int) K=_/\_
  unfold zve
  rw[cU,cV]
  by_cases h1:U.length=1
  · obtain⟨x,rfl⟩:=XM.1 h1
    rw[if_pos (by simp)]
    have hx:okS K x:=hvU x (by simp)
    have:=zv8 (b:=zjD (P++([x]++(V++R))) (a:Int) K) (p:=fun h=>decide (kvC K (V.getD (h-m) 0)<kvC K x)) (lo:=m) (hi:=b) (Post:=fun r=>∃W,r=P++(W++R)/\zbT K W/\W.Perm ([x]++V)) (by omega) (by omega) (fun i j q1 q2 q3 hp=> ?_) (fun i j q1 q2 q3=> ?_) (fun s q1 q2 q3 q4=> ?_)
    · obtain⟨r,e,W,rfl,w1,w2⟩:=this
      exact⟨W,e,w1,w2⟩
    · simp only[decide_eq_true_eq] at hp⊢
      have k1:=z8s hsV (i:=i-m) (j:=j-m) (by omega) (by omega)
      omega
    · simp only[zjD]
      rw[if_pos (by omega),z0e _ (by omega),zCI _ _ (by omega)]
      have e1:P++([x]++(V++R))=(P++ [x])++(V++R):=by simp only[Zu]
      have g1:atI (P++([x]++(V++R))) (((i+j)/2:Nat):Int)=some (V.getD ((i+j)/2-m) 0):=by
       rw[e1];exact atM (by omega) (by rw[Z7];simp at hm⊢;omega)
      rw[g1,Z0,show P++([x]++(V++R))=P++x::(V++R) from rfl,at0 _ _ _ ha,Z0]
      obtain⟨c,hc1,hc2⟩:=zEK (zED hvV (t:=(i+j)/2-m) (by omega)) hx (hBf _ (by simp) _ (zbD (by omega)))
      rw[hc1,Z0]
      simp only[decide_eq_true_eq]
      by_cases h:c<0
      · rw[if_pos h,if_pos (hc2.1 h),z0H (by omega)]
      · grind
    · simp only[zjD]
      rw[if_neg (by omega)]
      have lV1:(V.take (s-m)).length=s-m:=by rw[Zp];omega
      simp only[ZE] at*
      have:=zwC (P:=P) (V:=V.take (s-m)) (R:=V.drop (s-m)++R) (x:=x) (by omega) (w:=s) (by omega)
      rw[←Zu (V.take (s-m)),ZQ] at this
      rw[show P++([x]++(V++R))=P++x::(V++R) from rfl,ha,this]
      refine⟨_,rfl,V.take (s-m)++x::V.drop (s-m),by simp only[Zu,ZO],?_,?_⟩
      · refine zsI (by rw[ZQ];exact hsV) (fun y hy=> ?_) (fun y hy=> ?_)
        · obtain⟨i,i1,i2,rfl⟩:=z7h hy
          have:=q3 (m+i) (by omega) (by omega)
          simp only[decide_eq_true_eq,Y4] at this
          omega
        · obtain⟨i,i1,i2,rfl⟩:=z7i hy
          have:=q4 (m+i) (by omega) (by omega)
          simp only[decide_eq_false_iff_not,Y4] at this
          omega
      · refine List.perm_middle.trans ?_
        rw[ZQ]
        exact .refl _
  · rw[if_neg (by omega)]
    by_cases h2:V.length=1
    · obtain⟨x,rfl⟩:=XM.1 h2
      rw[if_pos (by simp)]
      have hx:okS K x:=hvV x (by simp)
      have:=zv8 (b:=zft (P++(U++([x]++R))) (m:Int) K) (p:=fun h=>decide (kvC K (U.getD (h-a) 0)<=kvC K x)) (lo:=a) (hi:=m) (Post:=fun r=>∃W,r=P++(W++R)/\zbT K W/\W.Perm (U++ [x])) (by omega) (by omega) (fun i j q1 q2 q3 hp=> ?_) (fun i j q1 q2 q3=> ?_) (fun s q1 q2 q3 q4=> ?_)
      · obtain⟨r,e,W,rfl,w1,w2⟩:=this
        exact⟨W,e,w1,w2⟩
      · simp only[decide_eq_true_eq] at hp⊢
        have k1:=z8s hsU (i:=i-a) (j:=j-a) (by omega) (by omega)
        omega
      · simp only[zft]
        have e1:P++(U++([x]++R))=(P++U)++x::R:=by grind
        have g1:atI (P++(U++([x]++R))) (((i+j)/2:Nat):Int)=some (U.getD ((i+j)/2-a) 0):=atM (by omega) (by omega)
        have g2:atI (P++(U++([x]++R))) (m:Int)=some x:=by rw[e1];exact at0 _ _ _ (by rw[Z7];omega)
        rw[if_pos (by omega),z0e _ (by omega),zCI _ _ (by omega),g2,Z0,g1,Z0]
        obtain⟨c,hc1,hc2⟩:=zEK hx (zED hvU (t:=(i+j)/2-a) (by omega)) (hBf _ (zbD (by omega)) _ (by simp))
        rw[hc1,Z0]
        simp only[decide_eq_true_eq]
        by_cases h:c<0
        · grind
        · have:=(not_congr hc2).1 h
          rw[if_neg h,if_pos (by omega),z0H (by omega)]
      · simp only[zft]
        rw[if_neg (by omega)]
        have lU1:(U.take (s-a)).length=s-a:=by rw[Zp];omega
        have lU2:(U.drop (s-a)).length=m-s:=by rw[Yi];omega
        simp only[ZE] at*
        have:=zry (P:=P++U.take (s-a)) (V:=U.drop (s-a)) (R:=R) (x:=x) (by rw[Z7];omega)
        have e2:(P++U.take (s-a)).length=s:=by rw[Z7];omega
        have e3:(P++U.take (s-a)).length+(U.drop (s-a)).length=m:=by rw[e2,lU2];omega
        have e4:P++U.take (s-a)++U.drop (s-a)++x::R=P++(U++([x]++R)):=by
         rw[Zu P,ZQ];simp only[Zu,ZO,Yb]
        rw[e3,e4,e2] at this
        rw[this]
        refine⟨_,rfl,U.take (s-a)++x::U.drop (s-a),by simp only[Zu,ZO],?_,?_⟩
        · refine zsI (by rw[ZQ];exact hsU) (fun y hy=> ?_) (fun y hy=> ?_)
          · obtain⟨i,i1,i2,rfl⟩:=z7h hy
            have:=q3 (a+i) (by omega) (by omega)
            simp only[decide_eq_true_eq,Y4] at this
            omega
          · obtain⟨i,i1,i2,rfl⟩:=z7i hy
            have:=q4 (a+i) (by omega) (by omega)
            simp only[decide_eq_false_iff_not,Y4] at this
            omega
        · refine List.perm_middle.trans ?_
          rw[ZQ]
          exact(List.perm_append_singleton x U).symm
    · rw[if_neg (by omega)]
      have hrf:zk9 (zxP k) K k:=fun {P' U' V' R' a' m' b'} g1 g2 g3 g4 g5 g6 g7 g8 g9 g10 g11=>zgh k g1 g2 g3 g4 g5 g6 g7 g8 g9 g10 g11
      have cM:i64.wrap (z1D .u64 (IntKind.u64.wrap (i64.wrap ((a:Int)+b))) 1)=(((a+b)/2:Nat):Int):=zCI _ _ (by omega)
      have cN:i64.wrap ((((a+b)/2:Nat):Int)+(m:Int))=(((a+b)/2+m:Nat):Int):=by rw[z2z (by omega) (by omega)];omega
      rw[z0e _ (by omega),cM,cN]
      by_cases hMm:(a+b)/2<m
      · have cB:i64.wrap ((((a+b)/2+m:Nat):Int)-(b:Int))=(((a+b)/2+m-b:Nat):Int):=by rw[z2z (by omega) (by omega)];omega
        rw[if_pos (by omega),cB]
        obtain⟨r,e,W,rfl,w1,w2⟩:=zld (R:=R) hrf hv hsU hsV hBf hl (M:=(a+b)/2) (lo:=(a+b)/2+m-b) (hi:=(a+b)/2) ha hm hb (by omega) (by omega) (by omega) rfl (.inr ⟨rfl,hMm⟩) (.inr ⟨rfl,hMm⟩)
        exact⟨W,e,w1,w2⟩
      · rw[if_neg (by omega)]
        obtain⟨r,e,W,rfl,w1,w2⟩:=zld (R:=R) hrf hv hsU hsV hBf hl (M:=(a+b)/2) (lo:=a) (hi:=m) ha hm hb (by omega) (by omega) (by omega) rfl (.inl ⟨rfl,by omega⟩) (.inl ⟨rfl,by omega⟩)
        exact⟨W,e,w1,w2⟩
end
section
open Go Go.IntKind
variable{l l0:List Int}{B i:Nat}{K:SrtC}
def zkd(K:SrtC)(B:Nat)(l:List Int):Prop:=(∀i j,i<j->j<l.length->i/B=j/B->kvC K (l.getD i 0)<=kvC K (l.getD j 0))/\ ∀i j,j<l.length->i/B<j/B->l.getD i 0<l.getD j 0
theorem zC5(h:∀i j,i<j->j<l.length->kvC K (l.getD i 0)<=kvC K (l.getD j 0)):zbT K l:=by
 refine ZG.2 fun i j hi hj hij=> ?_
 have:=h i j hij hj
 rwa [List.getD,List.getD,Z1 hj,Z1 hi,Z4,Z4] at this
theorem zh9{A X:List Int}(h:i<A.length):(A++X).getD i 0=A.getD i 0:=by grind
theorem zh8{A X:List Int}:(A++X).getD (A.length+i) 0=X.getD i 0:=by grind
theorem zjY{A X:List Int}{q:Nat}(hB:0<B)(hA:A.length=q*B)(h:zkd K B (A++X)):zkd K B X:=by
 have e:∀i,(A.length+i)/B=i/B+q:=fun i=>by rw[hA,Nat.add_comm,Nat.add_mul_div_right _ _ hB]
 refine⟨fun i j hij hj hb=> ?_,fun i j hj hb=> ?_⟩
 · have:=h.1 (A.length+i) (A.length+j) (by omega) (by rw[Z7];omega) (by rw[e,e,hb])
   rwa [zh8,zh8] at this
 · have:=h.2 (A.length+i) (A.length+j) (by rw[Z7];omega) (by rw[e,e];omega)
   rwa [zh8,zh8] at this
theorem zeF{U X:List Int}(hU:U.length<=B)(h:zkd K B (U++X)):zbT K U:=zC5 fun i j hij hj=>by
 have:=h.1 i j hij (by rw[Z7];omega) (by rw[Xq (by omega),Xq (by omega)])
 rwa [zh9 (by omega),zh9 hj] at this
theorem zjZ{X:List Int}(hB:0<B)(h:zkd K B X):Bef (X.take B) (X.drop B):=fun x hx y hy=>by
 obtain⟨i,i1,i2,rfl⟩:=z7h hx
 obtain⟨j,j1,j2,rfl⟩:=z7i hy
 have:=Nat.div_pos j1 hB
 exact h.2 i j j2 (by rw[Xq i1];exact this)
theorem zdE{D W:List Int}{q:Nat}(hB:0<B)(hD:D.length=q*B)(h:zkd K B D)(hW:zbT K W)(hl:W.length<=B)(hBf:Bef D W):zkd K B (D++W):=by
 have e:∀i,(D.length+i)/B=i/B+q:=fun i=>by rw[hD,Nat.add_comm,Nat.add_mul_div_right _ _ hB]
 refine⟨fun i j hij hj hb=> ?_,fun i j hj hb=> ?_⟩
 · by_cases h1:j<D.length
   · rw[zh9 (by omega),zh9 h1]
     exact h.1 i j hij h1 hb
   · have h2:D.length<=i:=by
      rcases Yy i D.length with h2|h2
      · exfalso
        have a1:i/B<q:=by rw[Nat.div_lt_iff_lt_mul hB,←hD];exact h2
        have a2:q<=j/B:=by rw[Nat.le_div_iff_mul_le hB,←hD];omega
        omega
      · exact h2
     obtain⟨i',rfl⟩:=Xg h2
     obtain⟨j',rfl⟩:=Xg (show D.length<=j by omega)
     rw[zh8,zh8]
     exact z8s hW (by omega) (by rw[Z7] at hj;omega)
 · have hij:i<j:=Nat.lt_of_not_le fun hji=>by have:=Nat.div_le_div_right (c:=B) hji;omega
   rw[Z7] at hj
   by_cases h1:j<D.length
   · rw[zh9 (by omega),zh9 h1]
     exact h.2 i j h1 hb
   · obtain⟨j',rfl⟩:=Xg (show D.length<=j by omega)
     by_cases h2:i<D.length
     · rw[zh9 h2,zh8]
       exact hBf _ (zbD h2) _ (zbD (by omega))
     · obtain⟨i',rfl⟩:=Xg (show D.length<=i by omega)
       rw[e,e,Xq (by omega),Xq (by omega)] at hb
       omega
theorem zw0(K:SrtC)(B:Nat):zkd K B []:=⟨fun i j _ hj=>by simp at hj,fun i j hj=>by simp at hj⟩
theorem zyl(hv:zke K l0)(ha:l0.Pairwise (·< ·))(hn:l0.length<2^38)(Post:List Int->Prop)(k:∀D,zkd K 20 D->D.Perm l0->∃r,z0h (zet ((l0.length:Nat):Int) K) LFm (20,D)=some r/\Post r):
 ∃r,z0h (zeu ((l0.length:Nat):Int) K) LFm (0,20,l0)=some r/\Post r:=by
 refine z1r (fun z=>∃(D X:List Int) (q:Nat),D.length=q*20/\z=((D.length:Int),((D.length+20:Nat):Int),D++X)/\zkd K 20 D/\Bef D X/\X.Pairwise (·< ·)/\(D++X).Perm l0) (fun z=>l0.length+1-z.1.toNat) Post ?_ LFm _ ⟨[],l0,0,rfl,rfl,zw0 K 20,(fun x hx=>by simp at hx),ha,.refl _⟩ (by simp only[LFm];omega)
 rintro z ⟨D,X,q,hq,rfl,hD,hBf,hXp,hp⟩
 have hlen:=hp.length_eq
 rw[Z7] at hlen
 have hvX:zke K X:=fun x hx=>hv x (hp.mem_iff.1 (Ze.2 (.inr hx)))
 simp only[zeu]
 by_cases h:D.length+20<=l0.length
 · left
   rw[if_pos (by omega)]
   have t1:X.take 20++X.drop 20=X:=ZQ ..
   have t2:(X.take 20).length=20:=by rw[Zp];omega
   obtain⟨S,e,s1,s2⟩:=zp0 (P:=D) (X:=X.take 20) (R:=X.drop 20) (fun x hx=>hvX x (ZK hx)) (hXp.sublist (List.take_sublist ..)) (by omega) (a:=D.length) (b:=D.length+20) rfl (by omega)
   have hS:=s2.length_eq
   rw[t2] at hS
   rw[Zu,t1] at e
   rw[e,Z0,z2z (by omega) (by omega)]
   refine⟨_,rfl,⟨D++S,X.drop 20,q+1,by rw[Z7];omega,?_,zdE (by omega) hq hD s1 (by omega) (fun x hx y hy=>hBf x hx y (ZK (s2.mem_iff.1 hy))),?_,hXp.sublist (List.drop_sublist ..),?_⟩,by simp only;omega⟩
   · grind
   · grind
   · grind
 · right
   rw[if_neg (by omega)]
   obtain⟨S,e,s1,s2⟩:=zp0 (P:=D) (X:=X) (R:= []) hvX hXp (by omega) (a:=D.length) (b:=l0.length) rfl (by omega)
   rw[Yc,Yc] at e
   rw[e,Z0]
   have hSl:=s2.length_eq
   obtain⟨r,e2,hr⟩:=k (D++S) (zdE (by omega) hq hD s1 (by omega) (fun x hx y hy=>hBf x hx y (s2.mem_iff.1 hy))) ((s2.append_left D).trans hp)
   exact⟨r,by rw[e2];rfl,hr⟩
theorem zCK(hv:zke K l0)(hn:l0.length<=5000)(hB0:0<B)(hB:B<5000)(hb:zkd K B l)(hp:l.Perm l0):
 ∃S,z0h (zcA ((l0.length:Nat):Int) K (B:Int)) LFm (0,((2*B:Nat):Int),l)=some (.inl (((B*2:Nat):Int),S))/\zkd K (B*2) S/\S.Perm l0:=by
 refine Exists.elim (z1r (b:=zcA ((l0.length:Nat):Int) K (B:Int)) (fun z=>∃(D X:List Int) (q:Nat),D.length=q*(B*2)/\z=((D.length:Int),((D.length+2*B:Nat):Int),D++X)/\zkd K (B*2) D/\zkd K B X/\Bef D X/\(D++X).Perm l0) (fun z=>l0.length+1-z.1.toNat)
  (fun r=>∃S,r= .inl (((B*2:Nat):Int),S)/\zkd K (B*2) S/\S.Perm l0) ?_ LFm (0,((2*B:Nat):Int),l) ⟨[],l,0,by simp,by simp,zw0 K _,hb,(fun x hx=>by simp at hx),hp⟩ (by simp only[LFm];omega)) fun r h=>by grind
 rintro z ⟨D,X,q,hq,rfl,hD,hX,hBf,hp2⟩
 have hlen:=hp2.length_eq
 rw[Z7] at hlen
 have hvX:zke K X:=fun x hx=>hv x (hp2.mem_iff.1 (Ze.2 (.inr hx)))
 have wB:i64.wrap (2*(B:Int))=((2*B:Nat):Int):=by rw[z2z (by omega) (by omega)];omega
 have wB2:i64.wrap ((B:Int)*2)=((B*2:Nat):Int):=by grind
 have wa:i64.wrap ((D.length:Int)+(B:Int))=((D.length+B:Nat):Int):=by rw[z2z (by omega) (by omega)];omega
 simp only[zcA]
 rw[wa,wB,wB2]
 have t1:X.take B++X.drop B=X:=ZQ ..
 by_cases h:D.length+2*B<=l0.length
 · left
   rw[if_pos (by omega)]
   have t2:(X.take B).length=B:=by rw[Zp];omega
   have hX2:zkd K B (X.drop B):=zjY (A:=X.take B) (q:=1) hB0 (by omega) (by rw[t1];exact hX)
   have t3:(X.drop B).take B++(X.drop B).drop B=X.drop B:=ZQ ..
   have t4:((X.drop B).take B).length=B:=by grind
   obtain⟨W,e,w1,w2⟩:=zgh (K:=K) 5000 (P:=D) (U:=X.take B) (V:=(X.drop B).take B) (R:=(X.drop B).drop B) (a:=D.length) (m:=D.length+B) (b:=D.length+2*B) (fun h=>by rw[h] at t2;simp at t2;omega) (fun h=>by rw[h] at t4;simp at t4;omega)
    (fun x hx=>hvX x (by
      rcases Ze.1 hx with hx|hx
      · exact ZK hx
      · exact XU (ZK hx)))
    (zeF (B:=B) (X:=X.drop B) (by omega) (by rw[t1];exact hX)) (zeF (B:=B) (X:=(X.drop B).drop B) (by omega) (by rw[t3];exact hX2)) (fun x hx y hy=>zjZ hB0 hX x hx y (ZK hy)) (by omega) (by omega) rfl (by omega) (by omega)
   have hW:=w2.length_eq
   rw[Z7,t2,t4] at hW
   rw[t3,t1] at e
   have hX3:zkd K B ((X.drop B).drop B):=zjY (A:=(X.drop B).take B) (q:=1) hB0 (by omega) (by rw[t3];exact hX2)
   have hWX:∀y∈W,y∈X:=fun y hy=>by grind
   have ws:i64.wrap (((D.length+2*B:Nat):Int)+((2*B:Nat):Int))=((D.length+2*B+2*B:Nat):Int):=by rw[z2z (by omega) (by omega)];omega
   rw[e,Z0,ws]
   refine⟨_,rfl,⟨D++W,(X.drop B).drop B,q+1,?_,?_,zdE (by omega) hq hD w1 (by omega) (fun x hx y hy=>hBf x hx y (hWX y hy)),hX3,?_,?_⟩,by simp only;omega⟩
   · grind
   · grind
   · intro x hx y hy
     rcases Ze.1 hx with hx|hx
     · grind
     · rcases Ze.1 (w2.mem_iff.1 hx) with h|h
       · exact zjZ hB0 hX x h y (XU hy)
       · exact zjZ hB0 hX2 x h y hy
   · grind
 · right
   rw[if_neg (by omega)]
   by_cases h2:D.length+B<l0.length
   · have t2:(X.take B).length=B:=by rw[Zp];omega
     have hX2:zkd K B (X.drop B):=zjY (A:=X.take B) (q:=1) hB0 (by omega) (by rw[t1];exact hX)
     have t4:(X.drop B).length=l0.length-D.length-B:=by rw[Yi];omega
     obtain⟨W,e,w1,w2⟩:=zgh (K:=K) 5000 (P:=D) (U:=X.take B) (V:=X.drop B) (R:= []) (a:=D.length) (m:=D.length+B) (b:=l0.length) (fun h=>by rw[h] at t2;simp at t2;omega) (fun h=>by rw[h] at t4;simp at t4;omega)
      (fun x hx=>hvX x (by rw[t1] at hx;exact hx))
      (zeF (B:=B) (X:=X.drop B) (by omega) (by rw[t1];exact hX)) (zeF (B:=B) (X:= []) (by omega) (by rw[Yc];exact hX2)) (zjZ hB0 hX) (by omega) (by omega) rfl (by omega) (by omega)
     rw[Yc,Yc,t1] at e
     rw[if_pos (by omega),e,Z0]
     have hWl:=w2.length_eq
     rw[t1] at hWl
     refine⟨_,rfl,D++W,rfl,zdE (by omega) hq hD w1 (by omega) (fun x hx y hy=>hBf x hx y (by have:=w2.mem_iff.1 hy;rwa [t1] at this)),?_⟩
     have:=w2.append_left D
     rw[t1] at this
     exact this.trans hp2
   · rw[if_neg (by omega)]
     refine⟨_,rfl,D++X,rfl,?_,hp2⟩
     exact zdE (by omega) hq hD (zeF (B:=B) (X:= []) (by omega) (by rw[Yc];exact hX)) (by omega) hBf
theorem zmP(hv:zke K l)(ha:l.Pairwise (·< ·))(hn:l.length<=5000):∃S,zD1 l K=some S/\zbT K S/\S.Perm l:=by
 unfold zD1 zG6
 obtain⟨r,e,h⟩:=zyl (Post:=fun r=>zbT K r/\r.Perm l) hv ha (by omega) fun D hD hp=>by
  refine z1r (fun z=>∃(B:Nat) (S:List Int),0<B/\B<10000/\z=((B:Int),S)/\zkd K B S/\S.Perm l) (fun z=>10000-z.1.toNat) _ ?_ LFm _ ⟨20,D,by omega,by omega,rfl,hD,hp⟩ (by simp only[LFm];omega)
  rintro z ⟨B,S,hB0,hB1,rfl,hS,hp2⟩
  have hlen:=hp2.length_eq
  simp only[zet]
  by_cases h:B<l.length
  · left
    have wB:i64.wrap (2*(B:Int))=((2*B:Nat):Int):=by rw[z2z (by omega) (by omega)];omega
    obtain⟨S',e,s1,s2⟩:=zCK hv hn hB0 (by omega) hS hp2
    rw[if_pos (by omega),wB,e]
    exact⟨_,rfl,⟨B*2,S',by omega,by omega,rfl,s1,s2⟩,by simp only;omega⟩
  · right
    rw[if_neg (by omega)]
    exact⟨_,rfl,zeF (B:=B) (X:= []) (by omega) (by rw[Yc];exact hS),hp2⟩
 exact⟨r,by rw[e];rfl,h⟩
end
section
structure Run{ρ:Type}(x:Option ρ)(K:ρ->Prop):Prop where
 out:∃v,x=some v/\K v
structure RK{σ ρ:Type}(o:σ⊕ρ)(K:ρ->Prop)(o':σ⊕ρ):Prop where
 eq:o'=o
 k:∀r,o'= .inr r->K r
class Ok{ρ:Type}(x:Option ρ)(S:outParam (ρ->Prop)):Prop where
 ok:∀r,x=some r->S r
section
variable {G:Prop} {ρ:Type} {K:ρ->Prop}
theorem zCp{b n:Nat}{x:Option ρ}(k:n*b<=140737488355328->n<=4611686018427387904->Run x K->G)(h:Run (chk (z1n b n) x) K):G:=by
 obtain⟨v,e,hk⟩:=h
 obtain⟨⟨a,c⟩,e⟩:=z9w e
 exact k a c ⟨v,e,hk⟩
theorem zCo{n:Nat}{x:Option ρ}(k:n<=140737488355328->n<=4611686018427387904->Run x K->G)(h:Run (chk (z1n 1 n) x) K):G:=zCp (fun a b=>k (by omega) b) h
theorem zG3{b l:Int}{x:Option ρ}(k:0<=l->l<=140737488355328->b*l<=140737488355328->max l 0=l->Run x K->G)(h:Run (chk (z0D b l) x) K):G:=by
 obtain⟨v,e,hk⟩:=h
 obtain⟨⟨a,c,d⟩,e⟩:=z9w e
 exact k a c d (by omega) ⟨v,e,hk⟩
theorem zFd{l:Int}{x:Option ρ}(k:0<=l->l<=140737488355328->max l 0=l->Run x K->G)(h:Run (chk (z0D 1 l) x) K):G:=zG3 (fun a b _ d=>k a b d) h
theorem zFb{i:Int}{n:Nat}{x:Option ρ}(k:0<=i->i<(n:Int)->i.toNat<n->i.toNat+1<=n->Run x K->G)(h:Run (chk (0<=i/\i<(n:Int)) x) K):G:=by
 obtain⟨v,e,hk⟩:=h
 obtain⟨⟨a,c⟩,e⟩:=z9w e
 exact k a c (by omega) (by omega) ⟨v,e,hk⟩
theorem zCk{i n:Int}{x:Option ρ}(k:0<=i->i<n->i.toNat<n.toNat->i.toNat+1<=n.toNat->Run x K->G)(h:Run (chk (0<=i/\i<n) x) K):G:=by
 obtain⟨v,e,hk⟩:=h
 obtain⟨⟨a,c⟩,e⟩:=z9w e
 exact k a c (by omega) (by omega) ⟨v,e,hk⟩
theorem zFj{p:Prop}[Decidable p]{x:Option ρ}(k:p->Run x K->G)(h:Run (chk p x) K):G:=by
 obtain⟨v,e,hk⟩:=h
 obtain⟨a,e⟩:=z9w e
 exact k a ⟨v,e,hk⟩
theorem zFc{α:Type}{xs:List α}{i:Nat}{f:α->Option ρ}(k:∀v,i<xs.length->i+1<=xs.length->xs[i]? =some v->(∀hh:i<xs.length,xs[i]'hh=v)->Run (f v) K->G)(h:Run ((atI xs (i:Int)).bind f) K):G:=by
 obtain⟨r,e,hk⟩:=h
 obtain⟨v,⟨a,b,c,d⟩,e⟩:=zyq e
 exact k v a b c d ⟨r,e,hk⟩
theorem zHo{α:Type}{xs:List α}{i:Int}{f:α->Option ρ}(k:∀v,0<=i->i<xs.length->i.toNat+1<=xs.length->xs[i.toNat]? =some v->(∀hh:i.toNat<xs.length,xs[i.toNat]'hh=v)->Run (f v) K->G)(h:Run ((atI xs i).bind f) K):G:=by
 obtain⟨r,e,hk⟩:=h
 obtain⟨v,⟨a,b,c,d,d2⟩,e⟩:=za4 e
 exact k v a b c d d2 ⟨r,e,hk⟩
theorem zCr{s:ByteArray}{i:Int}{f:Int->Option ρ}(k:∀v,0<=i->i<s.size->(∃b,s[i.toNat]? =some b/\v=(b.toNat:Int))->(∀hh:i.toNat<s.size,((s[i.toNat]'hh).toNat:Int)=v)->Run (f v) K->G)(h:Run ((zht s i).bind f) K):G:=by
 obtain⟨r,e,hk⟩:=h
 obtain⟨v,e1,e2⟩:=z2u e
 obtain⟨a,b,c,d1,d2,d3⟩:=zrI e1
 exact k v a b ⟨c,d1,d2⟩ d3 ⟨r,e2,hk⟩
theorem zAj{α:Type}{xs:List α}{i:Int}{v:α}{f:α->Option ρ}(hv:xs[i.toNat]? =some v)(hi:0<=i)(k:Run (f v) K->G)(h:Run ((atI xs i).bind f) K):G:=by
 obtain⟨r,e,hk⟩:=h
 unfold atI at e
 rw[if_pos hi,hv] at e
 exact k ⟨r,e,hk⟩
theorem zCm{α:Type}{xs:List α}{i:Nat}{v:α}{f:α->Option ρ}(hv:xs[i]? =some v)(k:Run (f v) K->G)(h:Run ((atI xs (i:Int)).bind f) K):G:=zAj (i:=(i:Int)) hv (Int.natCast_nonneg i) k h
theorem zHp{α:Type}{xs:List α}{v:α}{f:α->Option ρ}(hv:xs[0]? =some v)(k:Run (f v) K->G)(h:Run ((atI xs 0).bind f) K):G:=zAj (i:=0) hv (Int.le_refl 0) k h
theorem zAh{α:Type}{e:Option α}{v:α}{f:α->Option ρ}(hv:e=some v)(k:Run (f v) K->G)(h:Run (e.bind f) K):G:=by subst hv;exact k h
theorem zCq{α:Type}{e:Option α}{S:α->Prop}[Ok e S]{f:α->Option ρ}(k:∀v,e=some v->S v->Run (f v) K->G)(h:Run (e.bind f) K):G:=by
 obtain⟨r,e1,hk⟩:=h
 obtain⟨v,e2,e3⟩:=z2u e1
 exact k v e2 (Ok.ok v e2) ⟨r,e3,hk⟩
theorem zHn{p:Prop}[Decidable p]{x y:Option ρ}(k:(p=True)->Run x K->G)(k2:(p=False)->Run y K->G)(h:Run (if p then x else y) K):G:=by
 by_cases c:p
 · rw[if_pos c] at h;exact k (eq_true c) h
 · rw[if_neg c] at h;exact k2 (eq_false c) h
theorem p_0{α:Type}{xs:List α}{f:α->Option ρ}(k:∀v,0<xs.length->xs≠ []->xs[0]? =some v->(∀hh:0<xs.length,xs[0]'hh=v)->Run (f v) K->G)(h:Run ((atI xs 0).bind f) K):G:=by
 obtain⟨r,e,hk⟩:=h
 obtain⟨v,⟨b,c,d,d2⟩,e⟩:=zyq (i:=0) e
 exact k v b (ZM.1 b) d d2 ⟨r,e,hk⟩
theorem zFe{α:Type}{xs:List α}{i:Nat}{f:α->Option ρ}(k:∀v,(OfNat.ofNat i:Nat)<xs.length->xs≠ []->xs[(OfNat.ofNat i:Nat)]? =some v->(∀hh:(OfNat.ofNat i:Nat)<xs.length,xs[(OfNat.ofNat i:Nat)]'hh=v)->Run (f v) K->G)(h:Run ((atI xs (OfNat.ofNat i:Int)).bind f) K):G:=by
 obtain⟨r,e,hk⟩:=h
 obtain⟨v,⟨b,c,d,d2⟩,e⟩:=zyq (i:=i) e
 exact k v b (ZM.1 (YY (Y7 _) b)) d d2 ⟨r,e,hk⟩
class IsS(α:Type):Prop
theorem zFl{α:Type}[IsS α]{xs:List α}{i:Int}{f:α->Option ρ}(k:∀v,0<=i->i<xs.length->i.toNat+1<=xs.length->xs[i.toNat]? =some v->(∀m,i.toNat*m+m<=xs.length*m)->(∀(g:α->List T) (m:Nat),(∀x,(g x).length=m)->((xs.flatMap g).drop (i.toNat*m)).take m=g v)->
 (∀(g:α->List T) (m j:Nat),(∀x,(g x).length=m)->j<m->(xs.flatMap g)[i.toNat*m+j]? =(g v)[j]?)->(∀(g:α->List T) (m:Nat),(∀x,(g x).length=m)->0<m->(xs.flatMap g)[i.toNat*m]? =(g v)[0]?)->Run (f v) K->G) (h:Run ((atI xs i).bind f) K):G:=by
 obtain⟨r,e,hk⟩:=h
 obtain⟨v,⟨a,b,c,d,d2⟩,e⟩:=za4 e
 refine k v a b c d (fun m=> ?_) (fun g m hg=>(zhd hg d).2.1) (fun g m j hg hj=>(zhd hg d).2.2.1 j hj) (fun g m hg hj=>(zhd hg d).2.2.1 0 hj) ⟨r,e,hk⟩
 calc i.toNat*m+m=(i.toNat+1)*m:=by rw[Yo,Nat.one_mul]
  _<=_:=Yk _ c
theorem ziN{α:Type}{xs:List α}{v:α}(h:xs[0]? =some v)(g:α->List T):∃r,xs.flatMap g=g v++r:=by
 cases xs with
 |nil=>cases h
 |cons a l=>
  simp at h;subst h
  exact⟨l.flatMap g,Y5 ..⟩
theorem zCs{α:Type}[IsS α]{xs:List α}{f:α->Option ρ}(k:∀v,0<xs.length->xs≠ []->xs[0]? =some v->(∀(g:α->List T) (j:Nat),j<(g v).length->(xs.flatMap g)[j]? =(g v)[j]?)->(∀(g:α->List T) (m:Nat),m=(g v).length->(xs.flatMap g).take m=g v)->Run (f v) K->G)(h:Run ((atI xs 0).bind f) K):G:=by
 obtain⟨r,e,hk⟩:=h
 obtain⟨v,⟨b,c,d,d2⟩,e⟩:=zyq (i:=0) e
 refine k v b (ZM.1 b) d (fun g j hj=> ?_) (fun g m hm=> ?_) ⟨r,e,hk⟩
 · obtain⟨q,hq⟩:=ziN d g
   rw[hq,ZH hj]
 · obtain⟨q,hq⟩:=ziN d g
   subst hm
   rw[hq,List.take_left]
theorem zFk{α:Type}{l:List α}{j:Nat}{a:α}{i:Int}{f:α->Option ρ}(k:∀v,0<=i->i<l.length->i.toNat+1<=l.length->(∀(g:α->T) hh,((l.map g).set j (g a))[i.toNat]'hh=g v)->(∀(g:α->T),((l.map g).set j (g a))[i.toNat]? =some (g v))->Run (f v) K->G)(h:Run ((atI (l.set j a) i).bind f) K):G:=by
 obtain⟨r,e,hk⟩:=h
 obtain⟨v,⟨x,b,c,d,d2⟩,e⟩:=za4 e
 rw[Xv] at b c
 have key:∀(g:α->T),((l.map g).set j (g a))[i.toNat]? =some (g v):=fun g=>by rw[←List.map_set,Zd,d];rfl
 exact k v x b c (fun g hh=>(Za.1 (key g)).2) key ⟨r,e,hk⟩
theorem zFm{α:Type}{l:List α}{a:α}{i:Int}{f:α->Option ρ}(k:∀v,0<=i->i<(l.length:Int)+1->i.toNat<=l.length->(∀(g:α->T) hh,(l.map g++ [g a])[i.toNat]'hh=g v)->(∀g:α->T,(l.map g++ [g a])[i.toNat]? =some (g v))->Run (f v) K->G)(h:Run ((atI (l++ [a]) i).bind f) K):G:=by
 obtain⟨r,e,hk⟩:=h
 obtain⟨v,⟨x,b,c,d,d2⟩,e⟩:=za4 e
 rw[Z7,ZE] at b c
 have key:∀(g:α->T),(l.map g++ [g a])[i.toNat]? =some (g v):=fun g=>by
  have:=congrArg (Option.map g) d
  rwa [←Zd,ZI] at this
 exact k v x (by omega) (by omega) (fun g hh=>(Za.1 (key g)).2) key ⟨r,e,hk⟩
theorem zxl{α:Type}{xs:List α}{l u:Int}{f:List α->Option ρ}(k:∀v:List α,0<=l->l<=u->u<=xs.length->0<=u->l<=(u.toNat:Int)->l<=max u 0->(∀g:α->T,((xs.map g).drop l.toNat).take (u.toNat-l.toNat)=v.map g)->(∀g:α->T,T.sl (u.toNat-l.toNat) (v.map g)=T.sl v.length (v.map g))->Run (f v) K->G)(h:Run ((z6B xs l u).bind f) K):G:=by
 obtain⟨r,e,hk⟩:=h
 obtain⟨v,e1,e2⟩:=z2u e
 obtain⟨a,b,c,-⟩:=z5Y e1
 obtain⟨d,g⟩:=zd9 a b
 exact k v a b c d g (by omega) (fun g=>zel e1) (fun g=>zek e1 g) ⟨r,e2,hk⟩
theorem zxm{α:Type}[IsS α]{xs:List α}{l u:Int}{f:List α->Option ρ}(k:∀v:List α,0<=l->l<=u->u<=xs.length->0<=u->l<=(u.toNat:Int)->l<=max u 0->(∀(g:α->List T) (m:Nat),(∀x,(g x).length=m)->((xs.flatMap g).drop (l.toNat*m)).take ((u.toNat-l.toNat)*m)=v.flatMap g)->(∀g:α->List T,T.sl (u.toNat-l.toNat) (v.flatMap g)=T.sl v.length (v.flatMap g))->Run (f v) K->G)(h:Run ((z6B xs l u).bind f) K):G:=by
 obtain⟨r,e,hk⟩:=h
 obtain⟨v,e1,e2⟩:=z2u e
 obtain⟨a,b,c,-⟩:=z5Y e1
 obtain⟨d,g⟩:=zd9 a b
 exact k v a b c d g (by omega) (fun g m hg=>zn5 hg e1) (fun g=>zqN e1 g) ⟨r,e2,hk⟩
theorem zxk{s:ByteArray}{l u:Int}{f:ByteArray->Option ρ}(k:∀v,0<=l->l<=u->u<=s.size->0<=u->l<=(u.toNat:Int)->l<=max u 0->s.extract l.toNat u.toNat=v->Run (f v) K->G)(h:Run ((zoB s l u).bind f) K):G:=by
 obtain⟨r,e,hk⟩:=h
 obtain⟨v,e1,e2⟩:=z2u e
 obtain⟨a,b,c,d⟩:=zn3 e1
 obtain⟨d1,g⟩:=zd9 a b
 exact k v a b c d1 g (by omega) d.symm ⟨r,e2,hk⟩
theorem zAi{α β:Type}{e:Option (α⊕β)}{S:α⊕β->Prop}[Ok e S]{f:α⊕β->Option ρ}(k:∀v,S (.inl v)->Run (f (.inl v)) K->G)(k2:∀v,S (.inr v)->Run (f (.inr v)) K->G)(h:Run (e.bind f) K):G:=by
 obtain⟨r,e1,hk⟩:=h
 obtain⟨v,e2,e3⟩:=z2u e1
 cases v with
 |inl v=>exact k v (Ok.ok _ e2) ⟨r,e3,hk⟩
 |inr v=>exact k2 v (Ok.ok _ e2) ⟨r,e3,hk⟩
theorem zFg{α:Type}{m:Option α}{x y:Option ρ}(k:m.isSome=true->Run x K->G)(k2:m=none->Run y K->G)(h:Run (if m.isSome=true then x else y) K):G:=by
 cases m with
 |some v=>exact k rfl (by simpa using h)
 |none=>exact k2 rfl (by simpa using h)
theorem zFh{b:Bool}{x y:Option ρ}(k:b=true->Run x K->G)(k2:b=false->Run y K->G)(h:Run (if b=true then x else y) K):G:=by
 cases b with
 |true=>exact k rfl (by simpa using h)
 |false=>exact k2 rfl (by simpa using h)
theorem zFi{α:Type}{xs:List α}{x y:Option ρ}(k:((xs.length:Int)=0)=True->xs= []->Run x K->G)(k2:((xs.length:Int)=0)=False->xs≠ []->Run y K->G)(h:Run (if(xs.length:Int)=0 then x else y) K):G:=by
 by_cases c:(xs.length:Int)=0
 · rw[if_pos c] at h;exact k (eq_true c) (Y3 (by omega)) h
 · rw[if_neg c] at h;exact k2 (eq_false c) (fun e=>c (by rw[e];rfl)) h
theorem zFf{α:Type}{xs:List α}{x y:Option ρ}(k:((0:Int)<(xs.length:Int))=True->xs≠ []->0<xs.length->Run x K->G)(k2:((0:Int)<(xs.length:Int))=False->xs= []->Run y K->G)(h:Run (if(0:Int)<(xs.length:Int) then x else y) K):G:=by
 by_cases c:(0:Int)<(xs.length:Int)
 · rw[if_pos c] at h;exact k (eq_true c) (fun e=>by subst e;simp at c) (by omega) h
 · rw[if_neg c] at h;exact k2 (eq_false c) (Y3 (by omega)) h
theorem zCn{κ ν:Type}[DecidableEq κ]{q:κ}{m:List (κ×ν)}{f:ν->Option ρ}{y:Option ρ}(k:∀v,z7r q m=some v->zro q m=some (q,v)->Run (f v) K->G)(k2:z7r q m=none->zro q m=none->Run y K->G)(h:Run ((z7r q m).elim y f) K):G:=by
 have e:=zh7 q m
 have hk:∀l:List (κ×ν),∀p,zro q l=some p->p.1=q:=by
  intro l
  induction l with
  |nil=>intro p hp;cases hp
  |cons a l ih=>
   intro p hp
   simp only[zro] at hp
   split at hp
   · rename_i ha;cases hp;exact ha
   · exact ih p hp
 cases hp:zro q m with
 |none=>
  rw[hp] at e
  rw[←e] at h
  exact k2 e.symm hp h
 |some p=>
  rw[hp] at e
  rw[←e] at h
  have h1:=hk m p hp
  exact k p.2 e.symm (by rw[hp,←h1]) h
theorem zCj{v:ρ}(k:K v->G)(h:Run (some v) K):G:=by
 obtain⟨r,e,hk⟩:=h
 cases e;exact k hk
theorem zCl(h:Run none K):G:=by
 obtain⟨r,e,hk⟩:=h
 cases e
theorem z3c{x:Option ρ}{r:ρ}(h:x=some r):Run x (·=r):=⟨r,h,rfl⟩
theorem zqL{α β:Type}{P:α×β->Prop}(h:∀a,∀b,P (a,b)):∀s:α×β,P s:=fun s=>h s.1 s.2
end
theorem zss{α β:Type}{P:α⊕β->Prop}(h1:∀a,P (.inl a))(h2:∀b,P (.inr b)):∀s:α⊕β,P s:=fun s=>by
 cases s with
 |inl a=>exact h1 a
 |inr b=>exact h2 b
theorem ztx{α:Type}{P:Option α->Prop}(h1:∀_:Unit,P none)(h2:∀a,P (some a)):∀s:Option α,P s:=fun s=>by
 cases s with
 |none=>exact h1 ()
 |some a=>exact h2 a
section
variable {P:Program} {C:z0g} {cf:Cfg} {LF:Nat} {c:Code} {fr:Fr} {Q:X->Fr->Prop} {σ ρ:Type} {K:ρ->Prop} {o:σ⊕ρ} {H:σ->Fr} {cn:Fr->Fr}
theorem zHm{s:σ}(h:Run (z0c s:Option (σ⊕ρ)) (RK o K))(e:cn fr=H s):zd3 H cn o Q .n fr:=by
 obtain⟨r,e1,e2⟩:=h
 have:=z5f e1
 exact z6j (e2.eq.symm.trans this) e
theorem zHk{i:Nat}{x:Option ρ}(k:Run x K->Q (.x i) fr)(h:Run (z0d x:Option (σ⊕ρ)) (RK o K)):zd3 H cn o Q (.x i) fr:=by
 obtain⟨r,e1,e2⟩:=h
 obtain⟨v,e3,rfl⟩:=z6f e1
 exact z7R (e2.eq.symm) (k ⟨v,e3,e2.k _ rfl⟩)
theorem zHl{x:Option ρ}(k:Run x K->Q .r fr)(h:Run (z0d x:Option (σ⊕ρ)) (RK o K)):zd3 H cn o Q .r fr:=by
 obtain⟨r,e1,e2⟩:=h
 obtain⟨v,e3,rfl⟩:=z6f e1
 exact zx8 (e2.eq.symm) (k ⟨v,e3,e2.k _ rfl⟩)
end
def zC7{α:Type}(k:Nat)(v:α):List (Nat×α)->List (Nat×α)
 | []=> []
 |(j,u)::r=>if j=k then(j,v)::r else(j,u)::zC7 k v r
def zBy{α:Type}:List (Nat×α)->List (Nat×α)->List (Nat×α)
 | [],l=>l
 |(k,v)::r,l=>zBy r (zC7 k v l)
def zzA(x:List (Nat×E)×List (Nat×T))(fr:Fr):Fr:= {fr with tm:=zBy x.1 fr.tm,ob:=zBy x.2 fr.ob}
class Hd{σ ρ:Type}(b:σ->Option (σ⊕ρ)) where
 H:σ->List (Nat×E)×List (Nat×T)
variable{fr1:Fr}{i k m:Nat}{g:Option (Option Nat×Bool)}{rest t:SchT}
section
variable {P:Program} {C:z0g} {cf:Cfg} {LF:Nat} {c:Code} {fr fr0:Fr} {Q:X->Fr->Prop} {σ ρ:Type} {K:ρ->Prop}
theorem zA9{lv:List Nat}{body:σ->Option (σ⊕ρ)}[hd:Hd body]{s0:σ}(hk:zdk c=5)(hv:cf.live (zc7 (lpC c))=some lv)(h:Run (z0h body LF s0) K)
 (hf:za2 (some lv) fr=fr0) (h0:fr0=zzA (Hd.H body s0) fr0) (round:∀s,∀o,Run (body s) (RK o K)->wpC P C cf LF (lpC c) (zzA (Hd.H body s) fr0) (zd3 (fun s=>zzA (Hd.H body s) fr0) (za2 (some lv)) o Q)):wpC P C cf LF c fr Q:=by
 obtain⟨r,e,hk2⟩:=h
 exact z9A e (fun s=>zzA (Hd.H body s) fr0) hk hv (hf.trans h0) fun s o h1 h2=>round s o ⟨o,h1,rfl,fun r' e'=>by rw[h2 r' e'];exact hk2⟩
end
@[simp] theorem zwJ{α:Type}(c:Nat):∀l:List α,(l.map fun _=>c).sum=l.length*c
  | []=>by simp
  |x::l=>by simp only[Zt,List.sum_cons,zwJ c l,Zq,Yo];omega
abbrev xI(x:Int):E:=.one (.t none (.sc (.int .i64 x)))
abbrev xS(x:ByteArray):E:=.one (.t none (.sc (.string x)))
theorem zHh{a b:Fr}(h:zbV a b):zbV a b:=h
section
variable {P:Program} {C:z0g} {cf:Cfg} {LF:Nat} {c:Code} {fr:Fr}
theorem zFX{Q:X->Fr->Prop}{id:Nat}(h:z9x id Q (.x i) fr):z9x id Q (.x i) fr:=h
theorem zER{Q:X->Fr->Prop}(h:wpC P C cf LF c fr Q):wpC P C cf LF c fr Q:=h
theorem zFG{wio:FuncId->Nat->Bool}{M:List Nat}{ops:Array Oper}{l:List (Nat×Nat)}{Q:Fr->Prop}(h:z9X P C wio M ops l fr Q):z9X P C wio M ops l fr Q:=h
theorem zEY{l:List Oper}{Q:Fr->Prop}(h:∃fr2,z7z P l fr=some fr2/\Q fr2):∃fr2,z7z P l fr=some fr2/\Q fr2:=h
theorem tpN{Q:Fr->Prop}(e:t= .nil)(h:Q fr):z7K P C cf c i t fr Q:=by subst e;exact zgb h
theorem tpA{a b:SchT}{Q:Fr->Prop}(e:t= .alt a b)(h:z7K P C cf c i a fr (fun x=>z7K P C cf c i b fr (fun y=>zbV x y)/\Q x)):z7K P C cf c i t fr Q:=by subst e;exact zgc h
theorem tpO{o:Oper}{Q:Fr->Prop}(e:t= .op k m rest)(ho:ziD c k=some o)(hg:o.guard=none)(hs:z0x P C cf.wio (cf.wr i).isEmpty (cf.wr i).contains fr o m=some fr1)(h:z7K P C cf c i rest fr1 Q):z7K P C cf c i t fr Q:=by subst e;exact ze8 ho hg hs h
theorem tpT{o:Oper}{Q:Fr->Prop}(e:t= .op k m rest)(ho:ziD c k=some o)(hg:zzf c o=some g)(hv:zv9 g fr=some true)(hs:z0x P C cf.wio (cf.wr i).isEmpty (cf.wr i).contains fr o m=some fr1)(h:z7K P C cf c i rest fr1 Q):z7K P C cf c i t fr Q:=by subst e;exact zEW ho hg hv hs h
theorem tpF{o:Oper}{Q:Fr->Prop}(e:t= .op k m rest)(ho:ziD c k=some o)(hg:zzf c o=some g)(hv:zv9 g fr=some false)(hs:nrmO? (putF fr o.dst (.one (.k undef)))=some fr1)(h:z7K P C cf c i rest fr1 Q):z7K P C cf c i t fr Q:=by subst e;exact zEX ho hg hv hs h
theorem zFI{Q:Fr->Prop}(h:z7K P C cf c i t fr Q):z7K P C cf c i t fr Q:=h
end
theorem zmy{G:Prop}(g:G:=by
 repeat' (first
  |with_reducible refine z0m ?_
  |with_reducible refine z8S ?_
  |with_reducible refine zj4 ?_
  |with_reducible refine z5V ?_
  |((with_reducible refine zFX ?_);first|refine z4u rfl ?_|refine zhv rfl ?_)
  |with_reducible refine zpD ?_
  |(revert h;with_reducible refine zHk fun h=> ?_)
  |(revert h;with_reducible refine zHl fun h=> ?_)
  |((with_reducible refine zHm h ?_);simp[*,zzA,zBy,zC7,Hd.H];done)
  |(revert h;first
   |with_reducible refine zCl
   |with_reducible refine zCo fun _ _ h=> ?_
   |with_reducible refine zCp fun _ _ h=> ?_
   |with_reducible refine zFd fun _ _ _ h=> ?_
   |with_reducible refine zG3 fun _ _ _ _ h=> ?_
   |with_reducible refine zFb fun _ _ _ _ h=> ?_
   |with_reducible refine zCk fun _ _ _ _ h=> ?_
   |with_reducible refine zFj fun _ h=> ?_
   |with_reducible refine zAj (by assumption) (by assumption) fun h=> ?_
   |with_reducible refine zCm (by assumption) fun h=> ?_
   |with_reducible refine zHp (by assumption) fun h=> ?_
   |with_reducible refine zAh (by assumption) fun h=> ?_
   |with_reducible refine zCs fun _ _ _ _ k k1 h=> ?_
   |with_reducible refine zFl fun _ _ _ _ _ _ k k1 k2 h=> ?_
   |with_reducible refine zFk fun _ _ _ _ k k1 h=> ?_
   |with_reducible refine zFm fun _ _ _ _ k k1 h=> ?_
   |with_reducible refine p_0 fun _ _ _ _ _ h=> ?_
   |with_reducible refine zFe fun _ _ _ _ _ h=> ?_
   |with_reducible refine zFc fun _ _ _ _ _ h=> ?_
   |with_reducible refine zHo fun _ _ _ _ _ _ h=> ?_
   |with_reducible refine zCr fun _ _ _ _ _ h=> ?_
   |((with_reducible refine zxm fun _ _ _ _ _ _ _ k k2 h=> ?_);try simp at k;try simp only[Int.reduceToNat,Z2,YR] at k2)
   |((with_reducible refine zxl fun _ _ _ _ _ _ _ k k2 h=> ?_);try simp at k;try simp only[Int.reduceToNat,Z2,YR] at k2)
   |((with_reducible refine zxk fun _ _ _ _ _ _ _ k h=> ?_);try simp only[Int.reduceToNat,Z2] at k)
   |((with_reducible refine zAi (fun _ k h=> ?_) fun _ k h=> ?_)<;>(try simp at k))
   |((with_reducible refine zCq fun _ _ k h=> ?_);try simp at k))
  |((with_reducible refine zER ?_);first
   |refine zq rfl ?_
   |refine zb rfl ?_
   |refine zA8 rfl ?_
   |refine z8p rfl ?_
   |refine ztm rfl ?_
   |refine zaU rfl ?_
   |refine zn2 rfl ?_
   |refine zr rfl rfl rfl (by simp[*];with_reducible rfl) ?_
   |refine zal rfl rfl rfl rfl ?_
   |refine zls rfl rfl rfl rfl ?_
   |refine zcn rfl (by first|(simp[*];done)|fail) ?_
   |refine zco rfl (by first|(simp[*];done)|fail) ?_
   |refine ztn rfl rfl (by simp[*];rfl) ?_
   |(refine zA9 rfl rfl h (by simp[*];rfl) (by first|(simp[*,zzA,zBy,zC7,Hd.H];done)|fail) ?_;clear h;(repeat' (first|refine zqL fun _=> ?_|refine zss ?_ ?_|refine ztx ?_ ?_));all_goals (intro _ _ h;simp only[zzA,zBy,zC7,Hd.H,Nat.reduceEqDiff,if_true,if_false])))
  |((with_reducible refine zFG ?_);first
   |(refine z6k rfl rfl fun Q' hQ=> ?_;simp[*];refine hQ.out _ ?_;clear hQ;clear Q')
   |(refine zd7 rfl rfl fun Q1 Q2 h1 h2=> ?_;simp[*,zcK];(first|refine h1.out ?_|refine h2.out ?_);clear h1 h2;clear Q1 Q2;intro Q' hQ;simp[*];refine hQ.out _ ?_;clear hQ;clear Q')
   |(refine z5s rfl fun Q' hQ=> ?_;simp[*];refine hQ.out _ ?_;clear hQ;clear Q'))
  |((with_reducible refine zFI ?_);first
   |refine tpN rfl ?_
   |refine tpA rfl ?_
   |refine tpO rfl rfl rfl (by simp[*,z0x,z0y];rfl) ?_
   |refine tpT rfl rfl rfl (by first|(simp[*];done)|fail) (by simp[*,z0x,z0y];rfl) ?_
   |refine tpF rfl rfl rfl (by first|(simp[*];done)|fail) (by simp[*];rfl) ?_)
  |((with_reducible refine zEY ?_);refine zkV rfl (by simp[*];rfl) ?_)
  |((with_reducible refine And.intro ?_ ?_);rotate_left)
  |((with_reducible refine zHh ?_);simp[*,zbV];done)
  |(revert h;with_reducible refine zCn (fun _ _ _ h=> ?_) fun _ _ h=> ?_)
  |(revert h;first
   |with_reducible refine zFg (fun _ h=> ?_) fun _ h=> ?_
   |with_reducible refine zFh (fun _ h=> ?_) fun _ h=> ?_
   |with_reducible refine zFi (fun _ _ h=> ?_) fun _ _ h=> ?_
   |with_reducible refine zFf (fun _ _ _ h=> ?_) fun _ _ h=> ?_
   |with_reducible refine zHn (fun _ h=> ?_) fun _ h=> ?_
   |((with_reducible refine zCj fun h=> ?_);cases h;simp[*];done)))):G:=g
end
section
open Go
structure Tape where
 l:List Int
 at_:Int
deriving Inhabited
structure DFA where
 letters:Int
 start:Int
 final:List Bool
 next:List (List Int)
deriving Inhabited
structure Imgs where
 sets:List Int
 class_:List Int
 height:List Int
 tiles:List (List Int)
 words:List ByteArray
 back:List ByteArray
deriving Inhabited
structure Dgm where
 sets:List Int
 next:List (List Int)
 below:List (List Bool)
deriving Inhabited
structure Hol where
 set:Int
 tiles:List Int
 words:List ByteArray
 perms:List (List Int)
deriving Inhabited
instance:IsS Hol:=⟨⟩
end
section
open Go
abbrev tI(l:List Int):T:=.sl l.length (l.map fun x=>.sc (.int .i64 x))
abbrev tO(l:List Int):T:=.os 1 l.length (l.map fun x=>.sc (.int .i64 x))
abbrev tR(l:List (List Int)):T:=.sl l.length (l.map fun x=>.sl x.length (x.map fun y=>.sc (.int .i64 y)))
abbrev tB(l:List Bool):T:=.sl l.length (l.map fun x=>.sc (.bool x))
abbrev tS(l:List ByteArray):T:=.sl l.length (l.map fun x=>.sc (.string x))
abbrev md(a b:Int):Int:=IntKind.i64.wrap (z1D .u64 (IntKind.u64.wrap (IntKind.i64.wrap (a+b))) 1)
attribute [simp] tI tO tR tB tS
end
section
attribute [simp] undef scB ext z1Z z4m Function.comp_def ziU zmx zf9 zms nav sub upd z5U z8P z3g z8G z2i zm6 z6T zCN z7u zb8 zeX znK onA kill z5W ziy zea z7c zaK zep zAZ z6O zdl zaV zxE zcw zdA setT moveT moveR mvA zqM zoA plugL' zru znb z6V zCB zCA zz6 zCX zCW nrmO? plugL putR zba explode cellsE z6E rdV scE zyn zoH zFp zym zw1 zrj zr8 zrc zra zr9 zri zv0 zr7 zju zrh zrb zrd zre zrf zrg zqu zqr zqs zqt zqv zxT zxU zxY zxZ zzQ zzR zzV zxX zzU zxV zzS zxW zzT zxj zoD rdK zF8 zuY zEj zns zzW zxO zvc zwV zwW List.map_flatMap zoE zly zpA z1o zCV unS zFu zFv zho opE zBE zjQ zr1 zqP zth zHs zbH zp3 zwr zoq zfv zEz zc9 zuZ zye zBm zaS zb0 zbW z9B zfc zwp zAx zCD z9h freezeKids zAY zis zpN zEM zhN zuU zaZ zfb zbU z6Q z6P z8I zsw zir zbV zw5 zk4 zG5 zBx ztu zuV zhC zk5 zAW zbR zk6 zAL zxv zpB zEJ znR zEi opn zhH z7q zod zBq zwb zEN z5D zhV zaE zhc clB ioF zF6 zEq zdD zaT putF opF zfE z7o zv9 zf5 zbZ zc7 onE ids zhS zhR zax zrn za2 z7z zay z8q z8f z8g zC9 ztb zla zbY zeR zCv zqR zlw zjt ztv zEC zCu zmk zCt zey zpm zCh zjt zmn zEx zEB zEw zEA zFH zb6 z0y wrF zda noM zEO frz1 zxR zAX zcx zCa zjo zjl zcv zjj zv6 zfp zBS zxD zlL zxC zBB zfq zfn zfm zde zfo zgM zjn zjk znD zvn zva zsW zEd zvU zEL zvV zm5 zdf zcF znk zm3 ziT zB2 zvs Option.map_some zjN zvq
end
section
def Mo(C0 C1:z0g):Prop:=∀f a o,C0 f a=some o->C1 f a=some o
section
variable {P:Program} {C0 C1:z0g}
theorem zfC(hMo:Mo C0 C1){wio:FuncId->Nat->Bool}{fr fr':Fr}{f:FuncId}{args:List E}{dst:Option Nat}(h:zdD C0 wio fr f args dst=some fr'):Ev fun m=>zdD C1 wio fr f args dst=some fr':=by
 unfold zdD at h⊢
 split at h
 · cases h
 · rename_i ts deps io ha
   split at h
   · cases h
   · rename_i r outs hc
     refine⟨0,fun m _=> ?_⟩
     show(match C1 f ts with|none=>none|some (r,outs)=>_)=_
     rw[hMo _ _ _ hc]
     exact h
theorem zty(hMo:Mo C0 C1){wio:FuncId->Nat->Bool}{fr fr':Fr}{o:Oper}(h:opF P C0 wio fr o=some fr'):Ev fun m=>opF P C1 wio fr o=some fr':=by
 unfold opF at h⊢
 split at h
 · exact .pure fun _=>h
 · split at h
   · exact zfC hMo h
   · cases h
 · exact .pure fun _=>h
 · exact .pure fun _=>h
 · exact .pure fun _=>h
theorem zpz(hMo:Mo C0 C1){wio:FuncId->Nat->Bool}{fr fr':Fr}{o:Oper}(h:zbZ P C0 wio fr o=some fr'):Ev fun m=>zbZ P C1 wio fr o=some fr':=by
 unfold zbZ at h⊢
 split at h
 · split at h
   · split at h
     · exact zfC hMo h
     · cases h
   · cases h
 · exact .pure fun _=>h
theorem zyC(hMo:Mo C0 C1){wio:FuncId->Nat->Bool}{M:Nat->Bool}{fr fr':Fr}{o:Oper}(h:wrF P C0 wio M fr o=some fr'):Ev fun m=>wrF P C1 wio M fr o=some fr':=by
 unfold wrF at h⊢
 split at h
 · split at h
   · cases h
   · split at h
     · exact zfC hMo h
     · split at h
       · rename_i hM
         simp only[hM,if_true]
         exact zfC hMo h
       · cases h
     · cases h
 · exact .pure fun _=>h
 · exact .pure fun _=>h
 · exact .pure fun _=>h
 · cases h
theorem zn1(hMo:Mo C0 C1){wio:FuncId->Nat->Bool}{ops:Array Oper}:∀ {l:List Oper} {fr fr':Fr},zf5 P C0 wio ops l fr=some fr'->Ev fun m=>zf5 P C1 wio ops l fr=some fr'
 | [],fr,fr',h=>.pure fun _=>h
 |o::rest,fr,fr',h=>by
  simp only[zf5] at h⊢
  split at h
  · cases h
  · split at h
    · rename_i fr1 h1
      exact(zty hMo h1).both (zn1 hMo h) fun m a1 a2=>by rw[a1];exact a2
    · cases h
  · split at h
    · rename_i fr1 h1
      exact(zn1 hMo h)
    · cases h
theorem zfy(hMo:Mo C0 C1){wio:FuncId->Nat->Bool}{same:Bool}{M:Nat->Bool}{ops:Array Oper}:∀ {l:List (Nat×Oper×Nat)} {fr fr':Fr},zb6 P C0 wio same M ops l fr=some fr'->Ev fun m=>zb6 P C1 wio same M ops l fr=some fr'
 | [],fr,fr',h=>.pure fun _=>h
 |(k,o,mk)::rest,fr,fr',h=>by
  simp only[zb6] at h⊢
  split at h
  · cases h
  · split at h
    · exact zfy hMo h
    · cases h
  · split at h
    · rename_i hm
      simp only[if_pos hm]
      split at h
      · split at h
        · exact zfy hMo h
        · cases h
      · cases h
    · rename_i hm
      simp only[if_neg hm]
      split at h
      · rename_i fr1 h1
        have h2:Ev fun m=>(if mk=2 then opF P C1 wio fr o else if same=true then zbZ P C1 wio fr o else wrF P C1 wio M fr o)=some fr1:=by
         by_cases e:mk=2
         · simp only[if_pos e] at h1⊢;exact zty hMo h1
         · simp only[if_neg e] at h1⊢
           by_cases e2:same=true
           · simp only[if_pos e2] at h1⊢;exact zpz hMo h1
           · simp only[if_neg e2] at h1⊢;exact zyC hMo h1
        exact h2.both (zfy hMo h) fun m a1 a2=>by rw[a1];exact a2
      · cases h
theorem zbM(hMo:Mo C0 C1){wio:FuncId->Nat->Bool}{same:Bool}{M:Nat->Bool}{ops:Array Oper}:∀ {l:SchT} {fr fr':Fr},z7t P C0 wio same M ops l fr=some fr'->Ev fun m=>z7t P C1 wio same M ops l fr=some fr'
 | .nil,fr,fr',h=>.pure fun _=>h
 | .alt x y,fr,fr',h=>by
   simp only[z7t] at h⊢
   split at h
   · rename_i f1 f2 h1 h2
     obtain⟨rfl,hs⟩:=zem h
     exact(zbM hMo h1).both (zbM hMo h2) fun m a1 a2=>by rw[a1,a2];exact zfk hs
   · cases h
 | .op k mk rest,fr,fr',h=>by
   simp only[z7t] at h⊢
   split at h
   · cases h
   rename_i o ho
   try simp only[ho]
   split at h
   · cases h
   · split at h
     · exact zbM hMo h
     · cases h
   · split at h
     · rename_i hm
       simp only[if_pos hm]
       split at h
       · split at h
         · exact zbM hMo h
         · cases h
       · cases h
     · rename_i hm
       simp only[if_neg hm]
       split at h
       · rename_i fr1 h1
         have h2:Ev fun m=>(if mk=2 then opF P C1 wio fr o else if same=true then zbZ P C1 wio fr o else wrF P C1 wio M fr o)=some fr1:=by
          by_cases e:mk=2
          · simp only[if_pos e] at h1⊢;exact zty hMo h1
          · simp only[if_neg e] at h1⊢
            by_cases e2:same=true
            · simp only[if_pos e2] at h1⊢;exact zpz hMo h1
            · simp only[if_neg e2] at h1⊢;exact zyC hMo h1
         exact h2.both (zbM hMo h) fun m a1 a2=>by rw[a1];exact a2
       · cases h
theorem zrx(hMo:Mo C0 C1){c:Cfg}{id:Nat}{ops:Array Oper}{fr fr':Fr}(h:z9E P C0 c id ops fr=some fr'):Ev fun m=>z9E P C1 c id ops fr=some fr':=by
 unfold z9E at h⊢
 split at h
 · exact zbM hMo h
 · split at h
   · exact zfy hMo h
   · cases h
theorem zoV(hMo:Mo C0 C1){B:z0g->Fr->Option (X×Fr)}{cn:Fr->Fr}(hB:∀fr o,B C0 fr=some o->Ev fun m=>B C1 fr=some o):∀ {n:Nat} {fr:Fr} {o:X×Fr},zdo (B C0) cn n fr=some o->Ev fun m=>zdo (B C1) cn n fr=some o
 |0,fr,o,h=>by cases h
 |n+1,fr,o,h=>by
  simp only[zdo] at h⊢
  split at h
  · rename_i fr1 h1
    exact(hB _ _ h1).both (zoV hMo hB h) fun m a1 a2=>by rw[a1];exact a2
  · rename_i x fr1 hne h1
    refine(hB _ _ h1).imp fun m a1=> ?_
    rw[a1]
    cases x with
    |n=>exact absurd rfl hne
    |x i=>exact h
    |r=>exact h
  · cases h
theorem zjS(hMo:Mo C0 C1){c:Cfg}{LF:Nat}:∀(b:Code) {fr:Fr} {o:X×Fr},z2H P C0 c LF b fr=some o->Ev fun m=>z2H P C1 c LF b fr=some o:=by
 intro b
 induction b with
 |skip=>intro fr o h;exact .pure fun _=>h
 |label l=>intro fr o h;exact .pure fun _=>h
 |exit id=>intro fr o h;exact .pure fun _=>h
 |ret=>intro fr o h;exact .pure fun _=>h
 |goto l=>intro fr o h;cases h
 |scope c ih=>intro fr o h;simp only[z2H] at h⊢;exact ih h
 |refuse s=>intro fr o h;cases h
 |rangeFunc=>intro fr o h;cases h
 |region id ops draw=>
  intro fr o h
  simp only[z2H] at h⊢
  split at h
  · rename_i hd
    simp only[hd,if_true]
    split at h
    · rename_i fr1 h1
      exact(zrx hMo h1).imp fun m a1=>by rw[a1];exact h
    · cases h
  · rename_i hd
    simp only[hd,ZP,if_false]
    split at h
    · rename_i fr1 h1
      exact(zn1 hMo h1).imp fun m a1=>by rw[a1];exact h
    · cases h
 |seq a b ih1 ih2=>
  intro fr o h
  simp only[z2H] at h⊢
  split at h
  · rename_i fr1 h1
    exact(ih1 h1).both (ih2 h) fun m a1 a2=>by rw[a1];exact a2
  · rename_i hne
    refine(ih1 h).imp fun m a1=> ?_
    rw[a1]
    obtain⟨x,fr1⟩:=o
    cases x with
    |n=>exact absurd h (hne _)
    |x i=>rfl
    |r=>rfl
 |cond c x y ih1 ih2=>
  intro fr o h
  simp only[z2H] at h⊢
  split at h
  · exact ih1 h
  · exact ih2 h
  · cases h
 |block id c ih=>
  intro fr o h
  simp only[z2H] at h⊢
  split at h
  · rename_i i fr1 h1
    exact(ih h1).imp fun m a1=>by rw[a1];exact h
  · rename_i hne
    refine(ih h).imp fun m a1=> ?_
    rw[a1]
    obtain⟨x,fr1⟩:=o
    cases x with
    |n=>rfl
    |x i=>exact absurd h (hne _ _)
    |r=>rfl
 |loop b ih=>
  intro fr o h
  simp only[z2H] at h⊢
  exact zoV hMo (B:=fun C fr=>z2H P C c LF b fr) (fun fr o h=>ih h) h
theorem zA1(hMo:Mo C0 C1){c:Cfg}{LF:Nat}{fn:Func}{args:List T}{o:T×List T}(h:zkb P C0 c LF fn args=some o):Ev fun m=>zkb P C1 c LF fn args=some o:=by
 unfold zkb at h⊢
 split at h
 · rename_i hc
   simp only[if_pos hc]
   split at h
   · cases h
   · rename_i b hb
     split at h
     · rename_i fr h1
       exact(zjS hMo _ h1).imp fun m a1=>by rw[a1];exact h
     · rename_i fr h1
       exact(zjS hMo _ h1).imp fun m a1=>by rw[a1];exact h
     · cases h
 · cases h
end
class XMo(X:z0g->z0g):Prop where
 mo:∀ {C D:z0g},Mo C D->Mo (X C) (X D)
instance{x:z0g}:XMo (fun _=>x):=⟨fun _=>fun _ _ _ h=>h⟩
theorem zAu{D:z0g}:Mo (fun _ _=>none) D:=fun _ _ _ h=>by cases h
def tab:List (FuncId×List T×T×List T)->z0g
 | []=>fun _ _=>none
 |(g,b,r,os)::l=>fun f a=>if(Nat.beq g f&&znG b a)=true then some (r,os) else tab l f a
theorem zyT{C:z0g}:∀ {l:List (FuncId×List T×T×List T)},(∀x∈l,C x.1 x.2.1=some x.2.2)->Mo (tab l) C
 | [],_=>fun f a o h=>by cases h
 |(g,b,r,os)::l,hl=>fun f a o h=>by
  simp only[tab] at h
  split at h
  · rename_i hc
    simp only[Z6] at hc
    cases h
    have:=hl _ (Zz ..)
    rw[←ZU hc.1,←z9e hc.2]
    exact this
  · exact zyT (fun x hx=>hl x (Zo _ hx)) f a o h
noncomputable def zlK(P:Program)(X:z0g->z0g)(cf:FuncId->Option Cfg)(S:z0g):Nat->z0g
 |0=>S
 |n+1=>fun f a=>match S f a with
  |some o=>some o
  |none=>match cf f with
   |some c=>(match P.funcs[f]? with|some fn=>zkb P (zlK P X cf S n) c LFm fn a|none=>none)
   |none=>X (fun _ _=>none) f a
theorem zlJ{P:Program}{X:z0g->z0g}[hx:XMo X]{cf:FuncId->Option Cfg}{S:z0g}(hS:Mo S (Lim P X cf)):∀n,Mo (zlK P X cf S n) (Lim P X cf)
 |0=>hS
 |n+1=>fun f a o h=>by
  simp only[zlK] at h
  split at h
  · rename_i o' ho
    cases h
    exact hS f a o ho
  · split at h
    · rename_i c hc
      split at h
      · rename_i fn hfn
        obtain⟨k,hk⟩:=zA1 (zlJ hS n) h
        exact zuK hc hfn (hk k (Z8 _))
      · cases h
    · rename_i hc
      exact zoS hc ⟨0,fun m _=>hx.mo zAu f a o h⟩
theorem zAH{P:Program}{X:z0g->z0g}[XMo X]{cf:FuncId->Option Cfg}(l:List (FuncId×List T×T×List T))(n:Nat){f:FuncId}{a:List T}{o:T×List T}(h:zlK P X cf (tab l) n f a=some o)(hl:∀x∈l,Lim P X cf x.1 x.2.1=some x.2.2):Lim P X cf f a=some o:=
 zlJ (zyT hl) n f a o h
end
section
open Go
def zfa:List T->Option (List Int)
 | []=>some []
 | .sc (.int .i64 x)::l=>(zfa l).map (x:: ·)
 |_=>none
theorem z8X:∀xs:List Int,zfa (xs.map fun x=>.sc (.int .i64 x))=some xs
 | []=>rfl
 |x::xs=>by simp[zfa,z8X xs]
theorem z8Y:∀ {cs:List T} {xs:List Int},zfa cs=some xs->cs=xs.map fun x=>.sc (.int .i64 x)
 | [],xs,h=>by simp[zfa] at h;subst h;rfl
 |c::cs,xs,h=>by
  unfold zfa at h
  split at h
  · rename_i he;cases he
  · rename_i x l he
    cases he
    simp only[Z5] at h
    obtain⟨ys,hy,rfl⟩:=h
    simp[←z8Y hy]
  · cases h
def szN(s:Nat):Nat:=(List.range 7).countP fun q=>s.testBit q
def zzs(p r:Nat):Bool:=decide (szN r<szN p)||(decide (szN p=szN r)&&decide (p<=r))
def leI(a b:Int):Bool:=zzs a.toNat b.toNat
def zxH(x:Int):List Int->List Int
 | []=> [x]
 |y::l=>if leI x y=true then x::y::l else y::zxH x l
def zd1:List Int->List Int
 | []=> []
 |x::l=>zxH x (zd1 l)
def zmD(xs:List Int):Option (List Int):=if xs≠ []/\xs.length<4611686018427387904/\xs.all (fun x=>decide (0<=x/\x<128))=true then some (zd1 xs) else none
def zws(fn:FuncId)(args:List T):Option (T×List T):=match args with
 | [.os 1 n cs,.sc (.func (.func f) fs gs)]=>if f=fn/\fs.isEmpty/\gs.isEmpty then(match zfa cs with|some xs=>if xs.length=n then(zmD xs).map fun ys=>(.tup [],[.os 1 ys.length (ys.map fun x=>.sc (.int .i64 x)),.dead]) else none|none=>none) else none
 |_=>none
def zf4(x:List Int):T:=.sl x.length (x.map fun z=>.sc (.int .i64 z))
def zmZ:List T->Option (List (List Int))
 | []=>some []
 | .sl n cs::l=>(match zfa cs with|some x=>if x.length=n then(zmZ l).map (x:: ·) else none|none=>none)
 |_=>none
theorem zlj:∀xs:List (List Int),zmZ (xs.map zf4)=some xs
 | []=>rfl
 |x::xs=>by simp[zf4,zmZ,z8X,zlj xs]
theorem zlk:∀ {cs:List T} {xs:List (List Int)},zmZ cs=some xs->cs=xs.map zf4
 | [],xs,h=>by simp[zmZ] at h;subst h;rfl
 |c::cs,xs,h=>by
  unfold zmZ at h
  split at h
  · rename_i he;cases he
  · rename_i n es l he
    cases he
    split at h
    case h_2=>cases h
    rename_i x hx
    split at h
    case isFalse=>cases h
    rename_i hn
    simp only[Z5] at h
    obtain⟨ys,hy,rfl⟩:=h
    subst hn
    rw[z8Y hx,zlk hy,Zt,zf4]
  · cases h
def zAN(x:List Int):List (List Int)->List (List Int)
 | []=> [x]
 |y::l=>if z8D x y<=0 then x::y::l else y::zAN x l
def z9y:List (List Int)->List (List Int)
 | []=> []
 |x::l=>zAN x (z9y l)
def zkr(xs:List (List Int)):Option (List (List Int)):=if xs≠ []/\xs.length<4611686018427387904 then some (z9y xs) else none
def zwt(fn:FuncId)(args:List T):Option (T×List T):=match args with
 | [.os 1 n cs,.sc (.func (.func f) fs gs)]=>if f=fn/\fs.isEmpty/\gs.isEmpty then(match zmZ cs with|some xs=>if xs.length=n then(zkr xs).map fun ys=>(.tup [],[.os 1 ys.length (ys.map zf4),.dead]) else none|none=>none) else none
 |_=>none
def zav(xs:List Int):Option (List Int):=if xs≠ []/\xs.length<4611686018427387904 then some (xs.mergeSort fun x y=>decide (x<=y)) else none
def znY(args:List T):Option (T×List T):=match args with
 | [.os 1 n cs]=>(match zfa cs with|some xs=>if xs.length=n then(zav xs).map fun ys=>(.tup [],[.os 1 ys.length (ys.map fun x=>.sc (.int .i64 x))]) else none|none=>none)
 |_=>none
def z9F(xs:List Int):Option (List Int):=if xs.length*8<=140737488355328 then some xs else none
def znZ(args:List T):Option (T×List T):=match args with
 | [.sl n cs]=>(match zfa cs with|some xs=>if xs.length=n then(z9F xs).map fun ys=>(.os 1 ys.length (ys.map fun x=>.sc (.int .i64 x)),[.dead]) else none|none=>none)
 |_=>none
def tzN(s:Nat):Nat:=(List.range 7).findIdx fun q=>s.testBit q
def vTz(x:Int):Option Int:=if 0<x/\x<128 then some ((tzN x.toNat:Nat):Int) else none
def xTz(args:List T):Option (T×List T):=match args with
 | [.sc (.int .u64 x)]=>(vTz x).map fun r=>(.sc (.int .i64 r),[.dead])
 |_=>none
def xtC:z0g:=fun f args=>if f=102 then xTz args else if f=175 then zws 176 args else if f=100 then zwt 101 args else if f=237 then znY args else if f=104 then znZ args else none
def z4Q(r:List Int×T):List T:= [zf4 r.1,r.2]
def zeS:List T->Option (List (List Int×T))
 | []=>some []
 | .sl n cs:: .sl m ds::l=>(match zfa cs with|some x=>if x.length=n then(zeS l).map ((x,.sl m ds):: ·) else none|none=>none)
 |_=>none
theorem ziB:∀ {cs:List T} {xs:List (List Int×T)},zeS cs=some xs->cs=xs.flatMap z4Q/\ ∀r∈xs,∃m ds,r.2= .sl m ds
 | [],xs,h=>by simp[zeS] at h;subst h;exact⟨rfl,fun r hr=>by cases hr⟩
 | [c],xs,h=>by cases c<;>simp[zeS] at h
 |c::d::l,xs,h=>by
  unfold zeS at h
  split at h
  · rename_i he;cases he
  · rename_i n cs m ds l' he
    cases he
    split at h
    case h_2=>cases h
    rename_i x hx
    split at h
    case isFalse=>cases h
    rename_i hn
    rw[Z5] at h
    obtain⟨ys,hy,rfl⟩:=h
    obtain⟨e1,e2⟩:=ziB hy
    refine⟨?_,fun r hr=> ?_⟩
    · rw[Y5,←e1,z4Q,zf4,z8Y hx];subst hn;simp
    · rcases Zv.1 hr with rfl|hr
      · exact⟨_,_,rfl⟩
      · exact e2 r hr
  · cases h
theorem zgD:∀(xs:List (List Int×T)),(∀r∈xs,∃m ds,r.2= .sl m ds)->zeS (xs.flatMap z4Q)=some xs
 | [],_=>rfl
 |r::xs,h=>by
  obtain⟨p,t⟩:=r
  obtain⟨m,ds,e⟩:=h _ (Zz ..)
  simp only at e
  subst e
  rw[Y5]
  simp only[z4Q,zf4,ZO,Yb,zeS,z8X,Zg,if_true]
  rw[zgD xs fun r hr=>h r (Zo _ hr)];rfl
def zwl(x:List Int×T):List (List Int×T)->List (List Int×T)
 | []=> [x]
 |y::l=>if z9k x.1 y.1<0 then x::y::l else y::zwl x l
def z5o:List (List Int×T)->List (List Int×T)
 | []=> []
 |x::l=>zwl x (z5o l)
def zkh(fn:FuncId)(args:List T):Option (T×List T):=match args with
 | [.os 2 n cs,.sc (.func (.func f) fs gs)]=>if f=fn/\fs.isEmpty/\gs.isEmpty then(match zeS cs with|some xs=>if xs.length=n/\xs.length<4611686018427387904/\(xs.map (·.1)).Nodup then some (.tup [],[.os 2 (z5o xs).length ((z5o xs).flatMap z4Q),.dead]) else none|none=>none) else none
 |_=>none
def zx6:T->Option (List Int×T)
 | .agg [.sl n l,.sl m ds]=>(match zfa l with|some p=>if p.length=n then some (p,.sl m ds) else none|none=>none)
 |_=>none
def zgt:List T->Option (List (List Int×T))
 | []=>some []
 |t::l=>(match zx6 t,zgt l with|some r,some rs=>some (r::rs)|_,_=>none)
theorem zta{t:T}{r:List Int×T}(h:zx6 t=some r):t= .agg (z4Q r)/\ ∃m ds,r.2= .sl m ds:=by
 unfold zx6 at h
 split at h
 · split at h
   · rename_i p hp
     split at h
     · rename_i hn
       cases h
       subst hn
       exact⟨by rw[z8Y hp];simp[z4Q,zf4],_,_,rfl⟩
     · cases h
   · cases h
 · cases h
theorem zix:∀ {l:List T} {rs:List (List Int×T)},zgt l=some rs->l=rs.map (fun r=>.agg (z4Q r))/\ ∀r∈rs,∃m ds,r.2= .sl m ds
 | [],rs,h=>by simp[zgt] at h;subst h;exact⟨rfl,fun r hr=>by cases hr⟩
 |t::l,rs,h=>by
  rw[zgt] at h
  split at h
  · rename_i r rs' h1 h2
    cases h
    obtain⟨a1,a2⟩:=zta h1
    obtain⟨b1,b2⟩:=zix h2
    refine⟨by rw[a1,b1];rfl,fun q hq=> ?_⟩
    rcases Zv.1 hq with rfl|hq
    · exact a2
    · exact b2 q hq
  · cases h
noncomputable def zxi(c:Code):Code:=.seq (zka c) (.seq (zka (zdJ c)) (.seq (zka (zdJ (zdJ c))) (zka (zdJ (zdJ (zdJ c))))))
noncomputable def zhU:Code:=match Tryz.f50.body with|some c=>c|none=>.skip
noncomputable def cfRw:Cfg:= {wio:=fun f i=>(f==105&&(i==0))||(f==999999&&(i==0))||(f==777781&&(i==8)),live:=fun r=>if r=3 then some [0,5,20,21,22] else if r=7 then some [0,5,7,8,20,21,22,27,28] else if r=16 then some [0,5,7,8,9,10,13,20,21,22,27,28,52,53,54] else if r=25 then some [16,77] else none,dr:=fun r=>if r=18 then some [(0,0),(1,0),(2,0),(3,0),(4,0),(5,0),(6,1),(7,2),(8,0),(9,2)] else none,fz:=fun r=>if r=20 then some [13] else if r=23 then some [5] else if r=999998 then some [] else none}
open Classical in
noncomputable def zkk(C:z0g)(args:List T):Option (T×List T):=
 match z2H Tryz.prog C cfRw LFm (zxi zhU) (z8g 89 args) with
 |some (.n,fr)=>(match z3g fr.tm 5,z3g fr.tm 16,z2i fr.ob 16 with
  | .one (.t none (.ms kk ks cs)),.one (.h 16 []),some (.os 2 0 [])=>(match zgt cs with
    |some rs=>if(rs.map (·.1)).Nodup/\rs.length*48<=140737488355328/\args.length<=89/\args.all (fun t=> !z7q t)=true/\fr.nt=89/\(∀r∈rs,z1Z r.2=r.2) then some (.sl (z5o rs).length ((z5o rs).flatMap z4Q),args.map fun _=>.dead) else none
    |none=>none)
  |_,_,_=>none)
 |_=>none
noncomputable def xtF(C:z0g):z0g:=fun f args=>if f=105 then zkh 106 args else if f=50 then zkk C args else xtC f args
instance:XMo xtF:=⟨fun {C0 C1} h f a o=>by
 unfold xtF
 split
 · exact id
 split
 · unfold zkk
   intro h2
   split at h2
   · rename_i fr hf
     obtain⟨n,hn⟩:=zjS h _ hf
     rw[hn n (Z8 _)]
     exact h2
   · cases h2
 · exact id⟩
end
section
open Go
noncomputable def zHA:Array Field:=match Tryz.prog.underlying 28 with|some (.struct fs)=>fs|_=> #[]
theorem zgi{P:Program}{t:TypeId}{a:Array Field}{x y:Nat}{zs:List T}(h:z3b P t=some ⟨.struct a,x,y,some zs⟩)(hc:(zs.all zdA&&a.toList.all fun f=>(z3b P f.type).isSome)=true):zj5 P t=some zs:=by
 unfold zj5
 rw[h]
 exact if_pos (by simpa using hc)
@[simp] theorem zH4:z3b Tryz.prog 28=some ⟨.struct zHA,4,64,(some [(.sc (.int .i64 0)),(.sc (.int .i64 0)),(.os 1 0 []),(.os 1 0 [])])⟩:=by kernel_rfl
@[simp] abbrev zHg:=zgi zH4 (by kernel_rfl)
@[simp] abbrev bs28:=z2M zHg
noncomputable def zHz:Array Field:=match Tryz.prog.underlying 33 with|some (.struct fs)=>fs|_=> #[]
@[simp] theorem zH3:z3b Tryz.prog 33=some ⟨.struct zHz,3,56,(some [(.sc (.int .i64 0)),(.os 1 0 []),(.os 2 0 [])])⟩:=by kernel_rfl
@[simp] abbrev zHf:=zgi zH3 (by kernel_rfl)
@[simp] abbrev bs33:=z2M zHf
noncomputable def zHy:Array Field:=match Tryz.prog.underlying 36 with|some (.struct fs)=>fs|_=> #[]
@[simp] theorem zH2:z3b Tryz.prog 36=some ⟨.struct zHy,7,152,(some [(.sc (.int .i64 0)),(.os 1 0 []),(.os 2 0 []),(.os 1 0 []),(.os 1 0 []),(.os 1 0 []),(.os 4 0 [])])⟩:=by kernel_rfl
@[simp] abbrev zHe:=zgi zH2 (by kernel_rfl)
@[simp] abbrev bs36:=z2M zHe
noncomputable def zHx:Array Field:=match Tryz.prog.underlying 68 with|some (.struct fs)=>fs|_=> #[]
@[simp] theorem zH1:z3b Tryz.prog 68=some ⟨.struct zHx,2,32,(some [(.os 1 0 []),(.sc (.int .i64 0))])⟩:=by kernel_rfl
@[simp] abbrev zHd:=zgi zH1 (by kernel_rfl)
@[simp] abbrev bs68:=z2M zHd
noncomputable def zHw:Array Field:=match Tryz.prog.underlying 72 with|some (.struct fs)=>fs|_=> #[]
@[simp] theorem zH0:z3b Tryz.prog 72=some ⟨.struct zHw,6,144,(some [(.os 1 0 []),(.os 1 0 []),(.os 1 0 []),(.os 1 0 []),(.os 1 0 []),(.os 1 0 [])])⟩:=by kernel_rfl
@[simp] abbrev zHc:=zgi zH0 (by kernel_rfl)
@[simp] abbrev bs72:=z2M zHc
noncomputable def zHv:Array Field:=match Tryz.prog.underlying 74 with|some (.struct fs)=>fs|_=> #[]
@[simp] theorem zGZ:z3b Tryz.prog 74=some ⟨.struct zHv,14,304,(some [(.sc (.int .i64 0)),(.sc (.int .i64 0)),(.os 1 0 []),(.os 1 0 []),(.os 1 0 []),(.os 1 0 []),(.os 1 0 []),(.os 1 0 []),(.os 1 0 []),(.os 1 0 []),(.os 1 0 []),(.os 1 0 []),(.os 1 0 []),(.os 1 0 [])])⟩:=by kernel_rfl
@[simp] abbrev zHb:=zgi zGZ (by kernel_rfl)
@[simp] abbrev bs74:=z2M zHb
noncomputable def zHu:Array Field:=match Tryz.prog.underlying 80 with|some (.struct fs)=>fs|_=> #[]
@[simp] theorem zGY:z3b Tryz.prog 80=some ⟨.struct zHu,4,80,(some [(.sc (.int .i64 0)),(.os 1 0 []),(.os 1 0 []),(.os 1 0 [])])⟩:=by kernel_rfl
@[simp] abbrev zHa:=zgi zGY (by kernel_rfl)
@[simp] abbrev bs80:=z2M zHa
noncomputable def zFD:Array Field:=match Tryz.prog.underlying 101 with|some (.struct fs)=>fs|_=> #[]
@[simp] theorem zEV:z3b Tryz.prog 101=some ⟨.struct zFD,2,48,(some [(.os 1 0 []),(.os 1 0 [])])⟩:=by kernel_rfl
@[simp] abbrev zF4:=zgi zEV (by kernel_rfl)
@[simp] abbrev bs101:=z2M zF4
noncomputable def zFC:Array Field:=match Tryz.prog.underlying 124 with|some (.struct fs)=>fs|_=> #[]
@[simp] theorem zEU:z3b Tryz.prog 124=some ⟨.struct zFC,3,56,(some [(.sc (.int .i64 0)),(.os 1 0 []),(.os 2 0 [])])⟩:=by kernel_rfl
@[simp] abbrev zF3:=zgi zEU (by kernel_rfl)
@[simp] abbrev bs124:=z2M zF3
noncomputable def zFB:Array Field:=match Tryz.prog.underlying 165 with|some (.struct fs)=>fs|_=> #[]
@[simp] theorem zET:z3b Tryz.prog 165=some ⟨.struct zFB,3,72,(some [(.os 1 0 []),(.os 1 0 []),(.os 1 0 [])])⟩:=by kernel_rfl
@[simp] abbrev zF2:=zgi zET (by kernel_rfl)
@[simp] abbrev bs165:=z2M zF2
noncomputable def zFA:Array Field:=match Tryz.prog.underlying 211 with|some (.struct fs)=>fs|_=> #[]
@[simp] theorem zES:z3b Tryz.prog 211=some ⟨.struct zFA,2,32,(some [(.os 1 0 []),(.sc (.map none))])⟩:=by kernel_rfl
@[simp] abbrev zF1:=zgi zES (by kernel_rfl)
@[simp] abbrev bs211:=z2M zF1
@[simp] theorem tyAll:z3b Tryz.prog 3=some ⟨.int .i64,1,8,(some [(.sc (.int .i64 0))])⟩/\z3b Tryz.prog 4=some ⟨.bool,1,1,(some [(.sc (.bool false))])⟩/\z3b Tryz.prog 5=some ⟨.int .u8,1,1,(some [(.sc (.int .u8 0))])⟩/\z3b Tryz.prog 9=some ⟨.string,1,16,(some [(.sc (.string ByteArray.empty))])⟩/\z3b Tryz.prog 22=some ⟨.slice 3,1,24,(some [(.os 1 0 [])])⟩/\z3b Tryz.prog 23=some ⟨.pointer 68,1,8,(some [(.sc (.pointer none))])⟩/\z3b Tryz.prog 25=some ⟨.slice 4,1,24,(some [(.os 1 0 [])])⟩/\z3b Tryz.prog 26=some ⟨.slice 22,1,24,(some [(.os 1 0 [])])⟩/\z2r Tryz.prog 28 0=some (0,1,false)/\z2r Tryz.prog 28 1=some (1,1,false)/\z2r Tryz.prog 28 2=some (2,1,false)/\z2r Tryz.prog 28 3=some (3,1,false)/\z3b Tryz.prog 31=some ⟨.slice 101,1,24,(some [(.os 2 0 [])])⟩/\z2r Tryz.prog 33 0=some (0,1,false)/\z2r Tryz.prog 33 1=some (1,1,false)/\z2r Tryz.prog 33 2=some (2,1,false)/\z3b Tryz.prog 34=some ⟨.slice 80,1,24,(some [(.os 4 0 [])])⟩/\z2r Tryz.prog 36 0=some (0,3,true)/\z2r Tryz.prog 36 1=some (3,1,false)/\z2r Tryz.prog 36 2=some (4,1,false)/\z2r Tryz.prog 36 3=some (5,1,false)/\z2r Tryz.prog 36 4=some (6,1,false)/\z3b Tryz.prog 37=some ⟨.int .i64,1,8,(some [(.sc (.int .i64 0))])⟩/\z2r Tryz.prog 68 0=some (0,1,false)/\z2r Tryz.prog 68 1=some (1,1,false)/\z3b Tryz.prog 70=some ⟨.slice 9,1,24,(some [(.os 1 0 [])])⟩/\z2r Tryz.prog 72 0=some (0,1,false)/\z2r Tryz.prog 72 1=some (1,1,false)/\z2r Tryz.prog 72 2=some (2,1,false)/\z2r Tryz.prog 72 3=some (3,1,false)/\z2r Tryz.prog 72 4=some (4,1,false)/\z2r Tryz.prog 72 5=some (5,1,false)/\z2r Tryz.prog 74 0=some (0,4,true)/\z2r Tryz.prog 74 1=some (4,6,true)/\z2r Tryz.prog 74 2=some (10,1,false)/\z2r Tryz.prog 74 3=some (11,1,false)/\z2r Tryz.prog 74 4=some (12,1,false)/\z2r Tryz.prog 74 5=some (13,1,false)/\z2r Tryz.prog 80 0=some (0,1,false)/\z2r Tryz.prog 80 1=some (1,1,false)/\z2r Tryz.prog 80 2=some (2,1,false)/\z2r Tryz.prog 80 3=some (3,1,false)/\z3b Tryz.prog 87=some ⟨.map 3 3,1,8,(some [(.sc (.map none))])⟩/\zct Tryz.prog 87=some ((some .i64),3)/\zkf Tryz.prog 3=some (.int .i64 0)/\z3b Tryz.prog 95=some ⟨.int .u64,1,8,(some [(.sc (.int .u64 0))])⟩/\z3b Tryz.prog 96=some ⟨.slice 26,1,24,(some [(.os 1 0 [])])⟩/\z2r Tryz.prog 101 0=some (0,1,false)/\z2r Tryz.prog 101 1=some (1,1,false)/\z3b Tryz.prog 109=some ⟨.slice 5,1,24,(some [(.os 1 0 [])])⟩/\z2r Tryz.prog 124 0=some (0,3,true)/\z3b Tryz.prog 140=some ⟨.pointer 74,1,8,(some [(.sc (.pointer none))])⟩/\z3b Tryz.prog 141=some ⟨.map 9 4,1,8,(some [(.sc (.map none))])⟩/\zct Tryz.prog 141=some (none,4)/\zkf Tryz.prog 4=some (.bool false)/\z3b Tryz.prog 145=some ⟨.map 9 101,1,8,(some [(.sc (.map none))])⟩/\zct Tryz.prog 145=some (none,101)/\zkf Tryz.prog 101=some (.agg #[.slice none 0 0,.slice none 0 0])/\z3b Tryz.prog 163=some ⟨.slice 25,1,24,(some [(.os 1 0 [])])⟩/\z2r Tryz.prog 165 0=some (0,1,false)/\z2r Tryz.prog 165 1=some (1,1,false)/\z2r Tryz.prog 165 2=some (2,1,false)/\z3b Tryz.prog 181=some ⟨.int .u32,1,4,(some [(.sc (.int .u32 0))])⟩/\z3b Tryz.prog 183=some ⟨.int .u64,1,8,(some [(.sc (.int .u64 0))])⟩/\z3b Tryz.prog 189=some ⟨.map 191 3,1,8,(some [(.sc (.map none))])⟩/\zct Tryz.prog 189=some ((some .i16),3)/\zkf Tryz.prog 3=some (.int .i64 0)/\z3b Tryz.prog 191=some ⟨.array 7 3,7,56,(some [(.sc (.int .i64 0)),(.sc (.int .i64 0)),(.sc (.int .i64 0)),(.sc (.int .i64 0)),(.sc (.int .i64 0)),(.sc (.int .i64 0)),(.sc (.int .i64 0))])⟩/\z2r Tryz.prog 211 0=some (0,1,false)/\z2r Tryz.prog 211 1=some (1,1,false)/\z3b Tryz.prog 222=some ⟨.pointer 211,1,8,(some [(.sc (.pointer none))])⟩:=by
  and_intros<;>kernel_rfl
@[simp] def z3O:Nat->List Nat:=fun _=> []
@[simp] def z0n:FuncId->Nat->Bool:=fun f i=>(f==999999&&(i==0))
@[simp] def z0X:Nat->Option (List Nat):=fun r=>none
@[simp] def zhK:FuncId->Nat->Bool:=fun f i=>(f==28&&(i==0))||(f==999999&&(i==0))
@[simp] def ziG:Nat->Option (List Nat):=fun r=>if r=4 then some [0,1,12,13] else none
@[simp] def zpU:FuncId->Nat->Bool:=fun f i=>(f==136&&(i==0))||(f==999999&&(i==0))
@[simp] def zEp:Nat->List Nat:=fun r=>if r=7 then [0] else []
@[simp] def zwx:FuncId->Nat->Bool:=fun f i=>(f==100&&(i==0))||(f==999999&&(i==0))
@[simp] def zoR:Nat->Option (List Nat):=fun r=>if r=3 then some [3,9,10,11] else none
@[simp] def zoQ:Nat->Option (List Nat):=fun r=>if r=2 then some [0,1,7,8] else none
@[simp] def zyO:FuncId->Nat->Bool:=fun f i=>(f==28&&(i==0))||(f==13&&(i==0))||(f==14&&(i==0))||(f==22&&(i==0))||(f==32&&(i==0))||(f==33&&(i==0))||(f==31&&(i==0))||(f==999999&&(i==0))||(f==777777&&(i==15||i==16||i==25||i==26))
@[simp] def zyN:FuncId->Nat->Bool:=fun f i=>(f==28&&(i==0))||(f==31&&(i==0))||(f==33&&(i==0))||(f==32&&(i==0))||(f==43&&(i==0))||(f==999999&&(i==0))
@[simp] def zuJ:Nat->Option (List Nat):=fun r=>if r=10 then some [1,2,4,6,44,45,46] else if r=21 then some [1,2,4,6,11,12,70,71,72] else none
@[simp] def zyM:FuncId->Nat->Bool:=fun f i=>(f==999999&&(i==0))||(f==777777&&(i==15||i==16||i==25||i==26))
@[simp] def zuI:Nat->Option (List Nat):=fun r=>if r=5 then some [2,6,23,24,25] else none
@[simp] def zuH:Nat->Option (List Nat):=fun r=>if r=5 then some [0,1,6,7,8,9] else if r=10 then some [0,1,6,7,8,9,10,11] else none
@[simp] def zuG:Nat->Option (List Nat):=fun r=>if r=5 then some [0,1,6,7,8,9] else if r=9 then some [0,1,6,7,8,10] else if r=13 then some [0,1,6,7,8,10,11,12] else if r=17 then some [0,1,6,7,8,10,11,13] else none
@[simp] def zyL:FuncId->Nat->Bool:=fun f i=>(f==31&&(i==0))||(f==999999&&(i==0))
@[simp] def zuF:Nat->Option (List Nat):=fun r=>if r=3 then some [6,7,17,18] else if r=6 then some [6,7,8,17,18,25,26,27] else none
@[simp] def zuE:Nat->Option (List Nat):=fun r=>if r=6 then some [1,4,6,29,30,31] else if r=13 then some [1,4,6,10,11,48,49,50] else none
@[simp] def zuD:Nat->Option (List Nat):=fun r=>if r=4 then some [1,2,3,30,31] else none
@[simp] def zuC:Nat->Option (List Nat):=fun r=>if r=4 then some [0,1,4,5,6,22,23,24] else if r=9 then some [0,1,4,5,6,8,9,10,22,23,24] else if r=13 then some [0,1,4,5,6,8,9,10,11,12,22,23,24] else if r=15 then some [0,1,4,5,6,8,9,10,11,12,22,23,24,50,51,52] else none
@[simp] def zyK:FuncId->Nat->Bool:=fun f i=>(f==95&&(i==0))||(f==999999&&(i==0))||(f==777777&&(i==95))
@[simp] def zuB:Nat->Option (List Nat):=fun r=>if r=8 then some [1,2,4,6,7,8,40,41,42] else if r=15 then some [1,2,4,6,7,8,64,65,66] else if r=19 then some [1,2,4,6,7,8,11,12,13,64,65,66,75,76] else if r=26 then some [1,2,4,6,7,8,11,15,64,65,66,117,118,119] else none
@[simp] def zuA:Nat->Option (List Nat):=fun r=>if r=5 then some [0,5,6,7] else if r=8 then some [0,5,6,7,29,30] else none
@[simp] def zuz:Nat->Option (List Nat):=fun r=>if r=4 then some [0,3,4,5,26,27] else none
@[simp] def zuy:Nat->Option (List Nat):=fun r=>if r=8 then some [2,8,10,35,36] else none
@[simp] def zux:Nat->Option (List Nat):=fun r=>if r=4 then some [0,5,6,10,11,12] else none
@[simp] def zuw:Nat->Option (List Nat):=fun r=>if r=6 then some [1,26,27,28] else if r=12 then some [1,40,41,42] else none
@[simp] def zuv:Nat->Option (List Nat):=fun r=>if r=9 then some [1,3,38,39,40] else if r=14 then some [1,3,38,39,40,49,50,51] else none
@[simp] def zuu:Nat->Option (List Nat):=fun r=>if r=5 then some [1,2,4,5,6,7,28,29,30] else if r=10 then some [1,2,4,5,6,7,8,10,28,29,30,47,48,49] else if r=20 then some [2,6,13,14,15,87,88,89] else none
@[simp] def zut:Nat->Option (List Nat):=fun r=>if r=12 then some [2,5,7,8,9,10,53,54] else if r=19 then some [2,5,7,8,10,85,86,87] else if r=23 then some [2,5,7,8,10,14,17,85,86,87,99,100] else none
@[simp] def zus:Nat->Option (List Nat):=fun r=>if r=3 then some [1,4,11,12,13] else if r=11 then some [1,4,7,36,37,38] else none
@[simp] def zur:Nat->Option (List Nat):=fun r=>if r=4 then some [2,3,4,5,8,10,11,35,36,37] else if r=10 then some [2,4,5,8,10,11,14,53,54,55] else if r=13 then some [2,4,5,8,10,11,14,16,53,54,55,60,61] else none
@[simp] def zuq:Nat->Option (List Nat):=fun r=>if r=5 then some [1,2,3,8,33,34,35] else none
@[simp] def zup:Nat->Option (List Nat):=fun r=>if r=3 then some [0,1,5,6] else if r=6 then some [0,1,5,6,7] else none
@[simp] def zuo:Nat->Option (List Nat):=fun r=>if r=2 then some [1,2,3,12,13] else if r=6 then some [1,2,3,7,8,12,13,17,18,19] else none
@[simp] def zun:Nat->Option (List Nat):=fun r=>if r=3 then some [2,3,4,11,12,13] else if r=10 then some [2,3,4,35,36,37] else if r=15 then some [2,4,67,68,69] else none
@[simp] def zum:Nat->Option (List Nat):=fun r=>if r=2 then some [1,10,11,12] else if r=8 then some [1,7,10,11,12,22,23,24] else none
@[simp] def zul:Nat->Option (List Nat):=fun r=>if r=11 then some [6,7,8,35,36,37] else if r=16 then some [6,7,8,11,35,36,37] else if r=19 then some [6,7,8,11,35,36,37,55,56,57] else none
@[simp] def zuk:Nat->Option (List Nat):=fun r=>if r=5 then some [0,2,8,9,10,11,20,21,22] else none
@[simp] def zuj:Nat->Option (List Nat):=fun r=>if r=2 then some [0,1,9,10,11] else none
@[simp] def zui:Nat->Option (List Nat):=fun r=>if r=3 then some [0,1,5,14,15] else none
@[simp] def zuh:Nat->Option (List Nat):=fun r=>if r=4 then some [0,12,13,14] else none
@[simp] def zug:Nat->Option (List Nat):=fun r=>if r=5 then some [2,5,37,38,39] else if r=10 then some [2,5,37,38,39,51,52,53] else none
@[simp] def zuf:Nat->Option (List Nat):=fun r=>if r=6 then some [2,4,5,7,31,32] else if r=11 then some [2,4,7,39,40,41] else none
@[simp] def zue:Nat->Option (List Nat):=fun r=>if r=5 then some [1,3,4,24,25,26] else if r=10 then some [1,3,4] else if r=13 then some [1,3,4,7,8,46,47,48] else if r=17 then some [1,3,4,7,8,9,11,46,47,48,58,59,60] else none
@[simp] def zyJ:FuncId->Nat->Bool:=fun f i=>(f==175&&(i==0))||(f==999999&&(i==0))
@[simp] def zud:Nat->Option (List Nat):=fun r=>if r=3 then some [1,2,4,5,24,25,26] else if r=9 then some [1,2,4,5,8,44,45,46] else if r=13 then some [1,2,4,5,8,9,10,44,45,46,59,60] else if r=20 then some [1,4,8,87,88] else if r=24 then some [1,4,8,12,13,87,88,97,98,99] else if r=27 then some [1,4,8,12,13,15,16,87,88,97,98,99,104,105,106] else none
@[simp] def zuc:Nat->Option (List Nat):=fun r=>if r=4 then some [1,4,5,15,16] else if r=8 then some [1,4,5,6,15,16,24,25,26] else none
@[simp] def zub:Nat->Option (List Nat):=fun r=>if r=4 then some [1,2,5,6,23,24] else if r=8 then some [1,2,5,6,7,23,24,33,34] else if r=17 then some [1,2,9,60,61,62] else if r=21 then some [1,2,9,11,60,61,62,75,76] else none
@[simp] def zua:Nat->Option (List Nat):=fun r=>if r=5 then some [1,2,5,21,22,23] else if r=12 then some [2,5,8,45,46,47] else if r=15 then some [2,5,8,10,45,46,47,51,52,53] else none
@[simp] def zu9:Nat->Option (List Nat):=fun r=>if r=6 then some [2,6,7,8,9] else if r=9 then some [2,6,7,8,9,38,39,40] else none
@[simp] def zyI:FuncId->Nat->Bool:=fun f i=>(f==181&&(i==0))||(f==999999&&(i==0))
@[simp] def zu8:Nat->Option (List Nat):=fun r=>if r=3 then some [1,5,8,9,10] else none
@[simp] def zu7:Nat->Option (List Nat):=fun r=>if r=3 then some [1,2,5,15,16] else if r=8 then some [1,2,5,25,26] else if r=11 then some [1,2,5,7,25,26,29,30,31] else none
@[simp] def zu6:Nat->Option (List Nat):=fun r=>if r=3 then some [0,1,5,14,15,16] else if r=9 then some [0,5,8,28,29,30] else none
@[simp] def zu5:Nat->Option (List Nat):=fun r=>if r=3 then some [3,10,11,12] else none
@[simp] def zu4:Nat->Option (List Nat):=fun r=>if r=3 then some [0,1,2,8,9,10] else none
@[simp] def zu3:Nat->Option (List Nat):=fun r=>if r=3 then some [1,5,11,12,13] else none
@[simp] def zu2:Nat->Option (List Nat):=fun r=>if r=4 then some [11,14,38,39] else if r=11 then some [0,3,4,11,87,88,89] else none
@[simp] def zyH:FuncId->Nat->Bool:=fun f i=>(f==205&&(i==0))||(f==999999&&(i==0))
@[simp] def zu1:Nat->Option (List Nat):=fun r=>if r=5 then some [0,2,3,8,11,12,13] else if r=10 then some [0,2,3,8,11,12,13,14,15,36,37] else none
@[simp] def zu0:Nat->Option (List Nat):=fun r=>if r=5 then some [2,6,7,8,9] else if r=8 then some [2,6,7,8,9,30,31] else none
@[simp] def ztZ:Nat->Option (List Nat):=fun r=>if r=3 then some [1,2,7,11,12,13] else none
@[simp] def zyG:FuncId->Nat->Bool:=fun f i=>(f==208&&(i==0))||(f==209&&(i==0))||(f==999999&&(i==0))
@[simp] def ztY:Nat->Option (List Nat):=fun r=>if r=2 then some [0,1,2,6,7,8] else if r=7 then some [0,1,2,6] else if r=9 then some [0,1,2,6,7,8] else none
@[simp] def ztX:Nat->Option (List Nat):=fun r=>if r=1 then some [0,1,2,3,8] else if r=4 then some [0,1,2,3,8,9] else none
@[simp] def zyF:FuncId->Nat->Bool:=fun f i=>(f==229&&(i==0))||(f==209&&(i==0))||(f==999999&&(i==0))
@[simp] def ztW:Nat->Option (List Nat):=fun r=>if r=3 then some [0,1,4,10,11] else if r=9 then some [0,10,13] else if r=15 then some [0,2,4,14,15] else if r=21 then some [0,14,17] else if r=33 then some [0,1,2,3,4,18,19,20,21,22] else none
@[simp] def ztV:Nat->Option (List Nat):=fun r=>if r=4 then some [0,13,14,15] else none
@[simp] def zyE:FuncId->Nat->Bool:=fun f i=>(f==236&&(i==0))||(f==999999&&(i==0))
@[simp] def ztU:Nat->Option (List Nat):=fun r=>if r=2 then some [0,2,4,10,11] else none
@[simp] def zyD:FuncId->Nat->Bool:=fun f i=>(f==237&&(i==0))||(f==999999&&(i==0))||(f==777777&&(i==238))
@[simp] def ztT:Nat->Option (List Nat):=fun r=>if r=1 then some [0,1,2,3,10] else none
@[simp] def ztS:Nat->Option (List Nat):=fun r=>if r=4 then some [0,3] else if r=9 then some [0,3,4,5] else none
abbrev KX(c:Cfg)(w:FuncId->Nat->Bool)(l:Nat->Option (List Nat))(r:Nat->List Nat):Prop:=c.wio=w/\c.live=l/\c.wr=r
def C0(w:FuncId->Nat->Bool)(l:Nat->Option (List Nat)):Cfg:= {wio:=w,live:=l,dr:=fun r=>none}
def cf8:Cfg:= {wio:=zyO,live:=z0X,dr:=fun r=>if r=3 then some [(0,0),(2,0),(3,0),(1,1),(4,2),(5,0)] else if r=10 then some [(0,0),(1,0),(2,0),(3,0),(4,0),(5,0),(6,0),(7,1),(8,0),(9,0),(10,0),(11,0),(12,0),(13,0),(14,0),(15,0),(16,0),(17,0),(18,0),(19,0),(20,0),(21,0),(22,0),(23,1),(24,0),(25,0)] else none}
def zGS:Cfg:=C0 z0n z0X
def zGR:Cfg:= {wio:=zyN,live:=z0X,dr:=fun r=>none,fz:=fun r=>if r=999998 then some [] else none}
def zGQ:Cfg:=C0 zhK z0X
def zGP:Cfg:= {wio:=z0n,live:=zuJ,dr:=fun r=>if r=26 then some [(0,0),(2,0),(3,0),(4,0),(1,1),(5,0),(6,2),(7,0)] else none,fz:=fun r=>if r=7 then some [6] else if r=999998 then some [] else none,dt:=fun r=>if r=25 then some (.op 0 0 (.op 1 0 (.op 2 0 (.op 3 0 (.op 4 0 (.alt (.op 5 1 (.op 6 0 (.op 7 1 (.op 8 2 .nil)))) (.op 7 1 (.op 5 1 (.op 6 0 (.op 8 2 .nil)))))))))) else none}
def zGO:Cfg:=C0 zyM z0X
def zGN:Cfg:=C0 z0n zuI
def zGM:Cfg:= {wio:=zhK,live:=fun r=>if r=3 then some [0,1,7,8] else none,dr:=fun r=>none}
def zGL:Cfg:= {wio:=z0n,live:=ziG,dr:=fun r=>if r=6 then some [(0,0),(1,0),(2,0),(3,0),(4,0),(5,0),(6,0),(7,0),(8,0)] else none}
def zGK:Cfg:= {wio:=z0n,live:=z0X,dr:=fun r=>if r=1 then some [(0,0),(1,0),(2,0),(3,0),(4,0),(5,0),(6,0),(7,0),(8,0),(9,0)] else if r=4 then some [(0,0),(1,0),(2,0),(3,0),(4,0),(5,0),(6,0),(7,0),(8,0),(9,0),(10,0),(11,0),(12,1),(13,0)] else none}
def zGJ:Cfg:=C0 z0n z0X
def zGI:Cfg:= {wio:=zhK,live:=zuH,dr:=fun r=>if r=7 then some [(0,0),(1,0),(2,0),(3,1),(4,0),(5,1),(6,2),(7,0),(8,2)] else none,wr:=zEp}
def zkC:SchT:=.nil
def zkD:SchT:=.op 16 2 zkC
def zkE:SchT:=.op 15 0 zkD
def zkF:SchT:=.op 14 2 zkE
def zfR:SchT:=.op 12 2 zkF
def zfS:SchT:=.op 11 1 zfR
def zfT:SchT:=.op 13 3 zfR
def zaM:SchT:=.op 6 2 zfT
def zfU:SchT:=.op 8 2 zfT
def zkG:SchT:=.op 10 1 zfS
def zfV:SchT:=.op 13 3 zfS
def zcM:SchT:=.op 1 2 zaM
def zaN:SchT:=.op 5 1 zaM
def zcN:SchT:=.alt (.op 6 2 zfU) (.op 8 2 zaM)
def zaO:SchT:=.alt (.op 6 2 zfV) (.op 11 1 zaM)
def zfW:SchT:=.alt (.op 8 2 zfV) (.op 11 1 zfU)
def zfX:SchT:=.op 13 3 zkG
def zcO:SchT:=.alt (.op 1 2 zaN) (.op 5 1 zcM)
def zfY:SchT:=.alt (.op 1 2 zcN) (.op 8 2 zcM)
def zcP:SchT:=.alt (.op 1 2 zaO) (.op 11 1 zcM)
def zkH:SchT:=.op 4 0 zaN
def zcQ:SchT:=.alt (.op 5 1 zcN) (.op 8 2 zaN)
def zaP:SchT:=.alt (.op 5 1 zaO) (.op 11 1 zaN)
def zcR:SchT:=.alt (.op 6 2 zfW) (.alt (.op 8 2 zaO) (.op 11 1 zcN))
def zcS:SchT:=.alt (.op 6 2 zfX) (.op 10 1 zaO)
def zkI:SchT:=.alt (.op 8 2 zfX) (.op 10 1 zfW)
def zkJ:SchT:=.op 4 3 zcO
def zfZ:SchT:=.alt (.op 1 2 zcQ) (.alt (.op 5 1 zfY) (.op 8 2 zcO))
def zcT:SchT:=.alt (.op 1 2 zaP) (.alt (.op 5 1 zcP) (.op 11 1 zcO))
def zg0:SchT:=.alt (.op 1 2 zcR) (.alt (.op 8 2 zcP) (.op 11 1 zfY))
def zg1:SchT:=.alt (.op 1 2 zcS) (.op 10 1 zcP)
def zcU:SchT:=.op 3 1 zkH
def zkK:SchT:=.op 4 3 zcQ
def zkL:SchT:=.op 4 0 zaP
def zcV:SchT:=.alt (.op 5 1 zcR) (.alt (.op 8 2 zaP) (.op 11 1 zcQ))
def zcW:SchT:=.alt (.op 5 1 zcS) (.op 10 1 zaP)
def zg2:SchT:=.alt (.op 6 2 zkI) (.alt (.op 8 2 zcS) (.op 10 1 zcR))
def zg3:SchT:=.alt (.op 1 2 zcU) (.op 3 1 zkJ)
def zkM:SchT:=.op 4 3 zfZ
def zkN:SchT:=.op 4 3 zcT
def zg4:SchT:=.alt (.op 1 2 zcV) (.alt (.op 5 1 zg0) (.alt (.op 8 2 zcT) (.op 11 1 zfZ)))
def zg5:SchT:=.alt (.op 1 2 zcW) (.alt (.op 5 1 zg1) (.op 10 1 zcT))
def zkO:SchT:=.alt (.op 1 2 zg2) (.alt (.op 8 2 zg1) (.op 10 1 zg0))
def zg6:SchT:=.alt (.op 3 1 zkK) (.op 8 2 zcU)
def zcX:SchT:=.alt (.op 3 1 zkL) (.op 11 1 zcU)
def zkP:SchT:=.op 4 3 zcV
def zkQ:SchT:=.op 4 0 zcW
def zg7:SchT:=.alt (.op 5 1 zg2) (.alt (.op 8 2 zcW) (.op 10 1 zcV))
def zkR:SchT:=.alt (.op 1 2 zg6) (.alt (.op 3 1 zkM) (.op 8 2 zg3))
def zg8:SchT:=.alt (.op 1 2 zcX) (.alt (.op 3 1 zkN) (.op 11 1 zg3))
def zkS:SchT:=.op 4 3 zg4
def zkT:SchT:=.op 4 3 zg5
def zkU:SchT:=.alt (.op 1 2 zg7) (.alt (.op 5 1 zkO) (.alt (.op 8 2 zg5) (.op 10 1 zg4)))
def zg9:SchT:=.alt (.op 3 1 zkP) (.alt (.op 8 2 zcX) (.op 11 1 zg6))
def zga:SchT:=.alt (.op 3 1 zkQ) (.op 10 1 zcX)
def zo3:SchT:=.op 4 3 zg7
def zo4:SchT:=.alt (.op 1 2 zg9) (.alt (.op 3 1 zkS) (.alt (.op 8 2 zg8) (.op 11 1 zkR)))
def zo5:SchT:=.alt (.op 1 2 zga) (.alt (.op 3 1 zkT) (.op 10 1 zg8))
def zo6:SchT:=.op 4 3 zkU
def zo7:SchT:=.alt (.op 3 1 zo3) (.alt (.op 8 2 zga) (.op 10 1 zg9))
def zo8:SchT:=.alt (.op 1 2 zo7) (.alt (.op 3 1 zo6) (.alt (.op 8 2 zo5) (.op 10 1 zo4)))
def zo9:SchT:=.op 9 3 zo8
def zoa:SchT:=.op 7 3 zo9
def zob:SchT:=.op 2 3 zoa
def zoc:SchT:=.op 0 3 zob
def zFV:Cfg:= {wio:=zhK,live:=zuG,dr:=fun r=>if r=20 then some [(0,0),(1,0),(2,0),(3,0),(4,0),(5,0),(6,0),(7,0),(8,0),(9,0),(10,0),(11,2)] else if r=21 then some [(1,0),(2,0),(3,0),(5,3),(6,3),(7,3),(8,3),(0,1),(4,2),(9,2),(10,0)] else none,wr:=zEp,fz:=fun r=>if r=999998 then some [] else none,dt:=fun r=>if r=7 then some (zoc) else none}
def zGH:Cfg:= {wio:=zyL,live:=zuF,dr:=fun r=>none,fz:=fun r=>if r=999998 then some [] else none}
def zGG:Cfg:=C0 z0n z0X
def zGF:Cfg:= {wio:=z0n,live:=zuE,dr:=fun r=>none,fz:=fun r=>if r=11 then some [6] else if r=999998 then some [] else none,dt:=fun r=>if r=15 then some (.op 0 0 (.op 1 0 (.op 2 0 (.op 3 0 (.op 4 0 (.op 5 0 (.op 6 0 (.alt (.op 7 1 (.op 8 0 (.op 9 0 (.op 10 3 (.op 11 1 (.op 12 2 (.op 13 0 .nil))))))) (.op 11 1 (.op 7 1 (.op 8 0 (.op 9 0 (.op 10 3 (.op 12 2 (.op 13 0 .nil))))))))))))))) else none}
def zGE:Cfg:=C0 z0n z0X
def zGD:Cfg:= {wio:=z0n,live:=zuD,dr:=fun r=>if r=6 then some [(0,0),(1,0),(2,0),(3,0),(4,0),(5,0),(6,0),(7,0),(8,0),(9,0),(10,0),(11,0)] else none}
def zGC:Cfg:= {wio:=zhK,live:=zuC,dr:=fun r=>if r=6 then some [(0,0),(1,0),(2,0),(3,1),(4,0),(5,1),(6,2),(7,0),(8,2)] else none,wr:=fun r=>if r=6 then [0] else []}
def zGB:Cfg:= {wio:=zyK,live:=zuB,dr:=fun r=>if r=25 then some [(0,0),(1,0),(2,0),(3,0),(4,0),(5,0),(6,0),(7,0),(8,0),(9,0),(10,0),(11,0),(12,0),(13,0)] else if r=28 then some [(0,0),(1,0),(2,0),(3,0),(4,0),(5,0),(6,0),(7,0),(8,0),(9,0),(10,0),(11,0),(12,0),(13,0),(14,1),(15,0),(16,0),(17,2)] else none,fz:=fun r=>if r=999998 then some [] else none,dt:=fun r=>if r=4 then some (.op 0 0 (.op 1 0 (.op 2 0 (.op 3 0 (.op 4 0 (.alt (.op 5 1 (.op 6 0 (.op 7 1 (.op 8 2 .nil)))) (.op 7 1 (.op 5 1 (.op 6 0 (.op 8 2 .nil)))))))))) else none}
def zGA:Cfg:=C0 z0n z0X
def zGz:Cfg:=C0 z0n z0X
def zGy:Cfg:= {wio:=z0n,live:=fun r=>if r=6 then some [1,5,26,27] else none,dr:=fun r=>none,fz:=fun r=>if r=999998 then some [] else none}
def zGx:Cfg:= {wio:=zwx,live:=zuA,dr:=fun r=>none,fz:=fun r=>if r=2 then some [4] else if r=11 then some [9] else if r=999998 then some [] else none}
def zGw:Cfg:= {wio:=z0n,live:=z0X,dr:=fun r=>if r=2 then some [(0,0),(1,0),(2,0),(3,0),(4,0),(5,0),(6,0),(7,0),(8,0),(9,0),(10,0),(11,0),(12,0),(13,0),(14,1),(15,0)] else none}
def zGv:Cfg:= {wio:=z0n,live:=zuz,dr:=fun r=>if r=2 then some [(0,0),(1,0),(2,0),(3,0),(4,0),(5,0),(6,0),(7,0),(8,0),(9,0),(10,0),(11,1),(12,0),(13,0)] else if r=8 then some [(0,0),(1,0),(2,0),(3,0),(4,0),(5,0),(6,0),(7,0),(8,0),(9,0),(10,0),(11,0),(12,0),(13,0)] else none}
def zGu:Cfg:= {wio:=z0n,live:=ziG,dr:=fun r=>if r=6 then some [(0,0),(1,0),(2,0),(3,0),(4,0),(5,0),(6,0),(7,0),(8,1),(9,0)] else none}
def zGt:Cfg:= {wio:=z0n,live:=zuy,dr:=fun r=>if r=10 then some [(0,0),(1,0),(2,0),(3,0),(4,0),(5,0),(6,0),(7,1),(8,0),(9,0),(10,0),(11,0),(12,0)] else none}
def zGs:Cfg:= {wio:=z0n,live:=ziG,dr:=fun r=>if r=6 then some [(0,0),(1,0),(2,0),(3,0),(4,0),(5,0),(6,0),(7,0),(8,0)] else none}
def zGr:Cfg:=C0 z0n zux
def zGq:Cfg:= {wio:=z0n,live:=zuw,dr:=fun r=>if r=14 then some [(0,0),(1,0),(2,1),(3,0),(4,0),(5,0),(6,0),(7,0),(8,0),(9,0),(10,0),(11,0),(12,0),(13,0),(14,0),(15,0),(16,0),(17,1),(18,0),(19,0),(20,0)] else none}
def zGp:Cfg:=C0 z0n zuv
def zGo:Cfg:= {wio:=z0n,live:=zuu,dr:=fun r=>if r=14 then some [(0,0),(1,0),(2,0),(3,0),(4,0),(5,0),(6,0),(7,1),(8,2),(9,0),(10,2)] else none}
def zhZ:SchT:=.nil
def zdL:SchT:=.op 13 2 zhZ
def z9G:SchT:=.op 11 0 zdL
def zi0:SchT:=.op 12 1 zdL
def z9H:SchT:=.op 4 1 z9G
def z9I:SchT:=.op 6 1 z9G
def z9J:SchT:=.op 8 1 z9G
def z9K:SchT:=.op 10 1 z9G
def z9L:SchT:=.op 11 0 zi0
def zbi:SchT:=.alt (.op 4 1 z9I) (.op 6 1 z9H)
def zbj:SchT:=.alt (.op 4 1 z9J) (.op 8 1 z9H)
def zbk:SchT:=.alt (.op 4 1 z9K) (.op 10 1 z9H)
def zbl:SchT:=.alt (.op 4 1 z9L) (.op 12 1 z9H)
def zbm:SchT:=.alt (.op 6 1 z9J) (.op 8 1 z9I)
def zbn:SchT:=.alt (.op 6 1 z9K) (.op 10 1 z9I)
def zbo:SchT:=.alt (.op 6 1 z9L) (.op 12 1 z9I)
def zbp:SchT:=.alt (.op 8 1 z9K) (.op 10 1 z9J)
def zbq:SchT:=.alt (.op 8 1 z9L) (.op 12 1 z9J)
def zbr:SchT:=.alt (.op 10 1 z9L) (.op 12 1 z9K)
def zdM:SchT:=.alt (.op 4 1 zbm) (.alt (.op 6 1 zbj) (.op 8 1 zbi))
def zdN:SchT:=.alt (.op 4 1 zbn) (.alt (.op 6 1 zbk) (.op 10 1 zbi))
def zdO:SchT:=.alt (.op 4 1 zbo) (.alt (.op 6 1 zbl) (.op 12 1 zbi))
def zdP:SchT:=.alt (.op 4 1 zbp) (.alt (.op 8 1 zbk) (.op 10 1 zbj))
def zdQ:SchT:=.alt (.op 4 1 zbq) (.alt (.op 8 1 zbl) (.op 12 1 zbj))
def zdR:SchT:=.alt (.op 4 1 zbr) (.alt (.op 10 1 zbl) (.op 12 1 zbk))
def zdS:SchT:=.alt (.op 6 1 zbp) (.alt (.op 8 1 zbn) (.op 10 1 zbm))
def zdT:SchT:=.alt (.op 6 1 zbq) (.alt (.op 8 1 zbo) (.op 12 1 zbm))
def zdU:SchT:=.alt (.op 6 1 zbr) (.alt (.op 10 1 zbo) (.op 12 1 zbn))
def zdV:SchT:=.alt (.op 8 1 zbr) (.alt (.op 10 1 zbq) (.op 12 1 zbp))
def zi1:SchT:=.alt (.op 4 1 zdS) (.alt (.op 6 1 zdP) (.alt (.op 8 1 zdN) (.op 10 1 zdM)))
def zi2:SchT:=.alt (.op 4 1 zdT) (.alt (.op 6 1 zdQ) (.alt (.op 8 1 zdO) (.op 12 1 zdM)))
def zi3:SchT:=.alt (.op 4 1 zdU) (.alt (.op 6 1 zdR) (.alt (.op 10 1 zdO) (.op 12 1 zdN)))
def zks:SchT:=.alt (.op 4 1 zdV) (.alt (.op 8 1 zdR) (.alt (.op 10 1 zdQ) (.op 12 1 zdP)))
def zkt:SchT:=.alt (.op 6 1 zdV) (.alt (.op 8 1 zdU) (.alt (.op 10 1 zdT) (.op 12 1 zdS)))
def zku:SchT:=.alt (.op 4 1 zkt) (.alt (.op 6 1 zks) (.alt (.op 8 1 zi3) (.alt (.op 10 1 zi2) (.op 12 1 zi1))))
def zkv:SchT:=.op 9 0 zku
def zkw:SchT:=.op 7 0 zkv
def zkx:SchT:=.op 5 0 zkw
def zky:SchT:=.op 3 0 zkx
def zkz:SchT:=.op 2 0 zky
def zkA:SchT:=.op 1 0 zkz
def zkB:SchT:=.op 0 0 zkA
def zFU:Cfg:= {wio:=z0n,live:=zut,dr:=fun r=>if r=14 then some [(0,0),(1,0),(2,0),(3,0),(4,0),(5,1),(6,0),(7,2)] else if r=16 then some [(0,0),(1,0),(2,0),(3,0),(4,0),(5,0),(6,0),(7,0),(8,0),(9,0),(10,0),(11,0),(12,0),(13,0),(14,2)] else if r=26 then some [(0,0),(1,0),(2,0),(3,0),(4,0),(5,0),(6,0),(7,0),(8,2)] else none,fz:=fun r=>if r=8 then some [5] else if r=10 then some [8] else if r=999998 then some [] else none,dt:=fun r=>if r=10 then some (zkB) else none}
def zGn:Cfg:= {wio:=zpU,live:=zus,dr:=fun r=>if r=13 then some [(0,0),(1,0),(2,0),(3,0),(4,0),(5,0),(6,0),(7,0)] else if r=17 then some [(0,0),(1,0),(2,0),(3,0)] else none,fz:=fun r=>if r=16 then some [1,4] else if r=999998 then some [] else none,dt:=fun r=>if r=7 then some (.op 1 3 (.op 2 0 (.op 3 0 (.op 4 0 (.op 5 0 (.op 6 0 (.alt (.op 0 1 (.op 7 1 (.op 8 2 (.op 9 0 (.op 10 2 .nil))))) (.op 7 1 (.alt (.op 0 1 (.op 8 2 (.op 9 0 (.op 10 2 .nil)))) (.op 8 2 (.op 0 1 (.op 9 0 (.op 10 2 .nil))))))))))))) else none}
def zGm:Cfg:= {wio:=z0n,live:=zur,dr:=fun r=>if r=6 then some [(0,0),(1,0),(2,0),(3,0),(4,0),(5,0),(6,0),(7,1),(8,2),(9,0),(10,2)] else if r=16 then some [(0,0),(1,0),(2,0),(4,0),(5,0),(6,0),(7,0),(8,0),(3,1),(9,1),(10,0),(11,0)] else if r=17 then some [(0,0),(1,0),(2,0),(3,0),(4,0),(5,0),(6,0),(7,0),(8,0),(9,0),(10,0)] else if r=18 then some [(0,0),(1,0),(2,0),(3,0),(4,0),(5,0),(6,0),(7,0),(8,0),(9,0),(10,0),(11,0),(12,0),(13,0)] else if r=19 then some [(0,0),(1,0),(3,0),(4,0),(2,1),(5,1),(6,0)] else none,fz:=fun r=>if r=999998 then some [] else none}
def zGl:Cfg:=C0 z0n z0X
def zGk:Cfg:= {wio:=z0n,live:=zuq,dr:=fun r=>if r=7 then some [(0,0),(1,0),(2,0),(3,0),(4,0),(5,0),(6,1),(7,0),(8,0),(9,0),(10,0),(11,0)] else none}
def zGj:Cfg:=C0 z0n zoR
def zGi:Cfg:= {wio:=z0n,live:=fun r=>if r=4 then some [0,1,18,19] else none,dr:=fun r=>none}
def zGh:Cfg:= {wio:=z0n,live:=zup,dr:=fun r=>if r=8 then some [(0,0),(1,0),(2,0),(3,0),(4,0),(5,0),(6,0),(7,0),(8,1),(9,0),(10,0),(11,1),(12,2),(13,0)] else none}
def zGg:Cfg:=C0 z0n zuo
def zGf:Cfg:= {wio:=zpU,live:=zun,dr:=fun r=>if r=17 then some [(0,0),(1,0),(2,0),(3,0),(4,0),(5,0),(6,0),(7,1),(8,0),(9,2)] else none,fz:=fun r=>if r=8 then some [3] else none,dt:=fun r=>if r=12 then some (.op 1 0 (.op 2 0 (.op 3 0 (.op 4 0 (.op 5 0 (.op 6 0 (.op 7 0 (.op 8 0 (.op 9 0 (.op 10 0 (.op 11 0 (.op 12 0 (.op 13 0 (.op 14 0 (.op 15 0 (.op 16 0 (.alt (.op 0 1 (.op 17 1 (.op 18 2 (.op 19 0 (.op 20 0 (.op 21 2 .nil)))))) (.op 17 1 (.alt (.op 0 1 (.op 18 2 (.op 19 0 (.op 20 0 (.op 21 2 .nil))))) (.op 18 2 (.op 0 1 (.op 19 0 (.op 20 0 (.op 21 2 .nil)))))))))))))))))))))))) else none}
def zGe:Cfg:=C0 z0n zoQ
def zGd:Cfg:=C0 z0n zum
def zGc:Cfg:= {wio:=zwx,live:=zul,dr:=fun r=>none,fz:=fun r=>if r=7 then some [5] else if r=22 then some [14] else if r=999998 then some [] else none}
def zGb:Cfg:= {wio:=z0n,live:=zuk,dr:=fun r=>if r=12 then some [(0,0),(1,0),(2,0),(3,0),(4,0),(5,0),(6,0),(7,0),(8,0),(9,0),(10,0),(11,0),(12,0),(13,0)] else none}
def zEc:Cfg:=C0 z0n zuj
def zEb:Cfg:= {wio:=z0n,live:=zui,dr:=fun r=>none,fz:=fun r=>if r=999998 then some [] else none}
def zEa:Cfg:= {wio:=z0n,live:=fun r=>if r=3 then some [3,6,7,8] else none,dr:=fun r=>none}
def zE9:Cfg:=C0 z0n z0X
def zE8:Cfg:=C0 z0n zoQ
def zE7:Cfg:= {wio:=z0n,live:=z0X,dr:=fun r=>none,fz:=fun r=>if r=1 then some [3,5] else none}
def zE6:Cfg:=C0 z0n zuh
def zE5:Cfg:= {wio:=z0n,live:=zug,dr:=fun r=>if r=2 then some [(0,0),(1,0),(2,0),(3,0),(4,0),(5,0),(6,0),(7,0),(8,0),(9,0),(10,0),(11,0),(12,1),(13,0),(14,0),(15,0),(16,0),(17,0),(18,0),(19,0),(20,0),(21,0),(22,0)] else none}
def zE4:Cfg:=C0 z0n z0X
def zE3:Cfg:=C0 z0n zuf
def zE2:Cfg:=C0 z0n zue
def zE1:Cfg:=C0 z0n z0X
def zE0:Cfg:= {wio:=zyJ,live:=fun r=>if r=3 then some [3,18,19] else none,dr:=fun r=>if r=1 then some [(0,0),(1,0),(2,0),(3,0),(4,0),(5,0),(6,1),(7,0),(8,0),(9,0),(10,0),(11,0)] else none}
def zDZ:Cfg:= {wio:=z0n,live:=zud,dr:=fun r=>if r=11 then some [(0,0),(1,0),(2,0),(3,0),(4,0),(5,1),(6,0),(7,2)] else if r=15 then some [(0,0),(1,0),(2,0),(3,0),(4,0),(5,0),(6,0),(7,0),(8,0),(9,0),(10,1),(11,0),(12,0),(13,0),(14,2)] else if r=17 then some [(0,0),(1,0),(2,0),(3,0),(4,0),(5,1),(6,0),(7,2)] else none,dt:=fun r=>if r=7 then some (.op 0 0 (.op 1 0 (.op 2 0 (.op 4 0 (.op 5 0 (.alt (.op 3 1 (.alt (.op 6 1 (.op 7 0 (.op 8 1 (.op 9 2 .nil)))) (.op 8 1 (.op 6 1 (.op 7 0 (.op 9 2 .nil)))))) (.alt (.op 6 1 (.alt (.op 3 1 (.op 7 0 (.op 8 1 (.op 9 2 .nil)))) (.op 8 1 (.op 3 1 (.op 7 0 (.op 9 2 .nil)))))) (.op 8 1 (.alt (.op 3 1 (.op 6 1 (.op 7 0 (.op 9 2 .nil)))) (.op 6 1 (.op 3 1 (.op 7 0 (.op 9 2 .nil))))))))))))) else none}
def zDY:Cfg:=C0 z0n zuc
def zDX:Cfg:= {wio:=zpU,live:=zub,dr:=fun r=>if r=23 then some [(0,0),(1,0),(2,0),(3,0),(4,0),(5,0),(6,0),(7,0),(8,0),(9,0),(10,0),(11,0),(12,0),(13,0),(14,0),(15,0),(16,0),(17,0),(18,0)] else if r=24 then some [(0,0),(1,0),(2,0),(3,0),(4,0),(5,0),(6,0),(7,0),(8,0),(9,0),(10,0),(11,0),(12,0),(13,2)] else none,fz:=fun r=>if r=14 then some [5] else none}
def zDW:Cfg:= {wio:=z0n,live:=zua,dr:=fun r=>if r=17 then some [(0,0),(1,0),(2,0),(3,0),(4,0),(5,0),(6,0),(7,0),(8,0),(9,0),(10,0),(11,0),(12,0),(13,0),(14,1),(15,0)] else none}
def zDV:Cfg:= {wio:=z0n,live:=zu9,dr:=fun r=>if r=8 then some [(0,0),(1,0),(2,0),(3,0),(4,0),(5,0),(6,0),(7,0),(8,0),(9,0)] else if r=13 then some [(0,0),(1,0),(2,0),(3,0),(4,0),(5,0),(6,0),(7,0),(8,0),(9,0),(10,0),(11,0),(12,1),(13,0),(14,0),(15,0),(16,2)] else none}
def zDU:Cfg:=C0 zyI z0X
def zDT:Cfg:= {wio:=z0n,live:=z0X,dr:=fun r=>if r=1 then some [(0,0),(1,0),(2,0),(3,0),(4,0),(5,0),(6,0),(7,0),(8,0),(9,0),(10,0),(11,0),(12,0),(13,0),(14,0),(15,0),(16,0),(17,0),(18,0),(19,0),(20,1),(21,0)] else none}
def zDS:Cfg:=C0 z0n zu8
def zDR:Cfg:= {wio:=z0n,live:=zu7,dr:=fun r=>if r=13 then some [(0,0),(1,0),(2,0),(3,0),(4,0),(5,0),(6,0),(7,0),(8,0),(9,0),(10,0),(11,0),(12,0),(13,0),(14,2)] else none}
def zDQ:Cfg:=C0 z0n zu6
def zDP:Cfg:= {wio:=z0n,live:=fun r=>if r=2 then some [5,6,7] else none,dr:=fun r=>none}
def zDO:Cfg:=C0 z0n zu5
def zDN:Cfg:=C0 z0n zu4
def zDM:Cfg:=C0 z0n z0X
def zDL:Cfg:= {wio:=z0n,live:=z0X,dr:=fun r=>if r=1 then some [(0,0),(1,0),(2,0),(3,0),(4,0),(5,0),(6,0),(7,0),(8,0),(9,0),(10,0),(11,0),(12,0),(13,0),(14,0),(15,0),(16,0),(17,0),(18,0),(19,0),(20,0),(21,0),(22,1),(23,0)] else none}
def zDK:Cfg:= {wio:=z0n,live:=fun r=>if r=2 then some [1,7,8,9] else none,dr:=fun r=>none}
def zDJ:Cfg:= {wio:=z0n,live:=fun r=>if r=5 then some [3,14,15] else none,dr:=fun r=>none}
def zDI:Cfg:=C0 z0n zoR
def zDH:Cfg:=C0 z0n zu3
def zDG:Cfg:= {wio:=z0n,live:=zu2,dr:=fun r=>if r=13 then some [(0,0),(1,0),(2,0),(3,0),(4,0),(5,0),(6,0),(7,0),(8,0),(9,0),(10,0),(11,0),(12,0),(13,0),(14,0),(15,0),(16,0),(17,0),(18,0),(19,1),(20,0),(21,0),(22,2)] else none}
def zDF:Cfg:=C0 z0n z0X
def zDE:Cfg:= {wio:=z0n,live:=z0X,dr:=fun r=>if r=1 then some [(0,0),(1,0),(2,0),(3,0),(4,0),(5,0),(6,0),(7,0),(8,0),(9,0),(10,0),(11,0),(12,0),(13,0),(14,0),(15,0),(16,0),(17,0),(18,0)] else none}
def zDD:Cfg:= {wio:=zyH,live:=zu1,dr:=fun r=>if r=17 then some [(0,0),(1,0),(2,0),(3,0),(4,1),(5,1),(6,2),(7,0),(8,2)] else none,dt:=fun r=>if r=18 then some (.op 1 3 (.alt (.op 0 2 (.alt (.op 2 2 (.op 3 2 (.op 4 0 (.op 5 0 .nil)))) (.op 3 2 (.op 2 2 (.op 4 0 (.op 5 0 .nil)))))) (.op 2 2 (.op 0 2 (.op 3 2 (.op 4 0 (.op 5 0 .nil))))))) else none}
def zDC:Cfg:=C0 z0n z0X
def zDB:Cfg:=C0 z0n z0X
def zDA:Cfg:= {wio:=z0n,live:=zu0,dr:=fun r=>if r=10 then some [(0,0),(1,0),(2,0),(3,0),(4,0),(5,0),(6,1),(7,0)] else if r=14 then some [(0,0),(1,0),(2,0),(3,0),(4,0),(5,0),(6,0),(7,0),(8,1),(9,0),(10,0),(11,1),(12,2),(13,0)] else none}
def zDz:Cfg:=C0 z0n z0X
def zDy:Cfg:=C0 z0n z0X
def zDx:Cfg:=C0 z0n z0X
def zDw:Cfg:=C0 z0n ztZ
def zDv:Cfg:=C0 z0n z0X
def zDu:Cfg:= {wio:=z0n,live:=z0X,dr:=fun r=>if r=1 then some [(0,0),(1,0),(2,0),(3,0),(4,0),(5,0),(6,0),(7,0),(8,1),(9,0)] else none}
def zDt:Cfg:=C0 zyG ztY
def zDs:Cfg:=C0 z0n z0X
def zDr:Cfg:=C0 z0n z0X
def zDq:Cfg:=C0 z0n z0X
def zDp:Cfg:= {wio:=z0n,live:=ztX,dr:=fun r=>if r=4 then some [(0,0),(1,0),(2,0),(3,0),(4,0),(5,0),(6,0),(7,0),(8,0),(9,0),(10,0),(11,0),(12,0),(13,0),(14,1),(15,0),(16,0)] else if r=6 then some [(0,0),(1,0),(2,3),(3,3),(4,3),(5,0),(6,0),(7,0),(8,0),(9,0),(10,0),(11,0),(12,0),(13,0),(14,0),(15,2),(16,0),(17,2)] else none}
def zDo:Cfg:= {wio:=zyF,live:=ztW,dr:=fun r=>if r=5 then some [(0,0),(1,0),(2,0),(3,0),(4,0),(5,0),(6,0),(7,0),(8,0),(9,1),(10,0)] else if r=11 then some [(0,0),(1,0),(2,3),(3,3),(4,3),(5,0),(6,0),(7,0),(8,0),(9,0),(10,0),(11,0),(12,0),(13,0),(14,0),(15,2),(16,0),(17,2)] else if r=17 then some [(0,0),(1,0),(2,0),(3,0),(4,0),(5,0),(6,0),(7,0),(8,0),(9,1),(10,0),(11,0)] else if r=23 then some [(0,0),(1,0),(2,3),(3,3),(4,3),(5,0),(6,0),(7,0),(8,0),(9,0),(10,0),(11,0),(12,0),(13,0),(14,0),(15,2),(16,0),(17,2)] else if r=35 then some [(0,0),(1,0),(2,0),(3,0),(4,0),(5,0),(6,0),(7,0),(8,0),(9,0),(10,0),(11,1),(12,0),(13,0)] else none}
def zDn:Cfg:=C0 z0n ztV
def zDm:Cfg:=C0 z0n z0X
def zDl:Cfg:= {wio:=z0n,live:=z0X,dr:=fun r=>if r=1 then some [(0,0),(1,0),(2,0),(3,0),(4,0),(5,0),(6,0),(7,0),(8,0),(9,0),(10,0),(11,0),(12,0),(13,0),(14,0),(15,0),(16,0),(17,0),(18,0)] else none}
def zDk:Cfg:=C0 z0n z0X
def zDj:Cfg:=C0 zyE ztU
def zDi:Cfg:= {wio:=zyD,live:=z0X,dr:=fun r=>none,fz:=fun r=>if r=999998 then some [] else none}
def zDh:Cfg:= {wio:=z0n,live:=ztT,dr:=fun r=>if r=3 then some [(0,0),(1,0),(2,0),(3,0),(4,3),(5,3),(6,3),(7,3),(8,0),(9,0),(10,0),(11,0),(12,0),(13,0),(14,0),(15,0),(16,0),(17,0),(18,0),(19,0),(20,0),(21,2),(22,0),(23,2)] else none}
def zDg:Cfg:= {wio:=z0n,live:=ztS,dr:=fun r=>if r=6 then some [(0,0),(1,0),(2,0),(3,0),(4,0),(5,0),(6,0),(7,0),(8,0),(9,0)] else if r=11 then some [(0,0),(1,0),(2,0),(3,0),(4,0),(5,0),(6,0),(7,0),(8,0),(9,0)] else none}
@[simp] theorem kxAll:KX cf8 zyO z0X z3O/\KX zGS z0n z0X z3O/\KX zGR zyN z0X z3O/\KX zGQ zhK z0X z3O/\KX zGP z0n zuJ z3O/\KX zGO zyM z0X z3O/\KX zGN z0n zuI z3O/\KX zGM zhK (fun r=>if r=3 then some [0,1,7,8] else none) z3O/\KX zGL z0n ziG z3O/\KX zGK z0n z0X z3O/\KX zGJ z0n z0X z3O/\KX zGI zhK zuH zEp/\KX zFV zhK zuG zEp/\KX zGH zyL zuF z3O/\KX zGG z0n z0X z3O/\KX zGF z0n zuE z3O/\KX zGE z0n z0X z3O/\KX zGD z0n zuD z3O/\KX zGC zhK zuC (fun r=>if r=6 then [0] else [])/\KX zGB zyK zuB z3O/\KX zGA z0n z0X z3O/\KX zGz z0n z0X z3O/\KX zGy z0n (fun r=>if r=6 then some [1,5,26,27] else none) z3O/\KX zGx zwx zuA z3O/\KX zGw z0n z0X z3O/\KX zGv z0n zuz z3O/\KX zGu z0n ziG z3O/\KX zGt z0n zuy z3O/\KX zGs z0n ziG z3O/\KX zGr z0n zux z3O/\KX zGq z0n zuw z3O/\KX zGp z0n zuv z3O/\KX zGo z0n zuu z3O/\KX zFU z0n zut z3O/\KX zGn zpU zus z3O/\KX zGm z0n zur z3O/\KX zGl z0n z0X z3O/\KX zGk z0n zuq z3O/\KX zGj z0n zoR z3O/\KX zGi z0n (fun r=>if r=4 then some [0,1,18,19] else none) z3O/\KX zGh z0n zup z3O/\KX zGg z0n zuo z3O/\KX zGf zpU zun z3O/\KX zGe z0n zoQ z3O/\KX zGd z0n zum z3O/\KX zGc zwx zul z3O/\KX zGb z0n zuk z3O/\KX zEc z0n zuj z3O/\KX zEb z0n zui z3O/\KX zEa z0n (fun r=>if r=3 then some [3,6,7,8] else none) z3O/\KX zE9 z0n z0X z3O/\KX zE8 z0n zoQ z3O/\KX zE7 z0n z0X z3O/\KX zE6 z0n zuh z3O/\KX zE5 z0n zug z3O/\KX zE4 z0n z0X z3O/\KX zE3 z0n zuf z3O/\KX zE2 z0n zue z3O/\KX zE1 z0n z0X z3O/\KX zE0 zyJ (fun r=>if r=3 then some [3,18,19] else none) z3O/\KX zDZ z0n zud z3O/\KX zDY z0n zuc z3O/\KX zDX zpU zub z3O/\KX zDW z0n zua z3O/\KX zDV z0n zu9 z3O/\KX zDU zyI z0X z3O/\KX zDT z0n z0X z3O/\KX zDS z0n zu8 z3O/\KX zDR z0n zu7 z3O/\KX zDQ z0n zu6 z3O/\KX zDP z0n (fun r=>if r=2 then some [5,6,7] else none) z3O/\KX zDO z0n zu5 z3O/\KX zDN z0n zu4 z3O/\KX zDM z0n z0X z3O/\KX zDL z0n z0X z3O/\KX zDK z0n (fun r=>if r=2 then some [1,7,8,9] else none) z3O/\KX zDJ z0n (fun r=>if r=5 then some [3,14,15] else none) z3O/\KX zDI z0n zoR z3O/\KX zDH z0n zu3 z3O/\KX zDG z0n zu2 z3O/\KX zDF z0n z0X z3O/\KX zDE z0n z0X z3O/\KX zDD zyH zu1 z3O/\KX zDC z0n z0X z3O/\KX zDB z0n z0X z3O/\KX zDA z0n zu0 z3O/\KX zDz z0n z0X z3O/\KX zDy z0n z0X z3O/\KX zDx z0n z0X z3O/\KX zDw z0n ztZ z3O/\KX zDv z0n z0X z3O/\KX zDu z0n z0X z3O/\KX zDt zyG ztY z3O/\KX zDs z0n z0X z3O/\KX zDr z0n z0X z3O/\KX zDq z0n z0X z3O/\KX zDp z0n ztX z3O/\KX zDo zyF ztW z3O/\KX zDn z0n ztV z3O/\KX zDm z0n z0X z3O/\KX zDl z0n z0X z3O/\KX zDk z0n z0X z3O/\KX zDj zyE ztU z3O/\KX zDi zyD z0X z3O/\KX zDh z0n ztT z3O/\KX zDg z0n ztS z3O:=by
  and_intros<;>rfl
def cg0:List (Nat×Cfg):= [(8,cf8),(12,zGS),(13,zGR),(14,zGQ),(15,zGP),(18,zGO),(20,zGN),(22,zGM),(27,zGL),(28,zGK)]
def cg1:List (Nat×Cfg):= [(30,zGJ),(31,zGI),(33,zGH),(35,zGG),(36,zGF),(37,zGE),(42,zGD),(43,zGC),(44,zGB),(45,zGA)]
def cg2:List (Nat×Cfg):= [(46,zGz),(47,zGy),(48,zGx),(49,zGw),(51,zGv),(65,zGu),(68,zGt),(69,zGs),(73,zGr),(74,zGq)]
def cg3:List (Nat×Cfg):= [(77,zGp),(78,zGo),(80,zGn),(81,zGm),(82,zGl),(84,zGk),(85,zGj),(92,zGi),(93,zGh),(94,zGg)]
def cg4:List (Nat×Cfg):= [(95,zGf),(96,zGe),(97,zGd),(98,zGc),(99,zGb),(101,zEc),(103,zEb),(107,zEa),(108,zE9),(109,zE8)]
def cg5:List (Nat×Cfg):= [(110,zE7),(121,zE6),(125,zE5),(126,zE4),(127,zE3),(128,zE2),(129,zE1),(130,zE0),(131,zDZ),(132,zDY)]
def cg6:List (Nat×Cfg):= [(133,zDX),(134,zDW),(135,zDV),(136,zDU),(137,zDT),(138,zDS),(139,zDR),(140,zDQ),(141,zDP),(142,zDO)]
def cg7:List (Nat×Cfg):= [(143,zDN),(144,zDM),(149,zDL),(150,zDK),(151,zDJ),(152,zDI),(153,zDH),(154,zDG),(160,zDF),(161,zDE)]
def cg8:List (Nat×Cfg):= [(170,zDD),(171,zDC),(172,zDB),(173,zDA),(174,zDz),(176,zDy),(177,zDx),(178,zDw),(179,zDv),(180,zDu)]
def cg9:List (Nat×Cfg):= [(181,zDt),(183,zDs),(205,zDr),(207,zDq),(208,zDp),(209,zDo),(210,zDn),(211,zDm),(227,zDl),(228,zDk)]
def cg10:List (Nat×Cfg):= [(229,zDj),(230,zDi),(236,zDh),(238,zDg)]
def cg11:List (Nat×Cfg):= [(32,zFV),(79,zFU)]
def zmb(f:FuncId):Option Cfg:=((cg0++cg1++cg2++cg3++cg4++cg5++cg6++cg7++cg8++cg9++cg10++cg11).find? fun x=>x.1==f).map (·.2)
def zpC(fn:Func):Code:=match fn.body with|some c=>c|none=>.skip
theorem bdy(fn:Func)(h:fn.body.isSome=true):fn.body=some (zpC fn):=by
 unfold zpC
 cases hb:fn.body with
 |some c=>rfl
 |none=>rw[hb] at h;cases h
noncomputable def xt:z0g->z0g:=xtF
noncomputable def L:z0g:=Lim Tryz.prog xt zmb
theorem zwh{f:FuncId}{c:Cfg}{fn:Func}{args:List T}{o:T×List T}(hc:zmb f=some c)(hfn:Tryz.prog.funcs[f]? =some fn)(h:zkb Tryz.prog L c LFm fn args=some o):L f args=some o:=zuK hc hfn h
end
section
open Go
variable{cf:Cfg}{c:Code}{fn:Func}{f:FuncId}{args outs:List T}{r:T}
theorem z4b(hc:zmb f=some cf)(hfn:Tryz.prog.funcs[f]? =some fn)(hb:fn.body=some c)(ha:args.length<=fn.ntmps/\(args.filter z7q).length<=1:=by exact⟨of_decide_eq_true rfl,of_decide_eq_true rfl⟩)(hz:cf.fz 999998=none:=by rfl)(g:wpC Tryz.prog L cf LFm c (z8g fn.ntmps args) (zB2 Tryz.prog fn args r outs):=by simp only[z8g,z8q,z8f,zay,z7q];exact zmy):L f args=some (r,outs):=zwh hc hfn (zA0 hb ha g hz)
theorem zhG(hc:zmb f=some cf)(hfn:Tryz.prog.funcs[f]? =some fn)(hb:fn.body=some c)(ha:args.length<=fn.ntmps/\(args.filter z7q).length<=1:=by exact⟨of_decide_eq_true rfl,of_decide_eq_true rfl⟩)(hz:(cf.fz 999998).isSome=true:=by rfl)(g:wpC Tryz.prog L cf LFm c (z8g fn.ntmps args) (zvs Tryz.prog fn args r outs):=by simp only[z8g,z8q,z8f,zay,z7q];exact zmy):L f args=some (r,outs):=zwh hc hfn (zfh hb ha hz g)
end
section
open Go Go.IntKind
noncomputable section
variable{a0:DFA}{a1 a2:Int}
def z8k(a0:Int):Option (Bool):=
 if 1<=a0 then
 some (decide (a0<=6))
 else
 some false
abbrev z6M(a0:DFA)(w22:Int)(v28:List Int):Int->Option (Int⊕(Int⊕Int))
 |w30=>
 if w30<(v28.length:Int) then
 (atI v28 w30).bind fun v32=>
 if v32<0 then
 z0d<|
 z0d<|
 some 4
 else
 if(a0.final.length:Int)<=v32 then
 z0d<|
 z0d<|
 some 4
 else
 z0c (i64.wrap (w30+1))
 else
 z0d<|
 z0c (i64.wrap (w22+1))
instance{w22:Int}{v28:List Int}:Hd (z6M a0 w22 v28):=⟨fun w30=>([(51,xI w30)],[])⟩
abbrev z6g(a0:DFA):Int->Option (Int⊕Int)
 |w22=>
 if w22<(a0.next.length:Int) then
 (atI a0.next w22).bind fun v28=>
 if(v28.length:Int)=a0.letters then
 z0h (z6M a0 w22 v28) LFm 0
 else
 z0d<|
 some 4
 else
 z0d<|
 some 0
instance:Hd (z6g a0):=⟨fun w22=>([(40,xI w22)],[])⟩
def z4N(a0:DFA):Option (Int):=
 if a0.letters<1 then
 some 1
 else
 if 6<a0.letters then
 some 1
 else
 if 512<(a0.final.length:Int) then
 some 3
 else
 if(a0.next.length:Int)=(a0.final.length:Int) then
 if a0.start<0 then
 some 4
 else
 if(a0.final.length:Int)<=a0.start then
 some 4
 else
 z0h (z6g a0) LFm 0
 else
 some 4
instance:Ok (z4N a0) (fun r=>L 77 [.agg [.sc (.int .i64 a0.letters),.sc (.int .i64 a0.start),(tB a0.final),(tR a0.next)]]=some (.sc (.int .i64 r),[.dead])):=⟨fun r h=>by have h:=z3c h;unfold z4N at h;exact z4b rfl Tryz.func77 (bdy Tryz.f77 rfl)⟩
def z5Z(a0:DFA):Option (Int):=
 (z4N a0).bind fun v2=>
 if v2=0 then
 if 12<(a0.final.length:Int) then
 some 3
 else
 some 0
 else
 some v2
instance:Ok (z5Z a0) (fun r=>L 129 [.agg [.sc (.int .i64 a0.letters),.sc (.int .i64 a0.start),(tB a0.final),(tR a0.next)]]=some (.sc (.int .i64 r),[.dead])):=⟨fun r h=>by have h:=z3c h;unfold z5Z at h;exact z4b rfl Tryz.func129 (bdy Tryz.f129 rfl)⟩
abbrev z7S(a0:ByteArray)(a1:Int):Int->Option (Int⊕Bool)
 |w12=>
 if w12<(a0.size:Int) then
 (zht a0 w12).bind fun v15=>
 if v15<97 then
 z0d<|
 some false
 else
 if a1<=(i64.wrap (u8.wrap (v15-97))) then
 z0d<|
 some false
 else
 z0c (i64.wrap (w12+1))
 else
 z0d<|
 some true
instance{a0:ByteArray}:Hd (z7S a0 a1):=⟨fun w12=>([(5,xI w12)],[])⟩
def z8T(a0:ByteArray)(a1:Int):Option (Bool):=
 (z8k a1).bind fun v9=>
 if v9=true then
 if 2048<(a0.size:Int) then
 some false
 else
 z0h (z7S a0 a1) LFm 0
 else
 some false
abbrev zcJ(a0:ByteArray)(a1:Int):Int->Option (Int⊕Bool)
 |w10=>
 if w10<(a0.size:Int) then
 (zht a0 w10).bind fun v13=>
 if v13<97 then
 z0d<|
 some false
 else
 if a1<=(i64.wrap (u8.wrap (v13-97))) then
 z0d<|
 some false
 else
 z0c (i64.wrap (w10+1))
 else
 z0d<|
 some true
instance{a0:ByteArray}:Hd (zcJ a0 a1):=⟨fun w10=>([(19,xI w10)],[])⟩
def z7A(a0:ByteArray)(a1:Int):Option (Bool):=
 if a1<1 then
 some false
 else
 if 6<a1 then
 some false
 else
 if 2048<(a0.size:Int) then
 some false
 else
 z0h (zcJ a0 a1) LFm 0
instance{a0:ByteArray}:Ok (z7A a0 a1) (fun r=>L 92 [.sc (.string a0),.sc (.int .i64 a1)]=some (.sc (.bool r),[.dead,.dead])):=⟨fun r h=>by have h:=z3c h;unfold z7A at h;exact z4b rfl Tryz.func92 (bdy Tryz.f92 rfl)⟩
abbrev z7T(a0:DFA)(a1:Int)(a2:Int):Int×Int->Option ((Int×Int)⊕Int)
 |(w11,w12)=>
 if w12<(a0.next.length:Int) then
 (atI a0.next w12).bind fun v15=>
 chk (¬w12<0)<|
 if(z3j .i64 (z1D .i64 a1 w12) 1)=1 then
 (atI v15 a2).bind fun v16=>
 chk (¬v16<0)<|
 z0c (orI .i64 w11 (zmU .i64 1 v16),i64.wrap (w12+1))
 else
 z0c (w11,i64.wrap (w12+1))
 else
 z0d<|
 some w11
instance:Hd (z7T a0 a1 a2):=⟨fun(w11,w12)=>([(7,xI w11),(13,xI w12)],[])⟩
def z7H(a0:DFA)(a1:Int)(a2:Int):Option (Int):=
 z0h (z7T a0 a1 a2) LFm (0,0)
instance:Ok (z7H a0 a1 a2) (fun r=>L 178 [.agg [.sc (.int .i64 a0.letters),.sc (.int .i64 a0.start),(tB a0.final),(tR a0.next)],.sc (.int .i64 a1),.sc (.int .i64 a2)]=some (.sc (.int .i64 r),[.dead,.dead,.dead])):=⟨fun r h=>by have h:=z3c h;unfold z7H at h;exact z4b rfl Tryz.func178 (bdy Tryz.f178 rfl)⟩
def z4q(a0:Int)(a1:Int):Option (Bool):=
 some (decide ((zhE .i64 a1 a0)=0))
instance{a0:Int}:Ok (z4q a0 a1) (fun r=>L 179 [.sc (.int .i64 a0),.sc (.int .i64 a1)]=some (.sc (.bool r),[.dead,.dead])):=⟨fun r h=>by have h:=z3c h;unfold z4q at h;exact z4b rfl Tryz.func179 (bdy Tryz.f179 rfl)⟩
abbrev z6a(a0:DFA)(w77:Int):Int×List Bool×List Int×List ByteArray->Option ((Int×List Bool×List Int×List ByteArray)⊕((Int×List Bool×List Int×List ByteArray)⊕(List Int×List ByteArray)))
 |(w105,w106,w107,w108)=>
 if w105<a0.letters then
 (atI w107 w77).bind fun v114=>
 (z7H a0 v114 w105).bind fun v115=>
 (atI w106 v115).bind fun v116=>
 if v116=true then
 z0c (i64.wrap (w105+1),w106,w107,w108)
 else
 chk (z1n 8 (w107.length+1))<|
 (atI w108 w77).bind fun v118=>
 chk (zaH v118 ⟨#[UInt8.ofNat (u8.wrap (i64.wrap (97+w105))).toNat]⟩)<|
 chk (z1n 16 (w108.length+1))<|
 z0c (i64.wrap (w105+1),(w106.set v115.toNat true),w107++ [v115],w108++ [v118++⟨#[UInt8.ofNat (u8.wrap (i64.wrap (97+w105))).toNat]⟩])
 else
 z0d<|
 z0c (i64.wrap (w77+1),w106,w107,w108)
instance{w77:Int}:Hd (z6a a0 w77):=⟨fun(w105,w106,w107,w108)=>([(31,xI w105)],[(6,.os 1 w106.length (w106.map fun x0=>.sc (.bool x0))),(7,(tO w107)),(8,.os 1 w108.length (w108.map fun x0=>.sc (.string x0)))])⟩
abbrev z8Z(a0:DFA):Int×List Bool×List Int×List ByteArray->Option ((Int×List Bool×List Int×List ByteArray)⊕(List Int×List ByteArray))
 |(w77,w78,w79,w80)=>
 if w77<(w79.length:Int) then
 z0h (z6a a0 w77) LFm (0,w78,w79,w80)
 else
 z0d<|
 some (w79,w80)
instance:Hd (z8Z a0):=⟨fun(w77,w78,w79,w80)=>([(9,xI w77)],[(6,.os 1 w78.length (w78.map fun x0=>.sc (.bool x0))),(7,(tO w79)),(8,.os 1 w80.length (w80.map fun x0=>.sc (.string x0)))])⟩
def z8d(a0:DFA)(a1:Int):Option (List Int×List ByteArray):=
 chk (¬(a0.final.length:Int)<0)<|
 chk (z0D 1 (zmU .i64 1 (a0.final.length:Int)))<|
 chk (0<=a1/\a1<(zmU .i64 1 (a0.final.length:Int)))<|
 z0h (z8Z a0) LFm (0,((List.replicate (zmU .i64 1 (a0.final.length:Int)).toNat (false:Bool)).set a1.toNat true),[a1],[ByteArray.empty])
instance:Ok (z8d a0 a1) (fun r=>L 173 [.agg [.sc (.int .i64 a0.letters),.sc (.int .i64 a0.start),(tB a0.final),(tR a0.next)],.sc (.int .i64 a1)]=some (.tup [(tO r.1),.os 1 r.2.length (r.2.map fun x0=>.sc (.string x0))],[.dead,.dead])):=⟨fun r h=>by have h:=z3c h;unfold z8d at h;exact z4b rfl Tryz.func173 (bdy Tryz.f173 rfl)⟩
def z3z(a0:Int):Option (Int):=
 chk (¬1<0)<|
 chk (¬2<0)<|
 chk (¬4<0)<|
 chk (¬8<0)<|
 chk (¬16<0)<|
 chk (¬32<0)<|
 some (z3j .i64 (i64.wrap (u64.wrap ((u64.wrap ((u64.wrap ((z3j .u64 (u64.wrap ((z1D .u64 (u64.wrap ((z3j .u64 (z1D .u64 (u64.wrap ((z3j .u64 (z1D .u64 a0 1) 6148914691236517205)+(z3j .u64 a0 6148914691236517205))) 2) 3689348814741910323)+(z3j .u64 (u64.wrap ((z3j .u64 (z1D .u64 a0 1) 6148914691236517205)+(z3j .u64 a0 6148914691236517205))) 3689348814741910323))) 4)+(u64.wrap ((z3j .u64 (z1D .u64 (u64.wrap ((z3j .u64 (z1D .u64 a0 1) 6148914691236517205)+(z3j .u64 a0 6148914691236517205))) 2) 3689348814741910323)+(z3j .u64 (u64.wrap ((z3j .u64 (z1D .u64 a0 1) 6148914691236517205)+(z3j .u64 a0 6148914691236517205))) 3689348814741910323))))) 1085102592571150095)+(z1D .u64 (z3j .u64 (u64.wrap ((z1D .u64 (u64.wrap ((z3j .u64 (z1D .u64 (u64.wrap ((z3j .u64 (z1D .u64 a0 1) 6148914691236517205)+(z3j .u64 a0 6148914691236517205))) 2) 3689348814741910323)+(z3j .u64 (u64.wrap ((z3j .u64 (z1D .u64 a0 1) 6148914691236517205)+(z3j .u64 a0 6148914691236517205))) 3689348814741910323))) 4)+(u64.wrap ((z3j .u64 (z1D .u64 (u64.wrap ((z3j .u64 (z1D .u64 a0 1) 6148914691236517205)+(z3j .u64 a0 6148914691236517205))) 2) 3689348814741910323)+(z3j .u64 (u64.wrap ((z3j .u64 (z1D .u64 a0 1) 6148914691236517205)+(z3j .u64 a0 6148914691236517205))) 3689348814741910323))))) 1085102592571150095) 8)))+(z1D .u64 (u64.wrap ((z3j .u64 (u64.wrap ((z1D .u64 (u64.wrap ((z3j .u64 (z1D .u64 (u64.wrap ((z3j .u64 (z1D .u64 a0 1) 6148914691236517205)+(z3j .u64 a0 6148914691236517205))) 2) 3689348814741910323)+(z3j .u64 (u64.wrap ((z3j .u64 (z1D .u64 a0 1) 6148914691236517205)+(z3j .u64 a0 6148914691236517205))) 3689348814741910323))) 4)+(u64.wrap ((z3j .u64 (z1D .u64 (u64.wrap ((z3j .u64 (z1D .u64 a0 1) 6148914691236517205)+(z3j .u64 a0 6148914691236517205))) 2) 3689348814741910323)+(z3j .u64 (u64.wrap ((z3j .u64 (z1D .u64 a0 1) 6148914691236517205)+(z3j .u64 a0 6148914691236517205))) 3689348814741910323))))) 1085102592571150095)+(z1D .u64 (z3j .u64 (u64.wrap ((z1D .u64 (u64.wrap ((z3j .u64 (z1D .u64 (u64.wrap ((z3j .u64 (z1D .u64 a0 1) 6148914691236517205)+(z3j .u64 a0 6148914691236517205))) 2) 3689348814741910323)+(z3j .u64 (u64.wrap ((z3j .u64 (z1D .u64 a0 1) 6148914691236517205)+(z3j .u64 a0 6148914691236517205))) 3689348814741910323))) 4)+(u64.wrap ((z3j .u64 (z1D .u64 (u64.wrap ((z3j .u64 (z1D .u64 a0 1) 6148914691236517205)+(z3j .u64 a0 6148914691236517205))) 2) 3689348814741910323)+(z3j .u64 (u64.wrap ((z3j .u64 (z1D .u64 a0 1) 6148914691236517205)+(z3j .u64 a0 6148914691236517205))) 3689348814741910323))))) 1085102592571150095) 8))) 16)))+(z1D .u64 (u64.wrap ((u64.wrap ((z3j .u64 (u64.wrap ((z1D .u64 (u64.wrap ((z3j .u64 (z1D .u64 (u64.wrap ((z3j .u64 (z1D .u64 a0 1) 6148914691236517205)+(z3j .u64 a0 6148914691236517205))) 2) 3689348814741910323)+(z3j .u64 (u64.wrap ((z3j .u64 (z1D .u64 a0 1) 6148914691236517205)+(z3j .u64 a0 6148914691236517205))) 3689348814741910323))) 4)+(u64.wrap ((z3j .u64 (z1D .u64 (u64.wrap ((z3j .u64 (z1D .u64 a0 1) 6148914691236517205)+(z3j .u64 a0 6148914691236517205))) 2) 3689348814741910323)+(z3j .u64 (u64.wrap ((z3j .u64 (z1D .u64 a0 1) 6148914691236517205)+(z3j .u64 a0 6148914691236517205))) 3689348814741910323))))) 1085102592571150095)+(z1D .u64 (z3j .u64 (u64.wrap ((z1D .u64 (u64.wrap ((z3j .u64 (z1D .u64 (u64.wrap ((z3j .u64 (z1D .u64 a0 1) 6148914691236517205)+(z3j .u64 a0 6148914691236517205))) 2) 3689348814741910323)+(z3j .u64 (u64.wrap ((z3j .u64 (z1D .u64 a0 1) 6148914691236517205)+(z3j .u64 a0 6148914691236517205))) 3689348814741910323))) 4)+(u64.wrap ((z3j .u64 (z1D .u64 (u64.wrap ((z3j .u64 (z1D .u64 a0 1) 6148914691236517205)+(z3j .u64 a0 6148914691236517205))) 2) 3689348814741910323)+(z3j .u64 (u64.wrap ((z3j .u64 (z1D .u64 a0 1) 6148914691236517205)+(z3j .u64 a0 6148914691236517205))) 3689348814741910323))))) 1085102592571150095) 8)))+(z1D .u64 (u64.wrap ((z3j .u64 (u64.wrap ((z1D .u64 (u64.wrap ((z3j .u64 (z1D .u64 (u64.wrap ((z3j .u64 (z1D .u64 a0 1) 6148914691236517205)+(z3j .u64 a0 6148914691236517205))) 2) 3689348814741910323)+(z3j .u64 (u64.wrap ((z3j .u64 (z1D .u64 a0 1) 6148914691236517205)+(z3j .u64 a0 6148914691236517205))) 3689348814741910323))) 4)+(u64.wrap ((z3j .u64 (z1D .u64 (u64.wrap ((z3j .u64 (z1D .u64 a0 1) 6148914691236517205)+(z3j .u64 a0 6148914691236517205))) 2) 3689348814741910323)+(z3j .u64 (u64.wrap ((z3j .u64 (z1D .u64 a0 1) 6148914691236517205)+(z3j .u64 a0 6148914691236517205))) 3689348814741910323))))) 1085102592571150095)+(z1D .u64 (z3j .u64 (u64.wrap ((z1D .u64 (u64.wrap ((z3j .u64 (z1D .u64 (u64.wrap ((z3j .u64 (z1D .u64 a0 1) 6148914691236517205)+(z3j .u64 a0 6148914691236517205))) 2) 3689348814741910323)+(z3j .u64 (u64.wrap ((z3j .u64 (z1D .u64 a0 1) 6148914691236517205)+(z3j .u64 a0 6148914691236517205))) 3689348814741910323))) 4)+(u64.wrap ((z3j .u64 (z1D .u64 (u64.wrap ((z3j .u64 (z1D .u64 a0 1) 6148914691236517205)+(z3j .u64 a0 6148914691236517205))) 2) 3689348814741910323)+(z3j .u64 (u64.wrap ((z3j .u64 (z1D .u64 a0 1) 6148914691236517205)+(z3j .u64 a0 6148914691236517205))) 3689348814741910323))))) 1085102592571150095) 8))) 16))) 32)))) 127)
instance{a0:Int}:Ok (z3z a0) (fun r=>L 228 [.sc (.int .u64 a0)]=some (.sc (.int .i64 r),[.dead])):=⟨fun r h=>by have h:=z3c h;unfold z3z at h;exact z4b rfl Tryz.func228 (bdy Tryz.f228 rfl)⟩
def z5u(a0:Int):Option (Int):=
 (z3z a0).bind fun v2=>
 some v2
instance{a0:Int}:Ok (z5u a0) (fun r=>L 207 [.sc (.int .u64 a0)]=some (.sc (.int .i64 r),[.dead])):=⟨fun r h=>by have h:=z3c h;unfold z5u at h;exact z4b rfl Tryz.func207 (bdy Tryz.f207 rfl)⟩
def z7G(a0:Int):Option (Int):=
 (z5u (u64.wrap a0)).bind fun v2=>
 some v2
instance{a0:Int}:Ok (z7G a0) (fun r=>L 177 [.sc (.int .i64 a0)]=some (.sc (.int .i64 r),[.dead])):=⟨fun r h=>by have h:=z3c h;unfold z7G at h;exact z4b rfl Tryz.func177 (bdy Tryz.f177 rfl)⟩
end
end
section
open Go Go.IntKind
noncomputable section
variable{a1 a2 a3:Int}{a0 m0 m2 m3:List Int}{rf:List Int->Int->Int->Int->List Int->Option (List Int)}
def cmp_isNaN_int(a0:Int):Option (Bool):=
 some (!decide (a0=a0))
instance{a0:Int}:Ok (cmp_isNaN_int a0) (fun r=>L 160 [.sc (.int .i64 a0)]=some (.sc (.bool r),[.dead])):=⟨fun r h=>by have h:=z3c h;unfold cmp_isNaN_int at h;exact z4b rfl Tryz.func160 (bdy Tryz.f160 rfl)⟩
def cmp_Compare_int(a0:Int)(a1:Int):Option (Int):=
 (cmp_isNaN_int a0).bind fun v3=>
 (cmp_isNaN_int a1).bind fun v4=>
 if v3=true then
 if v4=true then
 some 0
 else
 some (-1)
 else
 if v4=true then
 some 1
 else
 if a0<a1 then
 some (-1)
 else
 if a1<a0 then
 some 1
 else
 some 0
instance{a0:Int}:Ok (cmp_Compare_int a0 a1) (fun r=>L 108 [.sc (.int .i64 a0),.sc (.int .i64 a1)]=some (.sc (.int .i64 r),[.dead,.dead])):=⟨fun r h=>by have h:=z3c h;unfold cmp_Compare_int at h;exact z4b rfl Tryz.func108 (bdy Tryz.f108 rfl)⟩
def z1e(a0:Int)(a1:Int)(m1:List Int):Option (Int):=
 (atI m1 a0).bind fun v4=>
 (atI m1 a1).bind fun v5=>
 (cmp_Compare_int v4 v5).bind fun v6=>
 some v6
instance{a0:Int}{m1:List Int}:Ok (z1e a0 a1 m1) (fun r=>L 180 [.sc (.int .i64 a0),.sc (.int .i64 a1),.pr [(tI m1)]]=some (.sc (.int .i64 r),[.dead,.dead,.dead])):=⟨fun r h=>by have h:=z3c h;unfold z1e at h;exact z4b rfl Tryz.func180 (bdy Tryz.f180 rfl)⟩
abbrev z1y(a1:Int)(m3:List Int)(w95:Int):Int×List Int->Option ((Int×List Int)⊕((Int×List Int)⊕List Int))
 |(w127,w128)=>
 if a1<w127 then
 (atI w128 w127).bind fun v136=>
 (atI w128 (i64.wrap (w127-1))).bind fun v137=>
 (z1e v136 v137 m3).bind fun v138=>
 if v138<0 then
 (atI (w128.set w127.toNat v137) (i64.wrap (w127-1))).bind fun v142=>
 z0c (i64.wrap (w127-1),((w128.set w127.toNat v137).set (i64.wrap (w127-1)).toNat v136))
 else
 z0d<|
 z0c (i64.wrap (w95+1),w128)
 else
 z0d<|
 z0c (i64.wrap (w95+1),w128)
instance{w95:Int}:Hd (z1y a1 m3 w95):=⟨fun(w127,w128)=>([(9,xI w127)],[(0,(tO w128))])⟩
abbrev z1z(a1:Int)(a2:Int)(m3:List Int):Int×List Int->Option ((Int×List Int)⊕List Int)
 |(w95,w96)=>
 if w95<a2 then
 z0h (z1y a1 m3 w95) LFm (w95,w96)
 else
 z0d<|
 some w96
instance:Hd (z1z a1 a2 m3):=⟨fun(w95,w96)=>([(8,xI w95)],[(0,(tO w96))])⟩
def z0B(a0:List Int)(a1:Int)(a2:Int)(m3:List Int):Option (List Int):=
 z0h (z1z a1 a2 m3) LFm (i64.wrap (a1+1),a0)
instance:Ok (z0B a0 a1 a2 m3) (fun r=>L 208 [(tO a0),.sc (.int .i64 a1),.sc (.int .i64 a2),.cl 180 [.pr [(tI m3)]]]=some (.tup [],[(tO r),.dead,.dead,.dead])):=⟨fun r h=>by have h:=z3c h;unfold z0B at h;exact z4b rfl Tryz.func208 (bdy Tryz.f208 rfl)⟩
abbrev z1P(a1:Int)(a2:Int)(a3:Int):Int×List Int->Option ((Int×List Int)⊕List Int)
 |(w19,w20)=>
 if w19<a3 then
 (atI w20 (i64.wrap (a2+w19))).bind fun v25=>
 (atI w20 (i64.wrap (a1+w19))).bind fun v26=>
 (atI (w20.set (i64.wrap (a1+w19)).toNat v25) (i64.wrap (a2+w19))).bind fun v28=>
 z0c (i64.wrap (w19+1),((w20.set (i64.wrap (a1+w19)).toNat v25).set (i64.wrap (a2+w19)).toNat v26))
 else
 z0d<|
 some w20
instance:Hd (z1P a1 a2 a3):=⟨fun(w19,w20)=>([(10,xI w19)],[(0,(tO w20))])⟩
def z0u(a0:List Int)(a1:Int)(a2:Int)(a3:Int)(m0:List Int):Option (List Int):=
 z0h (z1P a1 a2 a3) LFm (0,a0)
instance:Ok (z0u a0 a1 a2 a3 m0) (fun r=>L 236 [(tO a0),.sc (.int .i64 a1),.sc (.int .i64 a2),.sc (.int .i64 a3),.cl 180 [.pr [(tI m0)]]]=some (.tup [],[(tO r),.dead,.dead,.dead,.dead])):=⟨fun r h=>by have h:=z3c h;unfold z0u at h;exact z4b rfl Tryz.func236 (bdy Tryz.f236 rfl)⟩
abbrev z2b(a2:Int)(m0:List Int):Int×Int×List Int->Option ((Int×Int×List Int)⊕List Int)
 |(w13,w15,w14)=>
 if w13=w15 then
 z0d<|
 (z0u w14 (i64.wrap (a2-w13)) a2 w13 m0).bind fun v18=>
 some v18
 else
 if w15<w13 then
 (z0u w14 (i64.wrap (a2-w13)) a2 w15 m0).bind fun v19=>
 z0c (i64.wrap (w13-w15),w15,v19)
 else
 (z0u w14 (i64.wrap (a2-w13)) (i64.wrap ((i64.wrap (a2+w15))-w13)) w13 m0).bind fun v20=>
 z0c (w13,i64.wrap (w15-w13),v20)
instance:Hd (z2b a2 m0):=⟨fun(w13,w15,w14)=>([(10,xI w13),(11,xI w15)],[(0,(tO w14))])⟩
def z0V(a0:List Int)(a1:Int)(a2:Int)(a3:Int)(m0:List Int):Option (List Int):=
 z0h (z2b a2 m0) LFm (i64.wrap (a2-a1),i64.wrap (a3-a2),a0)
instance:Ok (z0V a0 a1 a2 a3 m0) (fun r=>L 229 [(tO a0),.sc (.int .i64 a1),.sc (.int .i64 a2),.sc (.int .i64 a3),.cl 180 [.pr [(tI m0)]]]=some (.tup [],[(tO r),.dead,.dead,.dead,.dead])):=⟨fun r h=>by have h:=z3c h;unfold z0V at h;exact z4b rfl Tryz.func229 (bdy Tryz.f229 rfl)⟩
abbrev z1R(w102:Int):Int×List Int->Option ((Int×List Int)⊕List Int)
 |(w114,w115)=>
 if w114<(i64.wrap (w102-1)) then
 (atI w115 (i64.wrap (w114+1))).bind fun v120=>
 (atI w115 w114).bind fun v121=>
 (atI (w115.set w114.toNat v120) (i64.wrap (w114+1))).bind fun v123=>
 z0c (i64.wrap (w114+1),((w115.set w114.toNat v120).set (i64.wrap (w114+1)).toNat v121))
 else
 z0d<|
 some w115
instance{w102:Int}:Hd (z1R w102):=⟨fun(w114,w115)=>([(13,xI w114)],[(0,(tO w115))])⟩
abbrev z1S(a0:List Int)(a1:Int)(m0:List Int):Int×Int->Option ((Int×Int)⊕List Int)
 |(w102,w103)=>
 if w102<w103 then
 chk (¬1<0)<|
 (atI a0 (md w102 w103)).bind fun v107=>
 (atI a0 a1).bind fun v108=>
 (z1e v107 v108 m0).bind fun v109=>
 if v109<0 then
 z0c (i64.wrap ((md w102 w103)+1),w103)
 else
 z0c (w102,i64.wrap (z1D .u64 (u64.wrap (i64.wrap (w102+w103))) 1))
 else
 z0d<|
 z0h (z1R w102) LFm (a1,a0)
instance:Hd (z1S a0 a1 m0):=⟨fun(w102,w103)=>([(10,xI w102),(11,xI w103)],[])⟩
abbrev z1K(w128:Int):Int×List Int->Option ((Int×List Int)⊕List Int)
 |(w139,w140)=>
 if w128<w139 then
 (atI w140 (i64.wrap (w139-1))).bind fun v145=>
 (atI w140 w139).bind fun v146=>
 (atI (w140.set w139.toNat v145) (i64.wrap (w139-1))).bind fun v148=>
 z0c (i64.wrap (w139-1),((w140.set w139.toNat v145).set (i64.wrap (w139-1)).toNat v146))
 else
 z0d<|
 some w140
instance{w128:Int}:Hd (z1K w128):=⟨fun(w139,w140)=>([(17,xI w139)],[(0,(tO w140))])⟩
abbrev z1L(a0:List Int)(a2:Int)(m0:List Int):Int×Int->Option ((Int×Int)⊕List Int)
 |(w128,w127)=>
 if w128<w127 then
 chk (¬1<0)<|
 (atI a0 a2).bind fun v132=>
 (atI a0 (md w128 w127)).bind fun v133=>
 (z1e v132 v133 m0).bind fun v134=>
 if v134<0 then
 z0c (w128,i64.wrap (z1D .u64 (u64.wrap (i64.wrap (w128+w127))) 1))
 else
 z0c (i64.wrap ((md w128 w127)+1),w127)
 else
 z0d<|
 z0h (z1K w128) LFm (a2,a0)
instance:Hd (z1L a0 a2 m0):=⟨fun(w128,w127)=>([(14,xI w128),(15,xI w127)],[])⟩
abbrev z1J(a0:List Int)(a1:Int)(a2:Int)(a3:Int)(m0:List Int)(rf:List Int->Int->Int->Int->List Int->Option (List Int)):Int×Int->Option ((Int×Int)⊕List Int)
 |(w153,w152)=>
 if w153<w152 then
 chk (¬1<0)<|
 (atI a0 (i64.wrap ((i64.wrap ((i64.wrap ((md a1 a3)+a2))-1))-(md w153 w152)))).bind fun v157=>
 (atI a0 (md w153 w152)).bind fun v158=>
 (z1e v157 v158 m0).bind fun v159=>
 if v159<0 then
 z0c (w153,i64.wrap (z1D .u64 (u64.wrap (i64.wrap (w153+w152))) 1))
 else
 z0c (i64.wrap ((md w153 w152)+1),w152)
 else
 z0d<|
 if w153<a2 then
 if a2<(i64.wrap ((i64.wrap ((md a1 a3)+a2))-w153)) then
 (z0V a0 w153 a2 (i64.wrap ((i64.wrap ((md a1 a3)+a2))-w153)) m0).bind fun v160=>
 if a1<w153 then
 if w153<(md a1 a3) then
 (rf v160 a1 w153 (md a1 a3) m0).bind fun v161=>
 if(md a1 a3)<(i64.wrap ((i64.wrap ((md a1 a3)+a2))-w153)) then
 if(i64.wrap ((i64.wrap ((md a1 a3)+a2))-w153))<a3 then
 (rf v161 (md a1 a3) (i64.wrap ((i64.wrap ((md a1 a3)+a2))-w153)) a3 m0).bind fun v162=>
 some v162
 else
 some v161
 else
 some v161
 else
 if(md a1 a3)<(i64.wrap ((i64.wrap ((md a1 a3)+a2))-w153)) then
 if(i64.wrap ((i64.wrap ((md a1 a3)+a2))-w153))<a3 then
 (rf v160 (md a1 a3) (i64.wrap ((i64.wrap ((md a1 a3)+a2))-w153)) a3 m0).bind fun v163=>
 some v163
 else
 some v160
 else
 some v160
 else
 if(md a1 a3)<(i64.wrap ((i64.wrap ((md a1 a3)+a2))-w153)) then
 if(i64.wrap ((i64.wrap ((md a1 a3)+a2))-w153))<a3 then
 (rf v160 (md a1 a3) (i64.wrap ((i64.wrap ((md a1 a3)+a2))-w153)) a3 m0).bind fun v164=>
 some v164
 else
 some v160
 else
 some v160
 else
 if a1<w153 then
 if w153<(md a1 a3) then
 (rf a0 a1 w153 (md a1 a3) m0).bind fun v165=>
 if(md a1 a3)<(i64.wrap ((i64.wrap ((md a1 a3)+a2))-w153)) then
 if(i64.wrap ((i64.wrap ((md a1 a3)+a2))-w153))<a3 then
 (rf v165 (md a1 a3) (i64.wrap ((i64.wrap ((md a1 a3)+a2))-w153)) a3 m0).bind fun v166=>
 some v166
 else
 some v165
 else
 some v165
 else
 if(md a1 a3)<(i64.wrap ((i64.wrap ((md a1 a3)+a2))-w153)) then
 if(i64.wrap ((i64.wrap ((md a1 a3)+a2))-w153))<a3 then
 (rf a0 (md a1 a3) (i64.wrap ((i64.wrap ((md a1 a3)+a2))-w153)) a3 m0).bind fun v167=>
 some v167
 else
 some a0
 else
 some a0
 else
 if(md a1 a3)<(i64.wrap ((i64.wrap ((md a1 a3)+a2))-w153)) then
 if(i64.wrap ((i64.wrap ((md a1 a3)+a2))-w153))<a3 then
 (rf a0 (md a1 a3) (i64.wrap ((i64.wrap ((md a1 a3)+a2))-w153)) a3 m0).bind fun v168=>
 some v168
 else
 some a0
 else
 some a0
 else
 if a1<w153 then
 if w153<(md a1 a3) then
 (rf a0 a1 w153 (md a1 a3) m0).bind fun v169=>
 if(md a1 a3)<(i64.wrap ((i64.wrap ((md a1 a3)+a2))-w153)) then
 if(i64.wrap ((i64.wrap ((md a1 a3)+a2))-w153))<a3 then
 (rf v169 (md a1 a3) (i64.wrap ((i64.wrap ((md a1 a3)+a2))-w153)) a3 m0).bind fun v170=>
 some v170
 else
 some v169
 else
 some v169
 else
 if(md a1 a3)<(i64.wrap ((i64.wrap ((md a1 a3)+a2))-w153)) then
 if(i64.wrap ((i64.wrap ((md a1 a3)+a2))-w153))<a3 then
 (rf a0 (md a1 a3) (i64.wrap ((i64.wrap ((md a1 a3)+a2))-w153)) a3 m0).bind fun v171=>
 some v171
 else
 some a0
 else
 some a0
 else
 if(md a1 a3)<(i64.wrap ((i64.wrap ((md a1 a3)+a2))-w153)) then
 if(i64.wrap ((i64.wrap ((md a1 a3)+a2))-w153))<a3 then
 (rf a0 (md a1 a3) (i64.wrap ((i64.wrap ((md a1 a3)+a2))-w153)) a3 m0).bind fun v172=>
 some v172
 else
 some a0
 else
 some a0
instance:Hd (z1J a0 a1 a2 a3 m0 rf):=⟨fun(w153,w152)=>([(20,xI w153),(21,xI w152)],[])⟩
abbrev z1H(a0:List Int)(a1:Int)(a2:Int)(a3:Int)(m0:List Int)(rf:List Int->Int->Int->Int->List Int->Option (List Int)):Int×Int->Option ((Int×Int)⊕List Int)
 |(w177,w176)=>
 if w177<w176 then
 chk (¬1<0)<|
 (atI a0 (i64.wrap ((i64.wrap ((i64.wrap ((md a1 a3)+a2))-1))-(md w177 w176)))).bind fun v181=>
 (atI a0 (md w177 w176)).bind fun v182=>
 (z1e v181 v182 m0).bind fun v183=>
 if v183<0 then
 z0c (w177,i64.wrap (z1D .u64 (u64.wrap (i64.wrap (w177+w176))) 1))
 else
 z0c (i64.wrap ((md w177 w176)+1),w176)
 else
 z0d<|
 if w177<a2 then
 if a2<(i64.wrap ((i64.wrap ((md a1 a3)+a2))-w177)) then
 (z0V a0 w177 a2 (i64.wrap ((i64.wrap ((md a1 a3)+a2))-w177)) m0).bind fun v184=>
 if a1<w177 then
 if w177<(md a1 a3) then
 (rf v184 a1 w177 (md a1 a3) m0).bind fun v185=>
 if(md a1 a3)<(i64.wrap ((i64.wrap ((md a1 a3)+a2))-w177)) then
 if(i64.wrap ((i64.wrap ((md a1 a3)+a2))-w177))<a3 then
 (rf v185 (md a1 a3) (i64.wrap ((i64.wrap ((md a1 a3)+a2))-w177)) a3 m0).bind fun v186=>
 some v186
 else
 some v185
 else
 some v185
 else
 if(md a1 a3)<(i64.wrap ((i64.wrap ((md a1 a3)+a2))-w177)) then
 if(i64.wrap ((i64.wrap ((md a1 a3)+a2))-w177))<a3 then
 (rf v184 (md a1 a3) (i64.wrap ((i64.wrap ((md a1 a3)+a2))-w177)) a3 m0).bind fun v187=>
 some v187
 else
 some v184
 else
 some v184
 else
 if(md a1 a3)<(i64.wrap ((i64.wrap ((md a1 a3)+a2))-w177)) then
 if(i64.wrap ((i64.wrap ((md a1 a3)+a2))-w177))<a3 then
 (rf v184 (md a1 a3) (i64.wrap ((i64.wrap ((md a1 a3)+a2))-w177)) a3 m0).bind fun v188=>
 some v188
 else
 some v184
 else
 some v184
 else
 if a1<w177 then
 if w177<(md a1 a3) then
 (rf a0 a1 w177 (md a1 a3) m0).bind fun v189=>
 if(md a1 a3)<(i64.wrap ((i64.wrap ((md a1 a3)+a2))-w177)) then
 if(i64.wrap ((i64.wrap ((md a1 a3)+a2))-w177))<a3 then
 (rf v189 (md a1 a3) (i64.wrap ((i64.wrap ((md a1 a3)+a2))-w177)) a3 m0).bind fun v190=>
 some v190
 else
 some v189
 else
 some v189
 else
 if(md a1 a3)<(i64.wrap ((i64.wrap ((md a1 a3)+a2))-w177)) then
 if(i64.wrap ((i64.wrap ((md a1 a3)+a2))-w177))<a3 then
 (rf a0 (md a1 a3) (i64.wrap ((i64.wrap ((md a1 a3)+a2))-w177)) a3 m0).bind fun v191=>
 some v191
 else
 some a0
 else
 some a0
 else
 if(md a1 a3)<(i64.wrap ((i64.wrap ((md a1 a3)+a2))-w177)) then
 if(i64.wrap ((i64.wrap ((md a1 a3)+a2))-w177))<a3 then
 (rf a0 (md a1 a3) (i64.wrap ((i64.wrap ((md a1 a3)+a2))-w177)) a3 m0).bind fun v192=>
 some v192
 else
 some a0
 else
 some a0
 else
 if a1<w177 then
 if w177<(md a1 a3) then
 (rf a0 a1 w177 (md a1 a3) m0).bind fun v193=>
 if(md a1 a3)<(i64.wrap ((i64.wrap ((md a1 a3)+a2))-w177)) then
 if(i64.wrap ((i64.wrap ((md a1 a3)+a2))-w177))<a3 then
 (rf v193 (md a1 a3) (i64.wrap ((i64.wrap ((md a1 a3)+a2))-w177)) a3 m0).bind fun v194=>
 some v194
 else
 some v193
 else
 some v193
 else
 if(md a1 a3)<(i64.wrap ((i64.wrap ((md a1 a3)+a2))-w177)) then
 if(i64.wrap ((i64.wrap ((md a1 a3)+a2))-w177))<a3 then
 (rf a0 (md a1 a3) (i64.wrap ((i64.wrap ((md a1 a3)+a2))-w177)) a3 m0).bind fun v195=>
 some v195
 else
 some a0
 else
 some a0
 else
 if(md a1 a3)<(i64.wrap ((i64.wrap ((md a1 a3)+a2))-w177)) then
 if(i64.wrap ((i64.wrap ((md a1 a3)+a2))-w177))<a3 then
 (rf a0 (md a1 a3) (i64.wrap ((i64.wrap ((md a1 a3)+a2))-w177)) a3 m0).bind fun v196=>
 some v196
 else
 some a0
 else
 some a0
instance:Hd (z1H a0 a1 a2 a3 m0 rf):=⟨fun(w177,w176)=>([(20,xI w177),(21,xI w176)],[])⟩
def z0I(rf:List Int->Int->Int->Int->List Int->Option (List Int))(a0:List Int)(a1:Int)(a2:Int)(a3:Int)(m0:List Int):Option (List Int):=
 if(i64.wrap (a2-a1))=1 then
 z0h (z1S a0 a1 m0) LFm (a2,a3)
 else
 if(i64.wrap (a3-a2))=1 then
 z0h (z1L a0 a2 m0) LFm (a1,a2)
 else
 chk (¬1<0)<|
 if(md a1 a3)<a2 then
 z0h (z1J a0 a1 a2 a3 m0 rf) LFm (i64.wrap ((i64.wrap ((md a1 a3)+a2))-a3),i64.wrap (z1D .u64 (u64.wrap (i64.wrap (a1+a3))) 1))
 else
 z0h (z1H a0 a1 a2 a3 m0 rf) LFm (a1,a2)
theorem z3P[ih:∀(a0:List Int) (a1:Int) (a2:Int) (a3:Int) (m0:List Int),Ok (rf a0 a1 a2 a3 m0) (fun r=>L 209 [(tO a0),.sc (.int .i64 a1),.sc (.int .i64 a2),.sc (.int .i64 a3),.cl 180 [.pr [(tI m0)]]]=some (.tup [],[(tO r),.dead,.dead,.dead,.dead]))]:Ok (z0I rf a0 a1 a2 a3 m0) (fun r=>L 209 [(tO a0),.sc (.int .i64 a1),.sc (.int .i64 a2),.sc (.int .i64 a3),.cl 180 [.pr [(tI m0)]]]=some (.tup [],[(tO r),.dead,.dead,.dead,.dead])):=⟨fun r h=>by have h:=z3c h;unfold z0I at h;exact z4b rfl Tryz.func209 (bdy Tryz.f209 rfl)⟩
def z0j:Nat->List Int->Int->Int->Int->List Int->Option (List Int)
 |0=>fun _ _ _ _ _=>none
 |k+1=>z0I (z0j k)
instance:∀ {k:Nat} {a0:List Int} {a1:Int} {a2:Int} {a3:Int} {m0:List Int},Ok (z0j k a0 a1 a2 a3 m0) (fun r=>L 209 [(tO a0),.sc (.int .i64 a1),.sc (.int .i64 a2),.sc (.int .i64 a3),.cl 180 [.pr [(tI m0)]]]=some (.tup [],[(tO r),.dead,.dead,.dead,.dead])):=by
 intro k
 induction k with
 |zero=>intros;exact⟨fun r h=>by cases h⟩
 |succ k ih=>intros;have ih2:= @ih;exact z3P (rf:=z0j k)
abbrev z0K(a1:Int)(m2:List Int)(w45:Int):Int×Int×List Int->Option ((Int×Int×List Int)⊕((Int×List Int)⊕List Int))
 |(w55,w56,w57)=>
 if w56<=a1 then
 (z0j 5000 w57 w55 (i64.wrap (w55+w45)) w56 m2).bind fun v59=>
 z0c (w56,i64.wrap (w56+(i64.wrap (2*w45))),v59)
 else
 z0d<|
 if(i64.wrap (w55+w45))<a1 then
 (z0j 5000 w57 w55 (i64.wrap (w55+w45)) a1 m2).bind fun v60=>
 z0c (i64.wrap (w45*2),v60)
 else
 z0c (i64.wrap (w45*2),w57)
instance{w45:Int}:Hd (z0K a1 m2 w45):=⟨fun(w55,w56,w57)=>([(7,xI w55),(8,xI w56)],[(0,(tO w57))])⟩
abbrev z0L(a1:Int)(m2:List Int):Int×List Int->Option ((Int×List Int)⊕List Int)
 |(w45,w46)=>
 if w45<a1 then
 z0h (z0K a1 m2 w45) LFm (0,i64.wrap (2*w45),w46)
 else
 z0d<|
 some w46
instance:Hd (z0L a1 m2):=⟨fun(w45,w46)=>([(6,xI w45)],[(0,(tO w46))])⟩
abbrev z0M(a1:Int)(m2:List Int):Int×Int×List Int->Option ((Int×Int×List Int)⊕List Int)
 |(w32,w33,w34)=>
 if w33<=a1 then
 (z0B w34 w32 w33 m2).bind fun v36=>
 z0c (w33,i64.wrap (w33+20),v36)
 else
 z0d<|
 (z0B w34 w32 a1 m2).bind fun v37=>
 z0h (z0L a1 m2) LFm (20,v37)
instance:Hd (z0M a1 m2):=⟨fun(w32,w33,w34)=>([(7,xI w32),(8,xI w33)],[(0,(tO w34))])⟩
def z0T(a0:List Int)(a1:Int)(m2:List Int):Option (List Int):=
 z0h (z0M a1 m2) LFm (0,20,a0)
instance:Ok (z0T a0 a1 m2) (fun r=>L 181 [(tO a0),.sc (.int .i64 a1),.cl 180 [.pr [(tI m2)]]]=some (.tup [],[(tO r),.dead,.dead])):=⟨fun r h=>by have h:=z3c h;unfold z0T at h;exact z4b rfl Tryz.func181 (bdy Tryz.f181 rfl)⟩
def z0l(a0:List Int)(m4:List Int):Option (List Int):=
 (z0T a0 (a0.length:Int) m4).bind fun v2=>
 some v2
instance{m4:List Int}:Ok (z0l a0 m4) (fun r=>L 136 [(tO a0),.cl 180 [.pr [(tI m4)]]]=some (.tup [],[(tO r),.dead])):=⟨fun r h=>by have h:=z3c h;unfold z0l at h;exact z4b rfl Tryz.func136 (bdy Tryz.f136 rfl)⟩
abbrev z2v(a0:Dgm)(w136:Int)(w138:List Int):Int×List Int->Option ((Int×List Int)⊕((Int×List Int×List Int)⊕List Int))
 |(w159,w160)=>
 if w159<(a0.sets.length:Int) then
 (atI a0.below w159).bind fun v165=>
 (atI v165 w136).bind fun v166=>
 if v166=true then
 (atI w160 w136).bind fun v167=>
 z0c (i64.wrap (w159+1),(w160.set w136.toNat (i64.wrap (v167+1))))
 else
 z0c (i64.wrap (w159+1),w160)
 else
 z0d<|
 z0c (i64.wrap (w136+1),w160,(w138.set w136.toNat w136))
instance{a0:Dgm}{w136:Int}{w138:List Int}:Hd (z2v a0 w136 w138):=⟨fun(w159,w160)=>([(34,xI w159)],[(5,.vr [(tO w160)])])⟩
abbrev z2q(a0:Dgm)(a1:List Int)(w193:Int)(v221:Int):Int×List Int->Option ((Int×List Int)⊕((Int×List Int)⊕List Int))
 |(w231,w232)=>
 if w231<(a0.sets.length:Int) then
 (atI a0.below w231).bind fun v240=>
 (atI v240 v221).bind fun v241=>
 if v241=true then
 (atI a1 w231).bind fun v242=>
 (atI a1 v221).bind fun v243=>
 if v242=v243 then
 z0c (i64.wrap (w231+1),w232)
 else
 (atI w232 v221).bind fun v244=>
 (atI w232 w231).bind fun v245=>
 z0c (i64.wrap (w231+1),(w232.set v221.toNat (if v244<(i64.wrap (v245+1)) then(i64.wrap (v245+1)) else v244)))
 else
 z0c (i64.wrap (w231+1),w232)
 else
 z0d<|
 z0c (i64.wrap (w193+1),w232)
instance{a0:Dgm}{a1:List Int}{w193:Int}{v221:Int}:Hd (z2q a0 a1 w193 v221):=⟨fun(w231,w232)=>([(76,xI w231)],[(9,(tO w232))])⟩
abbrev z2X(a0:Dgm)(a1:List Int)(v169:List Int):Int×List Int->Option ((Int×List Int)⊕List Int)
 |(w193,w194)=>
 if w193<(v169.length:Int) then
 (atI v169 w193).bind fun v221=>
 (atI a0.sets v221).bind fun v222=>
 (z7G v222).bind fun v223=>
 if v223=1 then
 z0c (i64.wrap (w193+1),w194)
 else
 z0h (z2q a0 a1 w193 v221) LFm (0,w194)
 else
 z0d<|
 some w194
instance{a0:Dgm}{a1:List Int}{v169:List Int}:Hd (z2X a0 a1 v169):=⟨fun(w193,w194)=>([(62,xI w193)],[(9,(tO w194))])⟩
abbrev z3r(a0:Dgm)(a1:List Int):Int×List Int×List Int->Option ((Int×List Int×List Int)⊕List Int)
 |(w136,w137,w138)=>
 if w136<(a0.sets.length:Int) then
 (atI w138 w136).bind fun v154=>
 z0h (z2v a0 w136 w138) LFm (0,w137)
 else
 z0d<|
 (z0l w138 w137).bind fun v169=>
 chk (z0D 8 (a0.sets.length:Int))<|
 z0h (z2X a0 a1 v169) LFm (0,List.replicate (a0.sets.length:Int).toNat (0:Int))
instance{a0:Dgm}{a1:List Int}:Hd (z3r a0 a1):=⟨fun(w136,w137,w138)=>([(24,xI w136)],[(5,.vr [(tO w137)]),(6,(tO w138))])⟩
def z3e(a0:Dgm)(a1:List Int):Option (List Int):=
 chk (z0D 8 (a0.sets.length:Int))<|
 z0h (z3r a0 a1) LFm (0,List.replicate (a0.sets.length:Int).toNat (0:Int),List.replicate (a0.sets.length:Int).toNat (0:Int))
instance{a0:Dgm}{a1:List Int}:Ok (z3e a0 a1) (fun r=>L 133 [.agg [(tI a0.sets),(tR a0.next),.sl a0.below.length (a0.below.map fun x0=>(tB x0))],(tI a1)]=some ((tO r),[.dead,.dead])):=⟨fun r h=>by have h:=z3c h;unfold z3e at h;exact z4b rfl Tryz.func133 (bdy Tryz.f133 rfl)⟩
end
end
section
open Go Go.IntKind
noncomputable section
variable{v46:DFA×Tape}{a1 a2:Int}{v32:Int×Tape}{v201:List ByteArray}{a0:Tape}
def zdi(a0:Int)(a1:Int):Option (Int):=
 if a1<1 then
 some 0
 else
 chk (¬a1=0)<|
 if(Int.tmod a0 a1)<0 then
 some (i64.wrap ((Int.tmod a0 a1)+a1))
 else
 some (Int.tmod a0 a1)
instance{a0:Int}:Ok (zdi a0 a1) (fun r=>L 30 [.sc (.int .i64 a0),.sc (.int .i64 a1)]=some (.sc (.int .i64 r),[.dead,.dead])):=⟨fun r h=>by have h:=z3c h;unfold zdi at h;exact z4b rfl Tryz.func30 (bdy Tryz.f30 rfl)⟩
def z1g(a0:Tape)(a1:Int):Option (Int×Tape):=
 if(a0.l.length:Int)<=a0.at_ then
 some (0,a0)
 else
 (atI a0.l (i64.wrap ((i64.wrap (a0.at_+1))-1))).bind fun v3=>
 (zdi v3 a1).bind fun v4=>
 some (v4,(⟨a0.l,i64.wrap (a0.at_+1)⟩:Tape))
instance:Ok (z1g a0 a1) (fun r=>L 28 [.vr [(tI a0.l),.sc (.int .i64 a0.at_)],.sc (.int .i64 a1)]=some (.sc (.int .i64 r.1),[.vr [(tI r.2.l),.sc (.int .i64 r.2.at_)],.dead])):=⟨fun r h=>by have h:=z3c h;unfold z1g at h;exact z4b rfl Tryz.func28 (bdy Tryz.f28 rfl)⟩
def zbE(a0:List Int):Option (Tape):=
 if 80<(a0.length:Int) then
 (z6B a0 0 80).bind fun v2=>
 some (⟨v2,0⟩:Tape)
 else
 some (⟨a0,0⟩:Tape)
instance{a0:List Int}:Ok (zbE a0) (fun r=>L 12 [(tI a0)]=some (.vr [(tI r.l),.sc (.int .i64 r.at_)],[.dead])):=⟨fun r h=>by have h:=z3c h;unfold zbE at h;exact z4b rfl Tryz.func12 (bdy Tryz.f12 rfl)⟩
abbrev z6n(a1:Int):Int×List Int×Int×List Int->Option ((Int×List Int×Int×List Int)⊕(ByteArray×Tape))
 |(w11,w12,w13,w14)=>
 if 0<w11 then
 (z1g (⟨w12,w13⟩:Tape) a1).bind fun v16=>
 chk (z1n 1 (w14.length+1))<|
 z0c (i64.wrap (w11-1),v16.2.l,v16.2.at_,w14++ [u8.wrap (i64.wrap (97+v16.1))])
 else
 z0d<|
 some (z1o w14,(⟨w12,w13⟩:Tape))
instance:Hd (z6n a1):=⟨fun(w11,w12,w13,w14)=>([(8,xI w11)],[(0,.vr [(tI w12),.sc (.int .i64 w13)]),(7,.os 1 w14.length (w14.map fun x0=>.sc (.int .u8 x0)))])⟩
def z6C(a0:Tape)(a1:Int)(a2:Int):Option (ByteArray×Tape):=
 (z1g a0 (i64.wrap (a2+1))).bind fun v9=>
 z0h (z6n a1) LFm (v9.1,v9.2.l,v9.2.at_,[])
instance:Ok (z6C a0 a1 a2) (fun r=>L 22 [.vr [(tI a0.l),.sc (.int .i64 a0.at_)],.sc (.int .i64 a1),.sc (.int .i64 a2)]=some (.sc (.string r.1),[.vr [(tI r.2.l),.sc (.int .i64 r.2.at_)],.dead,.dead])):=⟨fun r h=>by have h:=z3c h;unfold z6C at h;exact z4b rfl Tryz.func22 (bdy Tryz.f22 rfl)⟩
def z5h(a0:Tape):Option (Int×Tape):=
 (z1g a0 8).bind fun v2=>
 some (i64.wrap (2-(zEs .i64 v2.1 7)),v2.2)
instance:Ok (z5h a0) (fun r=>L 14 [.vr [(tI a0.l),.sc (.int .i64 a0.at_)]]=some (.sc (.int .i64 r.1),[.vr [(tI r.2.l),.sc (.int .i64 r.2.at_)]])):=⟨fun r h=>by have h:=z3c h;unfold z5h at h;exact z4b rfl Tryz.func14 (bdy Tryz.f14 rfl)⟩
abbrev z6o(a1:Int)(v32:Int×Tape)(w42:Int)(w45:List Bool)(w46:List (List Int))(v55:Int×Tape):Int×List Int×Int×List Int->Option ((Int×List Int×Int×List Int)⊕((Int×List Int×Int×List Bool×List (List Int))⊕(DFA×Tape)))
 |(w57,w58,w59,w60)=>
 if w57<a1 then
 (z1g (⟨w58,w59⟩:Tape) (i64.wrap (1+v32.1))).bind fun v62=>
 chk (z1n 8 (w60.length+1))<|
 z0c (i64.wrap (w57+1),v62.2.l,v62.2.at_,w60++ [v62.1])
 else
 z0d<|
 chk (z1n 24 (w46.length+1))<|
 z0c (i64.wrap (w42+1),w58,w59,w45++ [decide (v55.1=1)],w46++ [w60])
instance{w42:Int}{w45:List Bool}{w46:List (List Int)}{v55:Int×Tape}:Hd (z6o a1 v32 w42 w45 w46 v55):=⟨fun(w57,w58,w59,w60)=>([(11,xI w57)],[(0,.vr [(tI w58),.sc (.int .i64 w59)]),(10,(tO w60))])⟩
abbrev z6J(a1:Int)(v32:Int×Tape)(v33:Int×Tape):Int×List Int×Int×List Bool×List (List Int)->Option ((Int×List Int×Int×List Bool×List (List Int))⊕(DFA×Tape))
 |(w42,w43,w44,w45,w46)=>
 if w42<(i64.wrap (1+v32.1)) then
 (z1g (⟨w43,w44⟩:Tape) 2).bind fun v55=>
 chk (z1n 1 (w45.length+1))<|
 z0h (z6o a1 v32 w42 w45 w46 v55) LFm (0,v55.2.l,v55.2.at_,[])
 else
 z0d<|
 some ((⟨a1,v33.1,w45,w46⟩:DFA),(⟨w43,w44⟩:Tape))
instance{v33:Int×Tape}:Hd (z6J a1 v32 v33):=⟨fun(w42,w43,w44,w45,w46)=>([(9,xI w42)],[(0,.vr [(tI w43),.sc (.int .i64 w44)]),(7,.vr [.sc (.int .i64 a1),.sc (.int .i64 v33.1),.os 1 w45.length (w45.map fun x0=>.sc (.bool x0)),.os 1 w46.length (w46.map fun x0=>(tO x0))])])⟩
def z6p(a0:Tape)(a1:Int)(a2:Int):Option (DFA×Tape):=
 (z1g a0 a2).bind fun v32=>
 (z1g v32.2 (i64.wrap (1+v32.1))).bind fun v33=>
 z0h (z6J a1 v32 v33) LFm (0,v33.2.l,v33.2.at_,[],[])
instance:Ok (z6p a0 a1 a2) (fun r=>L 31 [.vr [(tI a0.l),.sc (.int .i64 a0.at_)],.sc (.int .i64 a1),.sc (.int .i64 a2)]=some (.agg [.sc (.int .i64 r.1.letters),.sc (.int .i64 r.1.start),.os 1 r.1.final.length (r.1.final.map fun x0=>.sc (.bool x0)),.os 1 r.1.next.length (r.1.next.map fun x0=>(tO x0))],[.vr [(tI r.2.l),.sc (.int .i64 r.2.at_)],.dead,.dead])):=⟨fun r h=>by have h:=z3c h;unfold z6p at h;exact z4b rfl Tryz.func31 (bdy Tryz.f31 rfl)⟩
abbrev z4V(w61:Int)(v77:List Int)(v46:DFA×Tape):Int×List (List Int)->Option ((Int×List (List Int))⊕((Int×List (List Int))⊕(DFA×Tape)))
 |(w81,w82)=>
 (atI w82 w61).bind fun v87=>
 if w81<(v77.length:Int) then
 (atI v87 w81).bind fun v88=>
 z0c (i64.wrap (w81+1),(w82.set w61.toNat (v87.set w81.toNat (if w61<v88 then v88 else w61))))
 else
 z0d<|
 z0c (i64.wrap (w61+1),w82)
instance{w61:Int}{v77:List Int}:Hd (z4V w61 v77 v46):=⟨fun(w81,w82)=>([(27,xI w81)],[(7,.vr [.sc (.int .i64 v46.1.letters),.sc (.int .i64 v46.1.start),.os 1 v46.1.final.length (v46.1.final.map fun x0=>.sc (.bool x0)),.os 1 w82.length (w82.map fun x0=>(tO x0))])])⟩
abbrev z4W(v46:DFA×Tape):Int×List (List Int)->Option ((Int×List (List Int))⊕(DFA×Tape))
 |(w61,w62)=>
 if w61<(v46.1.next.length:Int) then
 (atI w62 w61).bind fun v77=>
 z0h (z4V w61 v77 v46) LFm (0,w62)
 else
 z0d<|
 some ((⟨v46.1.letters,0,v46.1.final,w62⟩:DFA),v46.2)
instance:Hd (z4W v46):=⟨fun(w61,w62)=>([(18,xI w61)],[(7,.vr [.sc (.int .i64 v46.1.letters),.sc (.int .i64 v46.1.start),.os 1 v46.1.final.length (v46.1.final.map fun x0=>.sc (.bool x0)),.os 1 w62.length (w62.map fun x0=>(tO x0))])])⟩
def z5g(a0:Tape)(a1:Int)(a2:Int):Option (DFA×Tape):=
 (z6p a0 a1 a2).bind fun v46=>
 z0h (z4W v46) LFm (0,v46.1.next)
instance:Ok (z5g a0 a1 a2) (fun r=>L 33 [.vr [(tI a0.l),.sc (.int .i64 a0.at_)],.sc (.int .i64 a1),.sc (.int .i64 a2)]=some (.agg [.sc (.int .i64 r.1.letters),.sc (.int .i64 r.1.start),(tB r.1.final),(tR r.1.next)],[.vr [(tI r.2.l),.sc (.int .i64 r.2.at_)],.dead,.dead])):=⟨fun r h=>by have h:=z3c h;unfold z5g at h;exact zhG rfl Tryz.func33 (bdy Tryz.f33 rfl)⟩
def z2V(v90:Int×Tape)(w125:Int):Int×List Int×Int×List (List Int)×List Int->Option ((Int×List Int×Int×List (List Int)×List Int)⊕((Int×List Int×Int×List (List Int))⊕(DFA×Tape)))
 |(w162,w163,w164,w165,w166)=>
 if w162<(i64.wrap (1+v90.1)) then
 (z1g (⟨w163,w164⟩:Tape) (w166.length:Int)).bind fun v173=>
 (atI w165 w162).bind fun v174=>
 (atI w166 v173.1).bind fun v175=>
 (atI v174 w125).bind fun v176=>
 (z6B w166 0 v173.1).bind fun v177=>
 (z6B w166 (i64.wrap (v173.1+1)) (w166.length:Int)).bind fun v178=>
 chk (z1n 8 (v177.length))<|
 chk (z1n 8 (v177.length+v178.length))<|
 z0c (i64.wrap (w162+1),v173.2.l,v173.2.at_,(w165.set w162.toNat (v174.set w125.toNat v175)),v177++v178)
 else
 z0d<|
 z0c (i64.wrap (w125+1),w163,w164,w165)
def z2T(a1:Int)(v90:Int×Tape)(v91:Int×Tape)(w96:List Bool)(w125:Int):Int×List Int×Int×List (List Int)×List Int->Fr
 |(w162,w163,w164,w165,w166)=>⟨90,[(0,.one (.a 0 [] (0))),(1,.one (.t none (.sc (.int .i64 a1)))),(6,.one (.a 6 [] (0))),(7,.one (.a 7 [] (0))),(8,.one (.t none (.sc (.int .i64 (i64.wrap (1+v90.1)))))),(10,.one (.t none (.sc (.int .i64 w125)))),(11,.one (.h 11 [])),(13,.one (.t none (.sc (.int .i64 w162)))),(1090,.one (.a 0 [] (0)))],[(0,.vr [(tI w163),.sc (.int .i64 w164)]),(6,.vr [.sc (.int .i64 0),.sc (.int .i64 0),.os 1 0 [],.os 1 0 []]),(7,.vr [.sc (.int .i64 a1),.sc (.int .i64 v91.1),.os 1 w96.length (w96.map fun x0=>.sc (.bool x0)),.os 1 w165.length (w165.map fun x0=>(tO x0))]),(11,(tO w166))]⟩
def z2W(v90:Int×Tape)(w125:Int)(w126:List Int)(w127:Int)(w128:List (List Int)):Int×List Int->Option ((Int×List Int)⊕((Int×List Int×Int×List (List Int))⊕(DFA×Tape)))
 |(w154,w155)=>
 if w154<(i64.wrap (1+v90.1)) then
 chk (z1n 8 (w155.length+1))<|
 z0c (i64.wrap (w154+1),w155++ [w154])
 else
 z0d<|
 z0h (z2V v90 w125) LFm (0,w126,w127,w128,w155)
def z2U(a1:Int)(v90:Int×Tape)(v91:Int×Tape)(w96:List Bool)(w125:Int)(w126:List Int)(w127:Int)(w128:List (List Int)):Int×List Int->Fr
 |(w154,w155)=>⟨90,[(0,.one (.a 0 [] (0))),(1,.one (.t none (.sc (.int .i64 a1)))),(6,.one (.a 6 [] (0))),(7,.one (.a 7 [] (0))),(8,.one (.t none (.sc (.int .i64 (i64.wrap (1+v90.1)))))),(10,.one (.t none (.sc (.int .i64 w125)))),(11,.one (.h 11 [])),(12,.one (.t none (.sc (.int .i64 w154)))),(1090,.one (.a 0 [] (0)))],[(0,.vr [(tI w126),.sc (.int .i64 w127)]),(6,.vr [.sc (.int .i64 0),.sc (.int .i64 0),.os 1 0 [],.os 1 0 []]),(7,.vr [.sc (.int .i64 a1),.sc (.int .i64 v91.1),.os 1 w96.length (w96.map fun x0=>.sc (.bool x0)),.os 1 w128.length (w128.map fun x0=>(tO x0))]),(11,(tO w155))]⟩
def z3p(a1:Int)(v90:Int×Tape)(v91:Int×Tape)(w96:List Bool):Int×List Int×Int×List (List Int)->Option ((Int×List Int×Int×List (List Int))⊕(DFA×Tape))
 |(w125,w126,w127,w128)=>
 if w125<a1 then
 z0h (z2W v90 w125 w126 w127 w128) LFm (0,[])
 else
 z0d<|
 some ((⟨a1,v91.1,w96,w128⟩:DFA),(⟨w126,w127⟩:Tape))
def z3n(a1:Int)(v90:Int×Tape)(v91:Int×Tape)(w96:List Bool):Int×List Int×Int×List (List Int)->Fr
 |(w125,w126,w127,w128)=>⟨90,[(0,.one (.a 0 [] (0))),(1,.one (.t none (.sc (.int .i64 a1)))),(6,.one (.a 6 [] (0))),(7,.one (.a 7 [] (0))),(8,.one (.t none (.sc (.int .i64 (i64.wrap (1+v90.1)))))),(10,.one (.t none (.sc (.int .i64 w125)))),(1090,.one (.a 0 [] (0)))],[(0,.vr [(tI w126),.sc (.int .i64 w127)]),(6,.vr [.sc (.int .i64 0),.sc (.int .i64 0),.os 1 0 [],.os 1 0 []]),(7,.vr [.sc (.int .i64 a1),.sc (.int .i64 v91.1),.os 1 w96.length (w96.map fun x0=>.sc (.bool x0)),.os 1 w128.length (w128.map fun x0=>(tO x0))])]⟩
def z3q(a1:Int)(v90:Int×Tape)(v91:Int×Tape):Int×List Int×Int×List Bool×List (List Int)->Option ((Int×List Int×Int×List Bool×List (List Int))⊕(DFA×Tape))
 |(w93,w94,w95,w96,w97)=>
 if w93<(i64.wrap (1+v90.1)) then
 (z1g (⟨w94,w95⟩:Tape) 2).bind fun v99=>
 chk (z1n 1 (w96.length+1))<|
 chk (z0D 8 a1)<|
 chk (z1n 24 (w97.length+1))<|
 z0c (i64.wrap (w93+1),v99.2.l,v99.2.at_,w96++ [decide (v99.1=1)],w97++ [List.replicate a1.toNat (0:Int)])
 else
 z0d<|
 z0h (z3p a1 v90 v91 w96) LFm (0,w94,w95,w97)
def z3o(a1:Int)(v90:Int×Tape)(v91:Int×Tape):Int×List Int×Int×List Bool×List (List Int)->Fr
 |(w93,w94,w95,w96,w97)=>⟨90,[(0,.one (.a 0 [] (0))),(1,.one (.t none (.sc (.int .i64 a1)))),(6,.one (.a 6 [] (0))),(7,.one (.a 7 [] (0))),(8,.one (.t none (.sc (.int .i64 (i64.wrap (1+v90.1)))))),(9,.one (.t none (.sc (.int .i64 w93)))),(1090,.one (.a 0 [] (0)))],[(0,.vr [(tI w94),.sc (.int .i64 w95)]),(6,.vr [.sc (.int .i64 0),.sc (.int .i64 0),.os 1 0 [],.os 1 0 []]),(7,.vr [.sc (.int .i64 a1),.sc (.int .i64 v91.1),.os 1 w96.length (w96.map fun x0=>.sc (.bool x0)),.os 1 w97.length (w97.map fun x0=>(tO x0))])]⟩
def z3d(a0:Tape)(a1:Int)(a2:Int):Option (DFA×Tape):=
 (z1g a0 a2).bind fun v90=>
 (z1g v90.2 (i64.wrap (1+v90.1))).bind fun v91=>
 z0h (z3q a1 v90 v91) LFm (0,v91.2.l,v91.2.at_,[],[])
instance:Ok (z3d a0 a1 a2) (fun r=>L 32 [.vr [(tI a0.l),.sc (.int .i64 a0.at_)],.sc (.int .i64 a1),.sc (.int .i64 a2)]=some (.agg [.sc (.int .i64 r.1.letters),.sc (.int .i64 r.1.start),(tB r.1.final),(tR r.1.next)],[.vr [(tI r.2.l),.sc (.int .i64 r.2.at_)],.dead,.dead])):=⟨fun r h0=>by
 simp only[z3d] at h0
 refine zwh rfl Tryz.func32 (zfh (bdy Tryz.f32 rfl) ⟨of_decide_eq_true rfl,of_decide_eq_true rfl⟩ rfl ?_)
 simp only[z8g,z8q,z8f,zay,z7q]
 refine zp (zs ?_)
 refine z0m (zp (zs ?_))
 refine z0m (zp ?_)
 obtain⟨v90,f115,h1⟩:=z2u h0
 have f115k:=Ok.ok _ f115
 try simp at f115k
 refine zr rfl rfl rfl (by simp[f115k];rfl) ?_
 refine z0m (zp ?_)
 obtain⟨v91,f116,h2⟩:=z2u h1
 have f116k:=Ok.ok _ f116
 try simp at f116k
 refine zr rfl rfl rfl (by simp[f116k];rfl) ?_
 refine z0m (zp (zp (zs ?_)))
 refine z0m (zb rfl (z9A h2 (z3o a1 v90 v91) rfl rfl (by simp[z3o]) fun s o1 h3 hr1=> ?_))
 obtain⟨w93,w94,w95,w96,w97⟩:=s
 simp only[z3q] at h3
 simp only[z3o]
 refine zp (zp (zs ?_))
 refine z0m ?_
 by_cases c125:w93<(i64.wrap (1+v90.1))
 ·rw[if_pos c125] at h3
  refine zcn rfl (by simp[c125]) (z8p rfl (z0m (zp (zb rfl ?_))))
  obtain⟨v99,f126,h4⟩:=z2u h3
  have f126k:=Ok.ok _ f126
  try simp at f126k
  obtain⟨f127,h5⟩:=zFW h4
  obtain⟨f128,h6⟩:=zFt h5
  obtain⟨f129,h7⟩:=zme h6
  refine zls rfl rfl rfl rfl ?_
  refine zyP [(0,0,3,1),(1,2,3,2),(2,7,3,3),(3,9,3,4),(4,1,2,5),(4,3,1,6),(4,8,2,7),(4,10,1,8),(5,3,1,9),(5,8,2,10),(5,10,1,11),(6,4,3,12),(7,1,2,10),(7,3,1,13),(7,10,1,15),(8,1,2,11),(8,3,1,14),(8,8,2,15),(8,11,1,16),(9,4,3,17),(10,3,1,18),(10,10,1,20),(11,3,1,19),(11,8,2,20),(11,11,1,21),(12,1,2,17),(12,5,1,22),(12,8,2,23),(12,10,1,24),(13,4,3,23),(14,4,3,24),(15,1,2,20),(15,3,1,25),(15,11,1,27),(16,1,2,21),(16,3,1,26),(16,8,2,27),(17,5,1,28),(17,8,2,29),(17,10,1,30),(18,4,0,29),(19,4,3,30),(20,3,1,31),(20,11,1,33),(21,3,1,32),(21,8,2,33),(22,1,2,28),(22,8,2,34),(22,10,1,35),(23,1,2,29),(23,5,1,34),(23,10,1,36),(24,1,2,30),(24,5,1,35),(24,8,2,36),(24,11,1,37),(25,4,3,36),(26,4,3,37),(27,1,2,33),(27,3,1,38),(28,6,2,39),(28,8,2,40),(28,10,1,41),(29,5,1,40),(29,10,1,42),(30,5,1,41),(30,8,2,42),(30,11,1,43),(31,4,0,42),(32,4,3,43),(33,3,1,44),(34,1,2,40),(34,10,1,45),(35,1,2,41),(35,8,2,45),(35,11,1,46),(36,1,2,42),(36,5,1,45),(36,11,1,47),(37,1,2,43),(37,5,1,46),(37,8,2,47),(38,4,3,47),(39,8,2,48),(39,10,1,49),(40,6,2,48),(40,10,1,50),(41,6,2,49),(41,8,2,50),(41,11,1,51),(42,5,1,50),(42,11,1,52),(43,5,1,51),(43,8,2,52),(44,4,0,52),(45,1,2,50),(45,11,1,53),(46,1,2,51),(46,8,2,53),(47,1,2,52),(47,5,1,53),(48,13,3,55),(49,8,2,54),(49,11,1,56),(50,6,2,54),(50,11,1,57),(51,6,2,56),(51,8,2,57),(52,5,1,57),(53,1,2,57),(54,13,3,59),(55,10,1,59),(56,8,2,58),(57,6,2,58),(58,13,3,60),(59,11,1,60),(60,12,2,61),(61,14,2,62),(62,15,0,63),(63,16,2,64)] 64 (by kernel_rfl) ?_
  iterate 12 (refine z1x rfl rfl rfl rfl (by simp[z0x,z0y,f126k,f127,f128,f129];rfl) ?_)
  refine z1w rfl rfl rfl rfl (by simp[z0x,z0y,f126k,f127,f128,f129]) ?_
  refine z1x rfl rfl rfl rfl (by simp[z0x,z0y,f126k,f127,f128,f129];rfl) ?_
  refine z1x rfl rfl rfl rfl (by simp[z0x,z0y,f126k,f127,f128,f129];rfl) ?_
  refine z1w rfl rfl rfl rfl (by simp[z0x,z0y,f126k,f127,f128,f129]) ?_
  refine z1x rfl rfl rfl rfl (by simp[z0x,z0y,f126k,f127,f128,f129];rfl) ?_
  refine z1w rfl rfl rfl rfl (by simp[z0x,z0y,f126k,f127,f128,f129]) ?_
  iterate 5 (refine z1x rfl rfl rfl rfl (by simp[z0x,z0y,f126k,f127,f128,f129];rfl) ?_)
  refine z1w rfl rfl rfl rfl (by simp[z0x,z0y,f126k,f127,f128,f129]) ?_
  refine z1x rfl rfl rfl rfl (by simp[z0x,z0y,f126k,f127,f128,f129];rfl) ?_
  refine z1w rfl rfl rfl rfl (by simp[z0x,z0y,f126k,f127,f128,f129]) ?_
  iterate 3 (refine z1x rfl rfl rfl rfl (by simp[z0x,z0y,f126k,f127,f128,f129];rfl) ?_)
  iterate 3 (refine z1w rfl rfl rfl rfl (by simp[z0x,z0y,f126k,f127,f128,f129]) ?_)
  refine z1x rfl rfl rfl rfl (by simp[z0x,z0y,f126k,f127,f128,f129];rfl) ?_
  refine z1x rfl rfl rfl rfl (by simp[z0x,z0y,f126k,f127,f128,f129];rfl) ?_
  refine z1w rfl rfl rfl rfl (by simp[z0x,z0y,f126k,f127,f128,f129]) ?_
  refine z1x rfl rfl rfl rfl (by simp[z0x,z0y,f126k,f127,f128,f129];rfl) ?_
  refine z1w rfl rfl rfl rfl (by simp[z0x,z0y,f126k,f127,f128,f129]) ?_
  iterate 3 (refine z1x rfl rfl rfl rfl (by simp[z0x,z0y,f126k,f127,f128,f129];rfl) ?_)
  refine z1w rfl rfl rfl rfl (by simp[z0x,z0y,f126k,f127,f128,f129]) ?_
  refine z1w rfl rfl rfl rfl (by simp[z0x,z0y,f126k,f127,f128,f129]) ?_
  iterate 3 (refine z1x rfl rfl rfl rfl (by simp[z0x,z0y,f126k,f127,f128,f129];rfl) ?_)
  refine z1w rfl rfl rfl rfl (by simp[z0x,z0y,f126k,f127,f128,f129]) ?_
  refine z1w rfl rfl rfl rfl (by simp[z0x,z0y,f126k,f127,f128,f129]) ?_
  refine z1x rfl rfl rfl rfl (by simp[z0x,z0y,f126k,f127,f128,f129];rfl) ?_
  refine z1x rfl rfl rfl rfl (by simp[z0x,z0y,f126k,f127,f128,f129];rfl) ?_
  refine z1w rfl rfl rfl rfl (by simp[z0x,z0y,f126k,f127,f128,f129]) ?_
  refine z1w rfl rfl rfl rfl (by simp[z0x,z0y,f126k,f127,f128,f129]) ?_
  refine z1x rfl rfl rfl rfl (by simp[z0x,z0y,f126k,f127,f128,f129];rfl) ?_
  iterate 3 (refine z1w rfl rfl rfl rfl (by simp[z0x,z0y,f126k,f127,f128,f129]) ?_)
  refine z1x rfl rfl rfl rfl (by simp[z0x,z0y,f126k,f127,f128,f129];rfl) ?_
  iterate 3 (refine z1w rfl rfl rfl rfl (by simp[z0x,z0y,f126k,f127,f128,f129]) ?_)
  iterate 4 (refine z1x rfl rfl rfl rfl (by simp[z0x,z0y,f126k,f127,f128,f129];rfl) ?_)
  refine z1w rfl rfl rfl rfl (by simp[z0x,z0y,f126k,f127,f128,f129]) ?_
  refine z1x rfl rfl rfl rfl (by simp[z0x,z0y,f126k,f127,f128,f129];rfl) ?_
  refine z1w rfl rfl rfl rfl (by simp[z0x,z0y,f126k,f127,f128,f129]) ?_
  refine z1w rfl rfl rfl rfl (by simp[z0x,z0y,f126k,f127,f128,f129]) ?_
  refine z1x rfl rfl rfl rfl (by simp[z0x,z0y,f126k,f127,f128,f129];rfl) ?_
  refine z1w rfl rfl rfl rfl (by simp[z0x,z0y,f126k,f127,f128,f129]) ?_
  refine z1w rfl rfl rfl rfl (by simp[z0x,z0y,f126k,f127,f128,f129]) ?_
  refine z1x rfl rfl rfl rfl (by simp[z0x,z0y,f126k,f127,f128,f129];rfl) ?_
  refine z1w rfl rfl rfl rfl (by simp[z0x,z0y,f126k,f127,f128,f129]) ?_
  refine z1x rfl rfl rfl rfl (by simp[z0x,z0y,f126k,f127,f128,f129];rfl) ?_
  refine z1w rfl rfl rfl rfl (by simp[z0x,z0y,f126k,f127,f128,f129]) ?_
  refine z1w rfl rfl rfl rfl (by simp[z0x,z0y,f126k,f127,f128,f129]) ?_
  refine z1x rfl rfl rfl rfl (by simp[z0x,z0y,f126k,f127,f128,f129];rfl) ?_
  refine z1w rfl rfl rfl rfl (by simp[z0x,z0y,f126k,f127,f128,f129]) ?_
  refine z1w rfl rfl rfl rfl (by simp[z0x,z0y,f126k,f127,f128,f129]) ?_
  refine z1x rfl rfl rfl rfl (by simp[z0x,z0y,f126k,f127,f128,f129];rfl) ?_
  iterate 4 (refine z1w rfl rfl rfl rfl (by simp[z0x,z0y,f126k,f127,f128,f129]) ?_)
  refine z1x rfl rfl rfl rfl (by simp[z0x,z0y,f126k,f127,f128,f129];rfl) ?_
  refine z1x rfl rfl rfl rfl (by simp[z0x,z0y,f126k,f127,f128,f129];rfl) ?_
  refine z1w rfl rfl rfl rfl (by simp[z0x,z0y,f126k,f127,f128,f129]) ?_
  refine z1x rfl rfl rfl rfl (by simp[z0x,z0y,f126k,f127,f128,f129];rfl) ?_
  refine z1w rfl rfl rfl rfl (by simp[z0x,z0y,f126k,f127,f128,f129]) ?_
  refine z1w rfl rfl rfl rfl (by simp[z0x,z0y,f126k,f127,f128,f129]) ?_
  refine z1x rfl rfl rfl rfl (by simp[z0x,z0y,f126k,f127,f128,f129];rfl) ?_
  refine z1w rfl rfl rfl rfl (by simp[z0x,z0y,f126k,f127,f128,f129]) ?_
  refine z1x rfl rfl rfl rfl (by simp[z0x,z0y,f126k,f127,f128,f129];rfl) ?_
  iterate 4 (refine z1w rfl rfl rfl rfl (by simp[z0x,z0y,f126k,f127,f128,f129]) ?_)
  refine z1x rfl rfl rfl rfl (by simp[z0x,z0y,f126k,f127,f128,f129];rfl) ?_
  iterate 4 (refine z1w rfl rfl rfl rfl (by simp[z0x,z0y,f126k,f127,f128,f129]) ?_)
  iterate 3 (refine z1x rfl rfl rfl rfl (by simp[z0x,z0y,f126k,f127,f128,f129];rfl) ?_)
  refine z1w rfl rfl rfl rfl (by simp[z0x,z0y,f126k,f127,f128,f129]) ?_
  refine z1x rfl rfl rfl rfl (by simp[z0x,z0y,f126k,f127,f128,f129];rfl) ?_
  iterate 4 (refine z1w rfl rfl rfl rfl (by simp[z0x,z0y,f126k,f127,f128,f129]) ?_)
  refine z1x rfl rfl rfl rfl (by simp[z0x,z0y,f126k,f127,f128,f129];rfl) ?_
  refine z1w rfl rfl rfl rfl (by simp[z0x,z0y,f126k,f127,f128,f129]) ?_
  refine z1x rfl rfl rfl rfl (by simp[z0x,z0y,f126k,f127,f128,f129];rfl) ?_
  refine z1w rfl rfl rfl rfl (by simp[z0x,z0y,f126k,f127,f128,f129]) ?_
  refine z1x rfl rfl rfl rfl (by simp[z0x,z0y,f126k,f127,f128,f129];rfl) ?_
  refine z1w rfl rfl rfl rfl (by simp[z0x,z0y,f126k,f127,f128,f129]) ?_
  iterate 4 (refine z1x rfl rfl rfl rfl (by simp[z0x,z0y,f126k,f127,f128,f129];rfl) ?_)
  refine zzi rfl ?_
  refine zkV rfl (by simp[f126k,f127,f128,f129];rfl) ?_
  refine z5V (z0m (zs ?_))
  have ho:=z5f h7
  refine z6j ho ?_
  simp[z3o]
 ·rw[if_neg c125] at h3
  refine zco rfl (by simp[c125]) (zaU rfl (z8S ?_))
  obtain⟨rr1,h4,ho1⟩:=z6f h3
  have hs1:=hr1 _ ho1
  subst hs1
  refine z7R ho1 (z4u rfl (z0m (zp (zp (zs ?_)))))
  refine z0m (zb rfl (z9A h4 (z3n a1 v90 v91 w96) rfl rfl (by simp[z3n]) fun s o2 h5 hr2=> ?_))
  obtain⟨w125,w126,w127,w128⟩:=s
  simp only[z3p] at h5
  simp only[z3n]
  refine zp (zp (zs ?_))
  refine z0m ?_
  by_cases c196:w125<a1
  ·rw[if_pos c196] at h5
   refine zcn rfl (by simp[c196]) (z8p rfl (z0m (zp (zb rfl (zp (zs ?_))))))
   refine z0m (zp (zp (zs ?_)))
   refine z0m (zb rfl (z9A h5 (z2U a1 v90 v91 w96 w125 w126 w127 w128) rfl rfl (by simp[z2U]) fun s o3 h6 hr3=> ?_))
   obtain⟨w154,w155⟩:=s
   simp only[z2W] at h6
   simp only[z2U]
   refine zp (zp (zs ?_))
   refine z0m ?_
   by_cases c200:w154<(i64.wrap (1+v90.1))
   ·rw[if_pos c200] at h6
    refine zcn rfl (by simp[c200]) (z8p rfl (z0m (zp (zb rfl ?_))))
    obtain⟨f201,h7⟩:=zme h6
    refine zr rfl rfl rfl (by simp[f201];rfl) ?_
    refine z5V (z0m (zs ?_))
    have ho:=z5f h7
    refine z6j ho ?_
    simp[z2U]
   ·rw[if_neg c200] at h6
    refine zco rfl (by simp[c200]) (zaU rfl (z8S ?_))
    obtain⟨rr3,h7,ho3⟩:=z6f h6
    have hs3:=hr3 _ ho3
    subst hs3
    refine z7R ho3 (z4u rfl (z0m (zp (zs ?_))))
    refine z0m (zb rfl (z9A h7 (z2T a1 v90 v91 w96 w125) rfl rfl (by simp[z2T]) fun s o4 h8 hr4=> ?_))
    obtain⟨w162,w163,w164,w165,w166⟩:=s
    simp only[z2V] at h8
    simp only[z2T]
    refine zp (zp (zs ?_))
    refine z0m ?_
    by_cases c220:w162<(i64.wrap (1+v90.1))
    ·rw[if_pos c220] at h8
     refine zcn rfl (by simp[c220]) (z8p rfl (z0m (zp (zb rfl (zp ?_)))))
     obtain⟨v173,f221,h9⟩:=z2u h8
     have f221k:=Ok.ok _ f221
     try simp at f221k
     refine zr rfl rfl rfl (by simp[f221k];rfl) ?_
     refine z0m (zp ?_)
     obtain⟨v174,f222,h10⟩:=za4 h9
     obtain⟨v175,f223,h11⟩:=za4 h10
     obtain⟨v176,f224,h12⟩:=za4 h11
     refine zal rfl rfl rfl rfl ?_;repeat' ((first|refine z6k rfl rfl fun Q' hQ=> ?_|refine z5s rfl fun Q' hQ=> ?_);simp[f222,f223,f224];refine hQ.out _ ?_;clear hQ;clear Q')
     refine z0m ?_
     obtain⟨v177,f225,h13⟩:=z2u h12
     obtain⟨f225a,f225b,f225c,-⟩:=z5Y f225
     obtain⟨f225d,f225g⟩:=zd9 f225a f225b
     have f225e:=zel (g:=fun x:Int=>(.sc (.int .i64 x):T)) f225
     try simp at f225e
     have f225f:=zek f225
     try simp only[Int.reduceToNat,Z2,YR] at f225f
     obtain⟨v178,f226,h14⟩:=z2u h13
     obtain⟨f226a,f226b,f226c,-⟩:=z5Y f226
     obtain⟨f226d,f226g⟩:=zd9 f226a f226b
     have f226e:=zel (g:=fun x:Int=>(.sc (.int .i64 x):T)) f226
     try simp at f226e
     have f226f:=zek f226
     try simp only[Int.reduceToNat,Z2,YR] at f226f
     obtain⟨f227,h15⟩:=zme h14
     obtain⟨f228,h16⟩:=zme h15
     refine zal rfl rfl rfl rfl ?_;repeat' ((first|refine z6k rfl rfl fun Q' hQ=> ?_|refine z5s rfl fun Q' hQ=> ?_);simp[f222,f225a,f225b,f225c,f225d,f225g,f225e,f225f,f226a,f226b,f226c,f226d,f226g,f226e,f226f,f227,f228];refine hQ.out _ ?_;clear hQ;clear Q')
     refine z5V (z0m (zr rfl rfl rfl (by simp[f222];rfl) ?_))
     have ho:=z5f h16
     refine z6j ho ?_
     simp[z2T]
    ·rw[if_neg c220] at h8
     refine zco rfl (by simp[c220]) (zaU rfl (z8S ?_))
     obtain⟨rr4,h9,ho4⟩:=z6f h8
     have hs4:=hr4 _ ho4
     subst hs4
     refine z7R ho4 (z4u rfl (z5V (z0m (zs ?_))))
     have ho:=z5f h9
     refine z6j ho ?_
     simp[z3n]
  ·rw[if_neg c196] at h5
   refine zco rfl (by simp[c196]) (zaU rfl (z8S ?_))
   obtain⟨rr2,h6,ho2⟩:=z6f h5
   have hs2:=hr2 _ ho2
   subst hs2
   refine z7R ho2 (z4u rfl (z0m (zp (zs ?_))))
   refine z0m (zn2 rfl ?_)
   cases h6
   simp⟩
abbrev zdg(a0:Int)(a1:Int)(w31:Int):Int×List ByteArray->Option ((Int×List ByteArray)⊕((Int×List ByteArray)⊕List ByteArray))
 |(w43,w44)=>
 if w43<a0 then
 (atI w44 w31).bind fun v47=>
 if(v47.size:Int)<a1 then
 chk (zaH v47 ⟨#[UInt8.ofNat (u8.wrap (i64.wrap (97+w43))).toNat]⟩)<|
 chk (z1n 16 (w44.length+1))<|
 z0c (i64.wrap (w43+1),w44++ [v47++⟨#[UInt8.ofNat (u8.wrap (i64.wrap (97+w43))).toNat]⟩])
 else
 z0d<|
 z0c (i64.wrap (w31+1),w44)
 else
 z0d<|
 z0c (i64.wrap (w31+1),w44)
instance{a0:Int}{w31:Int}:Hd (zdg a0 a1 w31):=⟨fun(w43,w44)=>([(7,xI w43)],[(5,.os 1 w44.length (w44.map fun x0=>.sc (.string x0)))])⟩
abbrev zdh(a0:Int)(a1:Int):Int×List ByteArray->Option ((Int×List ByteArray)⊕List ByteArray)
 |(w31,w32)=>
 if w31<(w32.length:Int) then
 z0h (zdg a0 a1 w31) LFm (0,w32)
 else
 z0d<|
 some w32
instance{a0:Int}:Hd (zdh a0 a1):=⟨fun(w31,w32)=>([(6,xI w31)],[(5,.os 1 w32.length (w32.map fun x0=>.sc (.string x0)))])⟩
def z7E(a0:Int)(a1:Int):Option (List ByteArray):=
 z0h (zdh a0 a1) LFm (0,[ByteArray.empty])
instance{a0:Int}:Ok (z7E a0 a1) (fun r=>L 93 [.sc (.int .i64 a0),.sc (.int .i64 a1)]=some (.os 1 r.length (r.map fun x0=>.sc (.string x0)),[.dead,.dead])):=⟨fun r h=>by have h:=z3c h;unfold z7E at h;exact z4b rfl Tryz.func93 (bdy Tryz.f93 rfl)⟩
abbrev z7v(v201:List ByteArray)(w385:ByteArray):Int×Int->Option ((Int×Int)⊕((ByteArray×Int)⊕((Int×List Int)⊕((Int×List Int×Int×List Bool×List (List Int))⊕(DFA×Tape)))))
 |(w394,w395)=>
 if w395<(v201.length:Int) then
 (atI v201 w395).bind fun v397=>
 if v397=w385 then
 z0c (w395,i64.wrap (w395+1))
 else
 z0c (w394,i64.wrap (w395+1))
 else
 z0d<|
 (zoB w385 1 (w385.size:Int)).bind fun v398=>
 z0c (v398,w394)
instance{w385:ByteArray}:Hd (z7v v201 w385):=⟨fun(w394,w395)=>([(12,xI w394),(52,xI w395)],[])⟩
abbrev z4v(v201:List ByteArray)(w357:Int)(w358:List Int):ByteArray×Int->Option ((ByteArray×Int)⊕((Int×List Int)⊕((Int×List Int×Int×List Bool×List (List Int))⊕(DFA×Tape))))
 |(w385,w386)=>
 if w386=(-1) then
 z0h (z7v v201 w385) LFm (w386,0)
 else
 z0d<|
 chk (z1n 8 (w358.length+1))<|
 z0c (i64.wrap (w357+1),w358++ [w386])
instance{w357:Int}{w358:List Int}:Hd (z4v v201 w357 w358):=⟨fun(w385,w386)=>([(11,xS w385),(12,xI w386)],[])⟩
abbrev z3A(a1:Int)(v201:List ByteArray)(w266:Int)(w269:List Bool)(w270:List (List Int))(v335:ByteArray)(v336:Int×Tape):Int×List Int->Option ((Int×List Int)⊕((Int×List Int×Int×List Bool×List (List Int))⊕(DFA×Tape)))
 |(w357,w358)=>
 if w357<a1 then
 chk (zaH v335 ⟨#[UInt8.ofNat (u8.wrap (i64.wrap (97+w357))).toNat]⟩)<|
 z0h (z4v v201 w357 w358) LFm (v335++⟨#[UInt8.ofNat (u8.wrap (i64.wrap (97+w357))).toNat]⟩,(-1))
 else
 z0d<|
 chk (z1n 24 (w270.length+1))<|
 z0c (i64.wrap (w266+1),v336.2.l,v336.2.at_,w269++ [decide (v336.1=1)],w270++ [w358])
instance{w266:Int}{w269:List Bool}{w270:List (List Int)}{v335:ByteArray}{v336:Int×Tape}:Hd (z3A a1 v201 w266 w269 w270 v335 v336):=⟨fun(w357,w358)=>([(10,xI w357)],[(9,(tO w358))])⟩
abbrev z4E(a1:Int)(v201:List ByteArray):Int×List Int×Int×List Bool×List (List Int)->Option ((Int×List Int×Int×List Bool×List (List Int))⊕(DFA×Tape))
 |(w266,w267,w268,w269,w270)=>
 if w266<(v201.length:Int) then
 (atI v201 w266).bind fun v335=>
 (z1g (⟨w267,w268⟩:Tape) 2).bind fun v336=>
 chk (z1n 1 (w269.length+1))<|
 z0h (z3A a1 v201 w266 w269 w270 v335 v336) LFm (0,[])
 else
 z0d<|
 some ((⟨a1,0,w269,w270⟩:DFA),(⟨w267,w268⟩:Tape))
instance:Hd (z4E a1 v201):=⟨fun(w266,w267,w268,w269,w270)=>([(24,xI w266)],[(0,.vr [(tI w267),.sc (.int .i64 w268)]),(5,.vr [.sc (.int .i64 a1),.sc (.int .i64 0),.os 1 w269.length (w269.map fun x0=>.sc (.bool x0)),.os 1 w270.length (w270.map fun x0=>(tO x0))])])⟩
def z4F(a0:Tape)(a1:Int):Option (DFA×Tape):=
 (z1g a0 2).bind fun v200=>
 (z7E a1 (i64.wrap (1+v200.1))).bind fun v201=>
 z0h (z4E a1 v201) LFm (0,v200.2.l,v200.2.at_,[],[])
instance:Ok (z4F a0 a1) (fun r=>L 43 [.vr [(tI a0.l),.sc (.int .i64 a0.at_)],.sc (.int .i64 a1)]=some (.agg [.sc (.int .i64 r.1.letters),.sc (.int .i64 r.1.start),.os 1 r.1.final.length (r.1.final.map fun x0=>.sc (.bool x0)),.os 1 r.1.next.length (r.1.next.map fun x0=>(tO x0))],[.vr [(tI r.2.l),.sc (.int .i64 r.2.at_)],.dead])):=⟨fun r h=>by have h:=z3c h;unfold z4F at h;exact z4b rfl Tryz.func43 (bdy Tryz.f43 rfl)⟩
def z6q(a0:Tape)(a1:Int)(a2:Int):Option (DFA×Tape):=
 (z1g a0 6).bind fun v6=>
 if v6.1=1 then
 (z5g v6.2 a1 a2).bind fun v7=>
 some (v7.1,v7.2)
 else
 if v6.1=2 then
 (z3d v6.2 a1 (if 4<a2 then 4 else a2)).bind fun v8=>
 some (v8.1,v8.2)
 else
 if v6.1=3 then
 (z4F v6.2 a1).bind fun v9=>
 some (v9.1,v9.2)
 else
 (z6p v6.2 a1 a2).bind fun v10=>
 some (v10.1,v10.2)
instance:Ok (z6q a0 a1 a2) (fun r=>L 13 [.vr [(tI a0.l),.sc (.int .i64 a0.at_)],.sc (.int .i64 a1),.sc (.int .i64 a2)]=some (.agg [.sc (.int .i64 r.1.letters),.sc (.int .i64 r.1.start),(tB r.1.final),(tR r.1.next)],[.vr [(tI r.2.l),.sc (.int .i64 r.2.at_)],.dead,.dead])):=⟨fun r h=>by have h:=z3c h;unfold z6q at h;exact zhG rfl Tryz.func13 (bdy Tryz.f13 rfl)⟩
end
end
section
open Go
structure TapeOk(t:Tape):Prop where
 a0:0<=t.at_
 a1:t.at_<=t.l.length
 a2:t.l.length<=80
theorem znm(x n:Int)(h1:1<=n)(h2:n<4611686018427387904):∃v,zdi x n=some v/\0<=v/\v<n:=by
 have hx:x.tmod n<n:=Int.tmod_lt_of_pos _ (by omega)
 have hy: -n<x.tmod n:=Int.lt_tmod_of_pos x (by omega)
 unfold zdi
 rw[if_neg (by omega),z0e _ (by omega)]
 split
 · rw[z2z (by omega) (by omega)];exact⟨_,rfl,by omega,by omega⟩
 · exact⟨_,rfl,by omega,by omega⟩
theorem z7f{t:Tape}(ht:TapeOk t)(n:Int)(h1:1<=n)(h2:n<4611686018427387904):∃v t',z1g t n=some (v,t')/\0<=v/\v<n/\TapeOk t':=by
 obtain⟨a0,a1,a2⟩:=ht
 unfold z1g
 split
 · exact⟨_,_,rfl,by omega,by omega,a0,a1,a2⟩
 · rename_i hlt
   rw[z2z (x:=t.at_+1) (by omega) (by omega),z2z (by omega) (by omega)]
   obtain⟨k,hk⟩:=ZF a0
   have e:t.at_+1-1=(k:Int):=by omega
   rw[e,z0Q (by omega)]
   obtain⟨v,hv,h3,h4⟩:=znm t.l[k] n h1 h2
   simp only[Z0,hv]
   exact⟨_,_,rfl,h3,h4,by simp only;omega,by simp only;omega,a2⟩
theorem zz8(l:List Int):∃t,zbE l=some t/\TapeOk t:=by
 unfold zbE
 split
 · rename_i h
   have:=zaW (xs:=l) (k:=80) (by omega)
   simp only[Int.cast_ofNat_Int] at this
   rw[this]
   exact⟨_,rfl,by simp,by simp,by simp only[Zp];omega⟩
 · exact⟨_,rfl,by simp,by simp,by simp;omega⟩
def zoT(m:Int)(w:ByteArray):Prop:=∀k,∀h:k<w.size,97<=(w[k].toNat:Int)/\(w[k].toNat:Int)<97+m
theorem zbb(l:List Int):(z1o l).size=l.length:=by simp[z1o,ByteArray.size]
theorem znT(l:List Int)(k:Nat)(h:k<(z1o l).size):(z1o l)[k]=UInt8.ofNat (l[k]'(by rw[zbb] at h;exact h)).toNat:=by
 simp[z1o,ByteArray.getElem_eq_getElem_data]
theorem zzx{t:Tape}(ht:TapeOk t)(m most:Int)(hm:1<=m/\m<=26)(hk:0<=most/\most<1000):∃w t',z6C t m most=some (w,t')/\zoT m w/\(w.size:Int)<=most/\TapeOk t':=by
 unfold z6C
 rw[z2z (by omega) (by omega)]
 obtain⟨n,t1,e1,n0,n1,ht1⟩:=z7f ht (most+1) (by omega) (by omega)
 simp only[e1,Z0]
 refine Exists.elim (z1r (b:=z6n m) (fun s=>0<=s.1/\s.1+s.2.2.2.length=n/\TapeOk ⟨s.2.1,s.2.2.1⟩/\ ∀x∈s.2.2.2,97<=x/\x<97+m) (fun s=>s.1.toNat) (fun r=>zoT m r.1/\(r.1.size:Int)<=most/\TapeOk r.2) ?_ LFm (n,t1.l,t1.at_,[]) ⟨n0,by simp,ht1,by simp⟩ (by simp only[LFm];omega)) fun r h=>⟨r.1,r.2,h⟩
 rintro⟨q,l,a,b⟩ ⟨i1,i2,i3,i4⟩
 simp only at i1 i2 i3 i4⊢
 simp only[z6n]
 by_cases hq:0<q
 · left
   obtain⟨v,t2,e2,v0,v1,ht2⟩:=z7f i3 m (by omega) (by omega)
   rw[if_pos hq,e2]
   simp only[Z0]
   rw[z0e _ (by unfold z1n;omega),z2z (x:=q-1) (by omega) (by omega),z2z (x:=97+v) (by omega) (by omega),zwu (by omega) (by omega)]
   refine⟨_,rfl,⟨by simp only;omega,by simp only[Z7,ZE];omega,ht2,?_⟩,by simp only;omega⟩
   intro x hx
   rcases Ze.1 hx with h|h
   · exact i4 x h
   · have:x=97+v:=by simpa using h
     omega
 · right
   rw[if_neg hq]
   refine⟨_,rfl,fun k hk=> ?_,by rw[zbb];omega,i3⟩
   rw[znT]
   have:=i4 _ (Zm (by rw[zbb] at hk;exact hk))
   generalize b[k]'_=z at this
   simp only[Xz]
   omega
end
section
open Go
def za6(m n:Nat)(r:List Int):Prop:=r.length=m/\ ∀x∈r,0<=x/\x<n
structure DfaOk(d:DFA)(m n:Nat):Prop where
 lt:d.letters=m
 m1:1<=m
 m6:m<=6
 n1:1<=n
 fin:d.final.length=n
 nl:d.next.length=n
 s0:0<=d.start
 s1:d.start<n
 row:∀r∈d.next,za6 m n r
theorem zgN{σ τ ρ:Type}{b:σ->Option (σ⊕(τ⊕ρ))}(I:σ->Prop)(m:σ->Nat)(Post:τ->Prop){s:σ}(hI:I s)(hm:m s<LFm)
 (step:∀s,I s->(∃s',b s=some (.inl s')/\I s'/\m s'<m s)∨(∃r,b s=some (.inr (.inl r))/\Post r)):∃r,z0h b LFm s=some (.inl r)/\Post r:=by
 obtain⟨r,h1,r',h2,h3⟩:=z1r I m (fun r=>∃t,r= .inl t/\Post t) (fun s hs=>(step s hs).imp id fun⟨r,h,hp⟩=>⟨_,h,r,rfl,hp⟩) LFm s hI hm
 exact⟨r',by rw[h1,h2],h3⟩
theorem zdd{α:Type}{l:List α}{x y:α}:y∈l++ [x]↔y∈l∨y=x:=by simp
theorem zzj{t:Tape}(ht:TapeOk t)(m most:Nat)(hm:1<=m/\m<=6)(hk:1<=most/\most<=1000):∃d t' n,z6p t m most=some (d,t')/\DfaOk d m n/\n<=most/\TapeOk t':=by
 unfold z6p
 obtain⟨v,t1,e1,v0,v1,ht1⟩:=z7f ht (most:Int) (by omega) (by omega)
 simp only[e1,Z0]
 obtain⟨k,rfl⟩:=ZF v0
 have hw:IntKind.i64.wrap (1+(k:Int))=((k+1:Nat):Int):=by rw[z2z (by omega) (by omega)];omega
 rw[hw]
 obtain⟨s,t2,e2,s0,s1,ht2⟩:=z7f ht1 ((k+1:Nat):Int) (by omega) (by omega)
 simp only[e2,Z0]
 refine Exists.elim (z1r (b:=z6J m ((k:Int),t1) (s,t2)) (fun z=>0<=z.1/\z.1<=(k+1:Nat)/\TapeOk ⟨z.2.1,z.2.2.1⟩/\(z.2.2.2.1.length:Int)=z.1/\(z.2.2.2.2.length:Int)=z.1/\ ∀r∈z.2.2.2.2,za6 m (k+1) r) (fun z=>k+2-z.1.toNat)
  (fun r=>DfaOk r.1 m (k+1)/\TapeOk r.2) ?_ LFm (0,t2.l,t2.at_,[],[]) ⟨by simp,by simp;omega,ht2,by simp,by simp,by simp⟩ (by simp only[LFm];omega)) fun r h=>⟨r.1,r.2,k+1,h.1,h.2.1,by omega,h.2.2⟩
 rintro⟨i,tl,ta,fs,rs⟩ ⟨i0,i1,i2,i3,i4,i5⟩
 simp only at i0 i1 i2 i3 i4 i5⊢
 simp only[z6J,hw]
 by_cases hi:i<((k+1:Nat):Int)
 · left
   rw[if_pos hi]
   obtain⟨u,t3,e3,u0,u1,ht3⟩:=z7f i2 2 (by omega) (by omega)
   simp only[e3,Z0]
   rw[z0e _ (by unfold z1n;omega)]
   refine Exists.elim (zgN (b:=z6o m ((k:Int),t1) i fs rs (u,t3)) (fun z=>0<=z.1/\z.1<=m/\TapeOk ⟨z.2.1,z.2.2.1⟩/\(z.2.2.2.length:Int)=z.1/\ ∀x∈z.2.2.2,0<=x/\x<(k+1:Nat)) (fun z=>m+1-z.1.toNat)
    (fun z=>z.1=i+1/\TapeOk ⟨z.2.1,z.2.2.1⟩/\(z.2.2.2.1.length:Int)=i+1/\(z.2.2.2.2.length:Int)=i+1/\ ∀r∈z.2.2.2.2,za6 m (k+1) r) (s:=(0,t3.l,t3.at_,[])) ⟨by simp,by simp,ht3,by simp,by simp⟩ (by simp only[LFm];omega) ?_) fun r h=>⟨_,h.1,⟨by have:=h.2.1;omega,by have:=h.2.1;omega,h.2.2.1,by have:=h.2.1;have:=h.2.2.2.1;omega,by have:=h.2.1;have:=h.2.2.2.2.1;omega,h.2.2.2.2.2⟩,by have:=h.2.1;omega⟩
   rintro⟨j,ul,ua,row⟩ ⟨j0,j1,j2,j3,j4⟩
   simp only at j0 j1 j2 j3 j4⊢
   simp only[z6o,hw]
   by_cases hj:j<(m:Int)
   · left
     rw[if_pos hj]
     obtain⟨x,t4,e4,x0,x1,ht4⟩:=z7f j2 ((k+1:Nat):Int) (by omega) (by omega)
     simp only[e4,Z0]
     rw[z0e _ (by unfold z1n;omega),z2z (by omega) (by omega)]
     refine⟨_,rfl,⟨by simp only;omega,by simp only;omega,ht4,by simp only[Z7,ZE];omega,fun y hy=> ?_⟩,by simp only;omega⟩
     rcases zdd.1 hy with h|rfl
     · exact j4 y h
     · exact⟨x0,x1⟩
   · right
     rw[if_neg hj,z0e _ (by unfold z1n;omega),z2z (by omega) (by omega)]
     refine⟨_,rfl,by simp only,j2,by simp only[Z7,ZE];omega,by simp only[Z7,ZE];omega,fun y hy=> ?_⟩
     rcases zdd.1 hy with h|rfl
     · exact i5 y h
     · exact⟨by omega,j4⟩
 · right
   rw[if_neg hi]
   exact⟨_,rfl,⟨rfl,hm.1,hm.2,by omega,by simp only;omega,by simp only;omega,s0,s1,i5⟩,i2⟩
theorem zr3{t:Tape}(ht:TapeOk t):∃m t',z5h t=some (((m:Nat):Int),t')/\1<=m/\m<=2/\TapeOk t':=by
 unfold z5h
 obtain⟨v,t1,e1,v0,v1,ht1⟩:=z7f ht 8 (by omega) (by omega)
 simp only[e1,Z0]
 obtain⟨k,rfl⟩:=ZF v0
 have:zEs .i64 (k:Int) 7=((k/7:Nat):Int):=by
  unfold zEs
  rw[show((k:Int).tdiv 7)=((k/7:Nat):Int) by rfl,z2z (by omega) (by omega)]
 rw[this,z2z (by omega) (by omega)]
 exact⟨2-k/7,t1,by congr 2;omega,by omega,by omega,ht1⟩
end
section
open Go
variable{rs:List (List Int)}{xs:List Int}{k m n:Nat}{t:Tape}
theorem zow(h:∀r∈rs,za6 m n r){r':List Int}(hr:za6 m n r')(i:Nat):∀r∈rs.set i r',za6 m n r:=fun r hm=>by grind
theorem zt7{r:List Int}(h:za6 m n r){x:Int}(hx:0<=x/\x<n)(j:Nat):za6 m n (r.set j x):=⟨by simp[h.1],fun y hy=>by
 rcases Xb hy with h'|rfl
 · exact h.2 y h'
 · exact hx⟩
theorem zt9(h:∀r∈rs,za6 m n r)(hk:k<rs.length):za6 m n rs[k]:=h _ (Zm hk)
theorem zqS(ht:TapeOk t)(m most:Nat)(hm:1<=m/\m<=6)(hk:1<=most/\most<=1000):∃d t' n,z5g t m most=some (d,t')/\DfaOk d m n/\n<=most/\TapeOk t':=by
 unfold z5g
 obtain⟨d,t1,n,e1,hd,hn,ht1⟩:=zzj ht m most hm hk
 simp only[e1,Z0]
 refine Exists.elim (z1r (b:=z4W (d,t1)) (fun z=>0<=z.1/\z.1<=n/\z.2.length=n/\ ∀r∈z.2,za6 m n r) (fun z=>n+1-z.1.toNat) (fun r=>DfaOk r.1 m n/\TapeOk r.2) ?_ LFm (0,d.next) ⟨by simp,by simp,hd.nl,hd.row⟩ (by simp only[LFm];omega)) fun r h=>⟨r.1,r.2,n,h.1,h.2.1,hn,h.2.2⟩
 rintro⟨i,rs⟩ ⟨i0,i1,i2,i3⟩
 simp only at i0 i1 i2 i3⊢
 simp only[z4W,hd.nl]
 obtain⟨i,rfl⟩:=ZF i0
 by_cases hi:(i:Int)<n
 · left
   rw[if_pos hi,z0Q (by omega)]
   simp only[Z0]
   have hri:=zt9 i3 (show i<rs.length by omega)
   refine Exists.elim (zgN (b:=z4V (i:Int) rs[i] _) (fun z=>0<=z.1/\z.1<=m/\z.2.length=n/\ ∀r∈z.2,za6 m n r) (fun z=>m+1-z.1.toNat) (fun z=>z.1=(i:Int)+1/\z.2.length=n/\ ∀r∈z.2,za6 m n r) (s:=(0,rs)) ⟨by simp,by simp,i2,i3⟩ (by simp only[LFm];omega) ?_) fun r h=>⟨_,h.1,⟨by have:=h.2.1;omega,by have:=h.2.1;omega,h.2.2.1,h.2.2.2⟩,by have:=h.2.1;omega⟩
   rintro⟨j,us⟩ ⟨j0,j1,j2,j3⟩
   simp only at j0 j1 j2 j3⊢
   obtain⟨j,rfl⟩:=ZF j0
   simp only[z4V,hri.1]
   rw[z0Q (by omega)]
   simp only[Z0]
   have hui:=zt9 j3 (show i<us.length by omega)
   by_cases hj:(j:Int)<m
   · left
     rw[if_pos hj,z0Q (by rw[hui.1];omega),z2z (by omega) (by omega)]
     simp only[Z0]
     refine⟨_,rfl,⟨by simp only;omega,by simp only;omega,by simp only[Xv];exact j2,zow j3 (zt7 hui ?_ _) _⟩,by simp only;omega⟩
     have:=hui.2 _ (Zm (show j<us[i].length by rw[hui.1];omega))
     split<;>omega
   · right
     rw[if_neg hj,z2z (by omega) (by omega)]
     exact⟨_,rfl,rfl,j2,j3⟩
 · right
   rw[if_neg hi]
   exact⟨_,rfl,⟨hd.lt,hd.m1,hd.m6,hd.n1,hd.fin,by simp only;omega,by simp,by simp only;have:=hd.n1;omega,i3⟩,ht1⟩
theorem zx4(m n:Nat)(hn:1<=n):za6 m n (List.replicate m 0):=⟨by simp,fun x hx=>by rw[(List.mem_replicate.1 hx).2];omega⟩
theorem zAf(h:k<xs.length):z6B xs 0 (k:Int)=some (xs.take k):=zaW (by omega)
theorem zAe(h:k<xs.length):z6B xs ((k:Int)+1) (xs.length:Int)=some (xs.drop (k+1)):=by
 have:=zn4 (xs:=xs) (k:=k+1) (by omega)
 rwa [show((k+1:Nat):Int)=(k:Int)+1 by omega] at this
theorem zxe(ht:TapeOk t)(m most:Nat)(hm:1<=m/\m<=6)(hk:1<=most/\most<=1000):∃d t' n,z3d t m most=some (d,t')/\DfaOk d m n/\n<=most/\TapeOk t':=by
 unfold z3d
 obtain⟨v,t1,e1,v0,v1,ht1⟩:=z7f ht (most:Int) (by omega) (by omega)
 simp only[e1,Z0]
 obtain⟨k,rfl⟩:=ZF v0
 have hw:IntKind.i64.wrap (1+(k:Int))=((k+1:Nat):Int):=by rw[z2z (by omega) (by omega)];omega
 rw[hw]
 obtain⟨s,t2,e2,s0,s1,ht2⟩:=z7f ht1 ((k+1:Nat):Int) (by omega) (by omega)
 simp only[e2,Z0]
 refine Exists.elim (z1r (b:=z3q m ((k:Int),t1) (s,t2)) (fun z=>0<=z.1/\z.1<=(k+1:Nat)/\TapeOk ⟨z.2.1,z.2.2.1⟩/\(z.2.2.2.1.length:Int)=z.1/\(z.2.2.2.2.length:Int)=z.1/\ ∀r∈z.2.2.2.2,za6 m (k+1) r) (fun z=>k+2-z.1.toNat)
  (fun r=>DfaOk r.1 m (k+1)/\TapeOk r.2) ?_ LFm (0,t2.l,t2.at_,[],[]) ⟨by simp,by simp;omega,ht2,by simp,by simp,by simp⟩ (by simp only[LFm];omega)) fun r h=>⟨r.1,r.2,k+1,h.1,h.2.1,by omega,h.2.2⟩
 rintro⟨i,tl,ta,fs,rs⟩ ⟨i0,i1,i2,i3,i4,i5⟩
 simp only at i0 i1 i2 i3 i4 i5⊢
 simp only[z3q,hw]
 by_cases hi:i<((k+1:Nat):Int)
 · left
   rw[if_pos hi]
   obtain⟨u,t3,e3,u0,u1,ht3⟩:=z7f i2 2 (by omega) (by omega)
   simp only[e3,Z0]
   rw[z0e _ (by unfold z1n;omega),z0e _ (by unfold z0D;omega),z0e _ (by unfold z1n;omega),z2z (by omega) (by omega)]
   refine⟨_,rfl,⟨by simp only;omega,by simp only;omega,ht3,by simp only[Z7,ZE];omega,by simp only[Z7,ZE];omega,fun y hy=> ?_⟩,by simp only;omega⟩
   rcases zdd.1 hy with h|rfl
   · exact i5 y h
   · exact zx4 m (k+1) (by omega)
 · right
   rw[if_neg hi]
   refine Exists.elim (z1r (b:=z3p m ((k:Int),t1) (s,t2) fs) (fun z=>0<=z.1/\z.1<=m/\TapeOk ⟨z.2.1,z.2.2.1⟩/\z.2.2.2.length=k+1/\ ∀r∈z.2.2.2,za6 m (k+1) r) (fun z=>m+1-z.1.toNat)
    (fun r=>DfaOk r.1 m (k+1)/\TapeOk r.2) ?_ LFm (0,tl,ta,rs) ⟨by simp,by simp,i2,by simp only;omega,i5⟩ (by simp only[LFm];omega)) fun r h=>⟨r,by rw[h.1];rfl,h.2⟩
   rintro⟨a,ul,ua,us⟩ ⟨a0,a1,a2,a3,a4⟩
   simp only at a0 a1 a2 a3 a4⊢
   obtain⟨a,rfl⟩:=ZF a0
   simp only[z3p]
   by_cases ha:(a:Int)<m
   · left
     rw[if_pos ha]
     refine Exists.elim (zgN (b:=z2W ((k:Int),t1) (a:Int) ul ua us) (fun z=>0<=z.1/\z.1<=(k+1:Nat)/\(z.2.length:Int)=z.1/\ ∀x∈z.2,0<=x/\x<(k+1:Nat)) (fun z=>k+2-z.1.toNat)
      (fun z=>z.1=(a:Int)+1/\TapeOk ⟨z.2.1,z.2.2.1⟩/\z.2.2.2.length=k+1/\ ∀r∈z.2.2.2,za6 m (k+1) r) (s:=(0,[])) ⟨by simp,by simp;omega,by simp,by simp⟩ (by simp only[LFm];omega) ?_) fun r h=>⟨_,h.1,⟨by have:=h.2.1;omega,by have:=h.2.1;omega,h.2.2.1,h.2.2.2.1,h.2.2.2.2⟩,by have:=h.2.1;omega⟩
     rintro⟨q,left⟩ ⟨q0,q1,q2,q3⟩
     simp only at q0 q1 q2 q3⊢
     simp only[z2W,hw]
     by_cases hq:q<((k+1:Nat):Int)
     · left
       rw[if_pos hq,z0e _ (by unfold z1n;omega),z2z (by omega) (by omega)]
       refine⟨_,rfl,⟨by simp only;omega,by simp only;omega,by simp only[Z7,ZE];omega,fun y hy=> ?_⟩,by simp only;omega⟩
       rcases zdd.1 hy with h|rfl
       · exact q3 y h
       · omega
     · right
       rw[if_neg hq]
       refine Exists.elim (zgN (b:=z2V ((k:Int),t1) (a:Int)) (fun z=>0<=z.1/\z.1<=(k+1:Nat)/\TapeOk ⟨z.2.1,z.2.2.1⟩/\z.2.2.2.1.length=k+1/\(∀r∈z.2.2.2.1,za6 m (k+1) r)/\(z.2.2.2.2.length:Int)=(k+1:Nat)-z.1/\ ∀x∈z.2.2.2.2,0<=x/\x<(k+1:Nat)) (fun z=>k+2-z.1.toNat)
        (fun z=>z.1=(a:Int)+1/\TapeOk ⟨z.2.1,z.2.2.1⟩/\z.2.2.2.length=k+1/\ ∀r∈z.2.2.2,za6 m (k+1) r) (s:=(0,ul,ua,us,left)) ⟨by simp,by simp;omega,a2,a3,a4,by simp only;omega,q3⟩ (by simp only[LFm];omega) ?_) fun r h=>⟨r,by rw[h.1];rfl,h.2⟩
       rintro⟨p,xl,xa,xs,lf⟩ ⟨p0,p1,p2,p3,p4,p5,p6⟩
       simp only at p0 p1 p2 p3 p4 p5 p6⊢
       obtain⟨p,rfl⟩:=ZF p0
       simp only[z2V,hw]
       by_cases hp:(p:Int)<((k+1:Nat):Int)
       · left
         rw[if_pos hp]
         obtain⟨x,t4,e4,x0,x1,ht4⟩:=z7f p2 (lf.length:Int) (by omega) (by omega)
         obtain⟨x,rfl⟩:=ZF x0
         have hrp:=zt9 p4 (show p<xs.length by omega)
         have hlx:x<lf.length:=by omega
         simp only[e4,Z0]
         rw[z0Q (show p<xs.length by omega)]
         simp only[Z0]
         rw[z0Q hlx]
         simp only[Z0]
         rw[z0Q (show a<xs[p].length by rw[hrp.1];omega),z2z (x:=(x:Int)+1) (by omega) (by omega),zAf hlx]
         simp only[Z0]
         rw[zAe hlx]
         simp only[Z0]
         rw[z0e _ (by unfold z1n;simp only[Zp];omega),z0e _ (by unfold z1n;simp only[Zp,Yi];omega),z2z (by omega) (by omega)]
         refine⟨_,rfl,⟨by simp only;omega,by simp only;omega,ht4,by simp only[Xv];exact p3,zow p4 (zt7 hrp (p6 _ (Zm hlx)) _) _,by simp only[Z7,Zp,Yi];omega,fun y hy=> ?_⟩,by simp only;omega⟩
         rcases Ze.1 hy with h|h
         · grind
         · grind
       · right
         rw[if_neg hp,z2z (by omega) (by omega)]
         exact⟨_,rfl,rfl,p2,p3,p4⟩
   · right
     rw[if_neg ha]
     exact⟨_,rfl,⟨rfl,hm.1,hm.2,by omega,by simp only;omega,a3,s0,s1,a4⟩,a2⟩
end
section
open Go
variable{d:DFA}{a b m n q s:Nat}
theorem zfe(h:a<2^62):IntKind.i64.wrap (a:Int)=(a:Int):=z2z (by omega) (by omega)
theorem zyt(ha:a<2^62)(hb:b<2^62):z3j .i64 (a:Int) (b:Int)=((a&&&b:Nat):Int):=by
 unfold z3j
 have e:(BitVec.ofInt IntKind.i64.bits (a:Int)&&&BitVec.ofInt IntKind.i64.bits (b:Int)).toNat=a&&&b:=by
  show(BitVec.ofInt 64 (a:Int)&&&BitVec.ofInt 64 (b:Int)).toNat=_
  rw[BitVec.toNat_and,BitVec.toNat_ofInt,BitVec.toNat_ofInt]
  have h1:((a:Int)%((2^64:Nat):Int)).toNat=a:=by omega
  have h2:((b:Int)%((2^64:Nat):Int)).toNat=b:=by omega
  rw[h1,h2]
 rw[e]
 exact zfe (YY Nat.and_le_left ha)
theorem zAn{k:Nat}(ha:a<2^k)(hb:b<2^k):a|||b<2^k:=Nat.or_lt_two_pow ha hb
theorem zn8(ha:a<2^62)(hb:b<2^62):orI .i64 (a:Int) (b:Int)=((a|||b:Nat):Int):=by
 unfold orI
 have e:(BitVec.ofInt IntKind.i64.bits (a:Int)|||BitVec.ofInt IntKind.i64.bits (b:Int)).toNat=a|||b:=by
  show(BitVec.ofInt 64 (a:Int)|||BitVec.ofInt 64 (b:Int)).toNat=_
  rw[BitVec.toNat_or,BitVec.toNat_ofInt,BitVec.toNat_ofInt]
  have h1:((a:Int)%((2^64:Nat):Int)).toNat=a:=by omega
  have h2:((b:Int)%((2^64:Nat):Int)).toNat=b:=by omega
  rw[h1,h2]
 rw[e]
 exact zfe (zAn ha hb)
theorem zhD(ha:a<2^62)(hb:b<2^62):zhE .i64 (a:Int) (b:Int)=0↔a&&&b=a:=by
 unfold zhE
 have e:(BitVec.ofInt IntKind.i64.bits (a:Int)&&& ~~~ BitVec.ofInt IntKind.i64.bits (b:Int)).toNat=(BitVec.ofNat 64 a&&& ~~~ BitVec.ofNat 64 b).toNat:=by
  show(BitVec.ofInt 64 (a:Int)&&& ~~~ BitVec.ofInt 64 (b:Int)).toNat=_
  congr 2
 rw[e]
 have hle:(BitVec.ofNat 64 a&&& ~~~ BitVec.ofNat 64 b).toNat<=a:=by
  rw[BitVec.toNat_and]
  refine ZR Nat.and_le_left ?_
  simp only[BitVec.toNat_ofNat]
  omega
 rw[zfe (by omega)]
 have ta:∀i,(BitVec.ofNat 64 a).toNat.testBit i=a.testBit i:=fun i=>by
  rw[BitVec.toNat_ofNat,X8 (by omega)]
 have tb:∀i,(BitVec.ofNat 64 b).toNat.testBit i=b.testBit i:=fun i=>by
  rw[BitVec.toNat_ofNat,X8 (by omega)]
 have hz:∀i,(BitVec.ofNat 64 a&&& ~~~ BitVec.ofNat 64 b).toNat.testBit i=(a.testBit i&& !(b.testBit i)):=fun i=>by
  rw[BitVec.testBit_toNat,BitVec.getLsbD_and,BitVec.getLsbD_not]
  by_cases hi:i<64
  · simp only[hi,decide_true,YJ]
    rw[←BitVec.testBit_toNat,←BitVec.testBit_toNat,ta,tb]
  · have:a.testBit i=false:=YX (Zy ha (Zl (by omega) (by omega)))
    rw[←BitVec.testBit_toNat,ta,this];simp
 constructor
 · intro h
   have h0:(BitVec.ofNat 64 a&&& ~~~ BitVec.ofNat 64 b).toNat=0:=by omega
   apply Y0
   intro i
   have:=hz i
   rw[h0,Xp] at this
   rw[XO]
   revert this
   cases a.testBit i<;>cases b.testBit i<;>simp
 · intro h
   have:(BitVec.ofNat 64 a&&& ~~~ BitVec.ofNat 64 b).toNat=0:=by
    apply Y0
    intro i
    have e2:(a&&&b).testBit i=a.testBit i:=by rw[h]
    rw[XO] at e2
    rw[hz,Xp]
    revert e2
    cases a.testBit i<;>cases b.testBit i<;>simp
   omega
theorem zor(hq:q<=64):z1D .i64 (a:Int) (q:Int)=((a>>>q:Nat):Int):=by
 unfold z1D
 have e:min ((q:Int).toNat) IntKind.i64.bits=q:=by
  show min ((q:Int).toNat) 64=q
  omega
 rw[e,XD,XC _ (by exact Int.pow_nonneg (by omega))]
 simp
theorem z9p(hq:q<=61):zmU .i64 1 (q:Int)=((2^q:Nat):Int):=by
 rw[zsQ]
 have e:min ((q:Int).toNat) IntKind.i64.bits=q:=by
  show min ((q:Int).toNat) 64=q
  omega
 rw[e,Int.one_mul]
 have:((2:Int)^q)=((2^q:Nat):Int):=by simp
 rw[this]
 exact zfe (Yq (by omega) (by omega))
theorem zhx(ha:a<2^62)(hq:q<=64):(z3j .i64 (z1D .i64 (a:Int) (q:Int)) 1=1)↔a.testBit q=true:=by
 rw[zor hq,show(1:Int)=((1:Nat):Int) from rfl,zyt (by rw[XD];exact YY (Nat.div_le_self _ _) ha) (by decide),Nat.testBit]
 have:(1&&&a>>>q)=(a>>>q)&&&1:=Nat.and_comm ..
 rw[this]
 have h2:=Nat.and_one_is_mod (a>>>q)
 rw[h2]
 simp only[bne_iff_ne,ne_eq]
 omega
theorem zEQ(h:q<2^62):IntKind.u64.wrap (q:Int)=(q:Int):=by rw[Xr];omega
def zjg(rows:List (List Int))(s a:Nat):Nat->Nat
 |0=>0
 |q+1=>if s.testBit q=true then zjg rows s a q|||2^((rows.getD q []).getD a 0).toNat else zjg rows s a q
def mvN(d:DFA)(s a:Nat):Nat:=zjg d.next s a d.next.length
theorem zak(hd:DfaOk d m n)(hq:q<n)(ha:a<m):∃h1:q<d.next.length,∃h2:a<d.next[q].length,(d.next.getD q []).getD a 0=d.next[q][a]/\0<=d.next[q][a]/\d.next[q][a]<n:=by
 have h1:q<d.next.length:=by rw[hd.nl];exact hq
 have hr:=hd.row _ (Zm h1)
 have h2:a<d.next[q].length:=by rw[hr.1];exact ha
 exact⟨h1,h2,by simp[List.getD,h1,h2],hr.2 _ (Zm h2)⟩
theorem zoI{d:DFA}{m n:Nat}(hd:DfaOk d m n){s a:Nat}(ha:a<m)(p:Nat):∀q,q<=n->((zjg d.next s a q).testBit p=true↔ ∃i,i<q/\s.testBit i=true/\((d.next.getD i []).getD a 0).toNat=p)
 |0,_=>by simp[zjg]
 |q+1,hq=>by
  have ih:=zoI hd (s:=s) ha p q (by omega)
  unfold zjg
  by_cases hb:s.testBit q=true
  · rw[if_pos hb,YL,Y1,ih,Y9]
    constructor
    · rintro(⟨i,h1,h2,h3⟩|h)
      · exact⟨i,by omega,h2,h3⟩
      · exact⟨q,by omega,hb,by simpa using h⟩
    · rintro⟨i,h1,h2,h3⟩
      by_cases e:i=q
      · subst e;right;simpa using h3
      · left;exact⟨i,by omega,h2,h3⟩
  · rw[if_neg hb,ih]
    constructor
    · rintro⟨i,h1,h2,h3⟩;exact⟨i,by omega,h2,h3⟩
    · rintro⟨i,h1,h2,h3⟩
      by_cases e:i=q
      · subst e;exact absurd h2 hb
      · exact⟨i,by omega,h2,h3⟩
theorem zgH{d:DFA}{m n:Nat}(hd:DfaOk d m n){s a:Nat}(ha:a<m):∀q,q<=n->zjg d.next s a q<2^n
 |0,_=>Yu n
 |q+1,hq=>by
  have ih:=zgH hd (s:=s) ha q (by omega)
  unfold zjg
  split
  · obtain⟨h1,h2,e,h3,h4⟩:=zak hd (q:=q) (by omega) ha
    refine zAn ih (Yq (by omega) ?_)
    rw[e];omega
  · exact ih
theorem zan(hd:DfaOk d m n)(ha:a<m)(p:Nat):(mvN d s a).testBit p=true↔ ∃i,i<n/\s.testBit i=true/\((d.next.getD i []).getD a 0).toNat=p:=by
 unfold mvN;rw[hd.nl];exact zoI hd ha p n (Z8 _)
theorem zc3(hd:DfaOk d m n)(ha:a<m):mvN d s a<2^n:=by
 unfold mvN;rw[hd.nl];exact zgH hd ha n (Z8 _)
theorem zgA(h:n<=12):2^n<=4096:=Zl (n:=2) (by omega) h
theorem ztL(hd:DfaOk d m n)(hn:n<=12)(hs:s<2^n)(ha:a<m):z7H d (s:Int) (a:Int)=some ((mvN d s a:Nat):Int):=by
 have h12:=zgA hn
 unfold z7H mvN
 refine z0q (s:=((0:Int),(0:Int))) n (fun q=>(((zjg d.next s a q:Nat):Int),(q:Int))) rfl (by simp only[LFm];omega) (fun q hq=> ?_) ?_
 · have hlt:=zgH hd (s:=s) ha q (by omega)
   obtain⟨h1,h2,e,h3,h4⟩:=zak hd (q:=q) hq ha
   simp only[z7T]
   rw[if_pos (by omega),z0Q h1]
   simp only[Z0]
   rw[z0e _ (by omega),z0H (by omega)]
   by_cases hb:s.testBit q=true
   · rw[if_pos ((zhx (by omega) (by omega)).2 hb),z0Q h2]
     simp only[Z0]
     obtain⟨v,hv⟩:=ZF h3
     rw[z0e _ (by omega),hv,z9p (by omega),zn8 (by omega) (Yq (by omega) (by omega))]
     simp only[zjg]
     rw[if_pos hb,e,hv,Z2]
   · rw[if_neg (fun h=>hb ((zhx (by omega) (by omega)).1 h))]
     simp only[zjg]
     rw[if_neg hb]
 · simp only[z7T]
   rw[if_neg (by rw[hd.nl];omega),hd.nl]
end
section
open Go
variable{w:ByteArray}{d:DFA}{k m n:Nat}
def zqE(d:DFA)(r:List Int):Bool:=decide ((r.length:Int)=d.letters)&&r.all fun x=>decide (0<=x/\x<(d.final.length:Int))
def zit(d:DFA):Bool:=decide (d.next.length=d.final.length)&&decide (0<=d.start/\d.start<(d.final.length:Int))&&d.next.all (zqE d)
def zBu(d:DFA):Int:=if d.letters<1∨6<d.letters then 1 else if 512<d.final.length then 3 else if zit d=true then 0 else 4
def zDd(d:DFA):Prop:=d.final.length<2^61/\d.next.length<2^61/\ ∀r∈d.next,r.length<2^61
theorem zwy(hc:zDd d):z0h (z6g d) LFm 0=some (if d.next.all (zqE d)=true then 0 else 4):=by
 rw[zgO (l:=d.next) ([]:List Int) (zqE d) (A:=some 4) (B:=some 0) (by have:=hc.2.1;omega) (fun k hk=> ?_) ?_]
 · split<;>rfl
 · simp only[z6g]
   rw[if_neg (by omega)]
 · simp only[z6g]
   have hkl:=hc.2.1
   have hrl:=hc.2.2 _ (Zm hk)
   rw[if_pos (by omega),z0Q hk]
   simp only[Z0,List.getD,Z1 hk,Z4]
   by_cases hl:(d.next[k].length:Int)=d.letters
   · rw[if_pos hl]
     rw[zgO (l:=d.next[k]) (0:Int) (fun x=>decide (0<=x/\x<(d.final.length:Int))) (A:=z0d (some 4)) (B:=z0c ((k+1:Nat):Int)) (by omega) (fun j hj=> ?_) ?_]
     · simp only[zqE,hl,decide_true,YJ]
     · simp only[z6M]
       rw[if_neg (by omega),z0H (by omega)]
     · simp only[z6M]
       rw[if_pos (by omega),z0Q hj]
       simp only[Z0,List.getD,Z1 hj,Z4]
       by_cases h1:d.next[k][j]<0
       · rw[if_pos h1,if_neg (by simp;omega)]
       · rw[if_neg h1]
         by_cases h2:(d.final.length:Int)<=d.next[k][j]
         · rw[if_pos h2,if_neg (by simp;omega)]
         · rw[if_neg h2,if_pos (by simp;omega),z0H (by omega)]
   · rw[if_neg hl]
     rw[if_neg (by simp[zqE,hl])]
theorem zb7(hc:zDd d):z4N d=some (zBu d):=by
 unfold z4N zBu
 by_cases h1:d.letters<1
 · rw[if_pos h1,if_pos (.inl h1)]
 rw[if_neg h1]
 by_cases h2:6<d.letters
 · rw[if_pos h2,if_pos (.inr h2)]
 have hno:¬(d.letters<1∨6<d.letters):=by omega
 rw[if_neg h2,if_neg hno]
 by_cases h3:512<(d.final.length:Int)
 · have h3':512<d.final.length:=by omega
   rw[if_pos h3,if_pos h3']
 have h3':¬512<d.final.length:=by omega
 rw[if_neg h3,if_neg h3']
 by_cases h4:(d.next.length:Int)=(d.final.length:Int)
 · rw[if_pos h4]
   by_cases h5:d.start<0
   · rw[if_pos h5,if_neg (by simp[zit];omega)]
   rw[if_neg h5]
   by_cases h6:(d.final.length:Int)<=d.start
   · rw[if_pos h6,if_neg (by simp[zit];omega)]
   rw[if_neg h6,zwy hc]
   congr 1
   have e1:decide (d.next.length=d.final.length)=true:=by simp;omega
   have e2:decide (0<=d.start/\d.start<(d.final.length:Int))=true:=by simp;omega
   simp only[zit,e1,e2,YJ]
 · rw[if_neg h4,if_neg (by simp[zit];omega)]
def zEu(d:DFA):Int:=if zBu d=0 then(if 12<d.final.length then 3 else 0) else zBu d
theorem zmC(hc:zDd d):z5Z d=some (zEu d):=by
 unfold z5Z zEu
 rw[zb7 hc]
 simp only[Z0]
 split
 · split
   · rw[if_pos (by omega)]
   · rw[if_neg (by omega)]
 · rfl
theorem zkq(hd:DfaOk d m n)(hn:n<=512):zBu d=0:=by
 have h1:=hd.lt
 have h2:=hd.m1
 have h3:=hd.m6
 have hf:=hd.fin
 have hl:=hd.nl
 unfold zBu
 rw[if_neg (by omega),if_neg (by omega),if_pos]
 have e1:decide (d.next.length=d.final.length)=true:=by simp;omega
 have e2:decide (0<=d.start/\d.start<(d.final.length:Int))=true:=by have:=hd.s0;have:=hd.s1;simp;omega
 simp only[zit,e1,e2,YJ,Zr]
 intro r hr
 obtain⟨a,b⟩:=hd.row r hr
 have e3:decide ((r.length:Int)=d.letters)=true:=by simp;omega
 simp only[zqE,e3,YJ,Zr,decide_eq_true_eq]
 intro x hx
 have:=b x hx
 omega
theorem zCL(hd:DfaOk d m n)(hn:n<=12):zEu d=0:=by
 have hf:=hd.fin
 unfold zEu
 rw[zkq hd (by omega),if_pos rfl,if_neg (by omega)]
theorem zzl(hd:DfaOk d m n)(hn:n<=12):zDd d:=⟨by rw[hd.fin];omega,by rw[hd.nl];omega,fun r hr=>by have:=(hd.row r hr).1;have:=hd.m6;omega⟩
theorem zhJ(w:ByteArray)(m:Int):z7A w m=z8T w m:=by
 unfold z7A z8T z8k
 by_cases h1:m<1
 · rw[if_pos h1,if_neg (by omega)];rfl
 rw[if_neg h1]
 have h1':1<=m:=by omega
 by_cases h2:6<m
 · rw[if_pos h2,if_pos h1']
   simp only[Z0]
   rw[if_neg (by simp;omega)]
 rw[if_neg h2,if_pos h1']
 simp only[Z0]
 rw[if_pos (show decide (m<=6)=true by simp;omega)]
 all_goals rfl
def z9C(m:Int)(c:UInt8):Bool:=decide (97<=c.toNat)&&decide ((c.toNat:Int)<97+m)
theorem zhY(h:97<=k)(h2:k<256):IntKind.i64.wrap (IntKind.u8.wrap ((k:Int)-97))=((k-97:Nat):Int):=by
 rw[zwu (by omega) (by omega),z2z (by omega) (by omega)];omega
theorem za3(h:k<w.size):w[k]=w.data.toList.getD k 0:=by
 have h':k<w.data.toList.length:=by rw[ZZ];exact h
 rw[List.getD,Z1 h',Z4,X7]
 rfl
theorem zyw{m:Int}(hm:1<=m/\m<=6):z8T w m=some (decide (w.size<=2048)&&w.data.toList.all (z9C m)):=by
 unfold z8T z8k
 rw[if_pos hm.1]
 simp only[Z0]
 rw[if_pos (show decide (m<=6)=true by simp;omega)]
 by_cases h:2048<(w.size:Int)
 · rw[if_pos h,show decide (w.size<=2048)=false by simp;omega];rfl
 rw[if_neg h,show decide (w.size<=2048)=true by simp;omega,YJ]
 have hl:w.data.toList.length=w.size:=by rw[ZZ];rfl
 rw[z5C (s:=(0:Int)) w.size (fun k=>(k:Int)) (fun k=> !z9C m (w.data.toList.getD k 0)) (fun _=>some false) (x:=some true) rfl (by simp only[LFm];omega)]
 · rw[zdu]
   simp only[Xy]
   rw[←hl,zgz]
   cases w.data.toList.all (z9C m)<;>rfl
 · intro k hk
   have hb:w[k].toNat<256:=w[k].toNat_lt
   simp only[z7S]
   rw[if_pos (by omega),zbc hk]
   simp only[Z0]
   rw[←za3 hk]
   by_cases h1:(w[k].toNat:Int)<97
   · have:z9C m w[k]=false:=by simp only[z9C,YO,decide_eq_false_iff_not];omega
     simp only[h1,this,Xk,if_true]
   · rw[if_neg h1,zhY (by omega) hb]
     by_cases h2:m<=((w[k].toNat-97:Nat):Int)
     · have:z9C m w[k]=false:=by simp only[z9C,YO,decide_eq_false_iff_not];omega
       simp only[h2,this,Xk,if_true]
     · have:z9C m w[k]=true:=by simp only[z9C,Z6,decide_eq_true_eq];omega
       rw[if_neg h2,this,if_neg (by simp),z0H (by omega)]
 · simp only[z7S]
   rw[if_neg (by omega)]
def zf2(m:Nat)(w:ByteArray):Prop:=w.size<=2048/\ ∀c∈w.data.toList,97<=c.toNat/\c.toNat<97+m
instance(m:Nat)(w:ByteArray):Decidable (zf2 m w):=by unfold zf2;exact inferInstance
theorem zrM(hm:1<=m/\m<=6):z8T w (m:Int)=some (decide (zf2 m w)):=by
 rw[zyw (by omega)]
 congr 1
 rw[Yh,decide_eq_true_iff]
 unfold zf2
 simp only[Z6,decide_eq_true_eq,Zr,z9C]
 constructor
 · rintro⟨a,b⟩;exact⟨a,fun c hc=>by have:=b c hc;omega⟩
 · rintro⟨a,b⟩;exact⟨a,fun c hc=>by have:=b c hc;omega⟩
theorem zcC{r p:Nat}(hr:r<2^62)(hp:p<2^62):z4q (r:Int) (p:Int)=some (decide (p&&&r=p)):=by
 unfold z4q
 congr 1
 rw[Yh];simp only[decide_eq_true_eq]
 exact zhD hp hr
def z4D(d:DFA):Nat->List UInt8->Nat
 |s,[]=>s
 |s,c::w=>z4D d (mvN d s (c.toNat-97)) w
theorem z7D(d:DFA):∀(s:Nat) (u v:List UInt8),z4D d s (u++v)=z4D d (z4D d s u) v
 |s,[],v=>rfl
 |s,c::u,v=>by simp only[ZO,z4D,z7D]
theorem zgr{d:DFA}{m n:Nat}(hd:DfaOk d m n):∀ {w:List UInt8} {s:Nat},s<2^n->(∀c∈w,97<=c.toNat/\c.toNat<97+m)->z4D d s w<2^n
 | [],s,hs,_=>hs
 |c::w,s,hs,hw=>by
  have hc:=hw c (Zz ..)
  exact zgr (w:=w) (s:=mvN d s (c.toNat-97)) hd (zc3 hd (by omega)) fun c' hc'=>hw c' (Zo _ hc')
theorem zkY{α:Type}{l:List α}(h:k<l.length):l.take (k+1)=l.take k++ [l[k]]:=by rw[ZB h]
end
section
open Go
def zrP(a:Nat):ByteArray:=⟨#[UInt8.ofNat (97+a)]⟩
abbrev RS:=List Nat×List ByteArray
def zl2(d:DFA)(i a:Nat)(st:RS):RS:=if mvN d (st.1.getD i 0) a∈st.1 then st else(st.1++ [mvN d (st.1.getD i 0) a],st.2++ [st.2.getD i ByteArray.empty++zrP a])
def zaF(d:DFA)(i:Nat)(st:RS):Nat->RS
 |0=>st
 |a+1=>zl2 d i a (zaF d i st a)
def z9r(d:DFA)(m s:Nat):Nat->RS
 |0=>([s],[ByteArray.empty])
 |k+1=>if k<(z9r d m s k).1.length then zaF d k (z9r d m s k) m else z9r d m s k
structure RInv(d:DFA)(m n s:Nat)(st:RS):Prop where
 nd:st.1.Nodup
 lt:∀x∈st.1,x<2^n
 len:st.2.length=st.1.length
 f0:st.1[0]? =some s
 w0:st.2[0]? =some ByteArray.empty
 ok:∀i,i<st.1.length->(st.2.getD i ByteArray.empty).size<=i/\(∀c∈(st.2.getD i ByteArray.empty).data.toList,97<=c.toNat/\c.toNat<97+m)/\z4D d s (st.2.getD i ByteArray.empty).data.toList=st.1.getD i 0
variable{d:DFA}{S l:List Nat}{a i m n s x:Nat}{α:Type}
variable{st:RS}
theorem z9s{l r:List α}(d:α)(h:i<l.length):(l++r).getD i d=l.getD i d:=by grind
theorem zb2{l:List α}{x d:α}(h:i=l.length):(l++ [x]).getD i d=x:=by
 subst h;simp[List.getD]
theorem z0i(h:i<l.length):l.getD i 0∈l:=by grind
theorem z7F{α:Type}:∀ {l r:List α},l.Nodup->(∀x∈l,x∈r)->l.length<=r.length
 | [],r,_,_=>by simp
 |x::l,r,hn,hs=>by
  obtain⟨a,b,rfl⟩:=List.append_of_mem (hs x (Zz ..))
  have hn':=YG.1 hn
  have:=z7F (r:=a++b) hn'.2 fun y hy=>by grind
  simp only[Zq,Z7] at*
  omega
theorem z1C{N:Nat}(hn:l.Nodup)(hl:∀x∈l,x<N):l.length<=N:=by
 have:=z7F hn (r:=List.range N) fun x hx=>Zj.2 (hl x hx)
 simpa using this
theorem z8W(a:Nat):(zrP a).data.toList= [UInt8.ofNat (97+a)]:=rfl
theorem zdB(u v:ByteArray):(u++v).data.toList=u.data.toList++v.data.toList:=by simp
theorem zfB(u v:ByteArray):(u++v).size=u.size+v.size:=by simp
theorem z8b(a:Nat):(zrP a).size=1:=rfl
theorem z7j(h:a<26):(UInt8.ofNat (97+a)).toNat=97+a:=by simp[Xz];omega
theorem zwL(hd:DfaOk d m n)(h:RInv d m n s st)(hi:i<st.1.length)(ha:a<m):
 RInv d m n s (zl2 d i a st)/\mvN d (st.1.getD i 0) a∈(zl2 d i a st).1/\ ∃S W,(zl2 d i a st).1=st.1++S/\(zl2 d i a st).2=st.2++W:=by
 have hm6:=hd.m6
 unfold zl2
 split
 · rename_i hm
   exact⟨h,hm,[],[],by simp,by simp⟩
 · rename_i hm
   obtain⟨o1,o2,o3⟩:=h.ok i hi
   refine⟨⟨?_,?_,by simp[h.len],?_,?_,?_⟩,by simp,_,_,rfl,rfl⟩
   · refine Yj.2 ⟨h.nd,by simp,fun x hx y hy=> ?_⟩
     obtain rfl:y=_:=by simpa using hy
     exact fun e=>hm (e▸hx)
   · intro x hx
     rcases Ze.1 hx with hx|hx
     · exact h.lt x hx
     · obtain rfl:x=_:=by simpa using hx
       exact zc3 hd ha
   · rw[ZH (by omega)];exact h.f0
   · rw[ZH (by rw[h.len];omega)];exact h.w0
   · intro j hj
     simp only[Z7,ZE] at hj
     by_cases e:j=st.1.length
     · rw[zb2 e,zb2 (by rw[h.len];exact e),zfB,zdB,z8W,z8b,z7D,o3]
       refine⟨by omega,fun c hc=> ?_,?_⟩
       · rcases Ze.1 hc with hc|hc
         · exact o2 c hc
         · obtain rfl:=Zi.1 hc
           rw[z7j (by omega)];omega
       · simp only[z4D]
         rw[z7j (by omega),Y4]
     · rw[z9s _ (show j<st.2.length by rw[h.len];omega),z9s _ (show j<st.1.length by omega)]
       exact h.ok j (by omega)
theorem zjv{d:DFA}{m n s:Nat}(hd:DfaOk d m n){st:RS}(h:RInv d m n s st){i:Nat}(hi:i<st.1.length):∀a,a<=m->
 RInv d m n s (zaF d i st a)/\(∀b,b<a->mvN d (st.1.getD i 0) b∈(zaF d i st a).1)/\(∃S W,(zaF d i st a).1=st.1++S/\(zaF d i st a).2=st.2++W)
 |0,_=>⟨h,fun b hb=>by omega,[],[],by simp[zaF],by simp[zaF]⟩
 |a+1,ha=>by
  obtain⟨h1,h2,S,W,h3,h4⟩:=zjv hd h hi a (by omega)
  have hi':i<(zaF d i st a).1.length:=by rw[h3,Z7];omega
  obtain⟨k1,k2,S',W',k3,k4⟩:=zwL hd h1 hi' (show a<m by omega)
  have e:(zaF d i st a).1.getD i 0=st.1.getD i 0:=by rw[h3,z9s _ hi]
  rw[e] at k2
  refine⟨k1,fun b hb=> ?_,S++S',W++W',by rw[zaF,k3,h3,Zu],by rw[zaF,k4,h4,Zu]⟩
  by_cases hb':b=a
  · subst hb';exact k2
  · rw[zaF,k3];exact Ze.2 (.inl (h2 b (by omega)))
theorem zck{d:DFA}{m n s:Nat}(hd:DfaOk d m n)(hs:s<2^n):∀k,RInv d m n s (z9r d m s k)/\ ∀j,j<k->j<(z9r d m s k).1.length->∀a,a<m->mvN d ((z9r d m s k).1.getD j 0) a∈(z9r d m s k).1
 |0=>⟨⟨by simp[z9r],by simpa[z9r] using hs,rfl,rfl,rfl,fun i hi=>by
   obtain rfl:i=0:=by simpa[z9r] using hi
   exact⟨Z8 _,fun c hc=>by simp[z9r,List.getD] at hc,rfl⟩⟩,fun j hj=>by omega⟩
 |k+1=>by
  obtain⟨h1,h2⟩:=zck hd hs k
  unfold z9r
  split
  · rename_i hk
    obtain⟨k1,k2,S,W,k3,k4⟩:=zjv hd h1 hk m (Z8 _)
    refine⟨k1,fun j hj hjl a ha=> ?_⟩
    by_cases e:j=k
    · grind
    · have hj':j<(z9r d m s k).1.length:=by omega
      have:=h2 j (by omega) hj' a ha
      rw[show(zaF d k (z9r d m s k) m).1.getD j 0=(z9r d m s k).1.getD j 0 by rw[k3,z9s _ hj'],k3]
      exact Ze.2 (.inl this)
  · grind
theorem zmW(hd:DfaOk d m n)(hs:s<2^n)(k:Nat):(z9r d m s k).1.length<=2^n:=z1C (zck hd hs k).1.nd (zck hd hs k).1.lt
theorem zj7{d:DFA}{m s:Nat}{k:Nat}(h:¬k<(z9r d m s k).1.length):∀j,k<=j->z9r d m s j=z9r d m s k
 |0,hj=>by grind
 |j+1,hj=>by
  by_cases e:k=j+1
  · rw[e]
  · have ih:=zj7 h j (by omega)
    rw[z9r,ih,if_neg (by omega)]
def z1E(d:DFA)(m n s:Nat):RS:=z9r d m s (2^n)
theorem zeP(hd:DfaOk d m n)(hs:s<2^n)(hx:x∈(z1E d m n s).1)(ha:a<m):mvN d x a∈(z1E d m n s).1:=by
 obtain⟨i,hi,rfl⟩:=Zn hx
 have hl:=zmW hd hs (2^n)
 have:=(zck hd hs (2^n)).2 i (by unfold z1E at hi;omega) hi a ha
 have e:(z9r d m s (2^n)).1.getD i 0=(z1E d m n s).1[i]:=by
  show(z1E d m n s).1.getD i 0=_
  rw[List.getD,Z1 hi,Z4]
 rw[e] at this
 exact this
theorem z7e(hd:DfaOk d m n)(hs:s<2^n):RInv d m n s (z1E d m n s):=(zck hd hs _).1
def toI(l:List Nat):List Int:=l.map fun x=>((x:Nat):Int)
theorem z0b(l:List Nat):(toI l).length=l.length:=by simp[toI]
theorem z5O(l:List Nat)(x:Nat):toI (l++ [x])=toI l++ [((x:Nat):Int)]:=by simp[toI]
theorem z1q(h:i<l.length):atI (toI l) (i:Int)=some ((l.getD i 0:Nat):Int):=by
 rw[z0Q (by rw[z0b];exact h)]
 simp[toI,List.getD,h]
theorem zzI{l:List ByteArray}(h:i<l.length):atI l (i:Int)=some (l.getD i ByteArray.empty):=by
 rw[z0Q h,List.getD,Z1 h,Z4]
def zlD(n:Nat)(S:List Nat):List Bool:=(List.range (2^n)).map fun x=>decide (x∈S)
theorem zCJ(h:x<2^n):atI (zlD n S) (x:Int)=some (decide (x∈S)):=by
 rw[z0Q (by simpa[zlD] using h)];simp[zlD]
theorem ztM:(zlD n S).set x true=zlD n (S++ [x]):=by
 apply Zf (by simp[zlD])
 intro i h1 h2
 simp only[zlD,Ye,Zw,ZJ,Ze,Zi]
 by_cases e:x=i
 · subst e;simp
 · grind
theorem ztN:(List.replicate (2^n) false).set s true=zlD n [s]:=by
 have:List.replicate (2^n) false=zlD n []:=by
  apply Zf (by simp[zlD])
  intro i h1 h2
  simp[zlD]
 rw[this,ztM];rfl
def zFw(S:List Nat):List (Int×Bool):=S.map fun x=>(((x:Nat):Int),true)
theorem map_set{x:Nat}:∀ {S:List Nat},x∉S->z8h ((x:Nat):Int) true (zFw S)=zFw (S++ [x])
 | [],_=>rfl
 |y::S,h=>by
  have ih:=map_set (x:=x) (S:=S) (fun hh=>h (Zo _ hh))
  have hne:y≠x:=fun e=>h (by simp[e])
  simp only[zFw,Zt,z8h,ZO]
  rw[if_neg (by omega)]
  congr 1
theorem zjp(h:a<26):(⟨#[UInt8.ofNat (IntKind.u8.wrap (IntKind.i64.wrap (97+(a:Int)))).toNat]⟩:ByteArray)=zrP a:=by
 rw[z2z (by omega) (by omega),zwu (by omega) (by omega)]
 have:(97+(a:Int)).toNat=97+a:=by omega
 rw[this];rfl
theorem znt(hd:DfaOk d m n)(hn:n<=12)(h:RInv d m n s st)(hi:i<st.1.length):
 z0h (z6a d i) LFm (0,zlD n st.1,toI st.1,st.2)=z0c (((i+1:Nat):Int),zlD n (zaF d i st m).1,toI (zaF d i st m).1,(zaF d i st m).2):=by
 have h12:=zgA hn
 have hm6:=hd.m6
 have hl:=z1C h.nd h.lt
 refine z0q (s:=((0:Int),zlD n st.1,toI st.1,st.2)) m (fun a=>((a:Int),zlD n (zaF d i st a).1,toI (zaF d i st a).1,(zaF d i st a).2)) rfl (by simp only[LFm];omega) (fun a ha=> ?_) ?_
 · obtain⟨k1,_,S,W,k3,k4⟩:=zjv hd h hi a (by omega)
   have hl2:=z1C k1.nd k1.lt
   have hi':i<(zaF d i st a).1.length:=by rw[k3,Z7];omega
   have hx:(zaF d i st a).1.getD i 0<2^n:=k1.lt _ (z0i hi')
   obtain⟨o1,_,_⟩:=k1.ok i hi'
   simp only[z6a]
   rw[if_pos (by rw[hd.lt];omega),z1q hi']
   simp only[Z0]
   rw[ztL hd hn hx ha]
   simp only[Z0]
   rw[zCJ (zc3 hd ha)]
   simp only[Z0,decide_eq_true_eq]
   rw[z0H (by omega),zaF]
   unfold zl2
   have hml:=zc3 hd (s:=(zaF d i st a).1.getD i 0) ha
   have hlt:=hd.lt
   clear hd h k3 k4
   revert hml
   generalize zaF d i st a=st' at*
   generalize mvN d (st'.1.getD i 0) a=x
   intro hml
   by_cases hm:x∈st'.1
   · rw[if_pos hm,if_pos hm]
   · rw[if_neg hm,if_neg hm,z0e _ (by unfold z1n;rw[z0b];omega),zzI (by rw[k1.len];exact hi'),Z0]
     rw[zjp (by omega),z0e _ (by unfold zaH;rw[z8b];omega),z0e _ (by unfold z1n;rw[k1.len];omega),Z2,ztM]
     rw[z5O]
 · simp only[z6a]
   rw[if_neg (by rw[hd.lt];omega),z0H (by omega)]
theorem zxa(hd:DfaOk d m n)(hn:n<=12)(hs:s<2^n):z8d d (s:Int)=some (toI (z1E d m n s).1,(z1E d m n s).2):=by
 have h12:=zgA hn
 have hp:=Yu n
 unfold z8d
 rw[hd.fin,z0e _ (by omega),z9p (by omega),z0e _ (by unfold z0D;omega),z0e _ (by omega),Z2,Z2,ztN]
 refine zbF (s:=((0:Int),zlD n [s],[(s:Int)],[ByteArray.empty])) (fun z=>∃k:Nat,k<=2^n/\z=((k:Int),zlD n (z9r d m s k).1,toI (z9r d m s k).1,(z9r d m s k).2)) (fun z=>2^n+1-z.1.toNat) ⟨0,by omega,rfl⟩ (by simp only[LFm];omega) ?_
 rintro z ⟨k,hk,rfl⟩
 have hl:=zmW hd hs k
 simp only[z8Z]
 by_cases h:k<(z9r d m s k).1.length
 · left
   rw[if_pos (by rw[z0b];omega),znt hd hn (zck hd hs k).1 h]
   refine⟨_,rfl,⟨k+1,by omega,?_⟩,by simp only;omega⟩
   rw[z9r,if_pos h]
 · right
   rw[if_neg (by rw[z0b];omega)]
   unfold z1E
   rw[zj7 h _ hk]
end
section
open Go
theorem zvG(x y:Int):∃c,cmp_Compare_int x y=some c/\(c<0↔x<y):=by
 simp only[cmp_Compare_int,cmp_isNaN_int,decide_true,Xt,Z0,ZP,if_false]
 by_cases h1:x<y
 · rw[if_pos h1];exact⟨_,rfl,by omega⟩
 · rw[if_neg h1]
   by_cases h2:y<x
   · rw[if_pos h2];exact⟨_,rfl,by omega⟩
   · rw[if_neg h2];exact⟨_,rfl,by omega⟩
def kv(K:List Int)(x:Int):Int:=K.getD x.toNat 0
def zG0(K:List Int)(x:Int):Prop:=0<=x/\x<K.length
abbrev zGV(K:List Int)(l:List Int):Prop:=∀x∈l,zG0 K x
abbrev zHP(K:List Int)(l:List Int):Prop:=l.Pairwise fun x y=>kv K x<=kv K y
def zBi(K:List Int):SrtC where
 cmp x y:=z1e x y K
 key x:=kv K x*1048576+x
 ok x:=zG0 K x/\x<1048576
 law x y hx hy h:=by
  obtain⟨i,rfl⟩:=ZF hx.1.1
  obtain⟨j,rfl⟩:=ZF hy.1.1
  have hi:i<K.length:=by have:=hx.1.2;omega
  have hj:j<K.length:=by have:=hy.1.2;omega
  obtain⟨c,h1,h2⟩:=zvG K[i] K[j]
  refine⟨c,?_,?_⟩
  · unfold z1e
    rw[z0Q hi,Z0,z0Q hj,Z0,h1];rfl
  · rw[h2]
    have e1:kv K (i:Int)=K[i]:=by simp[kv,List.getD,hi]
    have e2:kv K (j:Int)=K[j]:=by simp[kv,List.getD,hj]
    have:=hx.2
    have:=hy.2
    omega
theorem zoi:∀k,z0j k=fun l a m b K=>zxP k l a m b (zBi K)
 |0=>rfl
 |k+1=>by
  show z0I (z0j k)=_
  rw[zoi k]
  rfl
theorem zwN(l K:List Int):z0l l K=zD1 l (zBi K):=by
 have h9:z0K=fun a K w=>zcA a (zBi K) w:=by
  unfold z0K
  rw[zoi]
  all_goals rfl
 have h7:z0L=fun a K=>zet a (zBi K):=by
  unfold z0L
  rw[h9]
  all_goals rfl
 have h2:z0M=fun a K=>zeu a (zBi K):=by
  unfold z0M
  rw[h7]
  all_goals rfl
 unfold z0l z0T
 rw[h2]
 all_goals rfl
theorem zw9(n:Nat):((List.range n).map fun x=>((x:Nat):Int)).Pairwise (·< ·):=YA _ (fun a b (h:a<b)=>by omega) XL
theorem zsD{K:List Int}{n:Nat}(hv:zGV K (toI (List.range n)))(hn:(toI (List.range n)).length<=5000):∃S,z0l (toI (List.range n)) K=some S/\zHP K S/\S.Perm (toI (List.range n)):=by
 have hok:∀x∈toI (List.range n),(zBi K).ok x:=fun x hx=>⟨hv x hx,by
  rw[z0b,ZD] at hn
  obtain⟨i,hi,rfl⟩:=Zh.1 hx
  have:=Zj.1 hi
  omega⟩
 obtain⟨S,e,h1,h2⟩:=zmP (K:=zBi K) hok (zw9 n) hn
 refine⟨S,by rw[zwN,e],?_,h2⟩
 refine YV (fun {x y} hx hy h=> ?_) h1
 have o1:=hok x (h2.mem_iff.1 hx)
 have o2:=hok y (h2.mem_iff.1 hy)
 have a1:=o1.1.1
 have a2:=o1.2
 have b1:=o2.1.1
 have b2:=o2.2
 have h3:kv K x*1048576+x<=kv K y*1048576+y:=h
 show kv K x<=kv K y
 omega
end
section
open Go Go.IntKind
noncomputable section
variable{a1 a2 a3:Int}{m5 m8 n3 n6 p0 p3:List (List Int)}{m6 m7 n4 n5 p1 p2:List ByteArray}{a0 m2 m3 m4 n0 n1 n2 n7 n8 n9:List Int}{rf:List Int->Int->Int->Int->List Int->List Int->List Int->List (List Int)->List ByteArray->List ByteArray->List (List Int)->Option (List Int)}
def z1Y(a0:Int)(a1:Int)(m0:List Int)(m9:List Int)(p4:List Int)(q2:List (List Int))(q3:List ByteArray)(q4:List ByteArray)(m1:List (List Int)):Option (Int):=
 (atI m1 a1).bind fun v8=>
 (atI v8 0).bind fun v9=>
 (atI p4 v9).bind fun v10=>
 (atI m1 a0).bind fun v11=>
 (atI v11 0).bind fun v12=>
 (atI p4 v12).bind fun v13=>
 (cmp_Compare_int v10 v13).bind fun v14=>
 some v14
instance{a0:Int}{m0:List Int}{m9:List Int}{p4:List Int}{q2:List (List Int)}{q3:List ByteArray}{q4:List ByteArray}{m1:List (List Int)}:Ok (z1Y a0 a1 m0 m9 p4 q2 q3 q4 m1) (fun r=>L 137 [.sc (.int .i64 a0),.sc (.int .i64 a1),.pr [(tI m0),(tI m9),(tI p4),(tR q2),(tS q3),(tS q4)],.pr [(tR m1)]]=some (.sc (.int .i64 r),[.dead,.dead,.dead,.dead])):=⟨fun r h=>by have h:=z3c h;unfold z1Y at h;exact z4b rfl Tryz.func137 (bdy Tryz.f137 rfl)⟩
abbrev z1W(a1:Int)(n7:List Int)(n8:List Int)(n9:List Int)(p0:List (List Int))(p1:List ByteArray)(p2:List ByteArray)(p3:List (List Int))(w95:Int):Int×List Int->Option ((Int×List Int)⊕((Int×List Int)⊕List Int))
 |(w127,w128)=>
 if a1<w127 then
 (atI w128 w127).bind fun v136=>
 (atI w128 (i64.wrap (w127-1))).bind fun v137=>
 (z1Y v136 v137 n7 n8 n9 p0 p1 p2 p3).bind fun v138=>
 if v138<0 then
 (atI (w128.set w127.toNat v137) (i64.wrap (w127-1))).bind fun v142=>
 z0c (i64.wrap (w127-1),((w128.set w127.toNat v137).set (i64.wrap (w127-1)).toNat v136))
 else
 z0d<|
 z0c (i64.wrap (w95+1),w128)
 else
 z0d<|
 z0c (i64.wrap (w95+1),w128)
instance{w95:Int}:Hd (z1W a1 n7 n8 n9 p0 p1 p2 p3 w95):=⟨fun(w127,w128)=>([(9,xI w127)],[(0,(tO w128))])⟩
abbrev z1X(a1:Int)(a2:Int)(n7:List Int)(n8:List Int)(n9:List Int)(p0:List (List Int))(p1:List ByteArray)(p2:List ByteArray)(p3:List (List Int)):Int×List Int->Option ((Int×List Int)⊕List Int)
 |(w95,w96)=>
 if w95<a2 then
 z0h (z1W a1 n7 n8 n9 p0 p1 p2 p3 w95) LFm (w95,w96)
 else
 z0d<|
 some w96
instance:Hd (z1X a1 a2 n7 n8 n9 p0 p1 p2 p3):=⟨fun(w95,w96)=>([(8,xI w95)],[(0,(tO w96))])⟩
def z0S(a0:List Int)(a1:Int)(a2:Int)(n7:List Int)(n8:List Int)(n9:List Int)(p0:List (List Int))(p1:List ByteArray)(p2:List ByteArray)(p3:List (List Int)):Option (List Int):=
 z0h (z1X a1 a2 n7 n8 n9 p0 p1 p2 p3) LFm (i64.wrap (a1+1),a0)
instance:Ok (z0S a0 a1 a2 n7 n8 n9 p0 p1 p2 p3) (fun r=>L 208 [(tO a0),.sc (.int .i64 a1),.sc (.int .i64 a2),.cl 137 [.pr [(tI n7),(tI n8),(tI n9),(tR p0),(tS p1),(tS p2)],.pr [(tR p3)]]]=some (.tup [],[(tO r),.dead,.dead,.dead])):=⟨fun r h=>by have h:=z3c h;unfold z0S at h;exact z4b rfl Tryz.func208 (bdy Tryz.f208 rfl)⟩
abbrev z2o(a1:Int)(a2:Int)(a3:Int):Int×List Int->Option ((Int×List Int)⊕List Int)
 |(w19,w20)=>
 if w19<a3 then
 (atI w20 (i64.wrap (a2+w19))).bind fun v25=>
 (atI w20 (i64.wrap (a1+w19))).bind fun v26=>
 (atI (w20.set (i64.wrap (a1+w19)).toNat v25) (i64.wrap (a2+w19))).bind fun v28=>
 z0c (i64.wrap (w19+1),((w20.set (i64.wrap (a1+w19)).toNat v25).set (i64.wrap (a2+w19)).toNat v26))
 else
 z0d<|
 some w20
instance:Hd (z2o a1 a2 a3):=⟨fun(w19,w20)=>([(10,xI w19)],[(0,(tO w20))])⟩
def z0G(a0:List Int)(a1:Int)(a2:Int)(a3:Int)(m2:List Int)(m3:List Int)(m4:List Int)(m5:List (List Int))(m6:List ByteArray)(m7:List ByteArray)(m8:List (List Int)):Option (List Int):=
 z0h (z2o a1 a2 a3) LFm (0,a0)
instance:Ok (z0G a0 a1 a2 a3 m2 m3 m4 m5 m6 m7 m8) (fun r=>L 236 [(tO a0),.sc (.int .i64 a1),.sc (.int .i64 a2),.sc (.int .i64 a3),.cl 137 [.pr [(tI m2),(tI m3),(tI m4),(tR m5),(tS m6),(tS m7)],.pr [(tR m8)]]]=some (.tup [],[(tO r),.dead,.dead,.dead,.dead])):=⟨fun r h=>by have h:=z3c h;unfold z0G at h;exact z4b rfl Tryz.func236 (bdy Tryz.f236 rfl)⟩
abbrev z2y(a2:Int)(m2:List Int)(m3:List Int)(m4:List Int)(m5:List (List Int))(m6:List ByteArray)(m7:List ByteArray)(m8:List (List Int)):Int×Int×List Int->Option ((Int×Int×List Int)⊕List Int)
 |(w13,w15,w14)=>
 if w13=w15 then
 z0d<|
 (z0G w14 (i64.wrap (a2-w13)) a2 w13 m2 m3 m4 m5 m6 m7 m8).bind fun v18=>
 some v18
 else
 if w15<w13 then
 (z0G w14 (i64.wrap (a2-w13)) a2 w15 m2 m3 m4 m5 m6 m7 m8).bind fun v19=>
 z0c (i64.wrap (w13-w15),w15,v19)
 else
 (z0G w14 (i64.wrap (a2-w13)) (i64.wrap ((i64.wrap (a2+w15))-w13)) w13 m2 m3 m4 m5 m6 m7 m8).bind fun v20=>
 z0c (w13,i64.wrap (w15-w13),v20)
instance:Hd (z2y a2 m2 m3 m4 m5 m6 m7 m8):=⟨fun(w13,w15,w14)=>([(10,xI w13),(11,xI w15)],[(0,(tO w14))])⟩
def z1k(a0:List Int)(a1:Int)(a2:Int)(a3:Int)(m2:List Int)(m3:List Int)(m4:List Int)(m5:List (List Int))(m6:List ByteArray)(m7:List ByteArray)(m8:List (List Int)):Option (List Int):=
 z0h (z2y a2 m2 m3 m4 m5 m6 m7 m8) LFm (i64.wrap (a2-a1),i64.wrap (a3-a2),a0)
instance:Ok (z1k a0 a1 a2 a3 m2 m3 m4 m5 m6 m7 m8) (fun r=>L 229 [(tO a0),.sc (.int .i64 a1),.sc (.int .i64 a2),.sc (.int .i64 a3),.cl 137 [.pr [(tI m2),(tI m3),(tI m4),(tR m5),(tS m6),(tS m7)],.pr [(tR m8)]]]=some (.tup [],[(tO r),.dead,.dead,.dead,.dead])):=⟨fun r h=>by have h:=z3c h;unfold z1k at h;exact z4b rfl Tryz.func229 (bdy Tryz.f229 rfl)⟩
abbrev z2s(w102:Int):Int×List Int->Option ((Int×List Int)⊕List Int)
 |(w114,w115)=>
 if w114<(i64.wrap (w102-1)) then
 (atI w115 (i64.wrap (w114+1))).bind fun v120=>
 (atI w115 w114).bind fun v121=>
 (atI (w115.set w114.toNat v120) (i64.wrap (w114+1))).bind fun v123=>
 z0c (i64.wrap (w114+1),((w115.set w114.toNat v120).set (i64.wrap (w114+1)).toNat v121))
 else
 z0d<|
 some w115
instance{w102:Int}:Hd (z2s w102):=⟨fun(w114,w115)=>([(13,xI w114)],[(0,(tO w115))])⟩
abbrev z2t(a0:List Int)(a1:Int)(m2:List Int)(m3:List Int)(m4:List Int)(m5:List (List Int))(m6:List ByteArray)(m7:List ByteArray)(m8:List (List Int)):Int×Int->Option ((Int×Int)⊕List Int)
 |(w102,w103)=>
 if w102<w103 then
 chk (¬1<0)<|
 (atI a0 (md w102 w103)).bind fun v107=>
 (atI a0 a1).bind fun v108=>
 (z1Y v107 v108 m2 m3 m4 m5 m6 m7 m8).bind fun v109=>
 if v109<0 then
 z0c (i64.wrap ((md w102 w103)+1),w103)
 else
 z0c (w102,i64.wrap (z1D .u64 (u64.wrap (i64.wrap (w102+w103))) 1))
 else
 z0d<|
 z0h (z2s w102) LFm (a1,a0)
instance:Hd (z2t a0 a1 m2 m3 m4 m5 m6 m7 m8):=⟨fun(w102,w103)=>([(10,xI w102),(11,xI w103)],[])⟩
abbrev z2m(w128:Int):Int×List Int->Option ((Int×List Int)⊕List Int)
 |(w139,w140)=>
 if w128<w139 then
 (atI w140 (i64.wrap (w139-1))).bind fun v145=>
 (atI w140 w139).bind fun v146=>
 (atI (w140.set w139.toNat v145) (i64.wrap (w139-1))).bind fun v148=>
 z0c (i64.wrap (w139-1),((w140.set w139.toNat v145).set (i64.wrap (w139-1)).toNat v146))
 else
 z0d<|
 some w140
instance{w128:Int}:Hd (z2m w128):=⟨fun(w139,w140)=>([(17,xI w139)],[(0,(tO w140))])⟩
abbrev z2n(a0:List Int)(a2:Int)(m2:List Int)(m3:List Int)(m4:List Int)(m5:List (List Int))(m6:List ByteArray)(m7:List ByteArray)(m8:List (List Int)):Int×Int->Option ((Int×Int)⊕List Int)
 |(w128,w127)=>
 if w128<w127 then
 chk (¬1<0)<|
 (atI a0 a2).bind fun v132=>
 (atI a0 (md w128 w127)).bind fun v133=>
 (z1Y v132 v133 m2 m3 m4 m5 m6 m7 m8).bind fun v134=>
 if v134<0 then
 z0c (w128,i64.wrap (z1D .u64 (u64.wrap (i64.wrap (w128+w127))) 1))
 else
 z0c (i64.wrap ((md w128 w127)+1),w127)
 else
 z0d<|
 z0h (z2m w128) LFm (a2,a0)
instance:Hd (z2n a0 a2 m2 m3 m4 m5 m6 m7 m8):=⟨fun(w128,w127)=>([(14,xI w128),(15,xI w127)],[])⟩
abbrev z2l(a0:List Int)(a1:Int)(a2:Int)(a3:Int)(m2:List Int)(m3:List Int)(m4:List Int)(m5:List (List Int))(m6:List ByteArray)(m7:List ByteArray)(m8:List (List Int))(rf:List Int->Int->Int->Int->List Int->List Int->List Int->List (List Int)->List ByteArray->List ByteArray->List (List Int)->Option (List Int)):Int×Int->Option ((Int×Int)⊕List Int)
 |(w153,w152)=>
 if w153<w152 then
 chk (¬1<0)<|
 (atI a0 (i64.wrap ((i64.wrap ((i64.wrap ((md a1 a3)+a2))-1))-(md w153 w152)))).bind fun v157=>
 (atI a0 (md w153 w152)).bind fun v158=>
 (z1Y v157 v158 m2 m3 m4 m5 m6 m7 m8).bind fun v159=>
 if v159<0 then
 z0c (w153,i64.wrap (z1D .u64 (u64.wrap (i64.wrap (w153+w152))) 1))
 else
 z0c (i64.wrap ((md w153 w152)+1),w152)
 else
 z0d<|
 if w153<a2 then
 if a2<(i64.wrap ((i64.wrap ((md a1 a3)+a2))-w153)) then
 (z1k a0 w153 a2 (i64.wrap ((i64.wrap ((md a1 a3)+a2))-w153)) m2 m3 m4 m5 m6 m7 m8).bind fun v160=>
 if a1<w153 then
 if w153<(md a1 a3) then
 (rf v160 a1 w153 (md a1 a3) m2 m3 m4 m5 m6 m7 m8).bind fun v161=>
 if(md a1 a3)<(i64.wrap ((i64.wrap ((md a1 a3)+a2))-w153)) then
 if(i64.wrap ((i64.wrap ((md a1 a3)+a2))-w153))<a3 then
 (rf v161 (md a1 a3) (i64.wrap ((i64.wrap ((md a1 a3)+a2))-w153)) a3 m2 m3 m4 m5 m6 m7 m8).bind fun v162=>
 some v162
 else
 some v161
 else
 some v161
 else
 if(md a1 a3)<(i64.wrap ((i64.wrap ((md a1 a3)+a2))-w153)) then
 if(i64.wrap ((i64.wrap ((md a1 a3)+a2))-w153))<a3 then
 (rf v160 (md a1 a3) (i64.wrap ((i64.wrap ((md a1 a3)+a2))-w153)) a3 m2 m3 m4 m5 m6 m7 m8).bind fun v163=>
 some v163
 else
 some v160
 else
 some v160
 else
 if(md a1 a3)<(i64.wrap ((i64.wrap ((md a1 a3)+a2))-w153)) then
 if(i64.wrap ((i64.wrap ((md a1 a3)+a2))-w153))<a3 then
 (rf v160 (md a1 a3) (i64.wrap ((i64.wrap ((md a1 a3)+a2))-w153)) a3 m2 m3 m4 m5 m6 m7 m8).bind fun v164=>
 some v164
 else
 some v160
 else
 some v160
 else
 if a1<w153 then
 if w153<(md a1 a3) then
 (rf a0 a1 w153 (md a1 a3) m2 m3 m4 m5 m6 m7 m8).bind fun v165=>
 if(md a1 a3)<(i64.wrap ((i64.wrap ((md a1 a3)+a2))-w153)) then
 if(i64.wrap ((i64.wrap ((md a1 a3)+a2))-w153))<a3 then
 (rf v165 (md a1 a3) (i64.wrap ((i64.wrap ((md a1 a3)+a2))-w153)) a3 m2 m3 m4 m5 m6 m7 m8).bind fun v166=>
 some v166
 else
 some v165
 else
 some v165
 else
 if(md a1 a3)<(i64.wrap ((i64.wrap ((md a1 a3)+a2))-w153)) then
 if(i64.wrap ((i64.wrap ((md a1 a3)+a2))-w153))<a3 then
 (rf a0 (md a1 a3) (i64.wrap ((i64.wrap ((md a1 a3)+a2))-w153)) a3 m2 m3 m4 m5 m6 m7 m8).bind fun v167=>
 some v167
 else
 some a0
 else
 some a0
 else
 if(md a1 a3)<(i64.wrap ((i64.wrap ((md a1 a3)+a2))-w153)) then
 if(i64.wrap ((i64.wrap ((md a1 a3)+a2))-w153))<a3 then
 (rf a0 (md a1 a3) (i64.wrap ((i64.wrap ((md a1 a3)+a2))-w153)) a3 m2 m3 m4 m5 m6 m7 m8).bind fun v168=>
 some v168
 else
 some a0
 else
 some a0
 else
 if a1<w153 then
 if w153<(md a1 a3) then
 (rf a0 a1 w153 (md a1 a3) m2 m3 m4 m5 m6 m7 m8).bind fun v169=>
 if(md a1 a3)<(i64.wrap ((i64.wrap ((md a1 a3)+a2))-w153)) then
 if(i64.wrap ((i64.wrap ((md a1 a3)+a2))-w153))<a3 then
 (rf v169 (md a1 a3) (i64.wrap ((i64.wrap ((md a1 a3)+a2))-w153)) a3 m2 m3 m4 m5 m6 m7 m8).bind fun v170=>
 some v170
 else
 some v169
 else
 some v169
 else
 if(md a1 a3)<(i64.wrap ((i64.wrap ((md a1 a3)+a2))-w153)) then
 if(i64.wrap ((i64.wrap ((md a1 a3)+a2))-w153))<a3 then
 (rf a0 (md a1 a3) (i64.wrap ((i64.wrap ((md a1 a3)+a2))-w153)) a3 m2 m3 m4 m5 m6 m7 m8).bind fun v171=>
 some v171
 else
 some a0
 else
 some a0
 else
 if(md a1 a3)<(i64.wrap ((i64.wrap ((md a1 a3)+a2))-w153)) then
 if(i64.wrap ((i64.wrap ((md a1 a3)+a2))-w153))<a3 then
 (rf a0 (md a1 a3) (i64.wrap ((i64.wrap ((md a1 a3)+a2))-w153)) a3 m2 m3 m4 m5 m6 m7 m8).bind fun v172=>
 some v172
 else
 some a0
 else
 some a0
instance:Hd (z2l a0 a1 a2 a3 m2 m3 m4 m5 m6 m7 m8 rf):=⟨fun(w153,w152)=>([(20,xI w153),(21,xI w152)],[])⟩
abbrev z2k(a0:List Int)(a1:Int)(a2:Int)(a3:Int)(m2:List Int)(m3:List Int)(m4:List Int)(m5:List (List Int))(m6:List ByteArray)(m7:List ByteArray)(m8:List (List Int))(rf:List Int->Int->Int->Int->List Int->List Int->List Int->List (List Int)->List ByteArray->List ByteArray->List (List Int)->Option (List Int)):Int×Int->Option ((Int×Int)⊕List Int)
 |(w177,w176)=>
 if w177<w176 then
 chk (¬1<0)<|
 (atI a0 (i64.wrap ((i64.wrap ((i64.wrap ((md a1 a3)+a2))-1))-(md w177 w176)))).bind fun v181=>
 (atI a0 (md w177 w176)).bind fun v182=>
 (z1Y v181 v182 m2 m3 m4 m5 m6 m7 m8).bind fun v183=>
 if v183<0 then
 z0c (w177,i64.wrap (z1D .u64 (u64.wrap (i64.wrap (w177+w176))) 1))
 else
 z0c (i64.wrap ((md w177 w176)+1),w176)
 else
 z0d<|
 if w177<a2 then
 if a2<(i64.wrap ((i64.wrap ((md a1 a3)+a2))-w177)) then
 (z1k a0 w177 a2 (i64.wrap ((i64.wrap ((md a1 a3)+a2))-w177)) m2 m3 m4 m5 m6 m7 m8).bind fun v184=>
 if a1<w177 then
 if w177<(md a1 a3) then
 (rf v184 a1 w177 (md a1 a3) m2 m3 m4 m5 m6 m7 m8).bind fun v185=>
 if(md a1 a3)<(i64.wrap ((i64.wrap ((md a1 a3)+a2))-w177)) then
 if(i64.wrap ((i64.wrap ((md a1 a3)+a2))-w177))<a3 then
 (rf v185 (md a1 a3) (i64.wrap ((i64.wrap ((md a1 a3)+a2))-w177)) a3 m2 m3 m4 m5 m6 m7 m8).bind fun v186=>
 some v186
 else
 some v185
 else
 some v185
 else
 if(md a1 a3)<(i64.wrap ((i64.wrap ((md a1 a3)+a2))-w177)) then
 if(i64.wrap ((i64.wrap ((md a1 a3)+a2))-w177))<a3 then
 (rf v184 (md a1 a3) (i64.wrap ((i64.wrap ((md a1 a3)+a2))-w177)) a3 m2 m3 m4 m5 m6 m7 m8).bind fun v187=>
 some v187
 else
 some v184
 else
 some v184
 else
 if(md a1 a3)<(i64.wrap ((i64.wrap ((md a1 a3)+a2))-w177)) then
 if(i64.wrap ((i64.wrap ((md a1 a3)+a2))-w177))<a3 then
 (rf v184 (md a1 a3) (i64.wrap ((i64.wrap ((md a1 a3)+a2))-w177)) a3 m2 m3 m4 m5 m6 m7 m8).bind fun v188=>
 some v188
 else
 some v184
 else
 some v184
 else
 if a1<w177 then
 if w177<(md a1 a3) then
 (rf a0 a1 w177 (md a1 a3) m2 m3 m4 m5 m6 m7 m8).bind fun v189=>
 if(md a1 a3)<(i64.wrap ((i64.wrap ((md a1 a3)+a2))-w177)) then
 if(i64.wrap ((i64.wrap ((md a1 a3)+a2))-w177))<a3 then
 (rf v189 (md a1 a3) (i64.wrap ((i64.wrap ((md a1 a3)+a2))-w177)) a3 m2 m3 m4 m5 m6 m7 m8).bind fun v190=>
 some v190
 else
 some v189
 else
 some v189
 else
 if(md a1 a3)<(i64.wrap ((i64.wrap ((md a1 a3)+a2))-w177)) then
 if(i64.wrap ((i64.wrap ((md a1 a3)+a2))-w177))<a3 then
 (rf a0 (md a1 a3) (i64.wrap ((i64.wrap ((md a1 a3)+a2))-w177)) a3 m2 m3 m4 m5 m6 m7 m8).bind fun v191=>
 some v191
 else
 some a0
 else
 some a0
 else
 if(md a1 a3)<(i64.wrap ((i64.wrap ((md a1 a3)+a2))-w177)) then
 if(i64.wrap ((i64.wrap ((md a1 a3)+a2))-w177))<a3 then
 (rf a0 (md a1 a3) (i64.wrap ((i64.wrap ((md a1 a3)+a2))-w177)) a3 m2 m3 m4 m5 m6 m7 m8).bind fun v192=>
 some v192
 else
 some a0
 else
 some a0
 else
 if a1<w177 then
 if w177<(md a1 a3) then
 (rf a0 a1 w177 (md a1 a3) m2 m3 m4 m5 m6 m7 m8).bind fun v193=>
 if(md a1 a3)<(i64.wrap ((i64.wrap ((md a1 a3)+a2))-w177)) then
 if(i64.wrap ((i64.wrap ((md a1 a3)+a2))-w177))<a3 then
 (rf v193 (md a1 a3) (i64.wrap ((i64.wrap ((md a1 a3)+a2))-w177)) a3 m2 m3 m4 m5 m6 m7 m8).bind fun v194=>
 some v194
 else
 some v193
 else
 some v193
 else
 if(md a1 a3)<(i64.wrap ((i64.wrap ((md a1 a3)+a2))-w177)) then
 if(i64.wrap ((i64.wrap ((md a1 a3)+a2))-w177))<a3 then
 (rf a0 (md a1 a3) (i64.wrap ((i64.wrap ((md a1 a3)+a2))-w177)) a3 m2 m3 m4 m5 m6 m7 m8).bind fun v195=>
 some v195
 else
 some a0
 else
 some a0
 else
 if(md a1 a3)<(i64.wrap ((i64.wrap ((md a1 a3)+a2))-w177)) then
 if(i64.wrap ((i64.wrap ((md a1 a3)+a2))-w177))<a3 then
 (rf a0 (md a1 a3) (i64.wrap ((i64.wrap ((md a1 a3)+a2))-w177)) a3 m2 m3 m4 m5 m6 m7 m8).bind fun v196=>
 some v196
 else
 some a0
 else
 some a0
instance:Hd (z2k a0 a1 a2 a3 m2 m3 m4 m5 m6 m7 m8 rf):=⟨fun(w177,w176)=>([(20,xI w177),(21,xI w176)],[])⟩
def z0Z(rf:List Int->Int->Int->Int->List Int->List Int->List Int->List (List Int)->List ByteArray->List ByteArray->List (List Int)->Option (List Int))(a0:List Int)(a1:Int)(a2:Int)(a3:Int)(m2:List Int)(m3:List Int)(m4:List Int)(m5:List (List Int))(m6:List ByteArray)(m7:List ByteArray)(m8:List (List Int)):Option (List Int):=
 if(i64.wrap (a2-a1))=1 then
 z0h (z2t a0 a1 m2 m3 m4 m5 m6 m7 m8) LFm (a2,a3)
 else
 if(i64.wrap (a3-a2))=1 then
 z0h (z2n a0 a2 m2 m3 m4 m5 m6 m7 m8) LFm (a1,a2)
 else
 chk (¬1<0)<|
 if(md a1 a3)<a2 then
 z0h (z2l a0 a1 a2 a3 m2 m3 m4 m5 m6 m7 m8 rf) LFm (i64.wrap ((i64.wrap ((md a1 a3)+a2))-a3),i64.wrap (z1D .u64 (u64.wrap (i64.wrap (a1+a3))) 1))
 else
 z0h (z2k a0 a1 a2 a3 m2 m3 m4 m5 m6 m7 m8 rf) LFm (a1,a2)
theorem z4A[ih:∀(a0:List Int) (a1:Int) (a2:Int) (a3:Int) (m2:List Int) (m3:List Int) (m4:List Int) (m5:List (List Int)) (m6:List ByteArray) (m7:List ByteArray) (m8:List (List Int)),Ok (rf a0 a1 a2 a3 m2 m3 m4 m5 m6 m7 m8) (fun r=>L 209 [(tO a0),.sc (.int .i64 a1),.sc (.int .i64 a2),.sc (.int .i64 a3),.cl 137 [.pr [(tI m2),(tI m3),(tI m4),(tR m5),(tS m6),(tS m7)],.pr [(tR m8)]]]=some (.tup [],[(tO r),.dead,.dead,.dead,.dead]))]:Ok (z0Z rf a0 a1 a2 a3 m2 m3 m4 m5 m6 m7 m8) (fun r=>L 209 [(tO a0),.sc (.int .i64 a1),.sc (.int .i64 a2),.sc (.int .i64 a3),.cl 137 [.pr [(tI m2),(tI m3),(tI m4),(tR m5),(tS m6),(tS m7)],.pr [(tR m8)]]]=some (.tup [],[(tO r),.dead,.dead,.dead,.dead])):=⟨fun r h=>by have h:=z3c h;unfold z0Z at h;exact z4b rfl Tryz.func209 (bdy Tryz.f209 rfl)⟩
def z0o:Nat->List Int->Int->Int->Int->List Int->List Int->List Int->List (List Int)->List ByteArray->List ByteArray->List (List Int)->Option (List Int)
 |0=>fun _ _ _ _ _ _ _ _ _ _ _=>none
 |k+1=>z0Z (z0o k)
instance:∀ {k:Nat} {a0:List Int} {a1:Int} {a2:Int} {a3:Int} {m2:List Int} {m3:List Int} {m4:List Int} {m5:List (List Int)} {m6:List ByteArray} {m7:List ByteArray} {m8:List (List Int)},Ok (z0o k a0 a1 a2 a3 m2 m3 m4 m5 m6 m7 m8) (fun r=>L 209 [(tO a0),.sc (.int .i64 a1),.sc (.int .i64 a2),.sc (.int .i64 a3),.cl 137 [.pr [(tI m2),(tI m3),(tI m4),(tR m5),(tS m6),(tS m7)],.pr [(tR m8)]]]=some (.tup [],[(tO r),.dead,.dead,.dead,.dead])):=by
 intro k
 induction k with
 |zero=>intros;exact⟨fun r h=>by cases h⟩
 |succ k ih=>intros;have ih2:= @ih;exact z4A (rf:=z0o k)
abbrev z1a(a1:Int)(n0:List Int)(n1:List Int)(n2:List Int)(n3:List (List Int))(n4:List ByteArray)(n5:List ByteArray)(n6:List (List Int))(w45:Int):Int×Int×List Int->Option ((Int×Int×List Int)⊕((Int×List Int)⊕List Int))
 |(w55,w56,w57)=>
 if w56<=a1 then
 (z0o 5000 w57 w55 (i64.wrap (w55+w45)) w56 n0 n1 n2 n3 n4 n5 n6).bind fun v59=>
 z0c (w56,i64.wrap (w56+(i64.wrap (2*w45))),v59)
 else
 z0d<|
 if(i64.wrap (w55+w45))<a1 then
 (z0o 5000 w57 w55 (i64.wrap (w55+w45)) a1 n0 n1 n2 n3 n4 n5 n6).bind fun v60=>
 z0c (i64.wrap (w45*2),v60)
 else
 z0c (i64.wrap (w45*2),w57)
instance{w45:Int}:Hd (z1a a1 n0 n1 n2 n3 n4 n5 n6 w45):=⟨fun(w55,w56,w57)=>([(7,xI w55),(8,xI w56)],[(0,(tO w57))])⟩
abbrev z1b(a1:Int)(n0:List Int)(n1:List Int)(n2:List Int)(n3:List (List Int))(n4:List ByteArray)(n5:List ByteArray)(n6:List (List Int)):Int×List Int->Option ((Int×List Int)⊕List Int)
 |(w45,w46)=>
 if w45<a1 then
 z0h (z1a a1 n0 n1 n2 n3 n4 n5 n6 w45) LFm (0,i64.wrap (2*w45),w46)
 else
 z0d<|
 some w46
instance:Hd (z1b a1 n0 n1 n2 n3 n4 n5 n6):=⟨fun(w45,w46)=>([(6,xI w45)],[(0,(tO w46))])⟩
abbrev z1c(a1:Int)(n0:List Int)(n1:List Int)(n2:List Int)(n3:List (List Int))(n4:List ByteArray)(n5:List ByteArray)(n6:List (List Int)):Int×Int×List Int->Option ((Int×Int×List Int)⊕List Int)
 |(w32,w33,w34)=>
 if w33<=a1 then
 (z0S w34 w32 w33 n0 n1 n2 n3 n4 n5 n6).bind fun v36=>
 z0c (w33,i64.wrap (w33+20),v36)
 else
 z0d<|
 (z0S w34 w32 a1 n0 n1 n2 n3 n4 n5 n6).bind fun v37=>
 z0h (z1b a1 n0 n1 n2 n3 n4 n5 n6) LFm (20,v37)
instance:Hd (z1c a1 n0 n1 n2 n3 n4 n5 n6):=⟨fun(w32,w33,w34)=>([(7,xI w32),(8,xI w33)],[(0,(tO w34))])⟩
def z1j(a0:List Int)(a1:Int)(n0:List Int)(n1:List Int)(n2:List Int)(n3:List (List Int))(n4:List ByteArray)(n5:List ByteArray)(n6:List (List Int)):Option (List Int):=
 z0h (z1c a1 n0 n1 n2 n3 n4 n5 n6) LFm (0,20,a0)
instance:Ok (z1j a0 a1 n0 n1 n2 n3 n4 n5 n6) (fun r=>L 181 [(tO a0),.sc (.int .i64 a1),.cl 137 [.pr [(tI n0),(tI n1),(tI n2),(tR n3),(tS n4),(tS n5)],.pr [(tR n6)]]]=some (.tup [],[(tO r),.dead,.dead])):=⟨fun r h=>by have h:=z3c h;unfold z1j at h;exact z4b rfl Tryz.func181 (bdy Tryz.f181 rfl)⟩
def z0z(a0:List Int)(p5:List Int)(p6:List Int)(p7:List Int)(p8:List (List Int))(p9:List ByteArray)(q0:List ByteArray)(q1:List (List Int)):Option (List Int):=
 (z1j a0 (a0.length:Int) p5 p6 p7 p8 p9 q0 q1).bind fun v2=>
 some v2
instance{p5:List Int}{p6:List Int}{p7:List Int}{p8:List (List Int)}{p9:List ByteArray}{q0:List ByteArray}{q1:List (List Int)}:Ok (z0z a0 p5 p6 p7 p8 p9 q0 q1) (fun r=>L 136 [(tO a0),.cl 137 [.pr [(tI p5),(tI p6),(tI p7),(tR p8),(tS p9),(tS q0)],.pr [(tR q1)]]]=some (.tup [],[(tO r),.dead])):=⟨fun r h=>by have h:=z3c h;unfold z0z at h;exact z4b rfl Tryz.func136 (bdy Tryz.f136 rfl)⟩
def z5a(a0:Imgs)(w36:List (List Int)):Int×List Int->Option ((Int×List Int)⊕(List Int×List (List Int)))
 |(w50,w51)=>
 if w50<(w36.length:Int) then
 (atI w36 w50).bind fun v55=>
 (atI v55 0).bind fun v56=>
 (atI a0.height v56).bind fun v57=>
 if 1<=v57 then
 chk (z1n 8 (w51.length+1))<|
 z0c (i64.wrap (w50+1),w51++ [w50])
 else
 z0c (i64.wrap (w50+1),w51)
 else
 z0d<|
 (z0z w51 a0.sets a0.class_ a0.height a0.tiles a0.words a0.back w36).bind fun v58=>
 some (v58,w36)
def z3Z(a0:Imgs)(w36:List (List Int)):Int×List Int->Fr
 |(w50,w51)=>⟨61,[(1,.one (.a 1 [] (0))),(4,.one (.a 4 [] (0))),(7,.one (.h 7 [])),(36,.one (.h 4 [0])),(37,.one (.t none (.sc (.int .i64 (w36.length:Int))))),(38,.one (.t none (.sc (.int .i64 w50))))],[(1,.vr [.sl a0.sets.length (a0.sets.map fun x0=>.sc (.int .i64 x0)),.sl a0.class_.length (a0.class_.map fun x0=>.sc (.int .i64 x0)),.sl a0.height.length (a0.height.map fun x0=>.sc (.int .i64 x0)),.sl a0.tiles.length (a0.tiles.map fun x0=>.sl x0.length (x0.map fun x1=>.sc (.int .i64 x1))),.sl a0.words.length (a0.words.map fun x0=>.sc (.string x0)),.sl a0.back.length (a0.back.map fun x0=>.sc (.string x0))]),(4,.vr [.os 1 w36.length (w36.map fun x0=>.os 1 x0.length (x0.map fun x1=>.sc (.int .i64 x1)))]),(7,.os 1 w51.length (w51.map fun x0=>.sc (.int .i64 x0)))]⟩
def z4s(a0:Imgs):Int×List (List Int)->Option ((Int×List (List Int))⊕(List Int×List (List Int)))
 |(w35,w36)=>
 if w35<(a0.class_.length:Int) then
 (atI a0.class_ w35).bind fun v42=>
 if v42=(w36.length:Int) then
 chk (z1n 24 (w36.length+1))<|
 (atI (w36++ [[]]) v42).bind fun v43=>
 chk (z1n 8 (v43.length+1))<|
 z0c (i64.wrap (w35+1),((w36++ [[]]).set v42.toNat (v43++ [w35])))
 else
 (atI w36 v42).bind fun v45=>
 chk (z1n 8 (v45.length+1))<|
 z0c (i64.wrap (w35+1),(w36.set v42.toNat (v45++ [w35])))
 else
 z0d<|
 z0h (z5a a0 w36) LFm (0,[])
def z4r(a0:Imgs):Int×List (List Int)->Fr
 |(w35,w36)=>⟨61,[(1,.one (.a 1 [] (0))),(4,.one (.a 4 [] (0))),(11,.one (.t none (.sl a0.class_.length (a0.class_.map fun x0=>.sc (.int .i64 x0))))),(12,.one (.t none (.sc (.int .i64 (a0.class_.length:Int))))),(13,.one (.t none (.sc (.int .i64 w35))))],[(1,.vr [.sl a0.sets.length (a0.sets.map fun x0=>.sc (.int .i64 x0)),.sl a0.class_.length (a0.class_.map fun x0=>.sc (.int .i64 x0)),.sl a0.height.length (a0.height.map fun x0=>.sc (.int .i64 x0)),.sl a0.tiles.length (a0.tiles.map fun x0=>.sl x0.length (x0.map fun x1=>.sc (.int .i64 x1))),.sl a0.words.length (a0.words.map fun x0=>.sc (.string x0)),.sl a0.back.length (a0.back.map fun x0=>.sc (.string x0))]),(4,.vr [.os 1 w36.length (w36.map fun x0=>.os 1 x0.length (x0.map fun x1=>.sc (.int .i64 x1)))])]⟩
def z5F(a0:Imgs):Option (List Int×List (List Int)):=
 z0h (z4s a0) LFm (0,[])
instance{a0:Imgs}:Ok (z5F a0) (fun r=>L 80 [.agg [.sl a0.sets.length (a0.sets.map fun x0=>.sc (.int .i64 x0)),.sl a0.class_.length (a0.class_.map fun x0=>.sc (.int .i64 x0)),.sl a0.height.length (a0.height.map fun x0=>.sc (.int .i64 x0)),.sl a0.tiles.length (a0.tiles.map fun x0=>.sl x0.length (x0.map fun x1=>.sc (.int .i64 x1))),.sl a0.words.length (a0.words.map fun x0=>.sc (.string x0)),.sl a0.back.length (a0.back.map fun x0=>.sc (.string x0))]]=some (.tup [.sl r.1.length (r.1.map fun x0=>.sc (.int .i64 x0)),.sl r.2.length (r.2.map fun x0=>.sl x0.length (x0.map fun x1=>.sc (.int .i64 x1)))],[.dead])):=⟨fun r h0=>by
 simp only[z5F] at h0
 refine zwh rfl Tryz.func80 (zfh (bdy Tryz.f80 rfl) ⟨of_decide_eq_true rfl,of_decide_eq_true rfl⟩ rfl ?_)
 simp only[z8g,z8q,z8f,zay,z7q]
 refine zp (zs ?_)
 refine z0m (zp (zs ?_))
 refine z0m (zp (zp (zs ?_)))
 refine z0m (zb rfl (z9A h0 (z4r a0) rfl rfl (by simp[z4r]) fun s o1 h1 hr1=> ?_))
 obtain⟨w35,w36⟩:=s
 simp only[z4s] at h1
 simp only[z4r]
 refine zp (zs ?_)
 refine z0m (zp ?_)
 by_cases c57:w35<(a0.class_.length:Int)
 ·rw[if_pos c57] at h1
  refine zcn rfl (by simp[c57]) (z8p rfl (z0m (zp (zb rfl (zp ?_)))))
  obtain⟨v42,f58,h2⟩:=za4 h1
  refine zr rfl rfl rfl (by simp[f58];rfl) ?_
  refine z0m (zp (zp (zs ?_)))
  refine z0m ?_
  by_cases c59:v42=(w36.length:Int)
  ·rw[if_pos c59] at h2
   have c59e:=eq_true c59
   refine zcn rfl (by simp[c59e]) ?_
   obtain⟨f60,h3⟩:=zme h2
   refine zr rfl rfl rfl (by simp[f60];rfl) ?_
   refine z0m ?_
   obtain⟨v43,f61,h4⟩:=z2u h3
   obtain⟨f61a,f61b,f61c,f61d,f61e⟩:=zfD f61
   try simp at f61b f61c
   have f61s:∀hh,((w36++ [[]]).map (fun x0:List Int=>(.os 1 x0.length (x0.map fun x1=>.sc (.int .i64 x1)):T)))[v42.toNat]'hh=(fun x0:List Int=>(.os 1 x0.length (x0.map fun x1=>.sc (.int .i64 x1)):T)) v43:=fun hh=>by rw[Zw];exact congrArg (fun x0:List Int=>(.os 1 x0.length (x0.map fun x1=>.sc (.int .i64 x1)):T)) (f61e _)
   try simp only[List.map_set,ZI,Zt,Yt,Ys] at f61s
   obtain⟨f62,h5⟩:=zme h4
   refine zls rfl rfl rfl rfl ?_
   iterate 6 (refine ze8 rfl rfl (by simp[z0x,z0y,f61a,f61b,f61c,f61d,f61e,f61s,f62];rfl) ?_)
   refine zgc ?_
   iterate 5 (refine ze8 rfl rfl (by simp[z0x,z0y,f61a,f61b,f61c,f61d,f61e,f61s,f62];rfl) ?_)
   refine zgb ?_
   refine⟨?_,?_⟩
   ·refine ze8 rfl rfl (by simp[z0x,z0y,f61a,f61b,f61c,f61d,f61e,f61s,f62];rfl) ?_
    refine zgc ?_
    iterate 4 (refine ze8 rfl rfl (by simp[z0x,z0y,f61a,f61b,f61c,f61d,f61e,f61s,f62];rfl) ?_)
    refine zgb ?_
    refine⟨?_,?_⟩
    ·refine ze8 rfl rfl (by simp[z0x,z0y,f61a,f61b,f61c,f61d,f61e,f61s,f62];rfl) ?_
     iterate 3 (refine ze8 rfl rfl (by simp[z0x,z0y,f61a,f61b,f61c,f61d,f61e,f61s,f62];rfl) ?_)
     refine zgb ?_
     simp[zbV,f61a,f61b,f61c,f61d,f61e,f61s,f62]
    simp[zbV,f61a,f61b,f61c,f61d,f61e,f61s,f62]
   refine zkV rfl (by simp[f61a,f61b,f61c,f61d,f61e,f61s,f62];rfl) ?_
   refine z5V (z0m (zs ?_))
   have ho:=z5f h5
   refine z6j ho ?_
   simp[z4r]
  ·rw[if_neg c59] at h2
   have c59e:=eq_false c59
   refine zco rfl (by simp[c59e]) (z8p rfl (z0m ?_))
   obtain⟨v45,f63,h3⟩:=za4 h2
   obtain⟨f64,h4⟩:=zme h3
   refine zls rfl rfl rfl rfl ?_
   iterate 6 (refine ze8 rfl rfl (by simp[z0x,z0y,f63,f64];rfl) ?_)
   refine zgc ?_
   iterate 5 (refine ze8 rfl rfl (by simp[z0x,z0y,f63,f64];rfl) ?_)
   refine zgb ?_
   refine⟨?_,?_⟩
   ·refine ze8 rfl rfl (by simp[z0x,z0y,f63,f64];rfl) ?_
    refine zgc ?_
    iterate 4 (refine ze8 rfl rfl (by simp[z0x,z0y,f63,f64];rfl) ?_)
    refine zgb ?_
    refine⟨?_,?_⟩
    ·refine ze8 rfl rfl (by simp[z0x,z0y,f63,f64];rfl) ?_
     iterate 3 (refine ze8 rfl rfl (by simp[z0x,z0y,f63,f64];rfl) ?_)
     refine zgb ?_
     simp[zbV,f63,f64]
    simp[zbV,f63,f64]
   refine zkV rfl (by simp[f63,f64];rfl) ?_
   refine z5V (z0m (zs ?_))
   have ho:=z5f h4
   refine z6j ho ?_
   simp[z4r]
 ·rw[if_neg c57] at h1
  refine zco rfl (by simp[c57]) (zaU rfl (z8S ?_))
  obtain⟨rr1,h2,ho1⟩:=z6f h1
  have hs1:=hr1 _ ho1
  subst hs1
  refine z7R ho1 (z4u rfl (z0m (zp (zs ?_))))
  refine z0m (zp (zp (zs ?_)))
  refine z0m (zb rfl (z9A h2 (z3Z a0 w36) rfl rfl (by simp[z3Z]) fun s o2 h3 hr2=> ?_))
  obtain⟨w50,w51⟩:=s
  simp only[z5a] at h3
  simp only[z3Z]
  refine zp (zs ?_)
  refine z0m (zp ?_)
  by_cases c76:w50<(w36.length:Int)
  ·rw[if_pos c76] at h3
   refine zcn rfl (by simp[c76]) (z8p rfl (z0m (zp (zb rfl (zp ?_)))))
   obtain⟨v55,f77,h4⟩:=za4 h3
   refine zr rfl rfl rfl (by simp[f77];rfl) ?_
   refine z0m (zp ?_)
   obtain⟨v56,f78,h5⟩:=z2u h4
   obtain⟨f78a,f78b,f78c,f78d,f78e⟩:=zfD f78
   simp only[Int.reduceToNat,Z2] at f78c f78d f78e
   have f78j:v55≠ []:=by intro hh;rw[hh] at f78c;simp at f78c
   have f78l:0<v55.length:=by omega
   obtain⟨v57,f79,h6⟩:=za4 h5
   refine zal rfl rfl rfl rfl ?_;repeat' ((first|refine z6k rfl rfl fun Q' hQ=> ?_|refine z5s rfl fun Q' hQ=> ?_);simp[f77,f78a,f78b,f78c,f78d,f78e,f78j,f78l,f79];refine hQ.out _ ?_;clear hQ;clear Q')
   refine z0m ?_
   by_cases c80:1<=v57
   ·rw[if_pos c80] at h6
    refine zcn rfl (by simp[c80]) ?_
    obtain⟨f81,h7⟩:=zme h6
    refine zr rfl rfl rfl (by simp[f77,f81];rfl) ?_
    refine z5V (z0m (zr rfl rfl rfl (by simp[f77];rfl) ?_))
    have ho:=z5f h7
    refine z6j ho ?_
    simp[z3Z]
   ·rw[if_neg c80] at h6
    refine zco rfl (by simp[c80]) (z8p rfl (z5V (z0m (zr rfl rfl rfl (by simp[f77];rfl) ?_))))
    have ho:=z5f h6
    refine z6j ho ?_
    simp[z3Z]
  ·rw[if_neg c76] at h3
   refine zco rfl (by simp[c76]) (zaU rfl (z8S ?_))
   obtain⟨rr2,h4,ho2⟩:=z6f h3
   have hs2:=hr2 _ ho2
   subst hs2
   refine z7R ho2 (z4u rfl (z0m (zp (ztn rfl rfl (by simp;rfl) ?_))))
   obtain⟨v58,f82,h5⟩:=z2u h4
   have f82k:=Ok.ok _ f82
   try simp at f82k
   refine zr rfl rfl rfl (by simp[f82k];rfl) ?_
   refine z0m (zp ?_)
   refine zal rfl rfl rfl rfl ?_;repeat' ((first|refine z6k rfl rfl fun Q' hQ=> ?_|refine z5s rfl fun Q' hQ=> ?_);simp;refine hQ.out _ ?_;clear hQ;clear Q')
   refine z0m (zn2 rfl ?_)
   cases h5
   simp⟩
end
end
section
open Go
def zAK(M:List (List Int))(H:List Int)(x:Int):Option Int:=(atI M x).bind fun m=>(atI m 0).bind fun r=>atI H r
def zBF(s c h:List Int)(t:List (List Int))(w b:List ByteArray)(M:List (List Int)):SrtC where
 cmp x y:=z1Y x y s c h t w b M
 key x:=x-(zAK M h x).getD 0*1048576
 ok x:=0<=x/\x<1048576/\(zAK M h x).isSome
 law x y hx hy hl:=by
  obtain⟨x0,x1,x2⟩:=hx
  obtain⟨y0,y1,y2⟩:=hy
  obtain⟨u,hu⟩:=ZW.1 x2
  obtain⟨v,hv⟩:=ZW.1 y2
  have hu':=hu
  have hv':=hv
  unfold zAK at hu hv
  cases h1:atI M x with
  |none=>rw[h1] at hu;cases hu
  |some p=>
   cases h2:atI M y with
   |none=>rw[h2] at hv;cases hv
   |some q=>
    rw[h1,Z0] at hu
    rw[h2,Z0] at hv
    cases h3:atI p 0 with
    |none=>rw[h3] at hu;cases hu
    |some p0=>
     cases h4:atI q 0 with
     |none=>rw[h4] at hv;cases hv
     |some q0=>
      rw[h3,Z0] at hu
      rw[h4,Z0] at hv
      obtain⟨z,e1,e2⟩:=zvG v u
      refine⟨z,?_,?_⟩
      · unfold z1Y
        rw[h2,Z0,h4,Z0,hv,Z0,h1,Z0,h3,Z0,hu,Z0,e1];rfl
      · rw[e2,hu',hv',Z4,Z4]
        omega
theorem zl0:∀k,z0o k=fun l a m b s c h t w x M=>zxP k l a m b (zBF s c h t w x M)
 |0=>rfl
 |k+1=>by
  show z0Z (z0o k)=_
  rw[zl0 k]
  rfl
theorem zsC(l s c h:List Int)(t:List (List Int))(w b:List ByteArray)(M:List (List Int)):z0z l s c h t w b M=zD1 l (zBF s c h t w b M):=by
 have h9:z1a=fun a s c h t w b M k=>zcA a (zBF s c h t w b M) k:=by
  unfold z1a
  rw[zl0]
  all_goals rfl
 have h7:z1b=fun a s c h t w b M=>zet a (zBF s c h t w b M):=by
  unfold z1b
  rw[h9]
  all_goals rfl
 have h2:z1c=fun a s c h t w b M=>zeu a (zBF s c h t w b M):=by
  unfold z1c
  rw[h7]
  all_goals rfl
 unfold z0z z1j
 rw[h2]
 all_goals rfl
end
section
open Go
variable{d:DFA}{m n p q r:Nat}
def z6H(p r:Nat):Prop:=p&&&r=p
theorem z2e:z6H p r↔ ∀q,p.testBit q=true->r.testBit q=true:=by
 unfold z6H
 constructor
 · intro h q hq
   have:(p&&&r).testBit q=true:=by rw[h];exact hq
   rw[XO,Z6] at this
   exact this.2
 · intro h
   apply Y0
   intro q
   rw[XO]
   cases hp:p.testBit q with
   |false=>rfl
   |true=>rw[h q hp];rfl
theorem z9m(p:Nat):z6H p p:=Nat.and_self p
theorem zcZ(h1:z6H p q)(h2:z6H q r):z6H p r:=z2e.2 fun i hi=>z2e.1 h2 i (z2e.1 h1 i hi)
theorem zaQ(h1:z6H p q)(h2:z6H q p):p=q:=Y0 fun i=>by
 have a:=z2e.1 h1 i
 have b:=z2e.1 h2 i
 cases hp:p.testBit i<;>cases hq:q.testBit i<;>simp_all
theorem znc(hd:DfaOk d m n){a:Nat}(ha:a<m)(h:z6H p r):z6H (mvN d p a) (mvN d r a):=z2e.2 fun q hq=>by
 obtain⟨i,h1,h2,h3⟩:=(zan hd ha q).1 hq
 exact(zan hd ha q).2 ⟨i,h1,z2e.1 h i h2,h3⟩
theorem zj8{d:DFA}{m n:Nat}(hd:DfaOk d m n):∀ {w:List UInt8} {p r:Nat},(∀c∈w,97<=c.toNat/\c.toNat<97+m)->z6H p r->z6H (z4D d p w) (z4D d r w)
 | [],p,r,_,h=>h
 |c::w,p,r,hw,h=>zj8 (w:=w) (p:=mvN d p (c.toNat-97)) (r:=mvN d r (c.toNat-97)) hd (fun c' hc'=>hw c' (Zo _ hc')) (znc hd (by have:=hw c (Zz ..);omega) h)
theorem zgx{d:DFA}{m n s:Nat}(hd:DfaOk d m n)(hs:s<2^n):∀ {w:List UInt8} {x:Nat},(∀c∈w,97<=c.toNat/\c.toNat<97+m)->x∈(z1E d m n s).1->z4D d x w∈(z1E d m n s).1
 | [],x,_,h=>h
 |c::w,x,hw,h=>zgx (w:=w) (x:=mvN d x (c.toNat-97)) hd hs (fun c' hc'=>hw c' (Zo _ hc')) (zeP hd hs h (by have:=hw c (Zz ..);omega))
theorem zbz{s:Nat}(hd:DfaOk d m n)(hs:s<2^n):s∈(z1E d m n s).1:=by
 have:=(z7e hd hs).f0
 exact ZS this
def zrS(d:DFA)(m:Nat)(p r:Nat):Prop:=∃w:List UInt8,(∀c∈w,97<=c.toNat/\c.toNat<97+m)/\z6H p (z4D d r w)
theorem zw3(hd:DfaOk d m n)(hr:r<2^n):zrS d m p r↔ ∃x∈(z1E d m n r).1,z6H p x:=by
 constructor
 · rintro⟨w,h1,h2⟩
   exact⟨_,zgx hd hr h1 (zbz hd hr),h2⟩
 · rintro⟨x,hx,hs⟩
   obtain⟨i,hi,rfl⟩:=Zn hx
   obtain⟨_,o2,o3⟩:=(z7e hd hr).ok i hi
   refine⟨_,o2,?_⟩
   rw[o3,List.getD,Z1 hi,Z4]
   exact hs
theorem zdH(d:DFA)(m p:Nat):zrS d m p p:=⟨[],fun c hc=>by simp at hc,z9m p⟩
theorem zdG(hd:DfaOk d m n)(h1:zrS d m p q)(h2:zrS d m q r):zrS d m p r:=by
 obtain⟨u,u1,u2⟩:=h1
 obtain⟨v,v1,v2⟩:=h2
 refine⟨v++u,fun c hc=> ?_,?_⟩
 · rcases Ze.1 hc with h|h
   · exact v1 c h
   · exact u1 c h
 · rw[z7D]
   exact zcZ u2 (zj8 hd u1 v2)
end
section
open Go
variable{a0 r:List Int}
theorem zwA(h:zmD a0=some r):L 175 [.os 1 a0.length (a0.map fun x0=>.sc (.int .i64 x0)),.sc (.func (.func 176) #[] #[])]=some (.tup [],[.os 1 r.length (r.map fun x0=>.sc (.int .i64 x0)),.dead]):=by
 refine zgP rfl fun C=> ?_
 have e:(List.map (fun x0=>T.sc (Value.int IntKind.i64 x0)) a0)=a0.map fun x=>.sc (.int .i64 x):=rfl
 simp only[xt,xtF,xtC,Nat.reduceEqDiff,if_true,if_false,zws,XW,and_self,z8X,h,ZN]
instance:Ok (zmD a0) (fun r=>L 175 [.os 1 a0.length (a0.map fun x0=>.sc (.int .i64 x0)),.sc (.func (.func 176) #[] #[])]=some (.tup [],[.os 1 r.length (r.map fun x0=>.sc (.int .i64 x0)),.dead])):=⟨fun _ h=>zwA h⟩
theorem zwB{a0:List (List Int)}{r:List (List Int)}(h:zkr a0=some r):L 100 [.os 1 a0.length (a0.map fun x0=>.sl x0.length (x0.map fun x1=>.sc (.int .i64 x1))),.sc (.func (.func 101) #[] #[])]=some (.tup [],[.os 1 r.length (r.map fun x0=>.sl x0.length (x0.map fun x1=>.sc (.int .i64 x1))),.dead]):=by
 refine zgP rfl fun C=> ?_
 have e:∀l:List (List Int),(l.map fun x0=>T.sl x0.length (x0.map fun x1=>T.sc (Value.int IntKind.i64 x1)))=l.map zf4:=fun _=>rfl
 simp only[xt,xtF,xtC,Nat.reduceEqDiff,if_true,if_false,zwt,XW,and_self,e,zlj,h,ZN]
instance{a0:List (List Int)}:Ok (zkr a0) (fun r=>L 100 [.os 1 a0.length (a0.map fun x0=>.sl x0.length (x0.map fun x1=>.sc (.int .i64 x1))),.sc (.func (.func 101) #[] #[])]=some (.tup [],[.os 1 r.length (r.map fun x0=>.sl x0.length (x0.map fun x1=>.sc (.int .i64 x1))),.dead])):=⟨fun _ h=>zwB h⟩
theorem z8Q(h:zav a0=some r):L 237 [.os 1 a0.length (a0.map fun x0=>.sc (.int .i64 x0))]=some (.tup [],[.os 1 r.length (r.map fun x0=>.sc (.int .i64 x0))]):=by
 refine zgP rfl fun C=> ?_
 simp only[xt,xtF,xtC,Nat.reduceEqDiff,if_true,if_false,znY,z8X,h,ZN]
instance:Ok (zav a0) (fun r=>L 237 [.os 1 a0.length (a0.map fun x0=>.sc (.int .i64 x0))]=some (.tup [],[.os 1 r.length (r.map fun x0=>.sc (.int .i64 x0))])):=⟨fun _ h=>z8Q h⟩
theorem zs3(h:z9F a0=some r):L 104 [.sl a0.length (a0.map fun x0=>.sc (.int .i64 x0))]=some (.os 1 r.length (r.map fun x0=>.sc (.int .i64 x0)),[.dead]):=by
 refine zgP rfl fun C=> ?_
 simp only[xt,xtF,xtC,Nat.reduceEqDiff,if_true,if_false,znZ,z8X,h,ZN]
instance:Ok (z9F a0) (fun r=>L 104 [.sl a0.length (a0.map fun x0=>.sc (.int .i64 x0))]=some (.os 1 r.length (r.map fun x0=>.sc (.int .i64 x0)),[.dead])):=⟨fun _ h=>zs3 h⟩
theorem zBO{a0:Int}{r:Int}(h:vTz a0=some r):L 102 [.sc (.int .u64 a0)]=some (.sc (.int .i64 r),[.dead]):=by
 refine zgP rfl fun C=> ?_
 simp only[xt,xtF,xtC,Nat.reduceEqDiff,if_true,if_false,xTz,h,ZN]
instance{a0:Int}:Ok (vTz a0) (fun r=>L 102 [.sc (.int .u64 a0)]=some (.sc (.int .i64 r),[.dead])):=⟨fun _ h=>zBO h⟩
end
end Go.Proofs.YtiobkcdgggbljaaGreatDoor
