/- Proved here: a part of the proof of the law at hand, in one text: no condition. -/
import Derived.Test.YtiobkcdgggbljaaGreatDoorMSI2
import Derived.Test.YtiobkcdgggbljaaGreatDoorProg
import Derived.KernelRfl
set_option linter.unusedVariables false
set_option linter.unusedSimpArgs false
set_option linter.unusedSectionVars false
set_option maxRecDepth 100000
set_option maxHeartbeats 6000000
namespace Go.Proofs.YtiobkcdgggbljaaGreatDoor
section
open Go
structure SrtC where
 cmp:Int->Int->Option Int
 key:Int->Int
 ok:Int->Prop
 law:∀x y,ok x->ok y->y<x->∃c,cmp x y=some c/\(c<0↔key x<key y)
noncomputable section
abbrev zjR(a1:Int)(a3_0_0:SrtC)(w95:Int):Int×List Int->Option ((Int×List Int)⊕((Int×List Int)⊕List Int))
 |(w127,w128)=>
 if a1<w127 then
  (atI w128 w127).bind fun v136=>
  (atI w128 (IntKind.i64.wrap (w127-1))).bind fun v137=>
  (a3_0_0.cmp v136 v137).bind fun v138=>
  if v138<0 then
   (atI (w128.set w127.toNat v137) (IntKind.i64.wrap (w127-1))).bind fun v142=>
   z0c (IntKind.i64.wrap (w127-1),((w128.set w127.toNat v137).set (IntKind.i64.wrap (w127-1)).toNat v136))
  else
   z0d<|
   z0c (IntKind.i64.wrap (w95+1),w128)
 else
  z0d<|
  z0c (IntKind.i64.wrap (w95+1),w128)
abbrev zjS(a1:Int)(a2:Int)(a3_0_0:SrtC):Int×List Int->Option ((Int×List Int)⊕List Int)
 |(w95,w96)=>
 if w95<a2 then
  z0h (zjR a1 a3_0_0 w95) LFm (w95,w96)
 else
  z0d<|
  some w96
def zDG(a0:List Int)(a1:Int)(a2:Int)(a3_0_0:SrtC):Option (List Int):=
 z0h (zjS a1 a2 a3_0_0) LFm (IntKind.i64.wrap (a1+1),a0)
abbrev zv4(a1:Int)(a2:Int)(a3:Int):Int×List Int->Option ((Int×List Int)⊕List Int)
 |(w19,w20)=>
 if w19<a3 then
  (atI w20 (IntKind.i64.wrap (a2+w19))).bind fun v25=>
  (atI w20 (IntKind.i64.wrap (a1+w19))).bind fun v26=>
  (atI (w20.set (IntKind.i64.wrap (a1+w19)).toNat v25) (IntKind.i64.wrap (a2+w19))).bind fun v28=>
  z0c (IntKind.i64.wrap (w19+1),((w20.set (IntKind.i64.wrap (a1+w19)).toNat v25).set (IntKind.i64.wrap (a2+w19)).toNat v26))
 else
  z0d<|
  some w20
def zCb(a0:List Int)(a1:Int)(a2:Int)(a3:Int)(a4_0_0:SrtC):Option (List Int):=
 z0h (zv4 a1 a2 a3) LFm (0,a0)
abbrev zv5(a2:Int)(a4_0_0:SrtC):Int×Int×List Int->Option ((Int×Int×List Int)⊕List Int)
 |(w13,w15,w14)=>
 if w13=w15 then
  z0d<|
  (zCb w14 (IntKind.i64.wrap (a2-w13)) a2 w13 a4_0_0).bind fun v18=>
  some v18
 else
  if w15<w13 then
   (zCb w14 (IntKind.i64.wrap (a2-w13)) a2 w15 a4_0_0).bind fun v19=>
   z0c (IntKind.i64.wrap (w13-w15),w15,v19)
  else
   (zCb w14 (IntKind.i64.wrap (a2-w13)) (IntKind.i64.wrap ((IntKind.i64.wrap (a2+w15))-w13)) w13 a4_0_0).bind fun v20=>
   z0c (w13,IntKind.i64.wrap (w15-w13),v20)
def zDF(a0:List Int)(a1:Int)(a2:Int)(a3:Int)(a4_0_0:SrtC):Option (List Int):=
 z0h (zv5 a2 a4_0_0) LFm (IntKind.i64.wrap (a2-a1),IntKind.i64.wrap (a3-a2),a0)
abbrev zjO(w102:Int):Int×List Int->Option ((Int×List Int)⊕List Int)
 |(w114,w115)=>
 if w114<(IntKind.i64.wrap (w102-1)) then
  (atI w115 (IntKind.i64.wrap (w114+1))).bind fun v120=>
  (atI w115 w114).bind fun v121=>
  (atI (w115.set w114.toNat v120) (IntKind.i64.wrap (w114+1))).bind fun v123=>
  z0c (IntKind.i64.wrap (w114+1),((w115.set w114.toNat v120).set (IntKind.i64.wrap (w114+1)).toNat v121))
 else
  z0d<|
  some w115
abbrev zjP(a0:List Int)(a1:Int)(a4_0_0:SrtC):Int×Int->Option ((Int×Int)⊕List Int)
 |(w102,w103)=>
 if w102<w103 then
  chk (¬1<0)<|
  (atI a0 (IntKind.i64.wrap (z1D .u64 (IntKind.u64.wrap (IntKind.i64.wrap (w102+w103))) 1))).bind fun v107=>
  (atI a0 a1).bind fun v108=>
  (a4_0_0.cmp v107 v108).bind fun v109=>
  if v109<0 then
   z0c (IntKind.i64.wrap ((IntKind.i64.wrap (z1D .u64 (IntKind.u64.wrap (IntKind.i64.wrap (w102+w103))) 1))+1),w103)
  else
   z0c (w102,IntKind.i64.wrap (z1D .u64 (IntKind.u64.wrap (IntKind.i64.wrap (w102+w103))) 1))
 else
  z0d<|
  z0h (zjO w102) LFm (a1,a0)
abbrev zjQ(w128:Int):Int×List Int->Option ((Int×List Int)⊕List Int)
 |(w139,w140)=>
 if w128<w139 then
  (atI w140 (IntKind.i64.wrap (w139-1))).bind fun v145=>
  (atI w140 w139).bind fun v146=>
  (atI (w140.set w139.toNat v145) (IntKind.i64.wrap (w139-1))).bind fun v148=>
  z0c (IntKind.i64.wrap (w139-1),((w140.set w139.toNat v145).set (IntKind.i64.wrap (w139-1)).toNat v146))
 else
  z0d<|
  some w140
abbrev zfz(a0:List Int)(a2:Int)(a4_0_0:SrtC):Int×Int->Option ((Int×Int)⊕List Int)
 |(w128,w127)=>
 if w128<w127 then
  chk (¬1<0)<|
  (atI a0 a2).bind fun v132=>
  (atI a0 (IntKind.i64.wrap (z1D .u64 (IntKind.u64.wrap (IntKind.i64.wrap (w128+w127))) 1))).bind fun v133=>
  (a4_0_0.cmp v132 v133).bind fun v134=>
  if v134<0 then
   z0c (w128,IntKind.i64.wrap (z1D .u64 (IntKind.u64.wrap (IntKind.i64.wrap (w128+w127))) 1))
  else
   z0c (IntKind.i64.wrap ((IntKind.i64.wrap (z1D .u64 (IntKind.u64.wrap (IntKind.i64.wrap (w128+w127))) 1))+1),w127)
 else
  z0d<|
  z0h (zjQ w128) LFm (a2,a0)
abbrev zbO(a0:List Int)(a1:Int)(a2:Int)(a3:Int)(a4_0_0:SrtC)(rf:List Int->Int->Int->Int->SrtC->Option (List Int)):Int×Int->Option ((Int×Int)⊕List Int)
 |(w153,w152)=>
 if w153<w152 then
  chk (¬1<0)<|
  (atI a0 (IntKind.i64.wrap ((IntKind.i64.wrap ((IntKind.i64.wrap ((IntKind.i64.wrap (z1D .u64 (IntKind.u64.wrap (IntKind.i64.wrap (a1+a3))) 1))+a2))-1))-(IntKind.i64.wrap (z1D .u64 (IntKind.u64.wrap (IntKind.i64.wrap (w153+w152))) 1))))).bind fun v157=>
  (atI a0 (IntKind.i64.wrap (z1D .u64 (IntKind.u64.wrap (IntKind.i64.wrap (w153+w152))) 1))).bind fun v158=>
  (a4_0_0.cmp v157 v158).bind fun v159=>
  if v159<0 then
   z0c (w153,IntKind.i64.wrap (z1D .u64 (IntKind.u64.wrap (IntKind.i64.wrap (w153+w152))) 1))
  else
   z0c (IntKind.i64.wrap ((IntKind.i64.wrap (z1D .u64 (IntKind.u64.wrap (IntKind.i64.wrap (w153+w152))) 1))+1),w152)
 else
  z0d<|
  if w153<a2 then
   if a2<(IntKind.i64.wrap ((IntKind.i64.wrap ((IntKind.i64.wrap (z1D .u64 (IntKind.u64.wrap (IntKind.i64.wrap (a1+a3))) 1))+a2))-w153)) then
    (zDF a0 w153 a2 (IntKind.i64.wrap ((IntKind.i64.wrap ((IntKind.i64.wrap (z1D .u64 (IntKind.u64.wrap (IntKind.i64.wrap (a1+a3))) 1))+a2))-w153)) a4_0_0).bind fun v160=>
    if a1<w153 then
     if w153<(IntKind.i64.wrap (z1D .u64 (IntKind.u64.wrap (IntKind.i64.wrap (a1+a3))) 1)) then
      (rf v160 a1 w153 (IntKind.i64.wrap (z1D .u64 (IntKind.u64.wrap (IntKind.i64.wrap (a1+a3))) 1)) a4_0_0).bind fun v161=>
      if(IntKind.i64.wrap (z1D .u64 (IntKind.u64.wrap (IntKind.i64.wrap (a1+a3))) 1))<(IntKind.i64.wrap ((IntKind.i64.wrap ((IntKind.i64.wrap (z1D .u64 (IntKind.u64.wrap (IntKind.i64.wrap (a1+a3))) 1))+a2))-w153)) then
       if(IntKind.i64.wrap ((IntKind.i64.wrap ((IntKind.i64.wrap (z1D .u64 (IntKind.u64.wrap (IntKind.i64.wrap (a1+a3))) 1))+a2))-w153))<a3 then
        (rf v161 (IntKind.i64.wrap (z1D .u64 (IntKind.u64.wrap (IntKind.i64.wrap (a1+a3))) 1)) (IntKind.i64.wrap ((IntKind.i64.wrap ((IntKind.i64.wrap (z1D .u64 (IntKind.u64.wrap (IntKind.i64.wrap (a1+a3))) 1))+a2))-w153)) a3 a4_0_0).bind fun v162=>
        some v162
       else
        some v161
      else
       some v161
     else
      if(IntKind.i64.wrap (z1D .u64 (IntKind.u64.wrap (IntKind.i64.wrap (a1+a3))) 1))<(IntKind.i64.wrap ((IntKind.i64.wrap ((IntKind.i64.wrap (z1D .u64 (IntKind.u64.wrap (IntKind.i64.wrap (a1+a3))) 1))+a2))-w153)) then
       if(IntKind.i64.wrap ((IntKind.i64.wrap ((IntKind.i64.wrap (z1D .u64 (IntKind.u64.wrap (IntKind.i64.wrap (a1+a3))) 1))+a2))-w153))<a3 then
        (rf v160 (IntKind.i64.wrap (z1D .u64 (IntKind.u64.wrap (IntKind.i64.wrap (a1+a3))) 1)) (IntKind.i64.wrap ((IntKind.i64.wrap ((IntKind.i64.wrap (z1D .u64 (IntKind.u64.wrap (IntKind.i64.wrap (a1+a3))) 1))+a2))-w153)) a3 a4_0_0).bind fun v163=>
        some v163
       else
        some v160
      else
       some v160
    else
     if(IntKind.i64.wrap (z1D .u64 (IntKind.u64.wrap (IntKind.i64.wrap (a1+a3))) 1))<(IntKind.i64.wrap ((IntKind.i64.wrap ((IntKind.i64.wrap (z1D .u64 (IntKind.u64.wrap (IntKind.i64.wrap (a1+a3))) 1))+a2))-w153)) then
      if(IntKind.i64.wrap ((IntKind.i64.wrap ((IntKind.i64.wrap (z1D .u64 (IntKind.u64.wrap (IntKind.i64.wrap (a1+a3))) 1))+a2))-w153))<a3 then
       (rf v160 (IntKind.i64.wrap (z1D .u64 (IntKind.u64.wrap (IntKind.i64.wrap (a1+a3))) 1)) (IntKind.i64.wrap ((IntKind.i64.wrap ((IntKind.i64.wrap (z1D .u64 (IntKind.u64.wrap (IntKind.i64.wrap (a1+a3))) 1))+a2))-w153)) a3 a4_0_0).bind fun v164=>
       some v164
      else
       some v160
     else
      some v160
   else
    if a1<w153 then
     if w153<(IntKind.i64.wrap (z1D .u64 (IntKind.u64.wrap (IntKind.i64.wrap (a1+a3))) 1)) then
      (rf a0 a1 w153 (IntKind.i64.wrap (z1D .u64 (IntKind.u64.wrap (IntKind.i64.wrap (a1+a3))) 1)) a4_0_0).bind fun v165=>
      if(IntKind.i64.wrap (z1D .u64 (IntKind.u64.wrap (IntKind.i64.wrap (a1+a3))) 1))<(IntKind.i64.wrap ((IntKind.i64.wrap ((IntKind.i64.wrap (z1D .u64 (IntKind.u64.wrap (IntKind.i64.wrap (a1+a3))) 1))+a2))-w153)) then
       if(IntKind.i64.wrap ((IntKind.i64.wrap ((IntKind.i64.wrap (z1D .u64 (IntKind.u64.wrap (IntKind.i64.wrap (a1+a3))) 1))+a2))-w153))<a3 then
        (rf v165 (IntKind.i64.wrap (z1D .u64 (IntKind.u64.wrap (IntKind.i64.wrap (a1+a3))) 1)) (IntKind.i64.wrap ((IntKind.i64.wrap ((IntKind.i64.wrap (z1D .u64 (IntKind.u64.wrap (IntKind.i64.wrap (a1+a3))) 1))+a2))-w153)) a3 a4_0_0).bind fun v166=>
        some v166
       else
        some v165
      else
       some v165
     else
      if(IntKind.i64.wrap (z1D .u64 (IntKind.u64.wrap (IntKind.i64.wrap (a1+a3))) 1))<(IntKind.i64.wrap ((IntKind.i64.wrap ((IntKind.i64.wrap (z1D .u64 (IntKind.u64.wrap (IntKind.i64.wrap (a1+a3))) 1))+a2))-w153)) then
       if(IntKind.i64.wrap ((IntKind.i64.wrap ((IntKind.i64.wrap (z1D .u64 (IntKind.u64.wrap (IntKind.i64.wrap (a1+a3))) 1))+a2))-w153))<a3 then
        (rf a0 (IntKind.i64.wrap (z1D .u64 (IntKind.u64.wrap (IntKind.i64.wrap (a1+a3))) 1)) (IntKind.i64.wrap ((IntKind.i64.wrap ((IntKind.i64.wrap (z1D .u64 (IntKind.u64.wrap (IntKind.i64.wrap (a1+a3))) 1))+a2))-w153)) a3 a4_0_0).bind fun v167=>
        some v167
       else
        some a0
      else
       some a0
    else
     if(IntKind.i64.wrap (z1D .u64 (IntKind.u64.wrap (IntKind.i64.wrap (a1+a3))) 1))<(IntKind.i64.wrap ((IntKind.i64.wrap ((IntKind.i64.wrap (z1D .u64 (IntKind.u64.wrap (IntKind.i64.wrap (a1+a3))) 1))+a2))-w153)) then
      if(IntKind.i64.wrap ((IntKind.i64.wrap ((IntKind.i64.wrap (z1D .u64 (IntKind.u64.wrap (IntKind.i64.wrap (a1+a3))) 1))+a2))-w153))<a3 then
       (rf a0 (IntKind.i64.wrap (z1D .u64 (IntKind.u64.wrap (IntKind.i64.wrap (a1+a3))) 1)) (IntKind.i64.wrap ((IntKind.i64.wrap ((IntKind.i64.wrap (z1D .u64 (IntKind.u64.wrap (IntKind.i64.wrap (a1+a3))) 1))+a2))-w153)) a3 a4_0_0).bind fun v168=>
       some v168
      else
       some a0
     else
      some a0
  else
   if a1<w153 then
    if w153<(IntKind.i64.wrap (z1D .u64 (IntKind.u64.wrap (IntKind.i64.wrap (a1+a3))) 1)) then
     (rf a0 a1 w153 (IntKind.i64.wrap (z1D .u64 (IntKind.u64.wrap (IntKind.i64.wrap (a1+a3))) 1)) a4_0_0).bind fun v169=>
     if(IntKind.i64.wrap (z1D .u64 (IntKind.u64.wrap (IntKind.i64.wrap (a1+a3))) 1))<(IntKind.i64.wrap ((IntKind.i64.wrap ((IntKind.i64.wrap (z1D .u64 (IntKind.u64.wrap (IntKind.i64.wrap (a1+a3))) 1))+a2))-w153)) then
      if(IntKind.i64.wrap ((IntKind.i64.wrap ((IntKind.i64.wrap (z1D .u64 (IntKind.u64.wrap (IntKind.i64.wrap (a1+a3))) 1))+a2))-w153))<a3 then
       (rf v169 (IntKind.i64.wrap (z1D .u64 (IntKind.u64.wrap (IntKind.i64.wrap (a1+a3))) 1)) (IntKind.i64.wrap ((IntKind.i64.wrap ((IntKind.i64.wrap (z1D .u64 (IntKind.u64.wrap (IntKind.i64.wrap (a1+a3))) 1))+a2))-w153)) a3 a4_0_0).bind fun v170=>
       some v170
      else
       some v169
     else
      some v169
    else
     if(IntKind.i64.wrap (z1D .u64 (IntKind.u64.wrap (IntKind.i64.wrap (a1+a3))) 1))<(IntKind.i64.wrap ((IntKind.i64.wrap ((IntKind.i64.wrap (z1D .u64 (IntKind.u64.wrap (IntKind.i64.wrap (a1+a3))) 1))+a2))-w153)) then
      if(IntKind.i64.wrap ((IntKind.i64.wrap ((IntKind.i64.wrap (z1D .u64 (IntKind.u64.wrap (IntKind.i64.wrap (a1+a3))) 1))+a2))-w153))<a3 then
       (rf a0 (IntKind.i64.wrap (z1D .u64 (IntKind.u64.wrap (IntKind.i64.wrap (a1+a3))) 1)) (IntKind.i64.wrap ((IntKind.i64.wrap ((IntKind.i64.wrap (z1D .u64 (IntKind.u64.wrap (IntKind.i64.wrap (a1+a3))) 1))+a2))-w153)) a3 a4_0_0).bind fun v171=>
       some v171
      else
       some a0
     else
      some a0
   else
    if(IntKind.i64.wrap (z1D .u64 (IntKind.u64.wrap (IntKind.i64.wrap (a1+a3))) 1))<(IntKind.i64.wrap ((IntKind.i64.wrap ((IntKind.i64.wrap (z1D .u64 (IntKind.u64.wrap (IntKind.i64.wrap (a1+a3))) 1))+a2))-w153)) then
     if(IntKind.i64.wrap ((IntKind.i64.wrap ((IntKind.i64.wrap (z1D .u64 (IntKind.u64.wrap (IntKind.i64.wrap (a1+a3))) 1))+a2))-w153))<a3 then
      (rf a0 (IntKind.i64.wrap (z1D .u64 (IntKind.u64.wrap (IntKind.i64.wrap (a1+a3))) 1)) (IntKind.i64.wrap ((IntKind.i64.wrap ((IntKind.i64.wrap (z1D .u64 (IntKind.u64.wrap (IntKind.i64.wrap (a1+a3))) 1))+a2))-w153)) a3 a4_0_0).bind fun v172=>
      some v172
     else
      some a0
    else
     some a0
def zv3(rf:List Int->Int->Int->Int->SrtC->Option (List Int))(a0:List Int)(a1:Int)(a2:Int)(a3:Int)(a4_0_0:SrtC):Option (List Int):=
 if(IntKind.i64.wrap (a2-a1))=1 then
  z0h (zjP a0 a1 a4_0_0) LFm (a2,a3)
 else
  if(IntKind.i64.wrap (a3-a2))=1 then
   z0h (zfz a0 a2 a4_0_0) LFm (a1,a2)
  else
   chk (¬1<0)<|
   if(IntKind.i64.wrap (z1D .u64 (IntKind.u64.wrap (IntKind.i64.wrap (a1+a3))) 1))<a2 then
    z0h (zbO a0 a1 a2 a3 a4_0_0 rf) LFm (IntKind.i64.wrap ((IntKind.i64.wrap ((IntKind.i64.wrap (z1D .u64 (IntKind.u64.wrap (IntKind.i64.wrap (a1+a3))) 1))+a2))-a3),IntKind.i64.wrap (z1D .u64 (IntKind.u64.wrap (IntKind.i64.wrap (a1+a3))) 1))
   else
    z0h (zbO a0 a1 a2 a3 a4_0_0 rf) LFm (a1,a2)
def zxo:Nat->List Int->Int->Int->Int->SrtC->Option (List Int)
 |0=>fun _ _ _ _ _=>none
 |k+1=>zv3 (zxo k)
abbrev zcD(a1:Int)(a2_0_0:SrtC)(w45:Int):Int×Int×List Int->Option ((Int×Int×List Int)⊕((Int×List Int)⊕List Int))
 |(w55,w56,w57)=>
 if w56<=a1 then
  (zxo 5000 w57 w55 (IntKind.i64.wrap (w55+w45)) w56 a2_0_0).bind fun v59=>
  z0c (w56,IntKind.i64.wrap (w56+(IntKind.i64.wrap (2*w45))),v59)
 else
  z0d<|
  if(IntKind.i64.wrap (w55+w45))<a1 then
   (zxo 5000 w57 w55 (IntKind.i64.wrap (w55+w45)) a1 a2_0_0).bind fun v60=>
   z0c (IntKind.i64.wrap (w45*2),v60)
  else
   z0c (IntKind.i64.wrap (w45*2),w57)
abbrev zeF(a1:Int)(a2_0_0:SrtC):Int×List Int->Option ((Int×List Int)⊕List Int)
 |(w45,w46)=>
 if w45<a1 then
  z0h (zcD a1 a2_0_0 w45) LFm (0,IntKind.i64.wrap (2*w45),w46)
 else
  z0d<|
  some w46
abbrev zeG(a1:Int)(a2_0_0:SrtC):Int×Int×List Int->Option ((Int×Int×List Int)⊕List Int)
 |(w32,w33,w34)=>
 if w33<=a1 then
  (zDG w34 w32 w33 a2_0_0).bind fun v36=>
  z0c (w33,IntKind.i64.wrap (w33+20),v36)
 else
  z0d<|
  (zDG w34 w32 a1 a2_0_0).bind fun v37=>
  z0h (zeF a1 a2_0_0) LFm (20,v37)
def zF1(a0:List Int)(a1:Int)(a2_0_0:SrtC):Option (List Int):=
 z0h (zeG a1 a2_0_0) LFm (0,20,a0)
def zCc(a0:List Int)(a1_0_0:SrtC):Option (List Int):=
 (zF1 a0 (a0.length:Int) a1_0_0).bind fun v2=>
 some v2
end
end
section
open Go
variable{x:Int}{P R V:List Int}{i w:Nat}{K:SrtC}{α:Type}
theorem zBP(i j:Nat)(h:i+j<4611686018427387904):IntKind.i64.wrap (z1D .u64 (IntKind.u64.wrap (IntKind.i64.wrap ((i:Int)+j))) 1)=(((i+j)/2:Nat):Int):=by
 have e1:IntKind.u64.wrap (IntKind.i64.wrap ((i:Int)+j))=(((i+j:Nat)):Int):=by
  rw[z2G (by omega) (by omega),Xl];omega
 have e2:z1D .u64 (((i+j:Nat)):Int) 1=(((i+j)/2:Nat):Int):=by
  unfold z1D
  have:min ((1:Int).toNat) IntKind.u64.bits=1:=by decide
  rw[this,Xu _ (by decide)]
  omega
 rw[e1,e2,z2G (by omega) (by omega)]
theorem at0(A:List α)(x:α)(B:List α)(h:i=A.length):atI (A++x::B) (i:Int)=some x:=by
 subst h
 rw[z0A (by simp)];simp
theorem at1(A:List α)(x y:α)(B:List α)(h:i=A.length+1):atI (A++x::y::B) (i:Int)=some y:=by
 have:A++x::y::B=(A++ [x])++y::B:=by simp
 rw[this]
 exact at0 _ _ _ (by simpa using h)
theorem zzq(A:List α)(x z:α)(B:List α)(h:i=A.length):(A++x::B).set i z=A++z::B:=by
 subst h;simp
theorem put1(A:List α)(x y z:α)(B:List α)(h:i=A.length+1):(A++x::y::B).set i z=A++x::z::B:=by
 have:A++x::y::B=(A++ [x])++y::B:=by simp
 rw[this,zzq _ _ _ _ (by simpa using h)];simp
abbrev kvC(K:SrtC)(x:Int):Int:=K.key x
abbrev okS(K:SrtC)(x:Int):Prop:=K.ok x
abbrev zku(K:SrtC)(l:List Int):Prop:=∀x∈l,okS K x
abbrev zbW(K:SrtC)(l:List Int):Prop:=l.Pairwise fun x y=>kvC K x<=kvC K y
abbrev Bef(U V:List Int):Prop:=∀x∈U,∀y∈V,x<y
theorem zDM{y:Int}(hx:okS K x)(hy:okS K y)(h:y<x):∃c,K.cmp x y=some c/\(c<0↔kvC K x<kvC K y):=K.law x y hx hy h
theorem zbI{t:Nat}(h:t<V.length):V.getD t 0∈V:=by grind
theorem zA0{S:List Int}(hv:zku K (S++ [x]))(hs:zbW K S)(hb:∀y∈S,y<x)(hl:P.length+S.length<2^40)(hw:w=P.length+S.length):
 ∃S',z0h (zjR (P.length:Int) K (w:Int)) LFm ((w:Int),P++S++x::R)=some (.inl (((w+1:Nat):Int),P++S'++R))/\zbW K S'/\S'.Perm (S++ [x]):=by
 refine Exists.elim (z1Q (b:=zjR (P.length:Int) K (w:Int)) (fun z=>∃S1 S2,S1++S2=S/\z=(((P.length+S1.length:Nat):Int),P++S1++x::(S2++R))/\ ∀y∈S2,kvC K x<kvC K y) (fun z=>z.1.toNat)
  (fun r=>∃S',r= .inl (((w+1:Nat):Int),P++S'++R)/\zbW K S'/\S'.Perm (S++ [x])) ?_ LFm ((w:Int),P++S++x::R) ⟨S,[],by simp,by rw[hw];simp,by simp⟩ (by simp only[LFm];omega)) fun r h=>by grind
 rintro z ⟨S1,S2,rfl,rfl,h2⟩
 have hlen:S1.length+S2.length<2^40:=by grind
 have fin:(∀y∈S1,kvC K y<=kvC K x)->zbW K (S1++x::S2)/\(S1++x::S2).Perm (S1++S2++ [x]):=fun hle=>by
  refine⟨?_,?_⟩
  · rw[zbW,YC] at hs⊢
    refine⟨hs.1,ZA.2 ⟨fun y hy=>by have:=h2 y hy;omega,hs.2.1⟩,fun a ha b hb=> ?_⟩
    rcases Zv.1 hb with rfl|hb
    · exact hle a ha
    · exact hs.2.2 a ha b hb
  · grind
 simp only[zjR]
 rcases List.eq_nil_or_concat S1 with rfl|⟨S0,y,rfl⟩
 · right
   rw[if_neg (by simp)]
   obtain⟨f1,f2⟩:=fin (fun y hy=>by simp at hy)
   refine⟨_,rfl,x::S2,?_,by simpa using f1,by simpa using f2⟩
   have:IntKind.i64.wrap ((w:Int)+1)=((w+1:Nat):Int):=by rw[z2G (by omega) (by omega)];omega
   rw[this];simp
 · simp only[List.concat_eq_append] at*
   have hy:okS K y:=hv y (by simp)
   have hx:okS K x:=hv x (by simp)
   have e1:P++(S0++ [y])++x::(S2++R)=(P++S0)++y::x::(S2++R):=by simp
   have hn:(P.length+(S0++ [y]).length:Nat)=(P++S0).length+1:=by simp;omega
   have hj:IntKind.i64.wrap ((((P++S0).length+1:Nat):Int)-1)=(((P++S0).length:Nat):Int):=by
    rw[z2G (by simp at hlen⊢;omega) (by simp at hlen⊢;simp at hl;omega)];omega
   rw[e1,hn,if_pos (by simp;omega),at1 _ _ _ _ rfl,Z0,hj,at0 _ _ _ rfl,Z0]
   obtain⟨c,hc,hc2⟩:=zDM hx hy (hb y (by simp))
   rw[hc,Z0]
   by_cases hlt:c<0
   · left
     rw[if_pos hlt,Z2,put1 _ _ _ _ _ rfl,at0 _ _ _ rfl,Z0,Z2,zzq _ _ _ _ rfl]
     refine⟨_,rfl,⟨S0,y::S2,by simp,?_,fun z hz=> ?_⟩,by simp only;omega⟩
     · simp
     · grind
   · right
     rw[if_neg hlt]
     have hyx:kvC K y<=kvC K x:=by grind
     obtain⟨f1,f2⟩:=fin (fun z hz=>by
      rcases Zf.1 hz with hz|hz
      · grind
      · obtain rfl:=Zi.1 hz;exact hyx)
     refine⟨_,rfl,S0++ [y]++x::S2,?_,f1,f2⟩
     have:IntKind.i64.wrap ((w:Int)+1)=((w+1:Nat):Int):=by rw[z2G (by omega) (by omega)];omega
     rw[this];simp
theorem zoY{X:List Int}(hv:zku K X)(hX:X.Pairwise (·< ·))(hl:P.length+X.length<2^40){a b:Nat}(ha:a=P.length)(hb:b=P.length+X.length):
 ∃S,zDG (P++X++R) (a:Int) (b:Int) K=some (P++S++R)/\zbW K S/\S.Perm X:=by
 subst ha hb
 unfold zDG
 rw[z0H (by omega)]
 cases X with
 |nil=>
  refine⟨[],?_,by simp,.refl _⟩
  rw[show LFm=(LFm-1)+1 from rfl,z0h]
  simp only[zjS]
  rw[if_neg (by simp;omega)]
  rfl
 |cons x X=>
  refine Exists.elim (z1Q (b:=zjS (P.length:Int) ((P.length+(x::X).length:Nat):Int) K) (fun z=>∃S U T,S≠ []/\z=(((P.length+S.length:Nat):Int),P++S++(U++R))/\zbW K S/\T++U=x::X/\S.Perm T) (fun z=>P.length+(x::X).length+1-z.1.toNat)
   (fun r=>∃S,r=P++S++R/\zbW K S/\S.Perm (x::X)) ?_ LFm ((P.length+1:Nat),P++x::X++R) ⟨[x],X,[x],by simp,by simp,by simp,rfl,.refl _⟩ (by simp only[LFm];omega)) fun r h=>by grind
  rintro z ⟨S,U,T,h0,rfl,h1,hT,hST⟩
  have h2:(S++U).Perm (x::X):=by grind
  have hlen:=h2.length_eq
  rw[Zb] at hlen
  simp only[zjS]
  cases U with
  |nil=>
   right
   rw[if_neg (by simp at hlen⊢;omega)]
   exact⟨_,rfl,S,by simp,h1,by simpa using h2⟩
  |cons u U=>
   left
   rw[if_pos (by simp at hlen⊢;omega)]
   have hvS:zku K (S++ [u]):=fun y hy=>hv y (h2.mem_iff.1 (by
    rcases Zf.1 hy with hy|hy
    · exact Zf.2 (.inl hy)
    · obtain rfl:=Zi.1 hy;simp))
   have hbu:∀y∈S,y<u:=fun y hy=>by
    have hp:(T++u::U).Pairwise (·< ·):=by rw[hT];exact hX
    exact(YC.1 hp).2.2 y (hST.mem_iff.1 hy) u (Zz ..)
   obtain⟨S',e,s1,s2⟩:=zA0 (P:=P) (S:=S) (R:=U++R) (x:=u) hvS h1 hbu (by simp at hlen hl⊢;omega) rfl
   have e':P++S++(u::U++R)=P++S++u::(U++R):=rfl
   rw[e',e]
   have hS':=s2.length_eq
   simp at hS'
   refine⟨_,rfl,⟨S',U,T++ [u],fun h=>by rw[h] at hS';simp at hS',?_,s1,by rw[Zu];exact hT,s2.trans (hST.append_right [u])⟩,?_⟩
   · simp only[hS']
     congr 1
   · grind
theorem zwj(hl:P.length+V.length<2^40)(hw:w=P.length+V.length+1):
 z0h (zjO (w:Int)) LFm ((P.length:Int),P++x::(V++R))=some (P++V++x::R):=by
 refine z0n (s:=((P.length:Int),P++x::(V++R))) V.length (fun k=>(((P.length+k:Nat):Int),(P++V.take k)++x::(V.drop k++R))) (by simp) (by simp only[LFm];omega) (fun k hk=> ?_) ?_
 · have hlk:P.length+k=(P++V.take k).length:=by rw[Zb,Zr];omega
   simp only[zjO]
   rw[z2G (x:=(w:Int)-1) (by omega) (by omega),if_pos (by omega)]
   have hj:IntKind.i64.wrap (((P.length+k:Nat):Int)+1)=((P.length+k+1:Nat):Int):=by rw[z2G (by omega) (by omega)];omega
   rw[hj,YA hk,ZN,hlk,at1 _ _ _ _ rfl,Z0,at0 _ _ _ rfl,Z0,Z2,zzq _ _ _ _ rfl,at1 _ _ _ _ rfl,Z0,Z2,put1 _ _ _ _ _ rfl]
   rw[Zw hk]
   have e2:P.length+(k+1)=(P++V.take k).length+1:=by omega
   rw[e2]
   simp only[Zu,ZN,Ya]
 · simp only[zjO]
   rw[z2G (x:=(w:Int)-1) (by omega) (by omega),if_neg (by omega)]
   simp
theorem zry(hl:P.length+V.length<2^40):
 z0h (zjQ (P.length:Int)) LFm (((P.length+V.length:Nat):Int),P++V++x::R)=some (P++x::(V++R)):=by
 refine z0n (s:=(((P.length+V.length:Nat):Int),P++V++x::R)) V.length (fun k=>(((P.length+(V.length-k):Nat):Int),(P++V.take (V.length-k))++x::(V.drop (V.length-k)++R))) (by simp) (by simp only[LFm];omega) (fun k hk=> ?_) ?_
 · obtain⟨j,hj⟩:∃j,V.length-k=j+1:=⟨V.length-k-1,by omega⟩
   have hjl:j<V.length:=by omega
   have e3:V.length-(k+1)=j:=by omega
   have hlk:P.length+j=(P++V.take j).length:=by grind
   rw[hj,e3]
   simp only[zjQ]
   rw[if_pos (by omega)]
   have hw:IntKind.i64.wrap (((P.length+(j+1):Nat):Int)-1)=((P.length+j:Nat):Int):=by rw[z2G (by omega) (by omega)];omega
   have e1:(P++V.take (j+1))++x::(V.drop (j+1)++R)=(P++V.take j)++V[j]::x::(V.drop (j+1)++R):=by
    rw[Zw hjl];simp only[Zu,ZN,Ya]
   have e2:P.length+(j+1)=(P++V.take j).length+1:=by omega
   rw[hw,e1,hlk,e2,at0 _ _ _ rfl,Z0,at1 _ _ _ _ rfl,Z0,Z2,put1 _ _ _ _ _ rfl,at0 _ _ _ rfl,Z0,Z2,zzq _ _ _ _ rfl,YA hjl]
   rfl
 · grind
end
section
open Go
theorem zep{P X M Y R:List Int}(K:SrtC)(hxy:X.length=Y.length)(hl:P.length+X.length+M.length+Y.length<2^40){a b n:Nat}(ha:a=P.length)(hb:b=P.length+X.length+M.length)(hn:n=X.length):
 zCb (P++(X++(M++(Y++R)))) (a:Int) (b:Int) (n:Int) K=some (P++(Y++(M++(X++R)))):=by
 subst ha hb hn
 unfold zCb
 refine z0n (s:=((0:Int),P++(X++(M++(Y++R))))) X.length (fun k=>((k:Int),P++(Y.take k++(X.drop k++(M++(X.take k++(Y.drop k++R))))))) (by simp) (by simp only[LFm];omega) (fun k hk=> ?_) ?_
 · have hk':k<Y.length:=by omega
   simp only[zv4]
   have e1:IntKind.i64.wrap ((((P.length+X.length+M.length:Nat)):Int)+(k:Int))=((P.length+X.length+M.length+k:Nat):Int):=by rw[z2G (by omega) (by omega)];omega
   have e2:IntKind.i64.wrap ((P.length:Int)+(k:Int))=((P.length+k:Nat):Int):=by rw[z2G (by omega) (by omega)];omega
   rw[if_pos (by omega),e1,e2,z0H (by omega),YA hk,YA hk']
   have f1:P++(Y.take k++(X[k]::X.drop (k+1)++(M++(X.take k++(Y[k]::Y.drop (k+1)++R)))))=(P++Y.take k)++X[k]::(X.drop (k+1)++(M++(X.take k++Y[k]::(Y.drop (k+1)++R)))):=by grind
   have l1:P.length+k=(P++Y.take k).length:=by grind
   have g:∀z:Int,(P++Y.take k)++z::(X.drop (k+1)++(M++(X.take k++Y[k]::(Y.drop (k+1)++R))))=((P++Y.take k)++z::(X.drop (k+1)++(M++X.take k)))++Y[k]::(Y.drop (k+1)++R):=fun z=>by grind
   have l2:∀z:Int,P.length+X.length+M.length+k=((P++Y.take k)++z::(X.drop (k+1)++(M++X.take k))).length:=fun z=>by grind
   rw[f1,l1]
   conv=>lhs;rw[show(P++List.take k Y++X[k]::(List.drop (k+1) X++(M++(List.take k X++Y[k]::(List.drop (k+1) Y++R)))))=_ from g X[k]]
   rw[at0 _ _ _ (l2 X[k]),Z0,←g,at0 _ _ _ rfl,Z0,Z2,zzq _ _ _ _ rfl,g,at0 _ _ _ (l2 Y[k]),Z0,Z2,zzq _ _ _ _ (l2 Y[k])]
   rw[Zw hk,Zw hk']
   simp only[Zu,ZN,Ya]
 · grind
theorem rotate{P U V R:List Int}(K:SrtC)(hU:U≠ [])(hV:V≠ [])(hl:P.length+U.length+V.length<2^40){a m b:Nat}(ha:a=P.length)(hm:m=P.length+U.length)(hb:b=P.length+U.length+V.length):
 zDF (P++(U++(V++R))) (a:Int) (m:Int) (b:Int) K=some (P++(V++(U++R))):=by
 subst ha hm hb
 unfold zDF
 have e1:IntKind.i64.wrap (((P.length+U.length:Nat):Int)-(P.length:Int))=(U.length:Int):=by rw[z2G (by omega) (by omega)];omega
 have e2:IntKind.i64.wrap (((P.length+U.length+V.length:Nat):Int)-((P.length+U.length:Nat):Int))=(V.length:Int):=by rw[z2G (by omega) (by omega)];omega
 rw[e1,e2]
 refine zaw (s:=((U.length:Int),(V.length:Int),P++(U++(V++R)))) (fun z=>∃(A X Y B:List Int),X≠ []/\Y≠ []/\A.length+X.length=P.length+U.length/\A.length+X.length+Y.length<=P.length+U.length+V.length/\z=((X.length:Int),(Y.length:Int),A++(X++(Y++B)))/\A++(Y++(X++B))=P++(V++(U++R))) (fun z=>z.1.toNat+z.2.1.toNat) ⟨P,U,V,R,hU,hV,rfl,by omega,rfl,rfl⟩ (by simp only[LFm];omega) ?_
 rintro z ⟨A,X,Y,B,hX,hY,hm,hb,rfl,hfin⟩
 have x0:=ZJ.2 hX
 have y0:=ZJ.2 hY
 have hmi:IntKind.i64.wrap (((P.length+U.length:Nat):Int)-(X.length:Int))=(A.length:Int):=by rw[z2G (by omega) (by omega)];omega
 simp only[zv5]
 by_cases h1:(X.length:Int)=(Y.length:Int)
 · right
   rw[if_pos h1,hmi]
   have:=zep (P:=A) (X:=X) (M:= []) (Y:=Y) (R:=B) K (by omega) (by simp;omega) rfl (b:=P.length+U.length) (by simp;omega) rfl
   rw[Ya,Ya] at this
   rw[this,Z0,hfin]
 · left
   rw[if_neg h1]
   by_cases h2:(Y.length:Int)<(X.length:Int)
   · rw[if_pos h2,hmi]
     have hx1:(X.take Y.length).length=Y.length:=by rw[Zr];omega
     have:=zep (P:=A) (X:=X.take Y.length) (M:=X.drop Y.length) (Y:=Y) (R:=B) K hx1 (by simp only[Zr,Yh];omega) rfl (b:=P.length+U.length) (by simp only[Zr,Yh];omega) (n:=Y.length) hx1.symm
     have e:A++(X.take Y.length++(X.drop Y.length++(Y++B)))=A++(X++(Y++B)):=by
      rw[←Zu (X.take Y.length),ZM]
     rw[e] at this
     rw[this,Z0]
     have hw:IntKind.i64.wrap ((X.length:Int)-(Y.length:Int))=((X.drop Y.length).length:Int):=by rw[z2G (by omega) (by omega),Yh];omega
     refine⟨_,rfl,⟨A++Y,X.drop Y.length,X.take Y.length,B,?_,?_,?_,?_,?_,?_⟩,?_⟩
     · grind
     · grind
     · grind
     · grind
     · grind
     · rw[←hfin,Zu,←Zu (X.take Y.length),ZM]
     · grind
   · rw[if_neg h2,hmi]
     have hlt:X.length<Y.length:=by omega
     have hb1:IntKind.i64.wrap (IntKind.i64.wrap (((P.length+U.length:Nat):Int)+(Y.length:Int))-(X.length:Int))=((P.length+U.length+Y.length-X.length:Nat):Int):=by
      rw[z2G (x:=((P.length+U.length:Nat):Int)+(Y.length:Int)) (by omega) (by omega),z2G (by omega) (by omega)];omega
     have hy1:(Y.drop (Y.length-X.length)).length=X.length:=by rw[Yh];omega
     have:=zep (P:=A) (X:=X) (M:=Y.take (Y.length-X.length)) (Y:=Y.drop (Y.length-X.length)) (R:=B) K hy1.symm (by simp only[Zr,Yh];omega) rfl (b:=P.length+U.length+Y.length-X.length) (by simp only[Zr];omega) rfl
     have e:A++(X++(Y.take (Y.length-X.length)++(Y.drop (Y.length-X.length)++B)))=A++(X++(Y++B)):=by
      rw[←Zu (Y.take (Y.length-X.length)),ZM]
     rw[e] at this
     rw[hb1,this,Z0]
     have hw:IntKind.i64.wrap ((Y.length:Int)-(X.length:Int))=((Y.take (Y.length-X.length)).length:Int):=by rw[z2G (by omega) (by omega),Zr];omega
     refine⟨_,rfl,⟨A,Y.drop (Y.length-X.length),Y.take (Y.length-X.length),X++B,?_,?_,?_,?_,?_,?_⟩,?_⟩
     · grind
     · grind
     · rw[hy1];exact hm
     · rw[hy1,Zr];omega
     · rw[hw,hy1]
     · rw[←hfin,←Zu (Y.take (Y.length-X.length)),ZM]
     · grind
theorem zuW{ρ:Type}{b:Int×Int->Option ((Int×Int)⊕ρ)}{p:Nat->Bool}{lo hi:Nat}{Post:ρ->Prop}(hlh:lo<=hi)(h40:hi<2^40)(hmono:∀i j,lo<=i->i<j->j<hi->p j=true->p i=true)
 (step:∀i j:Nat,lo<=i->i<j->j<=hi->b ((i:Int),(j:Int))=if p ((i+j)/2)=true then z0c ((((i+j)/2+1:Nat):Int),(j:Int)) else z0c ((i:Int),(((i+j)/2:Nat):Int)))
 (last:∀s,lo<=s->s<=hi->(∀k,lo<=k->k<s->p k=true)->(∀k,s<=k->k<hi->p k=false)->∃r,b ((s:Int),(s:Int))=some (.inr r)/\Post r):
 ∃r,z0h b LFm ((lo:Int),(hi:Int))=some r/\Post r:=by
 refine z1Q (fun z=>∃i j:Nat,lo<=i/\i<=j/\j<=hi/\z=((i:Int),(j:Int))/\(∀k,lo<=k->k<i->p k=true)/\(∀k,j<=k->k<hi->p k=false)) (fun z=>(z.2-z.1).toNat) Post ?_ LFm _ ⟨lo,hi,by omega,hlh,by omega,rfl,fun k h1 h2=>by omega,fun k h1 h2=>by omega⟩ (by simp only[LFm];omega)
 rintro z ⟨i,j,h1,h2,h3,rfl,h4,h5⟩
 by_cases hij:i<j
 · left
   rw[step i j h1 hij h3]
   by_cases hp:p ((i+j)/2)=true
   · rw[if_pos hp]
     refine⟨_,rfl,⟨(i+j)/2+1,j,by omega,by omega,h3,rfl,fun k k1 k2=> ?_,h5⟩,by simp only;omega⟩
     by_cases e:k=(i+j)/2
     · rw[e];exact hp
     · grind
   · rw[if_neg hp]
     refine⟨_,rfl,⟨i,(i+j)/2,h1,by omega,by omega,rfl,h4,fun k k1 k2=> ?_⟩,by simp only;omega⟩
     by_cases e:k=(i+j)/2
     · rw[e];simpa using hp
     · grind
 · right
   obtain rfl:i=j:=by omega
   exact last i h1 h3 h4 h5
end
section
open Go
variable{x:Int}{P R V V1 V2:List Int}{rf:List Int->Int->Int->Int->SrtC->Option (List Int)}{N a b k m t:Nat}{K:SrtC}
theorem atM{A B:List Int}{i:Nat}(h:t<V.length)(hi:i=A.length+t):atI (A++(V++B)) (i:Int)=some (V.getD t 0):=by
 subst hi
 rw[z0A (by simp;omega)]
 congr 1
 rw[List.getElem_append_right (by omega)]
 have:A.length+t-A.length=t:=by omega
 simp only[this]
 rw[List.getElem_append_left h,List.getD,Z1 h,Z4]
theorem zDE(hv:zku K V)(h:t<V.length):okS K (V.getD t 0):=by grind
theorem z8A(hs:zbW K V){i j:Nat}(hij:i<=j)(hj:j<V.length):kvC K (V.getD i 0)<=kvC K (V.getD j 0):=by
 rw[List.getD,List.getD,Z1 hj,Z1 (show i<V.length by omega),Z4,Z4]
 by_cases e:i=j
 · subst e;omega
 · exact ZE.1 hs i j (by omega) hj (by omega)
theorem z7s(h:x∈V.take k):∃i,i<k/\i<V.length/\x=V.getD i 0:=by
 obtain⟨i,hi,rfl⟩:=Zo h
 have hi':i<k/\i<V.length:=by rw[Zr] at hi;omega
 refine⟨i,hi'.1,hi'.2,?_⟩
 rw[Xx,List.getD,Z1 hi'.2,Z4]
theorem z7t(h:x∈V.drop k):∃i,k<=i/\i<V.length/\x=V.getD i 0:=by
 obtain⟨i,hi,rfl⟩:=Zo h
 have hi':k+i<V.length:=by rw[Yh] at hi;omega
 refine⟨k+i,by omega,hi',?_⟩
 rw[List.getElem_drop,List.getD,Z1 hi',Z4]
theorem zsI(hs:zbW K (V1++V2))(h1:∀y∈V1,kvC K y<=kvC K x)(h2:∀y∈V2,kvC K x<=kvC K y):zbW K (V1++x::V2):=by
 rw[zbW,YC] at hs⊢
 refine⟨hs.1,ZA.2 ⟨h2,hs.2.1⟩,fun a ha b hb=> ?_⟩
 rcases Zv.1 hb with rfl|hb
 · exact h1 a ha
 · exact hs.2.2 a ha b hb
def tl3(rf:List Int->Int->Int->Int->SrtC->Option (List Int))(K:SrtC)(M E b:Int)(v:List Int):Option (List Int):=
 if M<E then(if E<b then(rf v M E b K).bind fun r=>some r else some v) else some v
def tl2(rf:List Int->Int->Int->Int->SrtC->Option (List Int))(K:SrtC)(a s M E b:Int)(v:List Int):Option (List Int):=
 if a<s then(if s<M then(rf v a s M K).bind fun r=>tl3 rf K M E b r else tl3 rf K M E b v) else tl3 rf K M E b v
def tl1(rf:List Int->Int->Int->Int->SrtC->Option (List Int))(K:SrtC)(a m s M E b:Int)(v:List Int):Option (List Int):=
 if s<m then(if m<E then(zDF v s m E K).bind fun r=>tl2 rf K a s M E b r else tl2 rf K a s M E b v) else tl2 rf K a s M E b v
def zkp(rf:List Int->Int->Int->Int->SrtC->Option (List Int))(K:SrtC)(N:Nat):Prop:=
 ∀ {P U V R:List Int} {a m b:Nat},U≠ []->V≠ []->zku K (U++V)->zbW K U->zbW K V->Bef U V->P.length+U.length+V.length<2^40->U.length+V.length<=N->a=P.length->m=P.length+U.length->b=P.length+U.length+V.length->
   ∃W,rf (P++(U++(V++R))) (a:Int) (m:Int) (b:Int) K=some (P++(W++R))/\zbW K W/\W.Perm (U++V)
theorem zlN(hrf:zkp rf K N){U:List Int}(hv:zku K (U++V))(hsU:zbW K U)(hsV:zbW K V)(hBf:Bef U V)(hl:P.length+U.length+V.length<2^40)(hN:U.length+V.length<=N)(ha:a=P.length)(hm:m=P.length+U.length)(hb:b=P.length+U.length+V.length)
 (f:List Int->Option (List Int)):
 ∃W,(if(a:Int)<(m:Int) then(if(m:Int)<(b:Int) then(rf (P++(U++(V++R))) (a:Int) (m:Int) (b:Int) K).bind f else f (P++(U++(V++R)))) else f (P++(U++(V++R))))=f (P++(W++R))/\zbW K W/\W.Perm (U++V):=by
 by_cases h1:U= []
 · grind
 · have h1':=ZJ.2 h1
   rw[if_pos (by omega)]
   by_cases h2:V= []
   · grind
   · have h2':=ZJ.2 h2
     rw[if_pos (by omega)]
     obtain⟨W,e,w1,w2⟩:=hrf h1 h2 hv hsU hsV hBf hl hN ha hm hb (R:=R)
     exact⟨W,by rw[e,Z0],w1,w2⟩
theorem zB7(hrf:zkp rf K N){U1 U2:List Int}{s M E:Nat}(hv:zku K (U1++U2++(V1++V2)))(hsU:zbW K (U1++U2))(hsV:zbW K (V1++V2))(hBf:Bef (U1++U2) (V1++V2))(hl:P.length+U1.length+U2.length+V1.length+V2.length<2^40)
 (h1:U1.length+V1.length<=N) (h2:U2.length+V2.length<=N) (ha:a=P.length) (hs:s=a+U1.length) (hm:m=s+U2.length) (hE:E=m+V1.length) (hb:b=E+V2.length) (hM:M=s+V1.length)
 (c1:∀x∈U1,∀y∈V2,kvC K x<=kvC K y) (c2:∀x∈V1,∀y∈U2,kvC K x<=kvC K y):
 ∃W,tl1 rf K (a:Int) (m:Int) (s:Int) (M:Int) (E:Int) (b:Int) (P++(U1++U2++(V1++V2++R)))=some (P++(W++R))/\zbW K W/\W.Perm (U1++U2++(V1++V2)):=by
 have e0:tl1 rf K (a:Int) (m:Int) (s:Int) (M:Int) (E:Int) (b:Int) (P++(U1++U2++(V1++V2++R)))=tl2 rf K (a:Int) (s:Int) (M:Int) (E:Int) (b:Int) (P++(U1++(V1++(U2++(V2++R))))):=by
  unfold tl1
  by_cases hu:U2= []
  · grind
  · have hu':=ZJ.2 hu
    rw[if_pos (by omega)]
    by_cases hw:V1= []
    · grind
    · have hw':=ZJ.2 hw
      rw[if_pos (by omega)]
      have:=rotate (P:=P++U1) (U:=U2) (V:=V1) (R:=V2++R) K hu hw (by simp;omega) (a:=s) (m:=m) (b:=E) (by simp;omega) (by simp;omega) (by simp;omega)
      have e:P++U1++(U2++(V1++(V2++R)))=P++(U1++U2++(V1++V2++R)):=by simp only[Zu]
      rw[e] at this
      rw[this,Z0]
      simp only[Zu]
 rw[e0]
 have q1:=YC.1 hsU
 have q2:=YC.1 hsV
 have m1:∀x∈U1++V1,x∈U1++U2++(V1++V2):=fun x hx=>by grind
 have m2:∀x∈U2++V2,x∈U1++U2++(V1++V2):=fun x hx=>by grind
 obtain⟨L,e1,l1,l2⟩:=zlN (R:=U2++(V2++R)) hrf (P:=P) (U:=U1) (V:=V1) (fun x hx=>hv x (m1 x hx)) q1.1 q2.1 (fun x hx y hy=>hBf x (Zf.2 (.inl hx)) y (Zf.2 (.inl hy))) (by omega) h1 ha (m:=s) (by omega) (b:=M) (by omega) (tl3 rf K (M:Int) (E:Int) (b:Int))
 have hL:=l2.length_eq
 rw[Zb] at hL
 unfold tl2
 rw[e1]
 obtain⟨Rw,e2,r1,r2⟩:=zlN (R:=R) hrf (P:=P++L) (U:=U2) (V:=V2) (fun x hx=>hv x (m2 x hx)) q1.2.1 q2.2.1 (fun x hx y hy=>hBf x (Zf.2 (.inr hx)) y (Zf.2 (.inr hy))) (by rw[Zb];omega) h2 (a:=M) (by rw[Zb];omega) (m:=E) (by rw[Zb];omega) (b:=b) (by rw[Zb];omega) (fun r=>some r)
 unfold tl3
 have e:P++(L++(U2++(V2++R)))=P++L++(U2++(V2++R)):=by simp only[Zu]
 rw[e,e2]
 refine⟨L++Rw,by simp only[Zu],?_,?_⟩
 · grind
 · grind
theorem zlo(hrf:zkp rf K N){U:List Int}(hv:zku K (U++V))(hsU:zbW K U)(hsV:zbW K V)(hBf:Bef U V)(hl:P.length+U.length+V.length<2^40){M lo hi:Nat}(ha:a=P.length)(hm:m=P.length+U.length)(hb:b=P.length+U.length+V.length)
 (hU2:2<=U.length) (hV2:2<=V.length) (hN:U.length+V.length<=N+1) (hM:M=(a+b)/2) (hlo:(lo=a/\m<=M)∨(lo=M+m-b/\M<m)) (hhi:(hi=m/\m<=M)∨(hi=M/\M<m)):
 ∃r,z0h (zbO (P++(U++(V++R))) (a:Int) (m:Int) (b:Int) K rf) LFm ((lo:Int),(hi:Int))=some r/\ ∃W,r=P++(W++R)/\zbW K W/\W.Perm (U++V):=by
 have hvU:zku K U:=fun x hx=>hv x (Zf.2 (.inl hx))
 have hvV:zku K V:=fun x hx=>hv x (Zf.2 (.inr hx))
 have cM:IntKind.i64.wrap (z1D .u64 (IntKind.u64.wrap (IntKind.i64.wrap ((a:Int)+b))) 1)=(M:Int):=by rw[zBP _ _ (by omega),hM]
 have cN:IntKind.i64.wrap ((M:Int)+(m:Int))=((M+m:Nat):Int):=by rw[z2G (by omega) (by omega)];omega
 have cP:IntKind.i64.wrap (((M+m:Nat):Int)-1)=((M+m-1:Nat):Int):=by rw[z2G (by omega) (by omega)];omega
 refine zuW (p:=fun c=>decide (kvC K (U.getD (c-a) 0)<=kvC K (V.getD (M+m-1-c-m) 0))) (by omega) (by omega) (fun i j h1 h2 h3 hp=> ?_) (fun i j h1 h2 h3=> ?_) (fun s h1 h2 h3 h4=> ?_)
 · simp only[decide_eq_true_eq] at hp⊢
   have k1:=z8A hsU (i:=i-a) (j:=j-a) (by omega) (by omega)
   have k2:=z8A hsV (i:=M+m-1-j-m) (j:=M+m-1-i-m) (by omega) (by omega)
   omega
 · simp only[zbO]
   rw[if_pos (by omega),z0i _ (by omega),cM,zBP i j (by omega),cN,cP]
   have hc:(i+j)/2<hi/\lo<=(i+j)/2:=by omega
   have w1:IntKind.i64.wrap (((M+m-1:Nat):Int)-(((i+j)/2:Nat):Int))=((M+m-1-(i+j)/2:Nat):Int):=by rw[z2G (by omega) (by omega)];omega
   have e1:P++(U++(V++R))=(P++U)++(V++R):=by simp only[Zu]
   have g1:atI (P++(U++(V++R))) ((M+m-1-(i+j)/2:Nat):Int)=some (V.getD (M+m-1-(i+j)/2-m) 0):=by
    rw[e1];exact atM (by omega) (by rw[Zb];omega)
   have g2:atI (P++(U++(V++R))) (((i+j)/2:Nat):Int)=some (U.getD ((i+j)/2-a) 0):=atM (by omega) (by omega)
   rw[w1,g1,Z0,g2,Z0]
   obtain⟨c,hc1,hc2⟩:=zDM (zDE hvV (t:=M+m-1-(i+j)/2-m) (by omega)) (zDE hvU (t:=(i+j)/2-a) (by omega)) (hBf _ (zbI (by omega)) _ (zbI (by omega)))
   rw[hc1,Z0]
   simp only[decide_eq_true_eq]
   by_cases h:c<0
   · grind
   · have:=(not_congr hc2).1 h
     rw[if_neg h,if_pos (by omega),z0H (by omega)]
 · have wE:IntKind.i64.wrap (((M+m:Nat):Int)-(s:Int))=((M+m-s:Nat):Int):=by rw[z2G (by omega) (by omega)];omega
   have hx:(zbO (P++(U++(V++R))) (a:Int) (m:Int) (b:Int) K rf) ((s:Int),(s:Int))=z0d (tl1 rf K (a:Int) (m:Int) (s:Int) (M:Int) ((M+m-s:Nat):Int) (b:Int) (P++(U++(V++R)))):=by
    simp only[zbO]
    rw[if_neg (by omega),cM,cN,wE]
    rfl
   have hsa:a<=s/\s<=m/\s<=M:=by omega
   have tU:U.take (s-a)++U.drop (s-a)=U:=ZM ..
   have tV:V.take (M-s)++V.drop (M-s)=V:=ZM ..
   have lU1:(U.take (s-a)).length=s-a:=by rw[Zr];omega
   have lU2:(U.drop (s-a)).length=m-s:=by rw[Yh];omega
   have lV1:(V.take (M-s)).length=M-s:=by rw[Zr];omega
   have lV2:(V.drop (M-s)).length=b-(M+m-s):=by rw[Yh];omega
   have c1:∀x∈U.take (s-a),∀y∈V.drop (M-s),kvC K x<=kvC K y:=fun x hx y hy=>by
    obtain⟨i,i1,i2,rfl⟩:=z7s hx
    obtain⟨j,j1,j2,rfl⟩:=z7t hy
    have hs1:lo<=s-1/\s-1<s:=by omega
    have:=h3 (s-1) hs1.1 hs1.2
    simp only[decide_eq_true_eq] at this
    have k1:=z8A hsU (i:=i) (j:=s-1-a) (by omega) (by omega)
    have k2:=z8A hsV (i:=M+m-1-(s-1)-m) (j:=j) (by omega) (by omega)
    omega
   have c2:∀x∈V.take (M-s),∀y∈U.drop (s-a),kvC K x<=kvC K y:=fun x hx y hy=>by
    obtain⟨i,i1,i2,rfl⟩:=z7s hx
    obtain⟨j,j1,j2,rfl⟩:=z7t hy
    have hs1:s<=s/\s<hi:=by omega
    have:=h4 s hs1.1 hs1.2
    simp only[decide_eq_false_iff_not] at this
    have k1:=z8A hsU (i:=s-a) (j:=j) (by omega) (by omega)
    have k2:=z8A hsV (i:=i) (j:=M+m-1-s-m) (by omega) (by omega)
    omega
   obtain⟨W,e,w1,w2⟩:=zB7 (P:=P) (U1:=U.take (s-a)) (U2:=U.drop (s-a)) (V1:=V.take (M-s)) (V2:=V.drop (M-s)) (R:=R) hrf (a:=a) (m:=m) (b:=b) (s:=s) (M:=M) (E:=M+m-s) (by rw[tU,tV];exact hv) (by rw[tU];exact hsU) (by rw[tV];exact hsV) (by rw[tU,tV];exact hBf) (by omega) (by omega) (by omega) ha (by omega) (by omega) (by omega) (by omega) (by omega) c1 c2
   rw[tU,tV] at e w2
   rw[hx,e]
   exact⟨_,rfl,W,rfl,w1,w2⟩
theorem zgn{K:SrtC}:∀(k:Nat) {P U V R:List Int} {a m b:Nat},U≠ []->V≠ []->zku K (U++V)->zbW K U->zbW K V->Bef U V->P.length+U.length+V.length<2^40->U.length+V.length<=k->a=P.length->m=P.length+U.length->b=P.length+U.length+V.length->
 ∃W,zxo k (P++(U++(V++R))) (a:Int) (m:Int) (b:Int) K=some (P++(W++R))/\zbW K W/\W.Perm (U++V)
 |0,P,U,V,R,a,m,b,hU,_,_,_,_,_,_,hk,_,_,_=>by
  have:=ZJ.2 hU
  omega
 |k+1,P,U,V,R,a,m,b,hU,hV,hv,hsU,hsV,hBf,hl,hk,ha,hm,hb=>by
  have u0:=ZJ.2 hU
  have v0:=ZJ.2 hV
  have hvU:zku K U:=fun x hx=>hv x (Zf.2 (.inl hx))
  have hvV:zku K V:=fun x hx=>hv x (Zf.2 (.inr hx))
  have cU:IntKind.i64.wrap ((m:Int)-(a:Int))=(U.length:Int):=by rw[z2G (by omega) (by omega)];omega
  have cV:IntKind.i64.wrap ((b:Int)-(m:Int))=(V.length:Int):=by rw[z2G (by omega) (by omega)];omega
  show ∃W,zv3 (zxo k) (P++(U++(V++R))) (a:Int) (m:Int) (b:Int) K=_/\_
  unfold zv3
  rw[cU,cV]
  by_cases h1:U.length=1
  · obtain⟨x,rfl⟩:=XI.1 h1
    rw[if_pos (by simp)]
    have hx:okS K x:=hvU x (by simp)
    have:=zuW (b:=zjP (P++([x]++(V++R))) (a:Int) K) (p:=fun h=>decide (kvC K (V.getD (h-m) 0)<kvC K x)) (lo:=m) (hi:=b) (Post:=fun r=>∃W,r=P++(W++R)/\zbW K W/\W.Perm ([x]++V)) (by omega) (by omega) (fun i j q1 q2 q3 hp=> ?_) (fun i j q1 q2 q3=> ?_) (fun s q1 q2 q3 q4=> ?_)
    · obtain⟨r,e,W,rfl,w1,w2⟩:=this
      exact⟨W,e,w1,w2⟩
    · simp only[decide_eq_true_eq] at hp⊢
      have k1:=z8A hsV (i:=i-m) (j:=j-m) (by omega) (by omega)
      omega
    · simp only[zjP]
      rw[if_pos (by omega),z0i _ (by omega),zBP _ _ (by omega)]
      have e1:P++([x]++(V++R))=(P++ [x])++(V++R):=by simp only[Zu]
      have g1:atI (P++([x]++(V++R))) (((i+j)/2:Nat):Int)=some (V.getD ((i+j)/2-m) 0):=by
       rw[e1];exact atM (by omega) (by rw[Zb];simp at hm⊢;omega)
      rw[g1,Z0,show P++([x]++(V++R))=P++x::(V++R) from rfl,at0 _ _ _ ha,Z0]
      obtain⟨c,hc1,hc2⟩:=zDM (zDE hvV (t:=(i+j)/2-m) (by omega)) hx (hBf _ (by simp) _ (zbI (by omega)))
      rw[hc1,Z0]
      simp only[decide_eq_true_eq]
      by_cases h:c<0
      · rw[if_pos h,if_pos (hc2.1 h),z0H (by omega)]
      · grind
    · simp only[zjP]
      rw[if_neg (by omega)]
      have lV1:(V.take (s-m)).length=s-m:=by rw[Zr];omega
      simp only[ZD] at*
      have:=zwj (P:=P) (V:=V.take (s-m)) (R:=V.drop (s-m)++R) (x:=x) (by omega) (w:=s) (by omega)
      rw[←Zu (V.take (s-m)),ZM] at this
      rw[show P++([x]++(V++R))=P++x::(V++R) from rfl,ha,this]
      refine⟨_,rfl,V.take (s-m)++x::V.drop (s-m),by simp only[Zu,ZN],?_,?_⟩
      · refine zsI (by rw[ZM];exact hsV) (fun y hy=> ?_) (fun y hy=> ?_)
        · obtain⟨i,i1,i2,rfl⟩:=z7s hy
          have:=q3 (m+i) (by omega) (by omega)
          simp only[decide_eq_true_eq,Y1] at this
          omega
        · obtain⟨i,i1,i2,rfl⟩:=z7t hy
          have:=q4 (m+i) (by omega) (by omega)
          simp only[decide_eq_false_iff_not,Y1] at this
          omega
      · refine List.perm_middle.trans ?_
        rw[ZM]
        exact .refl _
  · rw[if_neg (by omega)]
    by_cases h2:V.length=1
    · obtain⟨x,rfl⟩:=XI.1 h2
      rw[if_pos (by simp)]
      have hx:okS K x:=hvV x (by simp)
      have:=zuW (b:=zfz (P++(U++([x]++R))) (m:Int) K) (p:=fun h=>decide (kvC K (U.getD (h-a) 0)<=kvC K x)) (lo:=a) (hi:=m) (Post:=fun r=>∃W,r=P++(W++R)/\zbW K W/\W.Perm (U++ [x])) (by omega) (by omega) (fun i j q1 q2 q3 hp=> ?_) (fun i j q1 q2 q3=> ?_) (fun s q1 q2 q3 q4=> ?_)
      · obtain⟨r,e,W,rfl,w1,w2⟩:=this
        exact⟨W,e,w1,w2⟩
      · simp only[decide_eq_true_eq] at hp⊢
        have k1:=z8A hsU (i:=i-a) (j:=j-a) (by omega) (by omega)
        omega
      · simp only[zfz]
        have e1:P++(U++([x]++R))=(P++U)++x::R:=by grind
        have g1:atI (P++(U++([x]++R))) (((i+j)/2:Nat):Int)=some (U.getD ((i+j)/2-a) 0):=atM (by omega) (by omega)
        have g2:atI (P++(U++([x]++R))) (m:Int)=some x:=by rw[e1];exact at0 _ _ _ (by rw[Zb];omega)
        rw[if_pos (by omega),z0i _ (by omega),zBP _ _ (by omega),g2,Z0,g1,Z0]
        obtain⟨c,hc1,hc2⟩:=zDM hx (zDE hvU (t:=(i+j)/2-a) (by omega)) (hBf _ (zbI (by omega)) _ (by simp))
        rw[hc1,Z0]
        simp only[decide_eq_true_eq]
        by_cases h:c<0
        · grind
        · have:=(not_congr hc2).1 h
          rw[if_neg h,if_pos (by omega),z0H (by omega)]
      · simp only[zfz]
        rw[if_neg (by omega)]
        have lU1:(U.take (s-a)).length=s-a:=by rw[Zr];omega
        have lU2:(U.drop (s-a)).length=m-s:=by rw[Yh];omega
        simp only[ZD] at*
        have:=zry (P:=P++U.take (s-a)) (V:=U.drop (s-a)) (R:=R) (x:=x) (by rw[Zb];omega)
        have e2:(P++U.take (s-a)).length=s:=by rw[Zb];omega
        have e3:(P++U.take (s-a)).length+(U.drop (s-a)).length=m:=by rw[e2,lU2];omega
        have e4:P++U.take (s-a)++U.drop (s-a)++x::R=P++(U++([x]++R)):=by
         rw[Zu P,ZM];simp only[Zu,ZN,Ya]
        rw[e3,e4,e2] at this
        rw[this]
        refine⟨_,rfl,U.take (s-a)++x::U.drop (s-a),by simp only[Zu,ZN],?_,?_⟩
        · refine zsI (by rw[ZM];exact hsU) (fun y hy=> ?_) (fun y hy=> ?_)
          · obtain⟨i,i1,i2,rfl⟩:=z7s hy
            have:=q3 (a+i) (by omega) (by omega)
            simp only[decide_eq_true_eq,Y1] at this
            omega
          · obtain⟨i,i1,i2,rfl⟩:=z7t hy
            have:=q4 (a+i) (by omega) (by omega)
            simp only[decide_eq_false_iff_not,Y1] at this
            omega
        · refine List.perm_middle.trans ?_
          rw[ZM]
          exact(List.perm_append_singleton x U).symm
    · rw[if_neg (by omega)]
      have hrf:zkp (zxo k) K k:=fun {P' U' V' R' a' m' b'} g1 g2 g3 g4 g5 g6 g7 g8 g9 g10 g11=>zgn k g1 g2 g3 g4 g5 g6 g7 g8 g9 g10 g11
      have cM:IntKind.i64.wrap (z1D .u64 (IntKind.u64.wrap (IntKind.i64.wrap ((a:Int)+b))) 1)=(((a+b)/2:Nat):Int):=zBP _ _ (by omega)
      have cN:IntKind.i64.wrap ((((a+b)/2:Nat):Int)+(m:Int))=(((a+b)/2+m:Nat):Int):=by rw[z2G (by omega) (by omega)];omega
      rw[z0i _ (by omega),cM,cN]
      by_cases hMm:(a+b)/2<m
      · have cB:IntKind.i64.wrap ((((a+b)/2+m:Nat):Int)-(b:Int))=(((a+b)/2+m-b:Nat):Int):=by rw[z2G (by omega) (by omega)];omega
        rw[if_pos (by omega),cB]
        obtain⟨r,e,W,rfl,w1,w2⟩:=zlo (R:=R) hrf hv hsU hsV hBf hl (M:=(a+b)/2) (lo:=(a+b)/2+m-b) (hi:=(a+b)/2) ha hm hb (by omega) (by omega) (by omega) rfl (.inr ⟨rfl,hMm⟩) (.inr ⟨rfl,hMm⟩)
        exact⟨W,e,w1,w2⟩
      · rw[if_neg (by omega)]
        obtain⟨r,e,W,rfl,w1,w2⟩:=zlo (R:=R) hrf hv hsU hsV hBf hl (M:=(a+b)/2) (lo:=a) (hi:=m) ha hm hb (by omega) (by omega) (by omega) rfl (.inl ⟨rfl,by omega⟩) (.inl ⟨rfl,by omega⟩)
        exact⟨W,e,w1,w2⟩
end
section
open Go
variable{l l0:List Int}{B i:Nat}{K:SrtC}
def zkt(K:SrtC)(B:Nat)(l:List Int):Prop:=(∀i j,i<j->j<l.length->i/B=j/B->kvC K (l.getD i 0)<=kvC K (l.getD j 0))/\ ∀i j,j<l.length->i/B<j/B->l.getD i 0<l.getD j 0
theorem zBh(h:∀i j,i<j->j<l.length->kvC K (l.getD i 0)<=kvC K (l.getD j 0)):zbW K l:=by
 refine ZE.2 fun i j hi hj hij=> ?_
 have:=h i j hij hj
 rwa [List.getD,List.getD,Z1 hj,Z1 hi,Z4,Z4] at this
theorem zhg{A X:List Int}(h:i<A.length):(A++X).getD i 0=A.getD i 0:=by grind
theorem zhf{A X:List Int}:(A++X).getD (A.length+i) 0=X.getD i 0:=by grind
theorem zkd{A X:List Int}{q:Nat}(hB:0<B)(hA:A.length=q*B)(h:zkt K B (A++X)):zkt K B X:=by
 have e:∀i,(A.length+i)/B=i/B+q:=fun i=>by rw[hA,Nat.add_comm,Nat.add_mul_div_right _ _ hB]
 refine⟨fun i j hij hj hb=> ?_,fun i j hj hb=> ?_⟩
 · have:=h.1 (A.length+i) (A.length+j) (by omega) (by rw[Zb];omega) (by rw[e,e,hb])
   rwa [zhf,zhf] at this
 · have:=h.2 (A.length+i) (A.length+j) (by rw[Zb];omega) (by rw[e,e];omega)
   rwa [zhf,zhf] at this
theorem zeR{U X:List Int}(hU:U.length<=B)(h:zkt K B (U++X)):zbW K U:=zBh fun i j hij hj=>by
 have:=h.1 i j hij (by rw[Zb];omega) (by rw[Xk (by omega),Xk (by omega)])
 rwa [zhg (by omega),zhg hj] at this
theorem zke{X:List Int}(hB:0<B)(h:zkt K B X):Bef (X.take B) (X.drop B):=fun x hx y hy=>by
 obtain⟨i,i1,i2,rfl⟩:=z7s hx
 obtain⟨j,j1,j2,rfl⟩:=z7t hy
 have:=Nat.div_pos j1 hB
 exact h.2 i j j2 (by rw[Xk i1];exact this)
theorem zdN{D W:List Int}{q:Nat}(hB:0<B)(hD:D.length=q*B)(h:zkt K B D)(hW:zbW K W)(hl:W.length<=B)(hBf:Bef D W):zkt K B (D++W):=by
 have e:∀i,(D.length+i)/B=i/B+q:=fun i=>by rw[hD,Nat.add_comm,Nat.add_mul_div_right _ _ hB]
 refine⟨fun i j hij hj hb=> ?_,fun i j hj hb=> ?_⟩
 · by_cases h1:j<D.length
   · rw[zhg (by omega),zhg h1]
     exact h.1 i j hij h1 hb
   · have h2:D.length<=i:=by
      rcases Yx i D.length with h2|h2
      · exfalso
        have a1:i/B<q:=by rw[Nat.div_lt_iff_lt_mul hB,←hD];exact h2
        have a2:q<=j/B:=by rw[Nat.le_div_iff_mul_le hB,←hD];omega
        omega
      · exact h2
     obtain⟨i',rfl⟩:=Xa h2
     obtain⟨j',rfl⟩:=Xa (show D.length<=j by omega)
     rw[zhf,zhf]
     exact z8A hW (by omega) (by rw[Zb] at hj;omega)
 · have hij:i<j:=Nat.lt_of_not_le fun hji=>by have:=Nat.div_le_div_right (c:=B) hji;omega
   rw[Zb] at hj
   by_cases h1:j<D.length
   · rw[zhg (by omega),zhg h1]
     exact h.2 i j h1 hb
   · obtain⟨j',rfl⟩:=Xa (show D.length<=j by omega)
     by_cases h2:i<D.length
     · rw[zhg h2,zhf]
       exact hBf _ (zbI h2) _ (zbI (by omega))
     · obtain⟨i',rfl⟩:=Xa (show D.length<=i by omega)
       rw[e,e,Xk (by omega),Xk (by omega)] at hb
       omega
theorem zvP(K:SrtC)(B:Nat):zkt K B []:=⟨fun i j _ hj=>by simp at hj,fun i j hj=>by simp at hj⟩
theorem zxP(hv:zku K l0)(ha:l0.Pairwise (·< ·))(hn:l0.length<2^38)(Post:List Int->Prop)(k:∀D,zkt K 20 D->D.Perm l0->∃r,z0h (zeF ((l0.length:Nat):Int) K) LFm (20,D)=some r/\Post r):
 ∃r,z0h (zeG ((l0.length:Nat):Int) K) LFm (0,20,l0)=some r/\Post r:=by
 refine z1Q (fun z=>∃(D X:List Int) (q:Nat),D.length=q*20/\z=((D.length:Int),((D.length+20:Nat):Int),D++X)/\zkt K 20 D/\Bef D X/\X.Pairwise (·< ·)/\(D++X).Perm l0) (fun z=>l0.length+1-z.1.toNat) Post ?_ LFm _ ⟨[],l0,0,rfl,rfl,zvP K 20,(fun x hx=>by simp at hx),ha,.refl _⟩ (by simp only[LFm];omega)
 rintro z ⟨D,X,q,hq,rfl,hD,hBf,hXp,hp⟩
 have hlen:=hp.length_eq
 rw[Zb] at hlen
 have hvX:zku K X:=fun x hx=>hv x (hp.mem_iff.1 (Zf.2 (.inr hx)))
 simp only[zeG]
 by_cases h:D.length+20<=l0.length
 · left
   rw[if_pos (by omega)]
   have t1:X.take 20++X.drop 20=X:=ZM ..
   have t2:(X.take 20).length=20:=by rw[Zr];omega
   obtain⟨S,e,s1,s2⟩:=zoY (P:=D) (X:=X.take 20) (R:=X.drop 20) (fun x hx=>hvX x (ZH hx)) (hXp.sublist (List.take_sublist ..)) (by omega) (a:=D.length) (b:=D.length+20) rfl (by omega)
   have hS:=s2.length_eq
   rw[t2] at hS
   rw[Zu,t1] at e
   rw[e,Z0,z2G (by omega) (by omega)]
   refine⟨_,rfl,⟨D++S,X.drop 20,q+1,by rw[Zb];omega,?_,zdN (by omega) hq hD s1 (by omega) (fun x hx y hy=>hBf x hx y (ZH (s2.mem_iff.1 hy))),?_,hXp.sublist (List.drop_sublist ..),?_⟩,by simp only;omega⟩
   · grind
   · grind
   · grind
 · right
   rw[if_neg (by omega)]
   obtain⟨S,e,s1,s2⟩:=zoY (P:=D) (X:=X) (R:= []) hvX hXp (by omega) (a:=D.length) (b:=l0.length) rfl (by omega)
   rw[Yb,Yb] at e
   rw[e,Z0]
   have hSl:=s2.length_eq
   obtain⟨r,e2,hr⟩:=k (D++S) (zdN (by omega) hq hD s1 (by omega) (fun x hx y hy=>hBf x hx y (s2.mem_iff.1 hy))) ((s2.append_left D).trans hp)
   exact⟨r,by rw[e2];rfl,hr⟩
theorem zBR(hv:zku K l0)(hn:l0.length<=5000)(hB0:0<B)(hB:B<5000)(hb:zkt K B l)(hp:l.Perm l0):
 ∃S,z0h (zcD ((l0.length:Nat):Int) K (B:Int)) LFm (0,((2*B:Nat):Int),l)=some (.inl (((B*2:Nat):Int),S))/\zkt K (B*2) S/\S.Perm l0:=by
 refine Exists.elim (z1Q (b:=zcD ((l0.length:Nat):Int) K (B:Int)) (fun z=>∃(D X:List Int) (q:Nat),D.length=q*(B*2)/\z=((D.length:Int),((D.length+2*B:Nat):Int),D++X)/\zkt K (B*2) D/\zkt K B X/\Bef D X/\(D++X).Perm l0) (fun z=>l0.length+1-z.1.toNat)
  (fun r=>∃S,r= .inl (((B*2:Nat):Int),S)/\zkt K (B*2) S/\S.Perm l0) ?_ LFm (0,((2*B:Nat):Int),l) ⟨[],l,0,by simp,by simp,zvP K _,hb,(fun x hx=>by simp at hx),hp⟩ (by simp only[LFm];omega)) fun r h=>by grind
 rintro z ⟨D,X,q,hq,rfl,hD,hX,hBf,hp2⟩
 have hlen:=hp2.length_eq
 rw[Zb] at hlen
 have hvX:zku K X:=fun x hx=>hv x (hp2.mem_iff.1 (Zf.2 (.inr hx)))
 have wB:IntKind.i64.wrap (2*(B:Int))=((2*B:Nat):Int):=by rw[z2G (by omega) (by omega)];omega
 have wB2:IntKind.i64.wrap ((B:Int)*2)=((B*2:Nat):Int):=by grind
 have wa:IntKind.i64.wrap ((D.length:Int)+(B:Int))=((D.length+B:Nat):Int):=by rw[z2G (by omega) (by omega)];omega
 simp only[zcD]
 rw[wa,wB,wB2]
 have t1:X.take B++X.drop B=X:=ZM ..
 by_cases h:D.length+2*B<=l0.length
 · left
   rw[if_pos (by omega)]
   have t2:(X.take B).length=B:=by rw[Zr];omega
   have hX2:zkt K B (X.drop B):=zkd (A:=X.take B) (q:=1) hB0 (by omega) (by rw[t1];exact hX)
   have t3:(X.drop B).take B++(X.drop B).drop B=X.drop B:=ZM ..
   have t4:((X.drop B).take B).length=B:=by grind
   obtain⟨W,e,w1,w2⟩:=zgn (K:=K) 5000 (P:=D) (U:=X.take B) (V:=(X.drop B).take B) (R:=(X.drop B).drop B) (a:=D.length) (m:=D.length+B) (b:=D.length+2*B) (fun h=>by rw[h] at t2;simp at t2;omega) (fun h=>by rw[h] at t4;simp at t4;omega)
    (fun x hx=>hvX x (by
      rcases Zf.1 hx with hx|hx
      · exact ZH hx
      · exact XR (ZH hx)))
    (zeR (B:=B) (X:=X.drop B) (by omega) (by rw[t1];exact hX)) (zeR (B:=B) (X:=(X.drop B).drop B) (by omega) (by rw[t3];exact hX2)) (fun x hx y hy=>zke hB0 hX x hx y (ZH hy)) (by omega) (by omega) rfl (by omega) (by omega)
   have hW:=w2.length_eq
   rw[Zb,t2,t4] at hW
   rw[t3,t1] at e
   have hX3:zkt K B ((X.drop B).drop B):=zkd (A:=(X.drop B).take B) (q:=1) hB0 (by omega) (by rw[t3];exact hX2)
   have hWX:∀y∈W,y∈X:=fun y hy=>by grind
   have ws:IntKind.i64.wrap (((D.length+2*B:Nat):Int)+((2*B:Nat):Int))=((D.length+2*B+2*B:Nat):Int):=by rw[z2G (by omega) (by omega)];omega
   rw[e,Z0,ws]
   refine⟨_,rfl,⟨D++W,(X.drop B).drop B,q+1,?_,?_,zdN (by omega) hq hD w1 (by omega) (fun x hx y hy=>hBf x hx y (hWX y hy)),hX3,?_,?_⟩,by simp only;omega⟩
   · grind
   · grind
   · intro x hx y hy
     rcases Zf.1 hx with hx|hx
     · grind
     · rcases Zf.1 (w2.mem_iff.1 hx) with h|h
       · exact zke hB0 hX x h y (XR hy)
       · exact zke hB0 hX2 x h y hy
   · grind
 · right
   rw[if_neg (by omega)]
   by_cases h2:D.length+B<l0.length
   · have t2:(X.take B).length=B:=by rw[Zr];omega
     have hX2:zkt K B (X.drop B):=zkd (A:=X.take B) (q:=1) hB0 (by omega) (by rw[t1];exact hX)
     have t4:(X.drop B).length=l0.length-D.length-B:=by rw[Yh];omega
     obtain⟨W,e,w1,w2⟩:=zgn (K:=K) 5000 (P:=D) (U:=X.take B) (V:=X.drop B) (R:= []) (a:=D.length) (m:=D.length+B) (b:=l0.length) (fun h=>by rw[h] at t2;simp at t2;omega) (fun h=>by rw[h] at t4;simp at t4;omega)
      (fun x hx=>hvX x (by rw[t1] at hx;exact hx))
      (zeR (B:=B) (X:=X.drop B) (by omega) (by rw[t1];exact hX)) (zeR (B:=B) (X:= []) (by omega) (by rw[Yb];exact hX2)) (zke hB0 hX) (by omega) (by omega) rfl (by omega) (by omega)
     rw[Yb,Yb,t1] at e
     rw[if_pos (by omega),e,Z0]
     have hWl:=w2.length_eq
     rw[t1] at hWl
     refine⟨_,rfl,D++W,rfl,zdN (by omega) hq hD w1 (by omega) (fun x hx y hy=>hBf x hx y (by have:=w2.mem_iff.1 hy;rwa [t1] at this)),?_⟩
     have:=w2.append_left D
     rw[t1] at this
     exact this.trans hp2
   · rw[if_neg (by omega)]
     refine⟨_,rfl,D++X,rfl,?_,hp2⟩
     exact zdN (by omega) hq hD (zeR (B:=B) (X:= []) (by omega) (by rw[Yb];exact hX)) (by omega) hBf
theorem zmV(hv:zku K l)(ha:l.Pairwise (·< ·))(hn:l.length<=5000):∃S,zCc l K=some S/\zbW K S/\S.Perm l:=by
 unfold zCc zF1
 obtain⟨r,e,h⟩:=zxP (Post:=fun r=>zbW K r/\r.Perm l) hv ha (by omega) fun D hD hp=>by
  refine z1Q (fun z=>∃(B:Nat) (S:List Int),0<B/\B<10000/\z=((B:Int),S)/\zkt K B S/\S.Perm l) (fun z=>10000-z.1.toNat) _ ?_ LFm _ ⟨20,D,by omega,by omega,rfl,hD,hp⟩ (by simp only[LFm];omega)
  rintro z ⟨B,S,hB0,hB1,rfl,hS,hp2⟩
  have hlen:=hp2.length_eq
  simp only[zeF]
  by_cases h:B<l.length
  · left
    have wB:IntKind.i64.wrap (2*(B:Int))=((2*B:Nat):Int):=by rw[z2G (by omega) (by omega)];omega
    obtain⟨S',e,s1,s2⟩:=zBR hv hn hB0 (by omega) hS hp2
    rw[if_pos (by omega),wB,e]
    exact⟨_,rfl,⟨B*2,S',by omega,by omega,rfl,s1,s2⟩,by simp only;omega⟩
  · right
    rw[if_neg (by omega)]
    exact⟨_,rfl,zeR (B:=B) (X:= []) (by omega) (by rw[Yb];exact hS),hp2⟩
 exact⟨r,by rw[e];rfl,h⟩
end
section
structure Run{ρ:Type}(x:Option ρ)(K:ρ->Prop):Prop where
 out:∃v,x=some v/\K v
structure RK{σ ρ:Type}(o:σ⊕ρ)(K:ρ->Prop)(o':σ⊕ρ):Prop where
 eq:o'=o
 k:∀r,o'= .inr r->K r
class Ok{ρ:Type}(x:Option ρ)(S:outParam (ρ->Prop)):Prop where
 ok:∀r,x=some r->S r
section
variable {G:Prop} {ρ:Type} {K:ρ->Prop}
theorem zBw{b n:Nat}{x:Option ρ}(k:n*b<=140737488355328->n<=4611686018427387904->Run x K->G)(h:Run (chk (z1C b n) x) K):G:=by
 obtain⟨v,e,hk⟩:=h
 obtain⟨⟨a,c⟩,e⟩:=z9B e
 exact k a c ⟨v,e,hk⟩
theorem zBv{n:Nat}{x:Option ρ}(k:n<=140737488355328->n<=4611686018427387904->Run x K->G)(h:Run (chk (z1C 1 n) x) K):G:=zBw (fun a b=>k (by omega) b) h
theorem zEX{b l:Int}{x:Option ρ}(k:0<=l->l<=140737488355328->b*l<=140737488355328->max l 0=l->Run x K->G)(h:Run (chk (z0S b l) x) K):G:=by
 obtain⟨v,e,hk⟩:=h
 obtain⟨⟨a,c,d⟩,e⟩:=z9B e
 exact k a c d (by omega) ⟨v,e,hk⟩
theorem zEb{l:Int}{x:Option ρ}(k:0<=l->l<=140737488355328->max l 0=l->Run x K->G)(h:Run (chk (z0S 1 l) x) K):G:=zEX (fun a b _ d=>k a b d) h
theorem zE9{i:Int}{n:Nat}{x:Option ρ}(k:0<=i->i<(n:Int)->i.toNat<n->i.toNat+1<=n->Run x K->G)(h:Run (chk (0<=i/\i<(n:Int)) x) K):G:=by
 obtain⟨v,e,hk⟩:=h
 obtain⟨⟨a,c⟩,e⟩:=z9B e
 exact k a c (by omega) (by omega) ⟨v,e,hk⟩
theorem zBr{i n:Int}{x:Option ρ}(k:0<=i->i<n->i.toNat<n.toNat->i.toNat+1<=n.toNat->Run x K->G)(h:Run (chk (0<=i/\i<n) x) K):G:=by
 obtain⟨v,e,hk⟩:=h
 obtain⟨⟨a,c⟩,e⟩:=z9B e
 exact k a c (by omega) (by omega) ⟨v,e,hk⟩
theorem zEh{p:Prop}[Decidable p]{x:Option ρ}(k:p->Run x K->G)(h:Run (chk p x) K):G:=by
 obtain⟨v,e,hk⟩:=h
 obtain⟨a,e⟩:=z9B e
 exact k a ⟨v,e,hk⟩
theorem zEa{α:Type}{xs:List α}{i:Nat}{f:α->Option ρ}(k:∀v,i<xs.length->i+1<=xs.length->xs[i]? =some v->(∀hh:i<xs.length,xs[i]'hh=v)->Run (f v) K->G)(h:Run ((atI xs (i:Int)).bind f) K):G:=by
 obtain⟨r,e,hk⟩:=h
 obtain⟨v,⟨a,b,c,d⟩,e⟩:=zxV e
 exact k v a b c d ⟨r,e,hk⟩
theorem zGl{α:Type}{xs:List α}{i:Int}{f:α->Option ρ}(k:∀v,0<=i->i<xs.length->i.toNat+1<=xs.length->xs[i.toNat]? =some v->(∀hh:i.toNat<xs.length,xs[i.toNat]'hh=v)->Run (f v) K->G)(h:Run ((atI xs i).bind f) K):G:=by
 obtain⟨r,e,hk⟩:=h
 obtain⟨v,⟨a,b,c,d,d2⟩,e⟩:=za9 e
 exact k v a b c d d2 ⟨r,e,hk⟩
theorem zBy{s:ByteArray}{i:Int}{f:Int->Option ρ}(k:∀v,0<=i->i<s.size->(∃b,s[i.toNat]? =some b/\v=(b.toNat:Int))->(∀hh:i.toNat<s.size,((s[i.toNat]'hh).toNat:Int)=v)->Run (f v) K->G)(h:Run ((zhA s i).bind f) K):G:=by
 obtain⟨r,e,hk⟩:=h
 obtain⟨v,e1,e2⟩:=z2E e
 obtain⟨a,b,c,d1,d2,d3⟩:=zrF e1
 exact k v a b ⟨c,d1,d2⟩ d3 ⟨r,e2,hk⟩
theorem zzy{α:Type}{xs:List α}{i:Int}{v:α}{f:α->Option ρ}(hv:xs[i.toNat]? =some v)(hi:0<=i)(k:Run (f v) K->G)(h:Run ((atI xs i).bind f) K):G:=by
 obtain⟨r,e,hk⟩:=h
 unfold atI at e
 rw[if_pos hi,hv] at e
 exact k ⟨r,e,hk⟩
theorem zBt{α:Type}{xs:List α}{i:Nat}{v:α}{f:α->Option ρ}(hv:xs[i]? =some v)(k:Run (f v) K->G)(h:Run ((atI xs (i:Int)).bind f) K):G:=zzy (i:=(i:Int)) hv (Int.natCast_nonneg i) k h
theorem zGm{α:Type}{xs:List α}{v:α}{f:α->Option ρ}(hv:xs[0]? =some v)(k:Run (f v) K->G)(h:Run ((atI xs 0).bind f) K):G:=zzy (i:=0) hv (Int.le_refl 0) k h
theorem zzw{α:Type}{e:Option α}{v:α}{f:α->Option ρ}(hv:e=some v)(k:Run (f v) K->G)(h:Run (e.bind f) K):G:=by subst hv;exact k h
theorem zBx{α:Type}{e:Option α}{S:α->Prop}[Ok e S]{f:α->Option ρ}(k:∀v,e=some v->S v->Run (f v) K->G)(h:Run (e.bind f) K):G:=by
 obtain⟨r,e1,hk⟩:=h
 obtain⟨v,e2,e3⟩:=z2E e1
 exact k v e2 (Ok.ok v e2) ⟨r,e3,hk⟩
theorem zGk{p:Prop}[Decidable p]{x y:Option ρ}(k:(p=True)->Run x K->G)(k2:(p=False)->Run y K->G)(h:Run (if p then x else y) K):G:=by
 by_cases c:p
 · rw[if_pos c] at h;exact k (eq_true c) h
 · rw[if_neg c] at h;exact k2 (eq_false c) h
theorem p_0{α:Type}{xs:List α}{f:α->Option ρ}(k:∀v,0<xs.length->xs≠ []->xs[0]? =some v->(∀hh:0<xs.length,xs[0]'hh=v)->Run (f v) K->G)(h:Run ((atI xs 0).bind f) K):G:=by
 obtain⟨r,e,hk⟩:=h
 obtain⟨v,⟨b,c,d,d2⟩,e⟩:=zxV (i:=0) e
 exact k v b (ZJ.1 b) d d2 ⟨r,e,hk⟩
theorem zEc{α:Type}{xs:List α}{i:Nat}{f:α->Option ρ}(k:∀v,(OfNat.ofNat i:Nat)<xs.length->xs≠ []->xs[(OfNat.ofNat i:Nat)]? =some v->(∀hh:(OfNat.ofNat i:Nat)<xs.length,xs[(OfNat.ofNat i:Nat)]'hh=v)->Run (f v) K->G)(h:Run ((atI xs (OfNat.ofNat i:Int)).bind f) K):G:=by
 obtain⟨r,e,hk⟩:=h
 obtain⟨v,⟨b,c,d,d2⟩,e⟩:=zxV (i:=i) e
 exact k v b (ZJ.1 (YR (Y6 _) b)) d d2 ⟨r,e,hk⟩
class IsS(α:Type):Prop
theorem zEj{α:Type}[IsS α]{xs:List α}{i:Int}{f:α->Option ρ}(k:∀v,0<=i->i<xs.length->i.toNat+1<=xs.length->xs[i.toNat]? =some v->(∀m,i.toNat*m+m<=xs.length*m)->(∀(g:α->List T) (m:Nat),(∀x,(g x).length=m)->((xs.flatMap g).drop (i.toNat*m)).take m=g v)->
 (∀(g:α->List T) (m j:Nat),(∀x,(g x).length=m)->j<m->(xs.flatMap g)[i.toNat*m+j]? =(g v)[j]?)->(∀(g:α->List T) (m:Nat),(∀x,(g x).length=m)->0<m->(xs.flatMap g)[i.toNat*m]? =(g v)[0]?)->Run (f v) K->G) (h:Run ((atI xs i).bind f) K):G:=by
 obtain⟨r,e,hk⟩:=h
 obtain⟨v,⟨a,b,c,d,d2⟩,e⟩:=za9 e
 refine k v a b c d (fun m=> ?_) (fun g m hg=>(zhj hg d).2.1) (fun g m j hg hj=>(zhj hg d).2.2.1 j hj) (fun g m hg hj=>(zhj hg d).2.2.1 0 hj) ⟨r,e,hk⟩
 calc i.toNat*m+m=(i.toNat+1)*m:=by rw[Yl,Nat.one_mul]
  _<=_:=Yj _ c
theorem ziW{α:Type}{xs:List α}{v:α}(h:xs[0]? =some v)(g:α->List T):∃r,xs.flatMap g=g v++r:=by
 cases xs with
 |nil=>cases h
 |cons a l=>
  simp at h;subst h
  exact⟨l.flatMap g,Y4 ..⟩
theorem zBz{α:Type}[IsS α]{xs:List α}{f:α->Option ρ}(k:∀v,0<xs.length->xs≠ []->xs[0]? =some v->(∀(g:α->List T) (j:Nat),j<(g v).length->(xs.flatMap g)[j]? =(g v)[j]?)->(∀(g:α->List T) (m:Nat),m=(g v).length->(xs.flatMap g).take m=g v)->Run (f v) K->G)(h:Run ((atI xs 0).bind f) K):G:=by
 obtain⟨r,e,hk⟩:=h
 obtain⟨v,⟨b,c,d,d2⟩,e⟩:=zxV (i:=0) e
 refine k v b (ZJ.1 b) d (fun g j hj=> ?_) (fun g m hm=> ?_) ⟨r,e,hk⟩
 · obtain⟨q,hq⟩:=ziW d g
   rw[hq,ZK hj]
 · obtain⟨q,hq⟩:=ziW d g
   subst hm
   rw[hq,List.take_left]
theorem zEi{α:Type}{l:List α}{j:Nat}{a:α}{i:Int}{f:α->Option ρ}(k:∀v,0<=i->i<l.length->i.toNat+1<=l.length->(∀(g:α->T) hh,((l.map g).set j (g a))[i.toNat]'hh=g v)->(∀(g:α->T),((l.map g).set j (g a))[i.toNat]? =some (g v))->Run (f v) K->G)(h:Run ((atI (l.set j a) i).bind f) K):G:=by
 obtain⟨r,e,hk⟩:=h
 obtain⟨v,⟨x,b,c,d,d2⟩,e⟩:=za9 e
 rw[X9] at b c
 have key:∀(g:α->T),((l.map g).set j (g a))[i.toNat]? =some (g v):=fun g=>by rw[←List.map_set,Zd,d];rfl
 exact k v x b c (fun g hh=>(Z9.1 (key g)).2) key ⟨r,e,hk⟩
theorem zEk{α:Type}{l:List α}{a:α}{i:Int}{f:α->Option ρ}(k:∀v,0<=i->i<(l.length:Int)+1->i.toNat<=l.length->(∀(g:α->T) hh,(l.map g++ [g a])[i.toNat]'hh=g v)->(∀g:α->T,(l.map g++ [g a])[i.toNat]? =some (g v))->Run (f v) K->G)(h:Run ((atI (l++ [a]) i).bind f) K):G:=by
 obtain⟨r,e,hk⟩:=h
 obtain⟨v,⟨x,b,c,d,d2⟩,e⟩:=za9 e
 rw[Zb,ZD] at b c
 have key:∀(g:α->T),(l.map g++ [g a])[i.toNat]? =some (g v):=fun g=>by
  have:=congrArg (Option.map g) d
  rwa [←Zd,Y0] at this
 exact k v x (by omega) (by omega) (fun g hh=>(Z9.1 (key g)).2) key ⟨r,e,hk⟩
theorem zwT{α:Type}{xs:List α}{l u:Int}{f:List α->Option ρ}(k:∀v:List α,0<=l->l<=u->u<=xs.length->0<=u->l<=(u.toNat:Int)->l<=max u 0->(∀g:α->T,((xs.map g).drop l.toNat).take (u.toNat-l.toNat)=v.map g)->(∀g:α->T,T.sl (u.toNat-l.toNat) (v.map g)=T.sl v.length (v.map g))->Run (f v) K->G)(h:Run ((z6O xs l u).bind f) K):G:=by
 obtain⟨r,e,hk⟩:=h
 obtain⟨v,e1,e2⟩:=z2E e
 obtain⟨a,b,c,-⟩:=z6i e1
 obtain⟨d,g⟩:=zdh a b
 exact k v a b c d g (by omega) (fun g=>zey e1) (fun g=>zex e1 g) ⟨r,e2,hk⟩
theorem zwU{α:Type}[IsS α]{xs:List α}{l u:Int}{f:List α->Option ρ}(k:∀v:List α,0<=l->l<=u->u<=xs.length->0<=u->l<=(u.toNat:Int)->l<=max u 0->(∀(g:α->List T) (m:Nat),(∀x,(g x).length=m)->((xs.flatMap g).drop (l.toNat*m)).take ((u.toNat-l.toNat)*m)=v.flatMap g)->(∀g:α->List T,T.sl (u.toNat-l.toNat) (v.flatMap g)=T.sl v.length (v.flatMap g))->Run (f v) K->G)(h:Run ((z6O xs l u).bind f) K):G:=by
 obtain⟨r,e,hk⟩:=h
 obtain⟨v,e1,e2⟩:=z2E e
 obtain⟨a,b,c,-⟩:=z6i e1
 obtain⟨d,g⟩:=zdh a b
 exact k v a b c d g (by omega) (fun g m hg=>zn8 hg e1) (fun g=>zqO e1 g) ⟨r,e2,hk⟩
theorem zwS{s:ByteArray}{l u:Int}{f:ByteArray->Option ρ}(k:∀v,0<=l->l<=u->u<=s.size->0<=u->l<=(u.toNat:Int)->l<=max u 0->s.extract l.toNat u.toNat=v->Run (f v) K->G)(h:Run ((zoD s l u).bind f) K):G:=by
 obtain⟨r,e,hk⟩:=h
 obtain⟨v,e1,e2⟩:=z2E e
 obtain⟨a,b,c,d⟩:=zn6 e1
 obtain⟨d1,g⟩:=zdh a b
 exact k v a b c d1 g (by omega) d.symm ⟨r,e2,hk⟩
theorem zzx{α β:Type}{e:Option (α⊕β)}{S:α⊕β->Prop}[Ok e S]{f:α⊕β->Option ρ}(k:∀v,S (.inl v)->Run (f (.inl v)) K->G)(k2:∀v,S (.inr v)->Run (f (.inr v)) K->G)(h:Run (e.bind f) K):G:=by
 obtain⟨r,e1,hk⟩:=h
 obtain⟨v,e2,e3⟩:=z2E e1
 cases v with
 |inl v=>exact k v (Ok.ok _ e2) ⟨r,e3,hk⟩
 |inr v=>exact k2 v (Ok.ok _ e2) ⟨r,e3,hk⟩
theorem zEe{α:Type}{m:Option α}{x y:Option ρ}(k:m.isSome=true->Run x K->G)(k2:m=none->Run y K->G)(h:Run (if m.isSome=true then x else y) K):G:=by
 cases m with
 |some v=>exact k rfl (by simpa using h)
 |none=>exact k2 rfl (by simpa using h)
theorem zEf{b:Bool}{x y:Option ρ}(k:b=true->Run x K->G)(k2:b=false->Run y K->G)(h:Run (if b=true then x else y) K):G:=by
 cases b with
 |true=>exact k rfl (by simpa using h)
 |false=>exact k2 rfl (by simpa using h)
theorem zEg{α:Type}{xs:List α}{x y:Option ρ}(k:((xs.length:Int)=0)=True->xs= []->Run x K->G)(k2:((xs.length:Int)=0)=False->xs≠ []->Run y K->G)(h:Run (if(xs.length:Int)=0 then x else y) K):G:=by
 by_cases c:(xs.length:Int)=0
 · rw[if_pos c] at h;exact k (eq_true c) (Y3 (by omega)) h
 · rw[if_neg c] at h;exact k2 (eq_false c) (fun e=>c (by rw[e];rfl)) h
theorem zEd{α:Type}{xs:List α}{x y:Option ρ}(k:((0:Int)<(xs.length:Int))=True->xs≠ []->0<xs.length->Run x K->G)(k2:((0:Int)<(xs.length:Int))=False->xs= []->Run y K->G)(h:Run (if(0:Int)<(xs.length:Int) then x else y) K):G:=by
 by_cases c:(0:Int)<(xs.length:Int)
 · rw[if_pos c] at h;exact k (eq_true c) (fun e=>by subst e;simp at c) (by omega) h
 · rw[if_neg c] at h;exact k2 (eq_false c) (Y3 (by omega)) h
theorem zBu{κ ν:Type}[DecidableEq κ]{q:κ}{m:List (κ×ν)}{f:ν->Option ρ}{y:Option ρ}(k:∀v,z7G q m=some v->zrp q m=some (q,v)->Run (f v) K->G)(k2:z7G q m=none->zrp q m=none->Run y K->G)(h:Run ((z7G q m).elim y f) K):G:=by
 have e:=zhe q m
 have hk:∀l:List (κ×ν),∀p,zrp q l=some p->p.1=q:=by
  intro l
  induction l with
  |nil=>intro p hp;cases hp
  |cons a l ih=>
   intro p hp
   simp only[zrp] at hp
   split at hp
   · rename_i ha;cases hp;exact ha
   · exact ih p hp
 cases hp:zrp q m with
 |none=>
  rw[hp] at e
  rw[←e] at h
  exact k2 e.symm hp h
 |some p=>
  rw[hp] at e
  rw[←e] at h
  have h1:=hk m p hp
  exact k p.2 e.symm (by rw[hp,←h1]) h
theorem zBq{v:ρ}(k:K v->G)(h:Run (some v) K):G:=by
 obtain⟨r,e,hk⟩:=h
 cases e;exact k hk
theorem zBs(h:Run none K):G:=by
 obtain⟨r,e,hk⟩:=h
 cases e
theorem z3p{x:Option ρ}{r:ρ}(h:x=some r):Run x (·=r):=⟨r,h,rfl⟩
theorem zqM{α β:Type}{P:α×β->Prop}(h:∀a,∀b,P (a,b)):∀s:α×β,P s:=fun s=>h s.1 s.2
end
theorem zsq{α β:Type}{P:α⊕β->Prop}(h1:∀a,P (.inl a))(h2:∀b,P (.inr b)):∀s:α⊕β,P s:=fun s=>by
 cases s with
 |inl a=>exact h1 a
 |inr b=>exact h2 b
theorem ztu{α:Type}{P:Option α->Prop}(h1:∀_:Unit,P none)(h2:∀a,P (some a)):∀s:Option α,P s:=fun s=>by
 cases s with
 |none=>exact h1 ()
 |some a=>exact h2 a
section
variable {P:Program} {C:z0g} {cf:Cfg} {LF:Nat} {c:Code} {fr:Fr} {Q:X->Fr->Prop} {σ ρ:Type} {K:ρ->Prop} {o:σ⊕ρ} {H:σ->Fr} {cn:Fr->Fr}
theorem zGj{s:σ}(h:Run (z0c s:Option (σ⊕ρ)) (RK o K))(e:cn fr=H s):zda H cn o Q .n fr:=by
 obtain⟨r,e1,e2⟩:=h
 have:=z5p e1
 exact z6v (e2.eq.symm.trans this) e
theorem zGh{i:Nat}{x:Option ρ}(k:Run x K->Q (.x i) fr)(h:Run (z0d x:Option (σ⊕ρ)) (RK o K)):zda H cn o Q (.x i) fr:=by
 obtain⟨r,e1,e2⟩:=h
 obtain⟨v,e3,rfl⟩:=z6p e1
 exact z8a (e2.eq.symm) (k ⟨v,e3,e2.k _ rfl⟩)
theorem zGi{x:Option ρ}(k:Run x K->Q .r fr)(h:Run (z0d x:Option (σ⊕ρ)) (RK o K)):zda H cn o Q .r fr:=by
 obtain⟨r,e1,e2⟩:=h
 obtain⟨v,e3,rfl⟩:=z6p e1
 exact zwK (e2.eq.symm) (k ⟨v,e3,e2.k _ rfl⟩)
end
def zBj{α:Type}(k:Nat)(v:α):List (Nat×α)->List (Nat×α)
 | []=> []
 |(j,u)::r=>if j=k then(j,v)::r else(j,u)::zBj k v r
def zAJ{α:Type}:List (Nat×α)->List (Nat×α)->List (Nat×α)
 | [],l=>l
 |(k,v)::r,l=>zAJ r (zBj k v l)
def zyY(x:List (Nat×E)×List (Nat×T))(fr:Fr):Fr:= {fr with tm:=zAJ x.1 fr.tm,ob:=zAJ x.2 fr.ob}
class Hd{σ ρ:Type}(b:σ->Option (σ⊕ρ)) where
 H:σ->List (Nat×E)×List (Nat×T)
variable{fr1:Fr}{i k m:Nat}{g:Option (Option Nat×Bool)}{rest t:SchT}
section
variable {P:Program} {C:z0g} {cf:Cfg} {LF:Nat} {c:Code} {fr fr0:Fr} {Q:X->Fr->Prop} {σ ρ:Type} {K:ρ->Prop}
theorem zzp{lv:List Nat}{body:σ->Option (σ⊕ρ)}[hd:Hd body]{s0:σ}(hk:zds c=5)(hv:cf.live (zca (lpC c))=some lv)(h:Run (z0h body LF s0) K)
 (hf:za6 (some lv) fr=fr0) (h0:fr0=zyY (Hd.H body s0) fr0) (round:∀s,∀o,Run (body s) (RK o K)->wpC P C cf LF (lpC c) (zyY (Hd.H body s) fr0) (zda (fun s=>zyY (Hd.H body s) fr0) (za6 (some lv)) o Q)):wpC P C cf LF c fr Q:=by
 obtain⟨r,e,hk2⟩:=h
 exact z9F e (fun s=>zyY (Hd.H body s) fr0) hk hv (hf.trans h0) fun s o h1 h2=>round s o ⟨o,h1,rfl,fun r' e'=>by rw[h2 r' e'];exact hk2⟩
end
@[simp] theorem zwq{α:Type}(c:Nat):∀l:List α,(l.map fun _=>c).sum=l.length*c
  | []=>by simp
  |x::l=>by simp only[Zq,List.sum_cons,zwq c l,Zs,Yl];omega
abbrev xI(x:Int):E:=.one (.t none (.sc (.int .i64 x)))
abbrev xS(x:ByteArray):E:=.one (.t none (.sc (.string x)))
theorem zGe{a b:Fr}(h:zbY a b):zbY a b:=h
section
variable {P:Program} {C:z0g} {cf:Cfg} {LF:Nat} {c:Code} {fr:Fr}
theorem zEQ{Q:X->Fr->Prop}{id:Nat}(h:z9D id Q (.x i) fr):z9D id Q (.x i) fr:=h
theorem zDT{Q:X->Fr->Prop}(h:wpC P C cf LF c fr Q):wpC P C cf LF c fr Q:=h
theorem zEB{wio:FuncId->Nat->Bool}{M:List Nat}{ops:Array Oper}{l:List (Nat×Nat)}{Q:Fr->Prop}(h:za2 P C wio M ops l fr Q):za2 P C wio M ops l fr Q:=h
theorem zDZ{l:List Oper}{Q:Fr->Prop}(h:∃fr2,z7J P l fr=some fr2/\Q fr2):∃fr2,z7J P l fr=some fr2/\Q fr2:=h
theorem tpN{Q:Fr->Prop}(e:t= .nil)(h:Q fr):z7S P C cf c i t fr Q:=by subst e;exact zgh h
theorem tpA{a b:SchT}{Q:Fr->Prop}(e:t= .alt a b)(h:z7S P C cf c i a fr (fun x=>z7S P C cf c i b fr (fun y=>zbY x y)/\Q x)):z7S P C cf c i t fr Q:=by subst e;exact zgi h
theorem tpO{o:Oper}{Q:Fr->Prop}(e:t= .op k m rest)(ho:ziN c k=some o)(hg:o.guard=none)(hs:z0x P C cf.wio (cf.wr i).isEmpty (cf.wr i).contains fr o m=some fr1)(h:z7S P C cf c i rest fr1 Q):z7S P C cf c i t fr Q:=by subst e;exact zeh ho hg hs h
theorem tpT{o:Oper}{Q:Fr->Prop}(e:t= .op k m rest)(ho:ziN c k=some o)(hg:zyF c o=some g)(hv:zuY g fr=some true)(hs:z0x P C cf.wio (cf.wr i).isEmpty (cf.wr i).contains fr o m=some fr1)(h:z7S P C cf c i rest fr1 Q):z7S P C cf c i t fr Q:=by subst e;exact zDX ho hg hv hs h
theorem tpF{o:Oper}{Q:Fr->Prop}(e:t= .op k m rest)(ho:ziN c k=some o)(hg:zyF c o=some g)(hv:zuY g fr=some false)(hs:nrmO? (putF fr o.dst (.one (.k undef)))=some fr1)(h:z7S P C cf c i rest fr1 Q):z7S P C cf c i t fr Q:=by subst e;exact zDY ho hg hv hs h
theorem zED{Q:Fr->Prop}(h:z7S P C cf c i t fr Q):z7S P C cf c i t fr Q:=h
end
theorem zrV{G:Prop}(g:G:=by
 repeat' (first
  |with_reducible refine z0m ?_
  |with_reducible refine z8Y ?_
  |with_reducible refine zje ?_
  |with_reducible refine z6d ?_
  |((with_reducible refine zEQ ?_);first|refine z4y rfl ?_|refine zhC rfl ?_)
  |with_reducible refine zpF ?_
  |(revert h;with_reducible refine zGh fun h=> ?_)
  |(revert h;with_reducible refine zGi fun h=> ?_)
  |((with_reducible refine zGj h ?_);simp[*,zyY,zAJ,zBj,Hd.H];done)
  |(revert h;first
   |with_reducible refine zBs
   |with_reducible refine zBv fun _ _ h=> ?_
   |with_reducible refine zBw fun _ _ h=> ?_
   |with_reducible refine zEb fun _ _ _ h=> ?_
   |with_reducible refine zEX fun _ _ _ _ h=> ?_
   |with_reducible refine zE9 fun _ _ _ _ h=> ?_
   |with_reducible refine zBr fun _ _ _ _ h=> ?_
   |with_reducible refine zEh fun _ h=> ?_
   |with_reducible refine zzy (by assumption) (by assumption) fun h=> ?_
   |with_reducible refine zBt (by assumption) fun h=> ?_
   |with_reducible refine zGm (by assumption) fun h=> ?_
   |with_reducible refine zzw (by assumption) fun h=> ?_
   |with_reducible refine zBz fun _ _ _ _ k k1 h=> ?_
   |with_reducible refine zEj fun _ _ _ _ _ _ k k1 k2 h=> ?_
   |with_reducible refine zEi fun _ _ _ _ k k1 h=> ?_
   |with_reducible refine zEk fun _ _ _ _ k k1 h=> ?_
   |with_reducible refine p_0 fun _ _ _ _ _ h=> ?_
   |with_reducible refine zEc fun _ _ _ _ _ h=> ?_
   |with_reducible refine zEa fun _ _ _ _ _ h=> ?_
   |with_reducible refine zGl fun _ _ _ _ _ _ h=> ?_
   |with_reducible refine zBy fun _ _ _ _ _ h=> ?_
   |((with_reducible refine zwU fun _ _ _ _ _ _ _ k k2 h=> ?_);try simp at k;try simp only[Int.reduceToNat,Z2,YL] at k2)
   |((with_reducible refine zwT fun _ _ _ _ _ _ _ k k2 h=> ?_);try simp at k;try simp only[Int.reduceToNat,Z2,YL] at k2)
   |((with_reducible refine zwS fun _ _ _ _ _ _ _ k h=> ?_);try simp only[Int.reduceToNat,Z2] at k)
   |((with_reducible refine zzx (fun _ k h=> ?_) fun _ k h=> ?_)<;>(try simp at k))
   |((with_reducible refine zBx fun _ _ k h=> ?_);try simp at k))
  |((with_reducible refine zDT ?_);first
   |refine zq rfl ?_
   |refine zb rfl ?_
   |refine zzo rfl ?_
   |refine z8v rfl ?_
   |refine ztk rfl ?_
   |refine zb3 rfl ?_
   |refine zn5 rfl ?_
   |refine zr rfl rfl rfl (by simp[*];with_reducible rfl) ?_
   |refine zaq rfl rfl rfl rfl ?_
   |refine zlB rfl rfl rfl rfl ?_
   |refine zcr rfl (by first|(simp[*];done)|fail) ?_
   |refine zcs rfl (by first|(simp[*];done)|fail) ?_
   |refine ztl rfl rfl (by simp[*];rfl) ?_
   |(refine zzp rfl rfl h (by simp[*];rfl) (by first|(simp[*,zyY,zAJ,zBj,Hd.H];done)|fail) ?_;clear h;(repeat' (first|refine zqM fun _=> ?_|refine zsq ?_ ?_|refine ztu ?_ ?_));all_goals (intro _ _ h;simp only[zyY,zAJ,zBj,Hd.H,Nat.reduceEqDiff,if_true,if_false])))
  |((with_reducible refine zEB ?_);first
   |(refine z6w rfl rfl fun Q' hQ=> ?_;simp[*];refine hQ.out _ ?_;clear hQ;clear Q')
   |(refine zde rfl rfl fun Q1 Q2 h1 h2=> ?_;simp[*,zcO];(first|refine h1.out ?_|refine h2.out ?_);clear h1 h2;clear Q1 Q2;intro Q' hQ;simp[*];refine hQ.out _ ?_;clear hQ;clear Q')
   |(refine z5E rfl fun Q' hQ=> ?_;simp[*];refine hQ.out _ ?_;clear hQ;clear Q'))
  |((with_reducible refine zED ?_);first
   |refine tpN rfl ?_
   |refine tpA rfl ?_
   |refine tpO rfl rfl rfl (by simp[*,z0x,z0y];rfl) ?_
   |refine tpT rfl rfl rfl (by first|(simp[*];done)|fail) (by simp[*,z0x,z0y];rfl) ?_
   |refine tpF rfl rfl rfl (by first|(simp[*];done)|fail) (by simp[*];rfl) ?_)
  |((with_reducible refine zDZ ?_);refine zl8 rfl (by simp[*];rfl) ?_)
  |((with_reducible refine And.intro ?_ ?_);rotate_left)
  |((with_reducible refine zGe ?_);simp[*,zbY];done)
  |(revert h;with_reducible refine zBu (fun _ _ _ h=> ?_) fun _ _ h=> ?_)
  |(revert h;first
   |with_reducible refine zEe (fun _ h=> ?_) fun _ h=> ?_
   |with_reducible refine zEf (fun _ h=> ?_) fun _ h=> ?_
   |with_reducible refine zEg (fun _ _ h=> ?_) fun _ _ h=> ?_
   |with_reducible refine zEd (fun _ _ _ h=> ?_) fun _ _ h=> ?_
   |with_reducible refine zGk (fun _ h=> ?_) fun _ h=> ?_
   |((with_reducible refine zBq fun h=> ?_);cases h;simp[*];done)))):G:=g
end
section
open Go
structure Tape where
 l:List Int
 at_:Int
deriving Inhabited
structure DFA where
 letters:Int
 start:Int
 final:List Bool
 next:List (List Int)
deriving Inhabited
structure Imgs where
 sets:List Int
 class_:List Int
 height:List Int
 tiles:List (List Int)
 words:List ByteArray
 back:List ByteArray
deriving Inhabited
structure Dgm where
 sets:List Int
 next:List (List Int)
 below:List (List Bool)
deriving Inhabited
structure Hol where
 set:Int
 tiles:List Int
 words:List ByteArray
 perms:List (List Int)
deriving Inhabited
instance:IsS Hol:=⟨⟩
end
section
open Go
abbrev tI(l:List Int):T:=.sl l.length (l.map fun x=>.sc (.int .i64 x))
abbrev tO(l:List Int):T:=.os 1 l.length (l.map fun x=>.sc (.int .i64 x))
abbrev tR(l:List (List Int)):T:=.sl l.length (l.map fun x=>.sl x.length (x.map fun y=>.sc (.int .i64 y)))
abbrev tB(l:List Bool):T:=.sl l.length (l.map fun x=>.sc (.bool x))
abbrev tS(l:List ByteArray):T:=.sl l.length (l.map fun x=>.sc (.string x))
abbrev md(a b:Int):Int:=IntKind.i64.wrap (z1D .u64 (IntKind.u64.wrap (IntKind.i64.wrap (a+b))) 1)
attribute [simp] tI tO tR tB tS
end
section
attribute [simp] undef scB ext z2g z4r Function.comp_def zj4 zmG zfe zmB nav sub upd z6c z8X z3l z8N z2l zmi z7g zBV z7D zbd zf8 znJ onA kill z6e ziH zem z7o zaS zeC zAb z7a zdt zdg zxd zcA zdK setT moveT moveR mvA zqN zoC plugL' zru znf z7j zBK zBJ zyy zC7 zC5 nrmO? plugL putR zbf explode cellsE z6Q rdV scE zxR zoJ zEm zxQ zvQ zrk zr9 zrd zrb zra zrj zuP zr8 zjH zri zrc zre zrf zrg zrh zqw zqt zqu zqv zqx zpi zpj zpm zpn zsS zsT zsW zpl zsV zpk zsU zqR ziL rdK zsX zxn zv1 zwz zwA List.map_flatMap zoG zlH zpC z1i zC4 unS zEr zEs zht opE zAP zk5 zr2 zqQ ztg zGp zbM zp1 zwd zou zfB zDA zcb zuO zxF zAx zb1 zb7 zbZ z9G zfh zwb zzL zBL z9p freezeKids zAa ziC zpP zDO zhZ zuL zb6 zfg zbX z7c z7b z8R zsu ziB zbY zvT zkj zF0 zAI ztr zuM zhJ zkk zA8 zbU zkl zzZ zx2 zpD zDK znS zDm opn zhT z7N zoh zAB zvY zDP z5O zi6 zaK zhi clB ioF zE5 zDs zdM zb2 putF opF zfK z7z zuY zfd zc1 zca onE ids zi4 zi3 zaE zro za6 z7J zbb z9k z8w z9l zBl ztb zll zc0 zf4 zBC zqS zlF zjG zts zDD zBB zmw zBA zeK zpp zBp zjG zmy zDy zDC zDx zDB zEC zbc z0y wrF zdi noM zDQ frz1 zxq zA9 zdv zBm zjz zjv zcz zjt zuT zfv zB5 zxc zlW zxb zAM zfw zft zfs zdm zfu zgS zjy zju znC zvc zuZ zt0 zDh zvJ zDN zvK zmh zdn zcI znm zmf zj3 zAd zvh Option.map_some zjZ zvf
end
section
def Mo(C0 C1:z0g):Prop:=∀f a o,C0 f a=some o->C1 f a=some o
section
variable {P:Program} {C0 C1:z0g}
theorem zfI(hMo:Mo C0 C1){wio:FuncId->Nat->Bool}{fr fr':Fr}{f:FuncId}{args:List E}{dst:Option Nat}(h:zdM C0 wio fr f args dst=some fr'):Ev fun m=>zdM C1 wio fr f args dst=some fr':=by
 unfold zdM at h⊢
 split at h
 · cases h
 · rename_i ts deps io ha
   split at h
   · cases h
   · rename_i r outs hc
     refine⟨0,fun m _=> ?_⟩
     show(match C1 f ts with|none=>none|some (r,outs)=>_)=_
     rw[hMo _ _ _ hc]
     exact h
theorem ztv(hMo:Mo C0 C1){wio:FuncId->Nat->Bool}{fr fr':Fr}{o:Oper}(h:opF P C0 wio fr o=some fr'):Ev fun m=>opF P C1 wio fr o=some fr':=by
 unfold opF at h⊢
 split at h
 · exact .pure fun _=>h
 · split at h
   · exact zfI hMo h
   · cases h
 · exact .pure fun _=>h
 · exact .pure fun _=>h
 · exact .pure fun _=>h
theorem zpB(hMo:Mo C0 C1){wio:FuncId->Nat->Bool}{fr fr':Fr}{o:Oper}(h:zc1 P C0 wio fr o=some fr'):Ev fun m=>zc1 P C1 wio fr o=some fr':=by
 unfold zc1 at h⊢
 split at h
 · split at h
   · split at h
     · exact zfI hMo h
     · cases h
   · cases h
 · exact .pure fun _=>h
theorem zy7(hMo:Mo C0 C1){wio:FuncId->Nat->Bool}{M:Nat->Bool}{fr fr':Fr}{o:Oper}(h:wrF P C0 wio M fr o=some fr'):Ev fun m=>wrF P C1 wio M fr o=some fr':=by
 unfold wrF at h⊢
 split at h
 · split at h
   · cases h
   · split at h
     · exact zfI hMo h
     · split at h
       · rename_i hM
         simp only[hM,if_true]
         exact zfI hMo h
       · cases h
     · cases h
 · exact .pure fun _=>h
 · exact .pure fun _=>h
 · exact .pure fun _=>h
 · cases h
theorem zn4(hMo:Mo C0 C1){wio:FuncId->Nat->Bool}{ops:Array Oper}:∀ {l:List Oper} {fr fr':Fr},zfd P C0 wio ops l fr=some fr'->Ev fun m=>zfd P C1 wio ops l fr=some fr'
 | [],fr,fr',h=>.pure fun _=>h
 |o::rest,fr,fr',h=>by
  simp only[zfd] at h⊢
  split at h
  · cases h
  · split at h
    · rename_i fr1 h1
      exact(ztv hMo h1).both (zn4 hMo h) fun m a1 a2=>by rw[a1];exact a2
    · cases h
  · split at h
    · rename_i fr1 h1
      exact(zn4 hMo h)
    · cases h
theorem zfE(hMo:Mo C0 C1){wio:FuncId->Nat->Bool}{same:Bool}{M:Nat->Bool}{ops:Array Oper}:∀ {l:List (Nat×Oper×Nat)} {fr fr':Fr},zbc P C0 wio same M ops l fr=some fr'->Ev fun m=>zbc P C1 wio same M ops l fr=some fr'
 | [],fr,fr',h=>.pure fun _=>h
 |(k,o,mk)::rest,fr,fr',h=>by
  simp only[zbc] at h⊢
  split at h
  · cases h
  · split at h
    · exact zfE hMo h
    · cases h
  · split at h
    · rename_i hm
      simp only[if_pos hm]
      split at h
      · split at h
        · exact zfE hMo h
        · cases h
      · cases h
    · rename_i hm
      simp only[if_neg hm]
      split at h
      · rename_i fr1 h1
        have h2:Ev fun m=>(if mk=2 then opF P C1 wio fr o else if same=true then zc1 P C1 wio fr o else wrF P C1 wio M fr o)=some fr1:=by
         by_cases e:mk=2
         · simp only[if_pos e] at h1⊢;exact ztv hMo h1
         · simp only[if_neg e] at h1⊢
           by_cases e2:same=true
           · simp only[if_pos e2] at h1⊢;exact zpB hMo h1
           · simp only[if_neg e2] at h1⊢;exact zy7 hMo h1
        exact h2.both (zfE hMo h) fun m a1 a2=>by rw[a1];exact a2
      · cases h
theorem zbR(hMo:Mo C0 C1){wio:FuncId->Nat->Bool}{same:Bool}{M:Nat->Bool}{ops:Array Oper}:∀ {l:SchT} {fr fr':Fr},z7C P C0 wio same M ops l fr=some fr'->Ev fun m=>z7C P C1 wio same M ops l fr=some fr'
 | .nil,fr,fr',h=>.pure fun _=>h
 | .alt x y,fr,fr',h=>by
   simp only[z7C] at h⊢
   split at h
   · rename_i f1 f2 h1 h2
     obtain⟨rfl,hs⟩:=zez h
     exact(zbR hMo h1).both (zbR hMo h2) fun m a1 a2=>by rw[a1,a2];exact zfr hs
   · cases h
 | .op k mk rest,fr,fr',h=>by
   simp only[z7C] at h⊢
   split at h
   · cases h
   rename_i o ho
   try simp only[ho]
   split at h
   · cases h
   · split at h
     · exact zbR hMo h
     · cases h
   · split at h
     · rename_i hm
       simp only[if_pos hm]
       split at h
       · split at h
         · exact zbR hMo h
         · cases h
       · cases h
     · rename_i hm
       simp only[if_neg hm]
       split at h
       · rename_i fr1 h1
         have h2:Ev fun m=>(if mk=2 then opF P C1 wio fr o else if same=true then zc1 P C1 wio fr o else wrF P C1 wio M fr o)=some fr1:=by
          by_cases e:mk=2
          · simp only[if_pos e] at h1⊢;exact ztv hMo h1
          · simp only[if_neg e] at h1⊢
            by_cases e2:same=true
            · simp only[if_pos e2] at h1⊢;exact zpB hMo h1
            · simp only[if_neg e2] at h1⊢;exact zy7 hMo h1
         exact h2.both (zbR hMo h) fun m a1 a2=>by rw[a1];exact a2
       · cases h
theorem zrx(hMo:Mo C0 C1){c:Cfg}{id:Nat}{ops:Array Oper}{fr fr':Fr}(h:z9J P C0 c id ops fr=some fr'):Ev fun m=>z9J P C1 c id ops fr=some fr':=by
 unfold z9J at h⊢
 split at h
 · exact zbR hMo h
 · split at h
   · exact zfE hMo h
   · cases h
theorem zoW(hMo:Mo C0 C1){B:z0g->Fr->Option (X×Fr)}{cn:Fr->Fr}(hB:∀fr o,B C0 fr=some o->Ev fun m=>B C1 fr=some o):∀ {n:Nat} {fr:Fr} {o:X×Fr},zdx (B C0) cn n fr=some o->Ev fun m=>zdx (B C1) cn n fr=some o
 |0,fr,o,h=>by cases h
 |n+1,fr,o,h=>by
  simp only[zdx] at h⊢
  split at h
  · rename_i fr1 h1
    exact(hB _ _ h1).both (zoW hMo hB h) fun m a1 a2=>by rw[a1];exact a2
  · rename_i x fr1 hne h1
    refine(hB _ _ h1).imp fun m a1=> ?_
    rw[a1]
    cases x with
    |n=>exact absurd rfl hne
    |x i=>exact h
    |r=>exact h
  · cases h
theorem zk7(hMo:Mo C0 C1){c:Cfg}{LF:Nat}:∀(b:Code) {fr:Fr} {o:X×Fr},z2Q P C0 c LF b fr=some o->Ev fun m=>z2Q P C1 c LF b fr=some o:=by
 intro b
 induction b with
 |skip=>intro fr o h;exact .pure fun _=>h
 |label l=>intro fr o h;exact .pure fun _=>h
 |exit id=>intro fr o h;exact .pure fun _=>h
 |ret=>intro fr o h;exact .pure fun _=>h
 |goto l=>intro fr o h;cases h
 |scope c ih=>intro fr o h;simp only[z2Q] at h⊢;exact ih h
 |refuse s=>intro fr o h;cases h
 |rangeFunc=>intro fr o h;cases h
 |region id ops draw=>
  intro fr o h
  simp only[z2Q] at h⊢
  split at h
  · rename_i hd
    simp only[hd,if_true]
    split at h
    · rename_i fr1 h1
      exact(zrx hMo h1).imp fun m a1=>by rw[a1];exact h
    · cases h
  · rename_i hd
    simp only[hd,ZV,if_false]
    split at h
    · rename_i fr1 h1
      exact(zn4 hMo h1).imp fun m a1=>by rw[a1];exact h
    · cases h
 |seq a b ih1 ih2=>
  intro fr o h
  simp only[z2Q] at h⊢
  split at h
  · rename_i fr1 h1
    exact(ih1 h1).both (ih2 h) fun m a1 a2=>by rw[a1];exact a2
  · rename_i hne
    refine(ih1 h).imp fun m a1=> ?_
    rw[a1]
    obtain⟨x,fr1⟩:=o
    cases x with
    |n=>exact absurd h (hne _)
    |x i=>rfl
    |r=>rfl
 |cond c x y ih1 ih2=>
  intro fr o h
  simp only[z2Q] at h⊢
  split at h
  · exact ih1 h
  · exact ih2 h
  · cases h
 |block id c ih=>
  intro fr o h
  simp only[z2Q] at h⊢
  split at h
  · rename_i i fr1 h1
    exact(ih h1).imp fun m a1=>by rw[a1];exact h
  · rename_i hne
    refine(ih h).imp fun m a1=> ?_
    rw[a1]
    obtain⟨x,fr1⟩:=o
    cases x with
    |n=>rfl
    |x i=>exact absurd h (hne _ _)
    |r=>rfl
 |loop b ih=>
  intro fr o h
  simp only[z2Q] at h⊢
  exact zoW hMo (B:=fun C fr=>z2Q P C c LF b fr) (fun fr o h=>ih h) h
theorem zzh(hMo:Mo C0 C1){c:Cfg}{LF:Nat}{fn:Func}{args:List T}{o:T×List T}(h:zkr P C0 c LF fn args=some o):Ev fun m=>zkr P C1 c LF fn args=some o:=by
 unfold zkr at h⊢
 split at h
 · rename_i hc
   simp only[if_pos hc]
   split at h
   · cases h
   · rename_i b hb
     split at h
     · rename_i fr h1
       exact(zk7 hMo _ h1).imp fun m a1=>by rw[a1];exact h
     · rename_i fr h1
       exact(zk7 hMo _ h1).imp fun m a1=>by rw[a1];exact h
     · cases h
 · cases h
end
class XMo(X:z0g->z0g):Prop where
 mo:∀ {C D:z0g},Mo C D->Mo (X C) (X D)
instance{x:z0g}:XMo (fun _=>x):=⟨fun _=>fun _ _ _ h=>h⟩
theorem zzJ{D:z0g}:Mo (fun _ _=>none) D:=fun _ _ _ h=>by cases h
def tab:List (FuncId×List T×T×List T)->z0g
 | []=>fun _ _=>none
 |(g,b,r,os)::l=>fun f a=>if(Nat.beq g f&&znF b a)=true then some (r,os) else tab l f a
theorem zyo{C:z0g}:∀ {l:List (FuncId×List T×T×List T)},(∀x∈l,C x.1 x.2.1=some x.2.2)->Mo (tab l) C
 | [],_=>fun f a o h=>by cases h
 |(g,b,r,os)::l,hl=>fun f a o h=>by
  simp only[tab] at h
  split at h
  · rename_i hc
    simp only[Z5] at hc
    cases h
    have:=hl _ (Zz ..)
    rw[←ZS hc.1,←z9j hc.2]
    exact this
  · exact zyo (fun x hx=>hl x (Zp _ hx)) f a o h
noncomputable def zlU(P:Program)(X:z0g->z0g)(cf:FuncId->Option Cfg)(S:z0g):Nat->z0g
 |0=>S
 |n+1=>fun f a=>match S f a with
  |some o=>some o
  |none=>match cf f with
   |some c=>(match P.funcs[f]? with|some fn=>zkr P (zlU P X cf S n) c LFm fn a|none=>none)
   |none=>X (fun _ _=>none) f a
theorem zlT{P:Program}{X:z0g->z0g}[hx:XMo X]{cf:FuncId->Option Cfg}{S:z0g}(hS:Mo S (Lim P X cf)):∀n,Mo (zlU P X cf S n) (Lim P X cf)
 |0=>hS
 |n+1=>fun f a o h=>by
  simp only[zlU] at h
  split at h
  · rename_i o' ho
    cases h
    exact hS f a o ho
  · split at h
    · rename_i c hc
      split at h
      · rename_i fn hfn
        obtain⟨k,hk⟩:=zzh (zlT hS n) h
        exact zuD hc hfn (hk k (Z7 _))
      · cases h
    · rename_i hc
      exact zx7 hc ⟨0,fun m _=>hx.mo zzJ f a o h⟩
theorem zzV{P:Program}{X:z0g->z0g}[XMo X]{cf:FuncId->Option Cfg}(l:List (FuncId×List T×T×List T))(n:Nat){f:FuncId}{a:List T}{o:T×List T}(h:zlU P X cf (tab l) n f a=some o)(hl:∀x∈l,Lim P X cf x.1 x.2.1=some x.2.2):Lim P X cf f a=some o:=
 zlT (zyo hl) n f a o h
end
section
open Go
def zff:List T->Option (List Int)
 | []=>some []
 | .sc (.int .i64 x)::l=>(zff l).map (x:: ·)
 |_=>none
theorem zgW:∀xs:List Int,zff (xs.map fun x=>.sc (.int .i64 x))=some xs
 | []=>rfl
 |x::xs=>by simp[zff,zgW xs]
theorem z9c:∀ {cs:List T} {xs:List Int},zff cs=some xs->cs=xs.map fun x=>.sc (.int .i64 x)
 | [],xs,h=>by simp[zff] at h;subst h;rfl
 |c::cs,xs,h=>by
  unfold zff at h
  split at h
  · rename_i he;cases he
  · rename_i x l he
    cases he
    simp only[Z6] at h
    obtain⟨ys,hy,rfl⟩:=h
    simp[←z9c hy]
  · cases h
def szN(s:Nat):Nat:=(List.range 7).countP fun q=>s.testBit q
def zyP(p r:Nat):Bool:=decide (szN r<szN p)||(decide (szN p=szN r)&&decide (p<=r))
def leI(a b:Int):Bool:=zyP a.toNat b.toNat
def zxg(x:Int):List Int->List Int
 | []=> [x]
 |y::l=>if leI x y=true then x::y::l else y::zxg x l
def zd5:List Int->List Int
 | []=> []
 |x::l=>zxg x (zd5 l)
def zs0(xs:List Int):Option (List Int):=if xs≠ []/\xs.length<4611686018427387904/\xs.all (fun x=>decide (0<=x/\x<128))=true then some (zd5 xs) else none
def zyQ(fn:FuncId)(args:List T):Option (T×List T):=match args with
 | [.os 1 n cs,.sc (.func (.func f) fs gs)]=>if f=fn/\fs.isEmpty/\gs.isEmpty then(match zff cs with|some xs=>if xs.length=n then(zs0 xs).map fun ys=>(.tup [],[.os 1 ys.length (ys.map fun x=>.sc (.int .i64 x)),.dead]) else none|none=>none) else none
 |_=>none
def zhS(x:List Int):T:=.sl x.length (x.map fun z=>.sc (.int .i64 z))
def zt7:List T->Option (List (List Int))
 | []=>some []
 | .sl n cs::l=>(match zff cs with|some x=>if x.length=n then(zt7 l).map (x:: ·) else none|none=>none)
 |_=>none
theorem zlt:∀ {cs:List T} {xs:List (List Int)},zt7 cs=some xs->cs=xs.map zhS
 | [],xs,h=>by simp[zt7] at h;subst h;rfl
 |c::cs,xs,h=>by
  unfold zt7 at h
  split at h
  · rename_i he;cases he
  · rename_i n es l he
    cases he
    split at h
    case h_2=>cases h
    rename_i x hx
    split at h
    case isFalse=>cases h
    rename_i hn
    simp only[Z6] at h
    obtain⟨ys,hy,rfl⟩:=h
    subst hn
    rw[z9c hx,zlt hy,Zq,zhS]
  · cases h
def zA1(x:List Int):List (List Int)->List (List Int)
 | []=> [x]
 |y::l=>if z8K x y<=0 then x::y::l else y::zA1 x l
def z9E:List (List Int)->List (List Int)
 | []=> []
 |x::l=>zA1 x (z9E l)
def zpW(xs:List (List Int)):Option (List (List Int)):=if xs≠ []/\xs.length<4611686018427387904 then some (z9E xs) else none
def zyR(fn:FuncId)(args:List T):Option (T×List T):=match args with
 | [.os 1 n cs,.sc (.func (.func f) fs gs)]=>if f=fn/\fs.isEmpty/\gs.isEmpty then(match zt7 cs with|some xs=>if xs.length=n then(zpW xs).map fun ys=>(.tup [],[.os 1 ys.length (ys.map zhS),.dead]) else none|none=>none) else none
 |_=>none
def zaQ(xs:List Int):Option (List Int):=if xs≠ []/\xs.length<4611686018427387904 then some (xs.mergeSort fun x y=>decide (x<=y)) else none
def zo0(args:List T):Option (T×List T):=match args with
 | [.os 1 n cs]=>(match zff cs with|some xs=>if xs.length=n then(zaQ xs).map fun ys=>(.tup [],[.os 1 ys.length (ys.map fun x=>.sc (.int .i64 x))]) else none|none=>none)
 |_=>none
def zaR(xs:List Int):Option (List Int):=if xs.length*8<=140737488355328 then some xs else none
def zrT(args:List T):Option (T×List T):=match args with
 | [.sl n cs]=>(match zff cs with|some xs=>if xs.length=n then(zaR xs).map fun ys=>(.os 1 ys.length (ys.map fun x=>.sc (.int .i64 x)),[.dead]) else none|none=>none)
 |_=>none
def tzN(s:Nat):Nat:=(List.range 7).findIdx fun q=>s.testBit q
def vTz(x:Int):Option Int:=if 0<x/\x<128 then some ((tzN x.toNat:Nat):Int) else none
def xTz(args:List T):Option (T×List T):=match args with
 | [.sc (.int .u64 x)]=>(vTz x).map fun r=>(.sc (.int .i64 r),[.dead])
 |_=>none
def xtC:z0g:=fun f args=>if f=102 then xTz args else if f=175 then zyQ 176 args else if f=100 then zyR 101 args else if f=237 then zo0 args else if f=104 then zrT args else none
def z5b(r:List Int×T):List T:= [zhS r.1,r.2]
def zf5:List T->Option (List (List Int×T))
 | []=>some []
 | .sl n cs:: .sl m ds::l=>(match zff cs with|some x=>if x.length=n then(zf5 l).map ((x,.sl m ds):: ·) else none|none=>none)
 |_=>none
theorem ziK:∀ {cs:List T} {xs:List (List Int×T)},zf5 cs=some xs->cs=xs.flatMap z5b/\ ∀r∈xs,∃m ds,r.2= .sl m ds
 | [],xs,h=>by simp[zf5] at h;subst h;exact⟨rfl,fun r hr=>by cases hr⟩
 | [c],xs,h=>by cases c<;>simp[zf5] at h
 |c::d::l,xs,h=>by
  unfold zf5 at h
  split at h
  · rename_i he;cases he
  · rename_i n cs m ds l' he
    cases he
    split at h
    case h_2=>cases h
    rename_i x hx
    split at h
    case isFalse=>cases h
    rename_i hn
    rw[Z6] at h
    obtain⟨ys,hy,rfl⟩:=h
    obtain⟨e1,e2⟩:=ziK hy
    refine⟨?_,fun r hr=> ?_⟩
    · rw[Y4,←e1,z5b,zhS,z9c hx];subst hn;simp
    · rcases Zv.1 hr with rfl|hr
      · exact⟨_,_,rfl⟩
      · exact e2 r hr
  · cases h
theorem zgI:∀(xs:List (List Int×T)),(∀r∈xs,∃m ds,r.2= .sl m ds)->zf5 (xs.flatMap z5b)=some xs
 | [],_=>rfl
 |r::xs,h=>by
  obtain⟨p,t⟩:=r
  obtain⟨m,ds,e⟩:=h _ (Zz ..)
  simp only at e
  subst e
  rw[Y4]
  simp only[z5b,zhS,ZN,Ya,zf5,zgW,Z8,if_true]
  rw[zgI xs fun r hr=>h r (Zp _ hr)];rfl
def zA2(x:List Int×T):List (List Int×T)->List (List Int×T)
 | []=> [x]
 |y::l=>if z9u x.1 y.1<0 then x::y::l else y::zA2 x l
def z5N:List (List Int×T)->List (List Int×T)
 | []=> []
 |x::l=>zA2 x (z5N l)
def zkx(fn:FuncId)(args:List T):Option (T×List T):=match args with
 | [.os 2 n cs,.sc (.func (.func f) fs gs)]=>if f=fn/\fs.isEmpty/\gs.isEmpty then(match zf5 cs with|some xs=>if xs.length=n/\xs.length<4611686018427387904/\(xs.map (·.1)).Nodup then some (.tup [],[.os 2 (z5N xs).length ((z5N xs).flatMap z5b),.dead]) else none|none=>none) else none
 |_=>none
def zzl:T->Option (List Int×T)
 | .agg [.sl n l,.sl m ds]=>(match zff l with|some p=>if p.length=n then some (p,.sl m ds) else none|none=>none)
 |_=>none
def zlu:List T->Option (List (List Int×T))
 | []=>some []
 |t::l=>(match zzl t,zlu l with|some r,some rs=>some (r::rs)|_,_=>none)
theorem zta{t:T}{r:List Int×T}(h:zzl t=some r):t= .agg (z5b r)/\ ∃m ds,r.2= .sl m ds:=by
 unfold zzl at h
 split at h
 · split at h
   · rename_i p hp
     split at h
     · rename_i hn
       cases h
       subst hn
       exact⟨by rw[z9c hp];simp[z5b,zhS],_,_,rfl⟩
     · cases h
   · cases h
 · cases h
theorem ziG:∀ {l:List T} {rs:List (List Int×T)},zlu l=some rs->l=rs.map (fun r=>.agg (z5b r))/\ ∀r∈rs,∃m ds,r.2= .sl m ds
 | [],rs,h=>by simp[zlu] at h;subst h;exact⟨rfl,fun r hr=>by cases hr⟩
 |t::l,rs,h=>by
  rw[zlu] at h
  split at h
  · rename_i r rs' h1 h2
    cases h
    obtain⟨a1,a2⟩:=zta h1
    obtain⟨b1,b2⟩:=ziG h2
    refine⟨by rw[a1,b1];rfl,fun q hq=> ?_⟩
    rcases Zv.1 hq with rfl|hq
    · exact a2
    · exact b2 q hq
  · cases h
noncomputable def zzv(c:Code):Code:=.seq (zkq c) (.seq (zkq (zdS c)) (.seq (zkq (zdS (zdS c))) (zkq (zdS (zdS (zdS c))))))
noncomputable def zkc:Code:=match Tryz.f50.body with|some c=>c|none=>.skip
noncomputable def cfRw:Cfg:= {wio:=fun f i=>(f==105&&(i==0))||(f==999999&&(i==0))||(f==777781&&(i==8)),live:=fun r=>if r=3 then some [0,5,20,21,22] else if r=7 then some [0,5,7,8,20,21,22,27,28] else if r=16 then some [0,5,7,8,9,10,13,20,21,22,27,28,52,53,54] else if r=25 then some [16,77] else none,dr:=fun r=>if r=18 then some [(0,0),(1,0),(2,0),(3,0),(4,0),(5,0),(6,1),(7,2),(8,0),(9,2)] else none,fz:=fun r=>if r=20 then some [13] else if r=23 then some [5] else if r=999998 then some [] else none}
open Classical in
noncomputable def zo1(C:z0g)(args:List T):Option (T×List T):=
 match z2Q Tryz.prog C cfRw LFm (zzv zkc) (z9l 89 args) with
 |some (.n,fr)=>(match z3l fr.tm 5,z3l fr.tm 16,z2l fr.ob 16 with
  | .one (.t none (.ms kk ks cs)),.one (.h 16 []),some (.os 2 0 [])=>(match zlu cs with
    |some rs=>if(rs.map (·.1)).Nodup/\rs.length*48<=140737488355328/\args.length<=89/\args.all (fun t=> !z7N t)=true/\fr.nt=89/\(∀r∈rs,z2g r.2=r.2) then some (.sl (z5N rs).length ((z5N rs).flatMap z5b),args.map fun _=>.dead) else none
    |none=>none)
  |_,_,_=>none)
 |_=>none
noncomputable def xtF(C:z0g):z0g:=fun f args=>if f=105 then zkx 106 args else if f=50 then zo1 C args else xtC f args
instance:XMo xtF:=⟨fun {C0 C1} h f a o=>by
 unfold xtF
 split
 · exact id
 split
 · unfold zo1
   intro h2
   split at h2
   · rename_i fr hf
     obtain⟨n,hn⟩:=zk7 h _ hf
     rw[hn n (Z7 _)]
     exact h2
   · cases h2
 · exact id⟩
end
section
open Go
noncomputable def zGx:Array Field:=match Tryz.prog.underlying 28 with|some (.struct fs)=>fs|_=> #[]
theorem zhY{P:Program}{t:TypeId}{a:Array Field}{x y:Nat}{zs:List T}(h:z3o P t=some ⟨.struct a,x,y,some zs⟩)(hc:(zs.all zdK&&a.toList.all fun f=>(z3o P f.type).isSome)=true):zjf P t=some zs:=by
 unfold zjf
 rw[h]
 exact if_pos (by simpa using hc)
@[simp] theorem zG1:z3o Tryz.prog 28=some ⟨.struct zGx,4,64,(some [(.sc (.int .i64 0)),(.sc (.int .i64 0)),(.os 1 0 []),(.os 1 0 [])])⟩:=by kernel_rfl
@[simp] abbrev zGd:=zhY zG1 (by kernel_rfl)
@[simp] abbrev bs28:=z3E zGd
noncomputable def zGw:Array Field:=match Tryz.prog.underlying 33 with|some (.struct fs)=>fs|_=> #[]
@[simp] theorem zG0:z3o Tryz.prog 33=some ⟨.struct zGw,3,56,(some [(.sc (.int .i64 0)),(.os 1 0 []),(.os 2 0 [])])⟩:=by kernel_rfl
@[simp] abbrev zGc:=zhY zG0 (by kernel_rfl)
@[simp] abbrev bs33:=z3E zGc
noncomputable def zGv:Array Field:=match Tryz.prog.underlying 36 with|some (.struct fs)=>fs|_=> #[]
@[simp] theorem zFZ:z3o Tryz.prog 36=some ⟨.struct zGv,7,152,(some [(.sc (.int .i64 0)),(.os 1 0 []),(.os 2 0 []),(.os 1 0 []),(.os 1 0 []),(.os 1 0 []),(.os 4 0 [])])⟩:=by kernel_rfl
@[simp] abbrev zGb:=zhY zFZ (by kernel_rfl)
@[simp] abbrev bs36:=z3E zGb
noncomputable def zGu:Array Field:=match Tryz.prog.underlying 68 with|some (.struct fs)=>fs|_=> #[]
@[simp] theorem zFY:z3o Tryz.prog 68=some ⟨.struct zGu,2,32,(some [(.os 1 0 []),(.sc (.int .i64 0))])⟩:=by kernel_rfl
@[simp] abbrev zGa:=zhY zFY (by kernel_rfl)
@[simp] abbrev bs68:=z3E zGa
noncomputable def zGt:Array Field:=match Tryz.prog.underlying 72 with|some (.struct fs)=>fs|_=> #[]
@[simp] theorem zFX:z3o Tryz.prog 72=some ⟨.struct zGt,6,144,(some [(.os 1 0 []),(.os 1 0 []),(.os 1 0 []),(.os 1 0 []),(.os 1 0 []),(.os 1 0 [])])⟩:=by kernel_rfl
@[simp] abbrev zG9:=zhY zFX (by kernel_rfl)
@[simp] abbrev bs72:=z3E zG9
noncomputable def zGs:Array Field:=match Tryz.prog.underlying 74 with|some (.struct fs)=>fs|_=> #[]
@[simp] theorem zFW:z3o Tryz.prog 74=some ⟨.struct zGs,14,304,(some [(.sc (.int .i64 0)),(.sc (.int .i64 0)),(.os 1 0 []),(.os 1 0 []),(.os 1 0 []),(.os 1 0 []),(.os 1 0 []),(.os 1 0 []),(.os 1 0 []),(.os 1 0 []),(.os 1 0 []),(.os 1 0 []),(.os 1 0 []),(.os 1 0 [])])⟩:=by kernel_rfl
@[simp] abbrev zG8:=zhY zFW (by kernel_rfl)
@[simp] abbrev bs74:=z3E zG8
noncomputable def zGr:Array Field:=match Tryz.prog.underlying 80 with|some (.struct fs)=>fs|_=> #[]
@[simp] theorem zFV:z3o Tryz.prog 80=some ⟨.struct zGr,4,80,(some [(.sc (.int .i64 0)),(.os 1 0 []),(.os 1 0 []),(.os 1 0 [])])⟩:=by kernel_rfl
@[simp] abbrev zG7:=zhY zFV (by kernel_rfl)
@[simp] abbrev bs80:=z3E zG7
noncomputable def zEz:Array Field:=match Tryz.prog.underlying 101 with|some (.struct fs)=>fs|_=> #[]
@[simp] theorem zDW:z3o Tryz.prog 101=some ⟨.struct zEz,2,48,(some [(.os 1 0 []),(.os 1 0 [])])⟩:=by kernel_rfl
@[simp] abbrev zE3:=zhY zDW (by kernel_rfl)
@[simp] abbrev bs101:=z3E zE3
noncomputable def zEy:Array Field:=match Tryz.prog.underlying 124 with|some (.struct fs)=>fs|_=> #[]
@[simp] theorem zDV:z3o Tryz.prog 124=some ⟨.struct zEy,3,56,(some [(.sc (.int .i64 0)),(.os 1 0 []),(.os 2 0 [])])⟩:=by kernel_rfl
@[simp] abbrev zE2:=zhY zDV (by kernel_rfl)
@[simp] abbrev bs124:=z3E zE2
noncomputable def zEx:Array Field:=match Tryz.prog.underlying 165 with|some (.struct fs)=>fs|_=> #[]
@[simp] theorem zDU:z3o Tryz.prog 165=some ⟨.struct zEx,3,72,(some [(.os 1 0 []),(.os 1 0 []),(.os 1 0 [])])⟩:=by kernel_rfl
@[simp] abbrev zE1:=zhY zDU (by kernel_rfl)
@[simp] abbrev bs165:=z3E zE1
@[simp] theorem tyAll:z3o Tryz.prog 3=some ⟨.int .i64,1,8,(some [(.sc (.int .i64 0))])⟩/\z3o Tryz.prog 4=some ⟨.bool,1,1,(some [(.sc (.bool false))])⟩/\z3o Tryz.prog 5=some ⟨.int .u8,1,1,(some [(.sc (.int .u8 0))])⟩/\z3o Tryz.prog 9=some ⟨.string,1,16,(some [(.sc (.string ByteArray.empty))])⟩/\z3o Tryz.prog 22=some ⟨.slice 3,1,24,(some [(.os 1 0 [])])⟩/\z3o Tryz.prog 23=some ⟨.pointer 68,1,8,(some [(.sc (.pointer none))])⟩/\z3o Tryz.prog 25=some ⟨.slice 4,1,24,(some [(.os 1 0 [])])⟩/\z3o Tryz.prog 26=some ⟨.slice 22,1,24,(some [(.os 1 0 [])])⟩/\z2B Tryz.prog 28 0=some (0,1,false)/\z2B Tryz.prog 28 1=some (1,1,false)/\z2B Tryz.prog 28 2=some (2,1,false)/\z2B Tryz.prog 28 3=some (3,1,false)/\z3o Tryz.prog 31=some ⟨.slice 101,1,24,(some [(.os 2 0 [])])⟩/\z2B Tryz.prog 33 0=some (0,1,false)/\z2B Tryz.prog 33 1=some (1,1,false)/\z2B Tryz.prog 33 2=some (2,1,false)/\z3o Tryz.prog 34=some ⟨.slice 80,1,24,(some [(.os 4 0 [])])⟩/\z2B Tryz.prog 36 0=some (0,3,true)/\z2B Tryz.prog 36 1=some (3,1,false)/\z2B Tryz.prog 36 2=some (4,1,false)/\z2B Tryz.prog 36 3=some (5,1,false)/\z2B Tryz.prog 36 4=some (6,1,false)/\z3o Tryz.prog 37=some ⟨.int .i64,1,8,(some [(.sc (.int .i64 0))])⟩/\z2B Tryz.prog 68 0=some (0,1,false)/\z2B Tryz.prog 68 1=some (1,1,false)/\z3o Tryz.prog 70=some ⟨.slice 9,1,24,(some [(.os 1 0 [])])⟩/\z2B Tryz.prog 72 0=some (0,1,false)/\z2B Tryz.prog 72 1=some (1,1,false)/\z2B Tryz.prog 72 2=some (2,1,false)/\z2B Tryz.prog 72 3=some (3,1,false)/\z2B Tryz.prog 72 4=some (4,1,false)/\z2B Tryz.prog 72 5=some (5,1,false)/\z2B Tryz.prog 74 0=some (0,4,true)/\z2B Tryz.prog 74 1=some (4,6,true)/\z2B Tryz.prog 74 2=some (10,1,false)/\z2B Tryz.prog 74 3=some (11,1,false)/\z2B Tryz.prog 74 4=some (12,1,false)/\z2B Tryz.prog 74 5=some (13,1,false)/\z2B Tryz.prog 80 0=some (0,1,false)/\z2B Tryz.prog 80 1=some (1,1,false)/\z2B Tryz.prog 80 2=some (2,1,false)/\z2B Tryz.prog 80 3=some (3,1,false)/\z3o Tryz.prog 87=some ⟨.map 3 3,1,8,(some [(.sc (.map none))])⟩/\zcw Tryz.prog 87=some ((some .i64),3)/\zkv Tryz.prog 3=some (.int .i64 0)/\z3o Tryz.prog 95=some ⟨.int .u64,1,8,(some [(.sc (.int .u64 0))])⟩/\z3o Tryz.prog 96=some ⟨.slice 26,1,24,(some [(.os 1 0 [])])⟩/\z2B Tryz.prog 101 0=some (0,1,false)/\z2B Tryz.prog 101 1=some (1,1,false)/\z3o Tryz.prog 109=some ⟨.slice 5,1,24,(some [(.os 1 0 [])])⟩/\z2B Tryz.prog 124 0=some (0,3,true)/\z3o Tryz.prog 127=some ⟨.map 9 3,1,8,(some [(.sc (.map none))])⟩/\zcw Tryz.prog 127=some (none,3)/\zkv Tryz.prog 3=some (.int .i64 0)/\z3o Tryz.prog 140=some ⟨.pointer 74,1,8,(some [(.sc (.pointer none))])⟩/\z3o Tryz.prog 141=some ⟨.map 9 4,1,8,(some [(.sc (.map none))])⟩/\zcw Tryz.prog 141=some (none,4)/\zkv Tryz.prog 4=some (.bool false)/\z3o Tryz.prog 145=some ⟨.map 9 101,1,8,(some [(.sc (.map none))])⟩/\zcw Tryz.prog 145=some (none,101)/\zkv Tryz.prog 101=some (.agg #[.slice none 0 0,.slice none 0 0])/\z3o Tryz.prog 163=some ⟨.slice 25,1,24,(some [(.os 1 0 [])])⟩/\z2B Tryz.prog 165 0=some (0,1,false)/\z2B Tryz.prog 165 1=some (1,1,false)/\z2B Tryz.prog 165 2=some (2,1,false)/\z3o Tryz.prog 177=some ⟨.slice 141,1,24,(some [(.os 1 0 [])])⟩/\z3o Tryz.prog 181=some ⟨.int .u32,1,4,(some [(.sc (.int .u32 0))])⟩/\z3o Tryz.prog 183=some ⟨.int .u64,1,8,(some [(.sc (.int .u64 0))])⟩:=by
  and_intros<;>kernel_rfl
@[simp] def z4c:Nat->List Nat:=fun _=> []
@[simp] def z0p:FuncId->Nat->Bool:=fun f i=>(f==999999&&(i==0))
@[simp] def z1k:Nat->Option (List Nat):=fun r=>none
@[simp] def zhV:FuncId->Nat->Bool:=fun f i=>(f==28&&(i==0))||(f==999999&&(i==0))
@[simp] def ziQ:Nat->Option (List Nat):=fun r=>if r=4 then some [0,1,12,13] else none
@[simp] def zpV:FuncId->Nat->Bool:=fun f i=>(f==136&&(i==0))||(f==999999&&(i==0))
@[simp] def zDr:Nat->List Nat:=fun r=>if r=7 then [0] else []
@[simp] def zwh:FuncId->Nat->Bool:=fun f i=>(f==100&&(i==0))||(f==999999&&(i==0))
@[simp] def zoS:Nat->Option (List Nat):=fun r=>if r=4 then some [0,12,13,14] else none
@[simp] def zoR:Nat->Option (List Nat):=fun r=>if r=3 then some [3,9,10,11] else none
@[simp] def zjA:Nat->Option (List Nat):=fun r=>if r=2 then some [0,1,7,8] else none
@[simp] def zyi:FuncId->Nat->Bool:=fun f i=>(f==28&&(i==0))||(f==13&&(i==0))||(f==14&&(i==0))||(f==22&&(i==0))||(f==32&&(i==0))||(f==33&&(i==0))||(f==31&&(i==0))||(f==999999&&(i==0))||(f==777777&&(i==15||i==16||i==25||i==26))
@[simp] def zyh:FuncId->Nat->Bool:=fun f i=>(f==28&&(i==0))||(f==31&&(i==0))||(f==33&&(i==0))||(f==32&&(i==0))||(f==43&&(i==0))||(f==999999&&(i==0))
@[simp] def zuC:Nat->Option (List Nat):=fun r=>if r=10 then some [1,2,4,6,44,45,46] else if r=21 then some [1,2,4,6,11,12,70,71,72] else none
@[simp] def zyg:FuncId->Nat->Bool:=fun f i=>(f==999999&&(i==0))||(f==777777&&(i==15||i==16||i==25||i==26))
@[simp] def zuB:Nat->Option (List Nat):=fun r=>if r=5 then some [2,6,23,24,25] else none
@[simp] def zuA:Nat->Option (List Nat):=fun r=>if r=5 then some [0,1,6,7,8,9] else if r=10 then some [0,1,6,7,8,9,10,11] else none
@[simp] def zuz:Nat->Option (List Nat):=fun r=>if r=5 then some [0,1,6,7,8,9] else if r=9 then some [0,1,6,7,8,10] else if r=13 then some [0,1,6,7,8,10,11,12] else if r=17 then some [0,1,6,7,8,10,11,13] else none
@[simp] def zyf:FuncId->Nat->Bool:=fun f i=>(f==31&&(i==0))||(f==999999&&(i==0))
@[simp] def zuy:Nat->Option (List Nat):=fun r=>if r=3 then some [6,7,17,18] else if r=6 then some [6,7,8,17,18,25,26,27] else none
@[simp] def zux:Nat->Option (List Nat):=fun r=>if r=6 then some [1,4,6,29,30,31] else if r=13 then some [1,4,6,10,11,48,49,50] else none
@[simp] def zuw:Nat->Option (List Nat):=fun r=>if r=10 then some [2,3,5,7,50,51,52] else if r=13 then some [2,3,5,7,9,10,50,51,52,58,59] else none
@[simp] def zuv:Nat->Option (List Nat):=fun r=>if r=4 then some [1,2,3,30,31] else none
@[simp] def zuu:Nat->Option (List Nat):=fun r=>if r=4 then some [0,1,4,5,6,22,23,24] else if r=9 then some [0,1,4,5,6,8,9,10,22,23,24] else if r=13 then some [0,1,4,5,6,8,9,10,11,12,22,23,24] else if r=15 then some [0,1,4,5,6,8,9,10,11,12,22,23,24,50,51,52] else none
@[simp] def zye:FuncId->Nat->Bool:=fun f i=>(f==95&&(i==0))||(f==999999&&(i==0))||(f==777777&&(i==95))
@[simp] def zut:Nat->Option (List Nat):=fun r=>if r=8 then some [1,2,4,6,7,8,40,41,42] else if r=15 then some [1,2,4,6,7,8,64,65,66] else if r=19 then some [1,2,4,6,7,8,11,12,13,64,65,66,75,76] else if r=26 then some [1,2,4,6,7,8,11,15,64,65,66,117,118,119] else none
@[simp] def zus:Nat->Option (List Nat):=fun r=>if r=5 then some [0,5,6,7] else if r=8 then some [0,5,6,7,29,30] else none
@[simp] def zur:Nat->Option (List Nat):=fun r=>if r=4 then some [0,3,4,5,26,27] else none
@[simp] def zuq:Nat->Option (List Nat):=fun r=>if r=8 then some [2,8,10,35,36] else none
@[simp] def zup:Nat->Option (List Nat):=fun r=>if r=4 then some [0,5,6,10,11,12] else none
@[simp] def zuo:Nat->Option (List Nat):=fun r=>if r=6 then some [1,26,27,28] else if r=12 then some [1,40,41,42] else none
@[simp] def zun:Nat->Option (List Nat):=fun r=>if r=9 then some [1,3,38,39,40] else if r=14 then some [1,3,38,39,40,49,50,51] else none
@[simp] def zum:Nat->Option (List Nat):=fun r=>if r=12 then some [2,5,7,8,9,10,53,54] else if r=19 then some [2,5,7,8,10,85,86,87] else if r=23 then some [2,5,7,8,10,14,17,85,86,87,99,100] else none
@[simp] def zul:Nat->Option (List Nat):=fun r=>if r=3 then some [1,4,11,12,13] else if r=11 then some [1,4,7,36,37,38] else none
@[simp] def zuk:Nat->Option (List Nat):=fun r=>if r=4 then some [2,3,4,5,8,10,11,35,36,37] else if r=10 then some [2,4,5,8,10,11,14,53,54,55] else if r=13 then some [2,4,5,8,10,11,14,16,53,54,55,60,61] else none
@[simp] def zuj:Nat->Option (List Nat):=fun r=>if r=5 then some [2,3,6,29,30,31] else none
@[simp] def zui:Nat->Option (List Nat):=fun r=>if r=5 then some [1,2,3,8,33,34,35] else none
@[simp] def zuh:Nat->Option (List Nat):=fun r=>if r=5 then some [2,3,5,29,30,31] else if r=14 then some [2,3,5,6,29,30,31,65,66,67] else if r=20 then some [5,81,82,83] else if r=23 then some [5,13,81,82,83,88,89,90] else none
@[simp] def zug:Nat->Option (List Nat):=fun r=>if r=3 then some [0,1,5,6] else if r=6 then some [0,1,5,6,7] else none
@[simp] def zuf:Nat->Option (List Nat):=fun r=>if r=2 then some [1,2,3,12,13] else if r=6 then some [1,2,3,7,8,12,13,17,18,19] else none
@[simp] def zue:Nat->Option (List Nat):=fun r=>if r=3 then some [2,3,4,11,12,13] else if r=10 then some [2,3,4,35,36,37] else if r=15 then some [2,4,67,68,69] else none
@[simp] def zud:Nat->Option (List Nat):=fun r=>if r=2 then some [1,10,11,12] else if r=8 then some [1,7,10,11,12,22,23,24] else none
@[simp] def zuc:Nat->Option (List Nat):=fun r=>if r=11 then some [6,7,8,35,36,37] else if r=16 then some [6,7,8,11,35,36,37] else if r=19 then some [6,7,8,11,35,36,37,55,56,57] else none
@[simp] def zub:Nat->Option (List Nat):=fun r=>if r=5 then some [0,2,8,9,10,11,20,21,22] else none
@[simp] def zua:Nat->Option (List Nat):=fun r=>if r=2 then some [0,1,9,10,11] else none
@[simp] def zu9:Nat->Option (List Nat):=fun r=>if r=3 then some [0,1,5,14,15] else none
@[simp] def zu8:Nat->Option (List Nat):=fun r=>if r=5 then some [2,5,37,38,39] else if r=10 then some [2,5,37,38,39,51,52,53] else none
@[simp] def zyd:FuncId->Nat->Bool:=fun f i=>(f==175&&(i==0))||(f==999999&&(i==0))
@[simp] def zu7:Nat->Option (List Nat):=fun r=>if r=3 then some [1,2,4,5,24,25,26] else if r=9 then some [1,2,4,5,8,44,45,46] else if r=13 then some [1,2,4,5,8,9,10,44,45,46,59,60] else if r=20 then some [1,4,8,87,88] else if r=24 then some [1,4,8,12,13,87,88,97,98,99] else if r=27 then some [1,4,8,12,13,15,16,87,88,97,98,99,104,105,106] else none
@[simp] def zu6:Nat->Option (List Nat):=fun r=>if r=4 then some [1,4,5,15,16] else if r=8 then some [1,4,5,6,15,16,24,25,26] else none
@[simp] def zu5:Nat->Option (List Nat):=fun r=>if r=4 then some [1,2,5,6,23,24] else if r=8 then some [1,2,5,6,7,23,24,33,34] else if r=17 then some [1,2,9,60,61,62] else if r=21 then some [1,2,9,11,60,61,62,75,76] else none
@[simp] def zu4:Nat->Option (List Nat):=fun r=>if r=5 then some [1,2,5,21,22,23] else if r=12 then some [2,5,8,45,46,47] else if r=15 then some [2,5,8,10,45,46,47,51,52,53] else none
@[simp] def zu3:Nat->Option (List Nat):=fun r=>if r=6 then some [2,6,7,8,9] else if r=9 then some [2,6,7,8,9,38,39,40] else none
@[simp] def zyc:FuncId->Nat->Bool:=fun f i=>(f==181&&(i==0))||(f==999999&&(i==0))
@[simp] def zu2:Nat->Option (List Nat):=fun r=>if r=3 then some [1,5,8,9,10] else none
@[simp] def zu1:Nat->Option (List Nat):=fun r=>if r=3 then some [1,2,5,15,16] else if r=8 then some [1,2,5,25,26] else if r=11 then some [1,2,5,7,25,26,29,30,31] else none
@[simp] def zu0:Nat->Option (List Nat):=fun r=>if r=3 then some [0,1,5,14,15,16] else if r=9 then some [0,5,8,28,29,30] else none
@[simp] def ztZ:Nat->Option (List Nat):=fun r=>if r=3 then some [3,10,11,12] else none
@[simp] def ztY:Nat->Option (List Nat):=fun r=>if r=3 then some [0,1,2,8,9,10] else none
@[simp] def ztX:Nat->Option (List Nat):=fun r=>if r=7 then some [2,3,5,59,60,61] else if r=13 then some [2,3,71,72,73] else if r=21 then some [2,3,8,10,71,72,73,94,95,96] else none
@[simp] def ztW:Nat->Option (List Nat):=fun r=>if r=3 then some [1,5,11,12,13] else none
@[simp] def ztV:Nat->Option (List Nat):=fun r=>if r=4 then some [11,14,38,39] else if r=11 then some [0,3,4,11,87,88,89] else none
@[simp] def ztU:Nat->Option (List Nat):=fun r=>if r=5 then some [2,6,7,8,9] else if r=8 then some [2,6,7,8,9,30,31] else none
@[simp] def ztT:Nat->Option (List Nat):=fun r=>if r=3 then some [1,2,7,11,12,13] else none
@[simp] def zyb:FuncId->Nat->Bool:=fun f i=>(f==208&&(i==0))||(f==209&&(i==0))||(f==999999&&(i==0))
@[simp] def ztS:Nat->Option (List Nat):=fun r=>if r=2 then some [0,1,2,6,7,8] else if r=7 then some [0,1,2,6] else if r=9 then some [0,1,2,6,7,8] else none
@[simp] def ztR:Nat->Option (List Nat):=fun r=>if r=1 then some [0,1,2,3,8] else if r=4 then some [0,1,2,3,8,9] else none
@[simp] def zya:FuncId->Nat->Bool:=fun f i=>(f==229&&(i==0))||(f==209&&(i==0))||(f==999999&&(i==0))
@[simp] def ztQ:Nat->Option (List Nat):=fun r=>if r=3 then some [0,1,4,10,11] else if r=9 then some [0,10,13] else if r=15 then some [0,2,4,14,15] else if r=21 then some [0,14,17] else if r=33 then some [0,1,2,3,4,18,19,20,21,22] else none
@[simp] def ztP:Nat->Option (List Nat):=fun r=>if r=4 then some [0,13,14,15] else none
@[simp] def zy9:FuncId->Nat->Bool:=fun f i=>(f==236&&(i==0))||(f==999999&&(i==0))
@[simp] def ztO:Nat->Option (List Nat):=fun r=>if r=2 then some [0,2,4,10,11] else none
@[simp] def zy8:FuncId->Nat->Bool:=fun f i=>(f==237&&(i==0))||(f==999999&&(i==0))||(f==777777&&(i==238))
@[simp] def ztN:Nat->Option (List Nat):=fun r=>if r=1 then some [0,1,2,3,10] else none
@[simp] def ztM:Nat->Option (List Nat):=fun r=>if r=4 then some [0,3] else if r=9 then some [0,3,4,5] else none
abbrev KX(c:Cfg)(w:FuncId->Nat->Bool)(l:Nat->Option (List Nat))(r:Nat->List Nat):Prop:=c.wio=w/\c.live=l/\c.wr=r
def C0(w:FuncId->Nat->Bool)(l:Nat->Option (List Nat)):Cfg:= {wio:=w,live:=l,dr:=fun r=>none}
def zFP:Cfg:= {wio:=zyi,live:=z1k,dr:=fun r=>if r=3 then some [(0,0),(2,0),(3,0),(1,1),(4,2),(5,0)] else none}
def zFO:Cfg:=C0 z0p z1k
def zFN:Cfg:= {wio:=zyh,live:=z1k,dr:=fun r=>none,fz:=fun r=>if r=999998 then some [] else none}
def zFM:Cfg:=C0 zhV z1k
def zFL:Cfg:= {wio:=z0p,live:=zuC,dr:=fun r=>if r=26 then some [(0,0),(2,0),(3,0),(4,0),(1,1),(5,0),(6,2),(7,0)] else none,fz:=fun r=>if r=7 then some [6] else if r=999998 then some [] else none,dt:=fun r=>if r=25 then some (.op 0 0 (.op 1 0 (.op 2 0 (.op 3 0 (.op 4 0 (.alt (.op 5 1 (.op 6 0 (.op 7 1 (.op 8 2 .nil)))) (.op 7 1 (.op 5 1 (.op 6 0 (.op 8 2 .nil)))))))))) else none}
def zFK:Cfg:=C0 zyg z1k
def zFJ:Cfg:=C0 z0p zuB
def zFI:Cfg:= {wio:=zhV,live:=fun r=>if r=3 then some [0,1,7,8] else none,dr:=fun r=>none}
def zFH:Cfg:= {wio:=z0p,live:=ziQ,dr:=fun r=>if r=6 then some [(0,0),(1,0),(2,0),(3,0),(4,0),(5,0),(6,0),(7,0),(8,0)] else none}
def zFG:Cfg:= {wio:=z0p,live:=z1k,dr:=fun r=>if r=1 then some [(0,0),(1,0),(2,0),(3,0),(4,0),(5,0),(6,0),(7,0),(8,0),(9,0)] else if r=4 then some [(0,0),(1,0),(2,0),(3,0),(4,0),(5,0),(6,0),(7,0),(8,0),(9,0),(10,0),(11,0),(12,1),(13,0)] else none}
def zFF:Cfg:=C0 z0p z1k
def zFE:Cfg:= {wio:=zhV,live:=zuA,dr:=fun r=>if r=7 then some [(0,0),(1,0),(2,0),(3,1),(4,0),(5,1),(6,2),(7,0),(8,2)] else none,wr:=zDr}
def zkP:SchT:=.nil
def zkQ:SchT:=.op 16 2 zkP
def zkR:SchT:=.op 15 0 zkQ
def zkS:SchT:=.op 14 2 zkR
def zfX:SchT:=.op 12 2 zkS
def zfY:SchT:=.op 11 1 zfX
def zfZ:SchT:=.op 13 3 zfX
def zaU:SchT:=.op 6 2 zfZ
def zg0:SchT:=.op 8 2 zfZ
def zkT:SchT:=.op 10 1 zfY
def zg1:SchT:=.op 13 3 zfY
def zcQ:SchT:=.op 1 2 zaU
def zaV:SchT:=.op 5 1 zaU
def zcR:SchT:=.alt (.op 6 2 zg0) (.op 8 2 zaU)
def zaW:SchT:=.alt (.op 6 2 zg1) (.op 11 1 zaU)
def zg2:SchT:=.alt (.op 8 2 zg1) (.op 11 1 zg0)
def zg3:SchT:=.op 13 3 zkT
def zcS:SchT:=.alt (.op 1 2 zaV) (.op 5 1 zcQ)
def zg4:SchT:=.alt (.op 1 2 zcR) (.op 8 2 zcQ)
def zcT:SchT:=.alt (.op 1 2 zaW) (.op 11 1 zcQ)
def zkU:SchT:=.op 4 0 zaV
def zcU:SchT:=.alt (.op 5 1 zcR) (.op 8 2 zaV)
def zaX:SchT:=.alt (.op 5 1 zaW) (.op 11 1 zaV)
def zcV:SchT:=.alt (.op 6 2 zg2) (.alt (.op 8 2 zaW) (.op 11 1 zcR))
def zcW:SchT:=.alt (.op 6 2 zg3) (.op 10 1 zaW)
def zkV:SchT:=.alt (.op 8 2 zg3) (.op 10 1 zg2)
def zkW:SchT:=.op 4 3 zcS
def zg5:SchT:=.alt (.op 1 2 zcU) (.alt (.op 5 1 zg4) (.op 8 2 zcS))
def zcX:SchT:=.alt (.op 1 2 zaX) (.alt (.op 5 1 zcT) (.op 11 1 zcS))
def zg6:SchT:=.alt (.op 1 2 zcV) (.alt (.op 8 2 zcT) (.op 11 1 zg4))
def zg7:SchT:=.alt (.op 1 2 zcW) (.op 10 1 zcT)
def zcY:SchT:=.op 3 1 zkU
def zkX:SchT:=.op 4 3 zcU
def zkY:SchT:=.op 4 0 zaX
def zcZ:SchT:=.alt (.op 5 1 zcV) (.alt (.op 8 2 zaX) (.op 11 1 zcU))
def zd0:SchT:=.alt (.op 5 1 zcW) (.op 10 1 zaX)
def zg8:SchT:=.alt (.op 6 2 zkV) (.alt (.op 8 2 zcW) (.op 10 1 zcV))
def zg9:SchT:=.alt (.op 1 2 zcY) (.op 3 1 zkW)
def zkZ:SchT:=.op 4 3 zg5
def zl0:SchT:=.op 4 3 zcX
def zga:SchT:=.alt (.op 1 2 zcZ) (.alt (.op 5 1 zg6) (.alt (.op 8 2 zcX) (.op 11 1 zg5)))
def zgb:SchT:=.alt (.op 1 2 zd0) (.alt (.op 5 1 zg7) (.op 10 1 zcX))
def zl1:SchT:=.alt (.op 1 2 zg8) (.alt (.op 8 2 zg7) (.op 10 1 zg6))
def zgc:SchT:=.alt (.op 3 1 zkX) (.op 8 2 zcY)
def zd1:SchT:=.alt (.op 3 1 zkY) (.op 11 1 zcY)
def zl2:SchT:=.op 4 3 zcZ
def zl3:SchT:=.op 4 0 zd0
def zgd:SchT:=.alt (.op 5 1 zg8) (.alt (.op 8 2 zd0) (.op 10 1 zcZ))
def zl4:SchT:=.alt (.op 1 2 zgc) (.alt (.op 3 1 zkZ) (.op 8 2 zg9))
def zge:SchT:=.alt (.op 1 2 zd1) (.alt (.op 3 1 zl0) (.op 11 1 zg9))
def zl5:SchT:=.op 4 3 zga
def zl6:SchT:=.op 4 3 zgb
def zl7:SchT:=.alt (.op 1 2 zgd) (.alt (.op 5 1 zl1) (.alt (.op 8 2 zgb) (.op 10 1 zga)))
def zgf:SchT:=.alt (.op 3 1 zl2) (.alt (.op 8 2 zd1) (.op 11 1 zgc))
def zgg:SchT:=.alt (.op 3 1 zl3) (.op 10 1 zd1)
def zo7:SchT:=.op 4 3 zgd
def zo8:SchT:=.alt (.op 1 2 zgf) (.alt (.op 3 1 zl5) (.alt (.op 8 2 zge) (.op 11 1 zl4)))
def zo9:SchT:=.alt (.op 1 2 zgg) (.alt (.op 3 1 zl6) (.op 10 1 zge))
def zoa:SchT:=.op 4 3 zl7
def zob:SchT:=.alt (.op 3 1 zo7) (.alt (.op 8 2 zgg) (.op 10 1 zgf))
def zoc:SchT:=.alt (.op 1 2 zob) (.alt (.op 3 1 zoa) (.alt (.op 8 2 zo9) (.op 10 1 zo8)))
def zod:SchT:=.op 9 3 zoc
def zoe:SchT:=.op 7 3 zod
def zof:SchT:=.op 2 3 zoe
def zog:SchT:=.op 0 3 zof
def zEO:Cfg:= {wio:=zhV,live:=zuz,dr:=fun r=>if r=20 then some [(0,0),(1,0),(2,0),(3,0),(4,0),(5,0),(6,0),(7,0),(8,0),(9,0),(10,0),(11,2)] else if r=21 then some [(1,0),(2,0),(3,0),(5,3),(6,3),(7,3),(8,3),(0,1),(4,2),(9,2),(10,0)] else none,wr:=zDr,fz:=fun r=>if r=999998 then some [] else none,dt:=fun r=>if r=7 then some (zog) else none}
def zFD:Cfg:= {wio:=zyf,live:=zuy,dr:=fun r=>none,fz:=fun r=>if r=999998 then some [] else none}
def zFC:Cfg:= {wio:=z0p,live:=zux,dr:=fun r=>none,fz:=fun r=>if r=11 then some [6] else if r=999998 then some [] else none,dt:=fun r=>if r=15 then some (.op 0 0 (.op 1 0 (.op 2 0 (.op 3 0 (.op 4 0 (.op 5 0 (.op 6 0 (.alt (.op 7 1 (.op 8 0 (.op 9 0 (.op 10 3 (.op 11 1 (.op 12 2 (.op 13 0 .nil))))))) (.op 11 1 (.op 7 1 (.op 8 0 (.op 9 0 (.op 10 3 (.op 12 2 (.op 13 0 .nil))))))))))))))) else none}
def zFB:Cfg:= {wio:=z0p,live:=zuw,dr:=fun r=>if r=19 then some [(0,0),(1,0),(2,0),(3,0),(4,0),(5,0),(6,0),(7,0),(8,0),(9,0),(10,0),(11,0),(12,0),(13,0),(14,0),(15,0),(16,0),(17,0),(18,0),(19,0),(20,0),(21,0)] else none}
def zFA:Cfg:= {wio:=z0p,live:=zuv,dr:=fun r=>if r=6 then some [(0,0),(1,0),(2,0),(3,0),(4,0),(5,0),(6,0),(7,0),(8,0),(9,0),(10,0),(11,0)] else none}
def zFz:Cfg:= {wio:=zhV,live:=zuu,dr:=fun r=>if r=6 then some [(0,0),(1,0),(2,0),(3,1),(4,0),(5,1),(6,2),(7,0),(8,2)] else none,wr:=fun r=>if r=6 then [0] else []}
def zFy:Cfg:= {wio:=zye,live:=zut,dr:=fun r=>if r=25 then some [(0,0),(1,0),(2,0),(3,0),(4,0),(5,0),(6,0),(7,0),(8,0),(9,0),(10,0),(11,0),(12,0),(13,0)] else if r=28 then some [(0,0),(1,0),(2,0),(3,0),(4,0),(5,0),(6,0),(7,0),(8,0),(9,0),(10,0),(11,0),(12,0),(13,0),(14,1),(15,0),(16,0),(17,2)] else none,fz:=fun r=>if r=999998 then some [] else none,dt:=fun r=>if r=4 then some (.op 0 0 (.op 1 0 (.op 2 0 (.op 3 0 (.op 4 0 (.alt (.op 5 1 (.op 6 0 (.op 7 1 (.op 8 2 .nil)))) (.op 7 1 (.op 5 1 (.op 6 0 (.op 8 2 .nil)))))))))) else none}
def zFx:Cfg:=C0 z0p z1k
def zFw:Cfg:=C0 z0p z1k
def zFv:Cfg:= {wio:=z0p,live:=fun r=>if r=6 then some [1,5,26,27] else none,dr:=fun r=>none,fz:=fun r=>if r=999998 then some [] else none}
def zFu:Cfg:= {wio:=zwh,live:=zus,dr:=fun r=>none,fz:=fun r=>if r=2 then some [4] else if r=11 then some [9] else if r=999998 then some [] else none}
def zFt:Cfg:= {wio:=z0p,live:=z1k,dr:=fun r=>if r=2 then some [(0,0),(1,0),(2,0),(3,0),(4,0),(5,0),(6,0),(7,0),(8,0),(9,0),(10,0),(11,0),(12,0),(13,0),(14,1),(15,0)] else none}
def zFs:Cfg:= {wio:=z0p,live:=zur,dr:=fun r=>if r=2 then some [(0,0),(1,0),(2,0),(3,0),(4,0),(5,0),(6,0),(7,0),(8,0),(9,0),(10,0),(11,1),(12,0),(13,0)] else if r=8 then some [(0,0),(1,0),(2,0),(3,0),(4,0),(5,0),(6,0),(7,0),(8,0),(9,0),(10,0),(11,0),(12,0),(13,0)] else none}
def zFr:Cfg:= {wio:=z0p,live:=ziQ,dr:=fun r=>if r=6 then some [(0,0),(1,0),(2,0),(3,0),(4,0),(5,0),(6,0),(7,0),(8,1),(9,0)] else none}
def zFq:Cfg:= {wio:=z0p,live:=zuq,dr:=fun r=>if r=10 then some [(0,0),(1,0),(2,0),(3,0),(4,0),(5,0),(6,0),(7,1),(8,0),(9,0),(10,0),(11,0),(12,0)] else none}
def zFp:Cfg:= {wio:=z0p,live:=ziQ,dr:=fun r=>if r=6 then some [(0,0),(1,0),(2,0),(3,0),(4,0),(5,0),(6,0),(7,0),(8,0)] else none}
def zFo:Cfg:=C0 z0p zoS
def zFn:Cfg:=C0 z0p zup
def zFm:Cfg:= {wio:=z0p,live:=zuo,dr:=fun r=>if r=14 then some [(0,0),(1,0),(2,1),(3,0),(4,0),(5,0),(6,0),(7,0),(8,0),(9,0),(10,0),(11,0),(12,0),(13,0),(14,0),(15,0),(16,0),(17,1),(18,0),(19,0),(20,0)] else none}
def zFl:Cfg:=C0 z0p zun
def zia:SchT:=.nil
def zdU:SchT:=.op 13 2 zia
def z9M:SchT:=.op 11 0 zdU
def zib:SchT:=.op 12 1 zdU
def z9N:SchT:=.op 4 1 z9M
def z9O:SchT:=.op 6 1 z9M
def z9P:SchT:=.op 8 1 z9M
def z9Q:SchT:=.op 10 1 z9M
def z9R:SchT:=.op 11 0 zib
def zbn:SchT:=.alt (.op 4 1 z9O) (.op 6 1 z9N)
def zbo:SchT:=.alt (.op 4 1 z9P) (.op 8 1 z9N)
def zbp:SchT:=.alt (.op 4 1 z9Q) (.op 10 1 z9N)
def zbq:SchT:=.alt (.op 4 1 z9R) (.op 12 1 z9N)
def zbr:SchT:=.alt (.op 6 1 z9P) (.op 8 1 z9O)
def zbs:SchT:=.alt (.op 6 1 z9Q) (.op 10 1 z9O)
def zbt:SchT:=.alt (.op 6 1 z9R) (.op 12 1 z9O)
def zbu:SchT:=.alt (.op 8 1 z9Q) (.op 10 1 z9P)
def zbv:SchT:=.alt (.op 8 1 z9R) (.op 12 1 z9P)
def zbw:SchT:=.alt (.op 10 1 z9R) (.op 12 1 z9Q)
def zdV:SchT:=.alt (.op 4 1 zbr) (.alt (.op 6 1 zbo) (.op 8 1 zbn))
def zdW:SchT:=.alt (.op 4 1 zbs) (.alt (.op 6 1 zbp) (.op 10 1 zbn))
def zdX:SchT:=.alt (.op 4 1 zbt) (.alt (.op 6 1 zbq) (.op 12 1 zbn))
def zdY:SchT:=.alt (.op 4 1 zbu) (.alt (.op 8 1 zbp) (.op 10 1 zbo))
def zdZ:SchT:=.alt (.op 4 1 zbv) (.alt (.op 8 1 zbq) (.op 12 1 zbo))
def ze0:SchT:=.alt (.op 4 1 zbw) (.alt (.op 10 1 zbq) (.op 12 1 zbp))
def ze1:SchT:=.alt (.op 6 1 zbu) (.alt (.op 8 1 zbs) (.op 10 1 zbr))
def ze2:SchT:=.alt (.op 6 1 zbv) (.alt (.op 8 1 zbt) (.op 12 1 zbr))
def ze3:SchT:=.alt (.op 6 1 zbw) (.alt (.op 10 1 zbt) (.op 12 1 zbs))
def ze4:SchT:=.alt (.op 8 1 zbw) (.alt (.op 10 1 zbv) (.op 12 1 zbu))
def zic:SchT:=.alt (.op 4 1 ze1) (.alt (.op 6 1 zdY) (.alt (.op 8 1 zdW) (.op 10 1 zdV)))
def zid:SchT:=.alt (.op 4 1 ze2) (.alt (.op 6 1 zdZ) (.alt (.op 8 1 zdX) (.op 12 1 zdV)))
def zie:SchT:=.alt (.op 4 1 ze3) (.alt (.op 6 1 ze0) (.alt (.op 10 1 zdX) (.op 12 1 zdW)))
def zkF:SchT:=.alt (.op 4 1 ze4) (.alt (.op 8 1 ze0) (.alt (.op 10 1 zdZ) (.op 12 1 zdY)))
def zkG:SchT:=.alt (.op 6 1 ze4) (.alt (.op 8 1 ze3) (.alt (.op 10 1 ze2) (.op 12 1 ze1)))
def zkH:SchT:=.alt (.op 4 1 zkG) (.alt (.op 6 1 zkF) (.alt (.op 8 1 zie) (.alt (.op 10 1 zid) (.op 12 1 zic))))
def zkI:SchT:=.op 9 0 zkH
def zkJ:SchT:=.op 7 0 zkI
def zkK:SchT:=.op 5 0 zkJ
def zkL:SchT:=.op 3 0 zkK
def zkM:SchT:=.op 2 0 zkL
def zkN:SchT:=.op 1 0 zkM
def zkO:SchT:=.op 0 0 zkN
def zEN:Cfg:= {wio:=z0p,live:=zum,dr:=fun r=>if r=14 then some [(0,0),(1,0),(2,0),(3,0),(4,0),(5,1),(6,0),(7,2)] else if r=16 then some [(0,0),(1,0),(2,0),(3,0),(4,0),(5,0),(6,0),(7,0),(8,0),(9,0),(10,0),(11,0),(12,0),(13,0),(14,2)] else if r=26 then some [(0,0),(1,0),(2,0),(3,0),(4,0),(5,0),(6,0),(7,0),(8,2)] else none,fz:=fun r=>if r=8 then some [5] else if r=10 then some [8] else if r=999998 then some [] else none,dt:=fun r=>if r=10 then some (zkO) else none}
def zFk:Cfg:= {wio:=zpV,live:=zul,dr:=fun r=>if r=13 then some [(0,0),(1,0),(2,0),(3,0),(4,0),(5,0),(6,0),(7,0)] else if r=17 then some [(0,0),(1,0),(2,0),(3,0)] else none,fz:=fun r=>if r=16 then some [1,4] else if r=999998 then some [] else none,dt:=fun r=>if r=7 then some (.op 1 3 (.op 2 0 (.op 3 0 (.op 4 0 (.op 5 0 (.op 6 0 (.alt (.op 0 1 (.op 7 1 (.op 8 2 (.op 9 0 (.op 10 2 .nil))))) (.op 7 1 (.alt (.op 0 1 (.op 8 2 (.op 9 0 (.op 10 2 .nil)))) (.op 8 2 (.op 0 1 (.op 9 0 (.op 10 2 .nil))))))))))))) else none}
def zFj:Cfg:= {wio:=z0p,live:=zuk,dr:=fun r=>if r=6 then some [(0,0),(1,0),(2,0),(3,0),(4,0),(5,0),(6,0),(7,1),(8,2),(9,0),(10,2)] else if r=16 then some [(0,0),(1,0),(2,0),(4,0),(5,0),(6,0),(7,0),(8,0),(3,1),(9,1),(10,0),(11,0)] else if r=17 then some [(0,0),(1,0),(2,0),(3,0),(4,0),(5,0),(6,0),(7,0),(8,0),(9,0),(10,0)] else if r=18 then some [(0,0),(1,0),(2,0),(3,0),(4,0),(5,0),(6,0),(7,0),(8,0),(9,0),(10,0),(11,0),(12,0),(13,0)] else if r=19 then some [(0,0),(1,0),(3,0),(4,0),(2,1),(5,1),(6,0)] else none,fz:=fun r=>if r=999998 then some [] else none}
def zFi:Cfg:=C0 z0p z1k
def zFh:Cfg:= {wio:=z0p,live:=zuj,dr:=fun r=>if r=9 then some [(0,0),(1,0),(2,0),(3,0),(4,0),(5,0),(6,0),(7,0),(8,0),(9,0),(10,0),(11,0),(12,0),(13,0),(14,0),(15,0),(16,0)] else if r=16 then some [(0,0),(1,0),(2,0),(3,0),(4,0),(5,0),(6,0),(7,0),(8,0),(9,0),(10,0),(11,0),(12,0),(13,0)] else none}
def zFg:Cfg:= {wio:=z0p,live:=zui,dr:=fun r=>if r=7 then some [(0,0),(1,0),(2,0),(3,0),(4,0),(5,0),(6,1),(7,0),(8,0),(9,0),(10,0),(11,0)] else none}
def zFf:Cfg:=C0 z0p zoR
def zFe:Cfg:= {wio:=z0p,live:=zuh,dr:=fun r=>if r=7 then some [(0,0),(1,0),(2,0),(3,0),(4,0),(5,0),(6,0),(7,0),(8,0),(9,0),(10,0),(11,0),(12,0),(13,1),(14,0),(15,0)] else if r=16 then some [(0,0),(1,0),(2,0),(3,0),(4,0),(5,1),(6,2)] else if r=25 then some [(0,0),(1,1),(2,0),(3,0),(4,0),(5,0),(6,0),(7,0),(8,0),(9,0),(10,0),(11,1),(12,0),(13,0),(14,0)] else none}
def zFd:Cfg:= {wio:=z0p,live:=fun r=>if r=4 then some [0,1,18,19] else none,dr:=fun r=>none}
def zFc:Cfg:= {wio:=z0p,live:=zug,dr:=fun r=>if r=8 then some [(0,0),(1,0),(2,0),(3,0),(4,0),(5,0),(6,0),(7,0),(8,1),(9,0),(10,0),(11,1),(12,2),(13,0)] else none}
def zFb:Cfg:=C0 z0p zuf
def zFa:Cfg:= {wio:=zpV,live:=zue,dr:=fun r=>if r=17 then some [(0,0),(1,0),(2,0),(3,0),(4,0),(5,0),(6,0),(7,1),(8,0),(9,2)] else none,fz:=fun r=>if r=8 then some [3] else none,dt:=fun r=>if r=12 then some (.op 1 0 (.op 2 0 (.op 3 0 (.op 4 0 (.op 5 0 (.op 6 0 (.op 7 0 (.op 8 0 (.op 9 0 (.op 10 0 (.op 11 0 (.op 12 0 (.op 13 0 (.op 14 0 (.op 15 0 (.op 16 0 (.alt (.op 0 1 (.op 17 1 (.op 18 2 (.op 19 0 (.op 20 0 (.op 21 2 .nil)))))) (.op 17 1 (.alt (.op 0 1 (.op 18 2 (.op 19 0 (.op 20 0 (.op 21 2 .nil))))) (.op 18 2 (.op 0 1 (.op 19 0 (.op 20 0 (.op 21 2 .nil)))))))))))))))))))))))) else none}
def zF9:Cfg:=C0 z0p zjA
def zF8:Cfg:=C0 z0p zud
def zF7:Cfg:= {wio:=zwh,live:=zuc,dr:=fun r=>none,fz:=fun r=>if r=7 then some [5] else if r=22 then some [14] else if r=999998 then some [] else none}
def zF6:Cfg:= {wio:=z0p,live:=zub,dr:=fun r=>if r=12 then some [(0,0),(1,0),(2,0),(3,0),(4,0),(5,0),(6,0),(7,0),(8,0),(9,0),(10,0),(11,0),(12,0),(13,0)] else none}
def zDg:Cfg:=C0 z0p zua
def zDf:Cfg:= {wio:=z0p,live:=zu9,dr:=fun r=>none,fz:=fun r=>if r=999998 then some [] else none}
def zDe:Cfg:= {wio:=z0p,live:=fun r=>if r=3 then some [3,6,7,8] else none,dr:=fun r=>none}
def zDd:Cfg:=C0 z0p z1k
def zDc:Cfg:=C0 z0p zjA
def zDb:Cfg:= {wio:=z0p,live:=z1k,dr:=fun r=>none,fz:=fun r=>if r=1 then some [3,5] else none}
def zDa:Cfg:=C0 z0p zoS
def zD9:Cfg:= {wio:=z0p,live:=zu8,dr:=fun r=>if r=2 then some [(0,0),(1,0),(2,0),(3,0),(4,0),(5,0),(6,0),(7,0),(8,0),(9,0),(10,0),(11,0),(12,1),(13,0),(14,0),(15,0),(16,0),(17,0),(18,0),(19,0),(20,0),(21,0),(22,0)] else none}
def zD8:Cfg:=C0 z0p z1k
def zD7:Cfg:=C0 z0p z1k
def zD6:Cfg:= {wio:=zyd,live:=fun r=>if r=3 then some [3,18,19] else none,dr:=fun r=>if r=1 then some [(0,0),(1,0),(2,0),(3,0),(4,0),(5,0),(6,1),(7,0),(8,0),(9,0),(10,0),(11,0)] else none}
def zD5:Cfg:= {wio:=z0p,live:=zu7,dr:=fun r=>if r=11 then some [(0,0),(1,0),(2,0),(3,0),(4,0),(5,1),(6,0),(7,2)] else if r=15 then some [(0,0),(1,0),(2,0),(3,0),(4,0),(5,0),(6,0),(7,0),(8,0),(9,0),(10,1),(11,0),(12,0),(13,0),(14,2)] else if r=17 then some [(0,0),(1,0),(2,0),(3,0),(4,0),(5,1),(6,0),(7,2)] else none,dt:=fun r=>if r=7 then some (.op 0 0 (.op 1 0 (.op 2 0 (.op 4 0 (.op 5 0 (.alt (.op 3 1 (.alt (.op 6 1 (.op 7 0 (.op 8 1 (.op 9 2 .nil)))) (.op 8 1 (.op 6 1 (.op 7 0 (.op 9 2 .nil)))))) (.alt (.op 6 1 (.alt (.op 3 1 (.op 7 0 (.op 8 1 (.op 9 2 .nil)))) (.op 8 1 (.op 3 1 (.op 7 0 (.op 9 2 .nil)))))) (.op 8 1 (.alt (.op 3 1 (.op 6 1 (.op 7 0 (.op 9 2 .nil)))) (.op 6 1 (.op 3 1 (.op 7 0 (.op 9 2 .nil))))))))))))) else none}
def zD4:Cfg:=C0 z0p zu6
def zD3:Cfg:= {wio:=zpV,live:=zu5,dr:=fun r=>if r=23 then some [(0,0),(1,0),(2,0),(3,0),(4,0),(5,0),(6,0),(7,0),(8,0),(9,0),(10,0),(11,0),(12,0),(13,0),(14,0),(15,0),(16,0),(17,0),(18,0)] else if r=24 then some [(0,0),(1,0),(2,0),(3,0),(4,0),(5,0),(6,0),(7,0),(8,0),(9,0),(10,0),(11,0),(12,0),(13,2)] else none,fz:=fun r=>if r=14 then some [5] else none}
def zD2:Cfg:= {wio:=z0p,live:=zu4,dr:=fun r=>if r=17 then some [(0,0),(1,0),(2,0),(3,0),(4,0),(5,0),(6,0),(7,0),(8,0),(9,0),(10,0),(11,0),(12,0),(13,0),(14,1),(15,0)] else none}
def zD1:Cfg:= {wio:=z0p,live:=zu3,dr:=fun r=>if r=8 then some [(0,0),(1,0),(2,0),(3,0),(4,0),(5,0),(6,0),(7,0),(8,0),(9,0)] else if r=13 then some [(0,0),(1,0),(2,0),(3,0),(4,0),(5,0),(6,0),(7,0),(8,0),(9,0),(10,0),(11,0),(12,1),(13,0),(14,0),(15,0),(16,2)] else none}
def zD0:Cfg:=C0 zyc z1k
def zCZ:Cfg:= {wio:=z0p,live:=z1k,dr:=fun r=>if r=1 then some [(0,0),(1,0),(2,0),(3,0),(4,0),(5,0),(6,0),(7,0),(8,0),(9,0),(10,0),(11,0),(12,0),(13,0),(14,0),(15,0),(16,0),(17,0),(18,0),(19,0),(20,1),(21,0)] else none}
def zCY:Cfg:=C0 z0p zu2
def zCX:Cfg:= {wio:=z0p,live:=zu1,dr:=fun r=>if r=13 then some [(0,0),(1,0),(2,0),(3,0),(4,0),(5,0),(6,0),(7,0),(8,0),(9,0),(10,0),(11,0),(12,0),(13,0),(14,2)] else none}
def zCW:Cfg:=C0 z0p zu0
def zCV:Cfg:= {wio:=z0p,live:=fun r=>if r=2 then some [5,6,7] else none,dr:=fun r=>none}
def zCU:Cfg:=C0 z0p ztZ
def zCT:Cfg:=C0 z0p ztY
def zCS:Cfg:=C0 z0p z1k
def zCR:Cfg:= {wio:=z0p,live:=ztX,dr:=fun r=>if r=18 then some [(0,0),(1,0),(2,0),(4,0),(5,0),(3,1),(6,0)] else if r=23 then some [(0,0),(1,0),(3,0),(4,0),(5,0),(6,0),(7,0),(8,0),(9,0),(10,0),(11,0),(12,0),(13,0),(14,0),(2,1),(15,0)] else none}
def zCQ:Cfg:= {wio:=z0p,live:=fun r=>if r=2 then some [0,5,6,7] else none,dr:=fun r=>none}
def zCP:Cfg:= {wio:=z0p,live:=z1k,dr:=fun r=>if r=1 then some [(0,0),(1,0),(2,0),(3,0),(4,0),(5,0),(6,0),(7,0),(8,0),(9,0),(10,0),(11,0),(12,0),(13,0),(14,0),(15,0),(16,0),(17,0),(18,0),(19,0),(20,0),(21,0),(22,1),(23,0)] else none}
def zCO:Cfg:= {wio:=z0p,live:=fun r=>if r=2 then some [1,7,8,9] else none,dr:=fun r=>none}
def zCN:Cfg:= {wio:=z0p,live:=fun r=>if r=5 then some [3,14,15] else none,dr:=fun r=>none}
def zCM:Cfg:=C0 z0p zoR
def zCL:Cfg:=C0 z0p ztW
def zCK:Cfg:= {wio:=z0p,live:=ztV,dr:=fun r=>if r=13 then some [(0,0),(1,0),(2,0),(3,0),(4,0),(5,0),(6,0),(7,0),(8,0),(9,0),(10,0),(11,0),(12,0),(13,0),(14,0),(15,0),(16,0),(17,0),(18,0),(19,1),(20,0),(21,0),(22,2)] else none}
def zCJ:Cfg:=C0 z0p z1k
def zCI:Cfg:= {wio:=z0p,live:=z1k,dr:=fun r=>if r=1 then some [(0,0),(1,0),(2,0),(3,0),(4,0),(5,0),(6,0),(7,0),(8,0),(9,0),(10,0),(11,0),(12,0),(13,0),(14,0),(15,0),(16,0),(17,0),(18,0)] else none}
def zCH:Cfg:= {wio:=z0p,live:=ztU,dr:=fun r=>if r=10 then some [(0,0),(1,0),(2,0),(3,0),(4,0),(5,0),(6,1),(7,0)] else if r=14 then some [(0,0),(1,0),(2,0),(3,0),(4,0),(5,0),(6,0),(7,0),(8,1),(9,0),(10,0),(11,1),(12,2),(13,0)] else none}
def zCG:Cfg:=C0 z0p z1k
def zCF:Cfg:=C0 z0p z1k
def zCE:Cfg:=C0 z0p z1k
def zCD:Cfg:=C0 z0p ztT
def zCC:Cfg:=C0 z0p z1k
def zCB:Cfg:= {wio:=z0p,live:=z1k,dr:=fun r=>if r=1 then some [(0,0),(1,0),(2,0),(3,0),(4,0),(5,0),(6,0),(7,0),(8,1),(9,0)] else none}
def zCA:Cfg:=C0 zyb ztS
def zCz:Cfg:=C0 z0p z1k
def zCy:Cfg:=C0 z0p z1k
def zCx:Cfg:=C0 z0p z1k
def zCw:Cfg:= {wio:=z0p,live:=ztR,dr:=fun r=>if r=4 then some [(0,0),(1,0),(2,0),(3,0),(4,0),(5,0),(6,0),(7,0),(8,0),(9,0),(10,0),(11,0),(12,0),(13,0),(14,1),(15,0),(16,0)] else if r=6 then some [(0,0),(1,0),(2,3),(3,3),(4,3),(5,0),(6,0),(7,0),(8,0),(9,0),(10,0),(11,0),(12,0),(13,0),(14,0),(15,2),(16,0),(17,2)] else none}
def zCv:Cfg:= {wio:=zya,live:=ztQ,dr:=fun r=>if r=5 then some [(0,0),(1,0),(2,0),(3,0),(4,0),(5,0),(6,0),(7,0),(8,0),(9,1),(10,0)] else if r=11 then some [(0,0),(1,0),(2,3),(3,3),(4,3),(5,0),(6,0),(7,0),(8,0),(9,0),(10,0),(11,0),(12,0),(13,0),(14,0),(15,2),(16,0),(17,2)] else if r=17 then some [(0,0),(1,0),(2,0),(3,0),(4,0),(5,0),(6,0),(7,0),(8,0),(9,1),(10,0),(11,0)] else if r=23 then some [(0,0),(1,0),(2,3),(3,3),(4,3),(5,0),(6,0),(7,0),(8,0),(9,0),(10,0),(11,0),(12,0),(13,0),(14,0),(15,2),(16,0),(17,2)] else if r=35 then some [(0,0),(1,0),(2,0),(3,0),(4,0),(5,0),(6,0),(7,0),(8,0),(9,0),(10,0),(11,1),(12,0),(13,0)] else none}
def zCu:Cfg:=C0 z0p ztP
def zCt:Cfg:=C0 z0p z1k
def zCs:Cfg:= {wio:=z0p,live:=z1k,dr:=fun r=>if r=1 then some [(0,0),(1,0),(2,0),(3,0),(4,0),(5,0),(6,0),(7,0),(8,0),(9,0),(10,0),(11,0),(12,0),(13,0),(14,0),(15,0),(16,0),(17,0),(18,0)] else none}
def zCr:Cfg:=C0 z0p z1k
def zCq:Cfg:=C0 zy9 ztO
def zCp:Cfg:= {wio:=zy8,live:=z1k,dr:=fun r=>none,fz:=fun r=>if r=999998 then some [] else none}
def zCo:Cfg:= {wio:=z0p,live:=ztN,dr:=fun r=>if r=3 then some [(0,0),(1,0),(2,0),(3,0),(4,3),(5,3),(6,3),(7,3),(8,0),(9,0),(10,0),(11,0),(12,0),(13,0),(14,0),(15,0),(16,0),(17,0),(18,0),(19,0),(20,0),(21,2),(22,0),(23,2)] else none}
def zCn:Cfg:= {wio:=z0p,live:=ztM,dr:=fun r=>if r=6 then some [(0,0),(1,0),(2,0),(3,0),(4,0),(5,0),(6,0),(7,0),(8,0),(9,0)] else if r=11 then some [(0,0),(1,0),(2,0),(3,0),(4,0),(5,0),(6,0),(7,0),(8,0),(9,0)] else none}
@[simp] theorem kxAll:KX zFP zyi z1k z4c/\KX zFO z0p z1k z4c/\KX zFN zyh z1k z4c/\KX zFM zhV z1k z4c/\KX zFL z0p zuC z4c/\KX zFK zyg z1k z4c/\KX zFJ z0p zuB z4c/\KX zFI zhV (fun r=>if r=3 then some [0,1,7,8] else none) z4c/\KX zFH z0p ziQ z4c/\KX zFG z0p z1k z4c/\KX zFF z0p z1k z4c/\KX zFE zhV zuA zDr/\KX zEO zhV zuz zDr/\KX zFD zyf zuy z4c/\KX zFC z0p zux z4c/\KX zFB z0p zuw z4c/\KX zFA z0p zuv z4c/\KX zFz zhV zuu (fun r=>if r=6 then [0] else [])/\KX zFy zye zut z4c/\KX zFx z0p z1k z4c/\KX zFw z0p z1k z4c/\KX zFv z0p (fun r=>if r=6 then some [1,5,26,27] else none) z4c/\KX zFu zwh zus z4c/\KX zFt z0p z1k z4c/\KX zFs z0p zur z4c/\KX zFr z0p ziQ z4c/\KX zFq z0p zuq z4c/\KX zFp z0p ziQ z4c/\KX zFo z0p zoS z4c/\KX zFn z0p zup z4c/\KX zFm z0p zuo z4c/\KX zFl z0p zun z4c/\KX zEN z0p zum z4c/\KX zFk zpV zul z4c/\KX zFj z0p zuk z4c/\KX zFi z0p z1k z4c/\KX zFh z0p zuj z4c/\KX zFg z0p zui z4c/\KX zFf z0p zoR z4c/\KX zFe z0p zuh z4c/\KX zFd z0p (fun r=>if r=4 then some [0,1,18,19] else none) z4c/\KX zFc z0p zug z4c/\KX zFb z0p zuf z4c/\KX zFa zpV zue z4c/\KX zF9 z0p zjA z4c/\KX zF8 z0p zud z4c/\KX zF7 zwh zuc z4c/\KX zF6 z0p zub z4c/\KX zDg z0p zua z4c/\KX zDf z0p zu9 z4c/\KX zDe z0p (fun r=>if r=3 then some [3,6,7,8] else none) z4c/\KX zDd z0p z1k z4c/\KX zDc z0p zjA z4c/\KX zDb z0p z1k z4c/\KX zDa z0p zoS z4c/\KX zD9 z0p zu8 z4c/\KX zD8 z0p z1k z4c/\KX zD7 z0p z1k z4c/\KX zD6 zyd (fun r=>if r=3 then some [3,18,19] else none) z4c/\KX zD5 z0p zu7 z4c/\KX zD4 z0p zu6 z4c/\KX zD3 zpV zu5 z4c/\KX zD2 z0p zu4 z4c/\KX zD1 z0p zu3 z4c/\KX zD0 zyc z1k z4c/\KX zCZ z0p z1k z4c/\KX zCY z0p zu2 z4c/\KX zCX z0p zu1 z4c/\KX zCW z0p zu0 z4c/\KX zCV z0p (fun r=>if r=2 then some [5,6,7] else none) z4c/\KX zCU z0p ztZ z4c/\KX zCT z0p ztY z4c/\KX zCS z0p z1k z4c/\KX zCR z0p ztX z4c/\KX zCQ z0p (fun r=>if r=2 then some [0,5,6,7] else none) z4c/\KX zCP z0p z1k z4c/\KX zCO z0p (fun r=>if r=2 then some [1,7,8,9] else none) z4c/\KX zCN z0p (fun r=>if r=5 then some [3,14,15] else none) z4c/\KX zCM z0p zoR z4c/\KX zCL z0p ztW z4c/\KX zCK z0p ztV z4c/\KX zCJ z0p z1k z4c/\KX zCI z0p z1k z4c/\KX zCH z0p ztU z4c/\KX zCG z0p z1k z4c/\KX zCF z0p z1k z4c/\KX zCE z0p z1k z4c/\KX zCD z0p ztT z4c/\KX zCC z0p z1k z4c/\KX zCB z0p z1k z4c/\KX zCA zyb ztS z4c/\KX zCz z0p z1k z4c/\KX zCy z0p z1k z4c/\KX zCx z0p z1k z4c/\KX zCw z0p ztR z4c/\KX zCv zya ztQ z4c/\KX zCu z0p ztP z4c/\KX zCt z0p z1k z4c/\KX zCs z0p z1k z4c/\KX zCr z0p z1k z4c/\KX zCq zy9 ztO z4c/\KX zCp zy8 z1k z4c/\KX zCo z0p ztN z4c/\KX zCn z0p ztM z4c:=by
  and_intros<;>rfl
def cg0:List (Nat×Cfg):= [(11,zFP),(12,zFO),(13,zFN),(14,zFM),(15,zFL),(18,zFK),(20,zFJ),(22,zFI),(27,zFH),(28,zFG)]
def cg1:List (Nat×Cfg):= [(30,zFF),(31,zFE),(33,zFD),(36,zFC),(38,zFB),(42,zFA),(43,zFz),(44,zFy),(45,zFx),(46,zFw)]
def cg2:List (Nat×Cfg):= [(47,zFv),(48,zFu),(49,zFt),(51,zFs),(65,zFr),(68,zFq),(69,zFp),(72,zFo),(73,zFn),(74,zFm)]
def cg3:List (Nat×Cfg):= [(77,zFl),(80,zFk),(81,zFj),(82,zFi),(83,zFh),(84,zFg),(85,zFf),(86,zFe),(92,zFd),(93,zFc)]
def cg4:List (Nat×Cfg):= [(94,zFb),(95,zFa),(96,zF9),(97,zF8),(98,zF7),(99,zF6),(101,zDg),(103,zDf),(107,zDe),(108,zDd)]
def cg5:List (Nat×Cfg):= [(109,zDc),(110,zDb),(121,zDa),(125,zD9),(126,zD8),(129,zD7),(130,zD6),(131,zD5),(132,zD4),(133,zD3)]
def cg6:List (Nat×Cfg):= [(134,zD2),(135,zD1),(136,zD0),(137,zCZ),(138,zCY),(139,zCX),(140,zCW),(141,zCV),(142,zCU),(143,zCT)]
def cg7:List (Nat×Cfg):= [(144,zCS),(145,zCR),(146,zCQ),(149,zCP),(150,zCO),(151,zCN),(152,zCM),(153,zCL),(154,zCK),(160,zCJ)]
def cg8:List (Nat×Cfg):= [(161,zCI),(173,zCH),(174,zCG),(176,zCF),(177,zCE),(178,zCD),(179,zCC),(180,zCB),(181,zCA),(182,zCz)]
def cg9:List (Nat×Cfg):= [(183,zCy),(207,zCx),(208,zCw),(209,zCv),(210,zCu),(211,zCt),(227,zCs),(228,zCr),(229,zCq),(230,zCp)]
def cg10:List (Nat×Cfg):= [(236,zCo),(238,zCn)]
def cg11:List (Nat×Cfg):= [(32,zEO),(79,zEN)]
def znQ(f:FuncId):Option Cfg:=((cg0++cg1++cg2++cg3++cg4++cg5++cg6++cg7++cg8++cg9++cg10++cg11).find? fun x=>x.1==f).map (·.2)
def zpE(fn:Func):Code:=match fn.body with|some c=>c|none=>.skip
theorem bdy(fn:Func)(h:fn.body.isSome=true):fn.body=some (zpE fn):=by
 unfold zpE
 cases hb:fn.body with
 |some c=>rfl
 |none=>rw[hb] at h;cases h
noncomputable def xt:z0g->z0g:=xtF
noncomputable def L:z0g:=Lim Tryz.prog xt znQ
theorem zw5{f:FuncId}{c:Cfg}{fn:Func}{args:List T}{o:T×List T}(hc:znQ f=some c)(hfn:Tryz.prog.funcs[f]? =some fn)(h:zkr Tryz.prog L c LFm fn args=some o):L f args=some o:=zuD hc hfn h
end
section
open Go
variable{cf:Cfg}{c:Code}{fn:Func}{f:FuncId}{args outs:List T}{r:T}
theorem z4q(hc:znQ f=some cf)(hfn:Tryz.prog.funcs[f]? =some fn)(hb:fn.body=some c)(ha:args.length<=fn.ntmps/\(args.filter z7N).length<=1:=by exact⟨of_decide_eq_true rfl,of_decide_eq_true rfl⟩)(hz:cf.fz 999998=none:=by rfl)(g:wpC Tryz.prog L cf LFm c (z9l fn.ntmps args) (zAd Tryz.prog fn args r outs):=by simp only[z9l,z9k,z8w,zbb,z7N];exact zrV):L f args=some (r,outs):=zw5 hc hfn (zzg hb ha g hz)
theorem zhQ(hc:znQ f=some cf)(hfn:Tryz.prog.funcs[f]? =some fn)(hb:fn.body=some c)(ha:args.length<=fn.ntmps/\(args.filter z7N).length<=1:=by exact⟨of_decide_eq_true rfl,of_decide_eq_true rfl⟩)(hz:(cf.fz 999998).isSome=true:=by rfl)(g:wpC Tryz.prog L cf LFm c (z9l fn.ntmps args) (zvh Tryz.prog fn args r outs):=by simp only[z9l,z9k,z8w,zbb,z7N];exact zrV):L f args=some (r,outs):=zw5 hc hfn (zfn hb ha hz g)
end
section
open Go Go.IntKind
noncomputable section
variable{a0:DFA}{a1 a2:Int}
def z8s(a0:Int):Option (Bool):=
 if 1<=a0 then
 some (decide (a0<=6))
 else
 some false
abbrev z6Y(a0:DFA)(w22:Int)(v28:List Int):Int->Option (Int⊕(Int⊕Int))
 |w30=>
 if w30<(v28.length:Int) then
 (atI v28 w30).bind fun v32=>
 if v32<0 then
 z0d<|
 z0d<|
 some 4
 else
 if(a0.final.length:Int)<=v32 then
 z0d<|
 z0d<|
 some 4
 else
 z0c (i64.wrap (w30+1))
 else
 z0d<|
 z0c (i64.wrap (w22+1))
instance{w22:Int}{v28:List Int}:Hd (z6Y a0 w22 v28):=⟨fun w30=>([(51,xI w30)],[])⟩
abbrev z6q(a0:DFA):Int->Option (Int⊕Int)
 |w22=>
 if w22<(a0.next.length:Int) then
 (atI a0.next w22).bind fun v28=>
 if(v28.length:Int)=a0.letters then
 z0h (z6Y a0 w22 v28) LFm 0
 else
 z0d<|
 some 4
 else
 z0d<|
 some 0
instance:Hd (z6q a0):=⟨fun w22=>([(40,xI w22)],[])⟩
def z5A(a0:DFA):Option (Int):=
 if a0.letters<1 then
 some 1
 else
 if 6<a0.letters then
 some 1
 else
 if 512<(a0.final.length:Int) then
 some 3
 else
 if(a0.next.length:Int)=(a0.final.length:Int) then
 if a0.start<0 then
 some 4
 else
 if(a0.final.length:Int)<=a0.start then
 some 4
 else
 z0h (z6q a0) LFm 0
 else
 some 4
instance:Ok (z5A a0) (fun r=>L 77 [.agg [.sc (.int .i64 a0.letters),.sc (.int .i64 a0.start),(tB a0.final),(tR a0.next)]]=some (.sc (.int .i64 r),[.dead])):=⟨fun r h=>by have h:=z3p h;unfold z5A at h;exact z4q rfl Tryz.func77 (bdy Tryz.f77 rfl)⟩
def z6j(a0:DFA):Option (Int):=
 (z5A a0).bind fun v2=>
 if v2=0 then
 if 12<(a0.final.length:Int) then
 some 3
 else
 some 0
 else
 some v2
instance:Ok (z6j a0) (fun r=>L 129 [.agg [.sc (.int .i64 a0.letters),.sc (.int .i64 a0.start),(tB a0.final),(tR a0.next)]]=some (.sc (.int .i64 r),[.dead])):=⟨fun r h=>by have h:=z3p h;unfold z6j at h;exact z4q rfl Tryz.func129 (bdy Tryz.f129 rfl)⟩
abbrev z8b(a0:ByteArray)(a1:Int):Int->Option (Int⊕Bool)
 |w12=>
 if w12<(a0.size:Int) then
 (zhA a0 w12).bind fun v15=>
 if v15<97 then
 z0d<|
 some false
 else
 if a1<=(i64.wrap (u8.wrap (v15-97))) then
 z0d<|
 some false
 else
 z0c (i64.wrap (w12+1))
 else
 z0d<|
 some true
instance{a0:ByteArray}:Hd (z8b a0 a1):=⟨fun w12=>([(5,xI w12)],[])⟩
def z8Z(a0:ByteArray)(a1:Int):Option (Bool):=
 (z8s a1).bind fun v9=>
 if v9=true then
 if 2048<(a0.size:Int) then
 some false
 else
 z0h (z8b a0 a1) LFm 0
 else
 some false
abbrev zcN(a0:ByteArray)(a1:Int):Int->Option (Int⊕Bool)
 |w10=>
 if w10<(a0.size:Int) then
 (zhA a0 w10).bind fun v13=>
 if v13<97 then
 z0d<|
 some false
 else
 if a1<=(i64.wrap (u8.wrap (v13-97))) then
 z0d<|
 some false
 else
 z0c (i64.wrap (w10+1))
 else
 z0d<|
 some true
instance{a0:ByteArray}:Hd (zcN a0 a1):=⟨fun w10=>([(19,xI w10)],[])⟩
def z7e(a0:ByteArray)(a1:Int):Option (Bool):=
 if a1<1 then
 some false
 else
 if 6<a1 then
 some false
 else
 if 2048<(a0.size:Int) then
 some false
 else
 z0h (zcN a0 a1) LFm 0
instance{a0:ByteArray}:Ok (z7e a0 a1) (fun r=>L 92 [.sc (.string a0),.sc (.int .i64 a1)]=some (.sc (.bool r),[.dead,.dead])):=⟨fun r h=>by have h:=z3p h;unfold z7e at h;exact z4q rfl Tryz.func92 (bdy Tryz.f92 rfl)⟩
abbrev z8c(a0:DFA)(a1:Int)(a2:Int):Int×Int->Option ((Int×Int)⊕Int)
 |(w11,w12)=>
 if w12<(a0.next.length:Int) then
 (atI a0.next w12).bind fun v15=>
 chk (¬w12<0)<|
 if(z3k .i64 (z1D .i64 a1 w12) 1)=1 then
 (atI v15 a2).bind fun v16=>
 chk (¬v16<0)<|
 z0c (orI .i64 w11 (zmA .i64 1 v16),i64.wrap (w12+1))
 else
 z0c (w11,i64.wrap (w12+1))
 else
 z0d<|
 some w11
instance:Hd (z8c a0 a1 a2):=⟨fun(w11,w12)=>([(7,xI w11),(13,xI w12)],[])⟩
def z7P(a0:DFA)(a1:Int)(a2:Int):Option (Int):=
 z0h (z8c a0 a1 a2) LFm (0,0)
instance:Ok (z7P a0 a1 a2) (fun r=>L 178 [.agg [.sc (.int .i64 a0.letters),.sc (.int .i64 a0.start),(tB a0.final),(tR a0.next)],.sc (.int .i64 a1),.sc (.int .i64 a2)]=some (.sc (.int .i64 r),[.dead,.dead,.dead])):=⟨fun r h=>by have h:=z3p h;unfold z7P at h;exact z4q rfl Tryz.func178 (bdy Tryz.f178 rfl)⟩
def z4u(a0:Int)(a1:Int):Option (Bool):=
 some (decide ((zhL .i64 a1 a0)=0))
instance{a0:Int}:Ok (z4u a0 a1) (fun r=>L 179 [.sc (.int .i64 a0),.sc (.int .i64 a1)]=some (.sc (.bool r),[.dead,.dead])):=⟨fun r h=>by have h:=z3p h;unfold z4u at h;exact z4q rfl Tryz.func179 (bdy Tryz.f179 rfl)⟩
abbrev z6k(a0:DFA)(w77:Int):Int×List Bool×List Int×List ByteArray->Option ((Int×List Bool×List Int×List ByteArray)⊕((Int×List Bool×List Int×List ByteArray)⊕(List Int×List ByteArray)))
 |(w105,w106,w107,w108)=>
 if w105<a0.letters then
 (atI w107 w77).bind fun v114=>
 (z7P a0 v114 w105).bind fun v115=>
 (atI w106 v115).bind fun v116=>
 if v116=true then
 z0c (i64.wrap (w105+1),w106,w107,w108)
 else
 chk (z1C 8 (w107.length+1))<|
 (atI w108 w77).bind fun v118=>
 chk (zaM v118 ⟨#[UInt8.ofNat (u8.wrap (i64.wrap (97+w105))).toNat]⟩)<|
 chk (z1C 16 (w108.length+1))<|
 z0c (i64.wrap (w105+1),(w106.set v115.toNat true),w107++ [v115],w108++ [v118++⟨#[UInt8.ofNat (u8.wrap (i64.wrap (97+w105))).toNat]⟩])
 else
 z0d<|
 z0c (i64.wrap (w77+1),w106,w107,w108)
instance{w77:Int}:Hd (z6k a0 w77):=⟨fun(w105,w106,w107,w108)=>([(31,xI w105)],[(6,.os 1 w106.length (w106.map fun x0=>.sc (.bool x0))),(7,(tO w107)),(8,.os 1 w108.length (w108.map fun x0=>.sc (.string x0)))])⟩
abbrev z9d(a0:DFA):Int×List Bool×List Int×List ByteArray->Option ((Int×List Bool×List Int×List ByteArray)⊕(List Int×List ByteArray))
 |(w77,w78,w79,w80)=>
 if w77<(w79.length:Int) then
 z0h (z6k a0 w77) LFm (0,w78,w79,w80)
 else
 z0d<|
 some (w79,w80)
instance:Hd (z9d a0):=⟨fun(w77,w78,w79,w80)=>([(9,xI w77)],[(6,.os 1 w78.length (w78.map fun x0=>.sc (.bool x0))),(7,(tO w79)),(8,.os 1 w80.length (w80.map fun x0=>.sc (.string x0)))])⟩
def z8m(a0:DFA)(a1:Int):Option (List Int×List ByteArray):=
 chk (¬(a0.final.length:Int)<0)<|
 chk (z0S 1 (zmA .i64 1 (a0.final.length:Int)))<|
 chk (0<=a1/\a1<(zmA .i64 1 (a0.final.length:Int)))<|
 z0h (z9d a0) LFm (0,((List.replicate (zmA .i64 1 (a0.final.length:Int)).toNat (false:Bool)).set a1.toNat true),[a1],[ByteArray.empty])
instance:Ok (z8m a0 a1) (fun r=>L 173 [.agg [.sc (.int .i64 a0.letters),.sc (.int .i64 a0.start),(tB a0.final),(tR a0.next)],.sc (.int .i64 a1)]=some (.tup [(tO r.1),.os 1 r.2.length (r.2.map fun x0=>.sc (.string x0))],[.dead,.dead])):=⟨fun r h=>by have h:=z3p h;unfold z8m at h;exact z4q rfl Tryz.func173 (bdy Tryz.f173 rfl)⟩
def z3G(a0:Int):Option (Int):=
 chk (¬1<0)<|
 chk (¬2<0)<|
 chk (¬4<0)<|
 chk (¬8<0)<|
 chk (¬16<0)<|
 chk (¬32<0)<|
 some (z3k .i64 (i64.wrap (u64.wrap ((u64.wrap ((u64.wrap ((z3k .u64 (u64.wrap ((z1D .u64 (u64.wrap ((z3k .u64 (z1D .u64 (u64.wrap ((z3k .u64 (z1D .u64 a0 1) 6148914691236517205)+(z3k .u64 a0 6148914691236517205))) 2) 3689348814741910323)+(z3k .u64 (u64.wrap ((z3k .u64 (z1D .u64 a0 1) 6148914691236517205)+(z3k .u64 a0 6148914691236517205))) 3689348814741910323))) 4)+(u64.wrap ((z3k .u64 (z1D .u64 (u64.wrap ((z3k .u64 (z1D .u64 a0 1) 6148914691236517205)+(z3k .u64 a0 6148914691236517205))) 2) 3689348814741910323)+(z3k .u64 (u64.wrap ((z3k .u64 (z1D .u64 a0 1) 6148914691236517205)+(z3k .u64 a0 6148914691236517205))) 3689348814741910323))))) 1085102592571150095)+(z1D .u64 (z3k .u64 (u64.wrap ((z1D .u64 (u64.wrap ((z3k .u64 (z1D .u64 (u64.wrap ((z3k .u64 (z1D .u64 a0 1) 6148914691236517205)+(z3k .u64 a0 6148914691236517205))) 2) 3689348814741910323)+(z3k .u64 (u64.wrap ((z3k .u64 (z1D .u64 a0 1) 6148914691236517205)+(z3k .u64 a0 6148914691236517205))) 3689348814741910323))) 4)+(u64.wrap ((z3k .u64 (z1D .u64 (u64.wrap ((z3k .u64 (z1D .u64 a0 1) 6148914691236517205)+(z3k .u64 a0 6148914691236517205))) 2) 3689348814741910323)+(z3k .u64 (u64.wrap ((z3k .u64 (z1D .u64 a0 1) 6148914691236517205)+(z3k .u64 a0 6148914691236517205))) 3689348814741910323))))) 1085102592571150095) 8)))+(z1D .u64 (u64.wrap ((z3k .u64 (u64.wrap ((z1D .u64 (u64.wrap ((z3k .u64 (z1D .u64 (u64.wrap ((z3k .u64 (z1D .u64 a0 1) 6148914691236517205)+(z3k .u64 a0 6148914691236517205))) 2) 3689348814741910323)+(z3k .u64 (u64.wrap ((z3k .u64 (z1D .u64 a0 1) 6148914691236517205)+(z3k .u64 a0 6148914691236517205))) 3689348814741910323))) 4)+(u64.wrap ((z3k .u64 (z1D .u64 (u64.wrap ((z3k .u64 (z1D .u64 a0 1) 6148914691236517205)+(z3k .u64 a0 6148914691236517205))) 2) 3689348814741910323)+(z3k .u64 (u64.wrap ((z3k .u64 (z1D .u64 a0 1) 6148914691236517205)+(z3k .u64 a0 6148914691236517205))) 3689348814741910323))))) 1085102592571150095)+(z1D .u64 (z3k .u64 (u64.wrap ((z1D .u64 (u64.wrap ((z3k .u64 (z1D .u64 (u64.wrap ((z3k .u64 (z1D .u64 a0 1) 6148914691236517205)+(z3k .u64 a0 6148914691236517205))) 2) 3689348814741910323)+(z3k .u64 (u64.wrap ((z3k .u64 (z1D .u64 a0 1) 6148914691236517205)+(z3k .u64 a0 6148914691236517205))) 3689348814741910323))) 4)+(u64.wrap ((z3k .u64 (z1D .u64 (u64.wrap ((z3k .u64 (z1D .u64 a0 1) 6148914691236517205)+(z3k .u64 a0 6148914691236517205))) 2) 3689348814741910323)+(z3k .u64 (u64.wrap ((z3k .u64 (z1D .u64 a0 1) 6148914691236517205)+(z3k .u64 a0 6148914691236517205))) 3689348814741910323))))) 1085102592571150095) 8))) 16)))+(z1D .u64 (u64.wrap ((u64.wrap ((z3k .u64 (u64.wrap ((z1D .u64 (u64.wrap ((z3k .u64 (z1D .u64 (u64.wrap ((z3k .u64 (z1D .u64 a0 1) 6148914691236517205)+(z3k .u64 a0 6148914691236517205))) 2) 3689348814741910323)+(z3k .u64 (u64.wrap ((z3k .u64 (z1D .u64 a0 1) 6148914691236517205)+(z3k .u64 a0 6148914691236517205))) 3689348814741910323))) 4)+(u64.wrap ((z3k .u64 (z1D .u64 (u64.wrap ((z3k .u64 (z1D .u64 a0 1) 6148914691236517205)+(z3k .u64 a0 6148914691236517205))) 2) 3689348814741910323)+(z3k .u64 (u64.wrap ((z3k .u64 (z1D .u64 a0 1) 6148914691236517205)+(z3k .u64 a0 6148914691236517205))) 3689348814741910323))))) 1085102592571150095)+(z1D .u64 (z3k .u64 (u64.wrap ((z1D .u64 (u64.wrap ((z3k .u64 (z1D .u64 (u64.wrap ((z3k .u64 (z1D .u64 a0 1) 6148914691236517205)+(z3k .u64 a0 6148914691236517205))) 2) 3689348814741910323)+(z3k .u64 (u64.wrap ((z3k .u64 (z1D .u64 a0 1) 6148914691236517205)+(z3k .u64 a0 6148914691236517205))) 3689348814741910323))) 4)+(u64.wrap ((z3k .u64 (z1D .u64 (u64.wrap ((z3k .u64 (z1D .u64 a0 1) 6148914691236517205)+(z3k .u64 a0 6148914691236517205))) 2) 3689348814741910323)+(z3k .u64 (u64.wrap ((z3k .u64 (z1D .u64 a0 1) 6148914691236517205)+(z3k .u64 a0 6148914691236517205))) 3689348814741910323))))) 1085102592571150095) 8)))+(z1D .u64 (u64.wrap ((z3k .u64 (u64.wrap ((z1D .u64 (u64.wrap ((z3k .u64 (z1D .u64 (u64.wrap ((z3k .u64 (z1D .u64 a0 1) 6148914691236517205)+(z3k .u64 a0 6148914691236517205))) 2) 3689348814741910323)+(z3k .u64 (u64.wrap ((z3k .u64 (z1D .u64 a0 1) 6148914691236517205)+(z3k .u64 a0 6148914691236517205))) 3689348814741910323))) 4)+(u64.wrap ((z3k .u64 (z1D .u64 (u64.wrap ((z3k .u64 (z1D .u64 a0 1) 6148914691236517205)+(z3k .u64 a0 6148914691236517205))) 2) 3689348814741910323)+(z3k .u64 (u64.wrap ((z3k .u64 (z1D .u64 a0 1) 6148914691236517205)+(z3k .u64 a0 6148914691236517205))) 3689348814741910323))))) 1085102592571150095)+(z1D .u64 (z3k .u64 (u64.wrap ((z1D .u64 (u64.wrap ((z3k .u64 (z1D .u64 (u64.wrap ((z3k .u64 (z1D .u64 a0 1) 6148914691236517205)+(z3k .u64 a0 6148914691236517205))) 2) 3689348814741910323)+(z3k .u64 (u64.wrap ((z3k .u64 (z1D .u64 a0 1) 6148914691236517205)+(z3k .u64 a0 6148914691236517205))) 3689348814741910323))) 4)+(u64.wrap ((z3k .u64 (z1D .u64 (u64.wrap ((z3k .u64 (z1D .u64 a0 1) 6148914691236517205)+(z3k .u64 a0 6148914691236517205))) 2) 3689348814741910323)+(z3k .u64 (u64.wrap ((z3k .u64 (z1D .u64 a0 1) 6148914691236517205)+(z3k .u64 a0 6148914691236517205))) 3689348814741910323))))) 1085102592571150095) 8))) 16))) 32)))) 127)
instance{a0:Int}:Ok (z3G a0) (fun r=>L 228 [.sc (.int .u64 a0)]=some (.sc (.int .i64 r),[.dead])):=⟨fun r h=>by have h:=z3p h;unfold z3G at h;exact z4q rfl Tryz.func228 (bdy Tryz.f228 rfl)⟩
def z5F(a0:Int):Option (Int):=
 (z3G a0).bind fun v2=>
 some v2
instance{a0:Int}:Ok (z5F a0) (fun r=>L 207 [.sc (.int .u64 a0)]=some (.sc (.int .i64 r),[.dead])):=⟨fun r h=>by have h:=z3p h;unfold z5F at h;exact z4q rfl Tryz.func207 (bdy Tryz.f207 rfl)⟩
def z7O(a0:Int):Option (Int):=
 (z5F (u64.wrap a0)).bind fun v2=>
 some v2
instance{a0:Int}:Ok (z7O a0) (fun r=>L 177 [.sc (.int .i64 a0)]=some (.sc (.int .i64 r),[.dead])):=⟨fun r h=>by have h:=z3p h;unfold z7O at h;exact z4q rfl Tryz.func177 (bdy Tryz.f177 rfl)⟩
end
end
section
open Go Go.IntKind
noncomputable section
variable{a1 a2 a3:Int}{a0 m0 m2 m3:List Int}{rf:List Int->Int->Int->Int->List Int->Option (List Int)}
def cmp_isNaN_int(a0:Int):Option (Bool):=
 some (!decide (a0=a0))
instance{a0:Int}:Ok (cmp_isNaN_int a0) (fun r=>L 160 [.sc (.int .i64 a0)]=some (.sc (.bool r),[.dead])):=⟨fun r h=>by have h:=z3p h;unfold cmp_isNaN_int at h;exact z4q rfl Tryz.func160 (bdy Tryz.f160 rfl)⟩
def cmp_Compare_int(a0:Int)(a1:Int):Option (Int):=
 (cmp_isNaN_int a0).bind fun v3=>
 (cmp_isNaN_int a1).bind fun v4=>
 if v3=true then
 if v4=true then
 some 0
 else
 some (-1)
 else
 if v4=true then
 some 1
 else
 if a0<a1 then
 some (-1)
 else
 if a1<a0 then
 some 1
 else
 some 0
instance{a0:Int}:Ok (cmp_Compare_int a0 a1) (fun r=>L 108 [.sc (.int .i64 a0),.sc (.int .i64 a1)]=some (.sc (.int .i64 r),[.dead,.dead])):=⟨fun r h=>by have h:=z3p h;unfold cmp_Compare_int at h;exact z4q rfl Tryz.func108 (bdy Tryz.f108 rfl)⟩
def z1e(a0:Int)(a1:Int)(m1:List Int):Option (Int):=
 (atI m1 a0).bind fun v4=>
 (atI m1 a1).bind fun v5=>
 (cmp_Compare_int v4 v5).bind fun v6=>
 some v6
instance{a0:Int}{m1:List Int}:Ok (z1e a0 a1 m1) (fun r=>L 180 [.sc (.int .i64 a0),.sc (.int .i64 a1),.pr [(tI m1)]]=some (.sc (.int .i64 r),[.dead,.dead,.dead])):=⟨fun r h=>by have h:=z3p h;unfold z1e at h;exact z4q rfl Tryz.func180 (bdy Tryz.f180 rfl)⟩
abbrev z1x(a1:Int)(m3:List Int)(w95:Int):Int×List Int->Option ((Int×List Int)⊕((Int×List Int)⊕List Int))
 |(w127,w128)=>
 if a1<w127 then
 (atI w128 w127).bind fun v136=>
 (atI w128 (i64.wrap (w127-1))).bind fun v137=>
 (z1e v136 v137 m3).bind fun v138=>
 if v138<0 then
 (atI (w128.set w127.toNat v137) (i64.wrap (w127-1))).bind fun v142=>
 z0c (i64.wrap (w127-1),((w128.set w127.toNat v137).set (i64.wrap (w127-1)).toNat v136))
 else
 z0d<|
 z0c (i64.wrap (w95+1),w128)
 else
 z0d<|
 z0c (i64.wrap (w95+1),w128)
instance{w95:Int}:Hd (z1x a1 m3 w95):=⟨fun(w127,w128)=>([(9,xI w127)],[(0,(tO w128))])⟩
abbrev z1y(a1:Int)(a2:Int)(m3:List Int):Int×List Int->Option ((Int×List Int)⊕List Int)
 |(w95,w96)=>
 if w95<a2 then
 z0h (z1x a1 m3 w95) LFm (w95,w96)
 else
 z0d<|
 some w96
instance:Hd (z1y a1 a2 m3):=⟨fun(w95,w96)=>([(8,xI w95)],[(0,(tO w96))])⟩
def z0C(a0:List Int)(a1:Int)(a2:Int)(m3:List Int):Option (List Int):=
 z0h (z1y a1 a2 m3) LFm (i64.wrap (a1+1),a0)
instance:Ok (z0C a0 a1 a2 m3) (fun r=>L 208 [(tO a0),.sc (.int .i64 a1),.sc (.int .i64 a2),.cl 180 [.pr [(tI m3)]]]=some (.tup [],[(tO r),.dead,.dead,.dead])):=⟨fun r h=>by have h:=z3p h;unfold z0C at h;exact z4q rfl Tryz.func208 (bdy Tryz.f208 rfl)⟩
abbrev z1O(a1:Int)(a2:Int)(a3:Int):Int×List Int->Option ((Int×List Int)⊕List Int)
 |(w19,w20)=>
 if w19<a3 then
 (atI w20 (i64.wrap (a2+w19))).bind fun v25=>
 (atI w20 (i64.wrap (a1+w19))).bind fun v26=>
 (atI (w20.set (i64.wrap (a1+w19)).toNat v25) (i64.wrap (a2+w19))).bind fun v28=>
 z0c (i64.wrap (w19+1),((w20.set (i64.wrap (a1+w19)).toNat v25).set (i64.wrap (a2+w19)).toNat v26))
 else
 z0d<|
 some w20
instance:Hd (z1O a1 a2 a3):=⟨fun(w19,w20)=>([(10,xI w19)],[(0,(tO w20))])⟩
def z0u(a0:List Int)(a1:Int)(a2:Int)(a3:Int)(m0:List Int):Option (List Int):=
 z0h (z1O a1 a2 a3) LFm (0,a0)
instance:Ok (z0u a0 a1 a2 a3 m0) (fun r=>L 236 [(tO a0),.sc (.int .i64 a1),.sc (.int .i64 a2),.sc (.int .i64 a3),.cl 180 [.pr [(tI m0)]]]=some (.tup [],[(tO r),.dead,.dead,.dead,.dead])):=⟨fun r h=>by have h:=z3p h;unfold z0u at h;exact z4q rfl Tryz.func236 (bdy Tryz.f236 rfl)⟩
abbrev z1Z(a2:Int)(m0:List Int):Int×Int×List Int->Option ((Int×Int×List Int)⊕List Int)
 |(w13,w15,w14)=>
 if w13=w15 then
 z0d<|
 (z0u w14 (i64.wrap (a2-w13)) a2 w13 m0).bind fun v18=>
 some v18
 else
 if w15<w13 then
 (z0u w14 (i64.wrap (a2-w13)) a2 w15 m0).bind fun v19=>
 z0c (i64.wrap (w13-w15),w15,v19)
 else
 (z0u w14 (i64.wrap (a2-w13)) (i64.wrap ((i64.wrap (a2+w15))-w13)) w13 m0).bind fun v20=>
 z0c (w13,i64.wrap (w15-w13),v20)
instance:Hd (z1Z a2 m0):=⟨fun(w13,w15,w14)=>([(10,xI w13),(11,xI w15)],[(0,(tO w14))])⟩
def z0V(a0:List Int)(a1:Int)(a2:Int)(a3:Int)(m0:List Int):Option (List Int):=
 z0h (z1Z a2 m0) LFm (i64.wrap (a2-a1),i64.wrap (a3-a2),a0)
instance:Ok (z0V a0 a1 a2 a3 m0) (fun r=>L 229 [(tO a0),.sc (.int .i64 a1),.sc (.int .i64 a2),.sc (.int .i64 a3),.cl 180 [.pr [(tI m0)]]]=some (.tup [],[(tO r),.dead,.dead,.dead,.dead])):=⟨fun r h=>by have h:=z3p h;unfold z0V at h;exact z4q rfl Tryz.func229 (bdy Tryz.f229 rfl)⟩
abbrev z1R(w102:Int):Int×List Int->Option ((Int×List Int)⊕List Int)
 |(w114,w115)=>
 if w114<(i64.wrap (w102-1)) then
 (atI w115 (i64.wrap (w114+1))).bind fun v120=>
 (atI w115 w114).bind fun v121=>
 (atI (w115.set w114.toNat v120) (i64.wrap (w114+1))).bind fun v123=>
 z0c (i64.wrap (w114+1),((w115.set w114.toNat v120).set (i64.wrap (w114+1)).toNat v121))
 else
 z0d<|
 some w115
instance{w102:Int}:Hd (z1R w102):=⟨fun(w114,w115)=>([(13,xI w114)],[(0,(tO w115))])⟩
abbrev z1S(a0:List Int)(a1:Int)(m0:List Int):Int×Int->Option ((Int×Int)⊕List Int)
 |(w102,w103)=>
 if w102<w103 then
 chk (¬1<0)<|
 (atI a0 (md w102 w103)).bind fun v107=>
 (atI a0 a1).bind fun v108=>
 (z1e v107 v108 m0).bind fun v109=>
 if v109<0 then
 z0c (i64.wrap ((md w102 w103)+1),w103)
 else
 z0c (w102,i64.wrap (z1D .u64 (u64.wrap (i64.wrap (w102+w103))) 1))
 else
 z0d<|
 z0h (z1R w102) LFm (a1,a0)
instance:Hd (z1S a0 a1 m0):=⟨fun(w102,w103)=>([(10,xI w102),(11,xI w103)],[])⟩
abbrev z1J(w128:Int):Int×List Int->Option ((Int×List Int)⊕List Int)
 |(w139,w140)=>
 if w128<w139 then
 (atI w140 (i64.wrap (w139-1))).bind fun v145=>
 (atI w140 w139).bind fun v146=>
 (atI (w140.set w139.toNat v145) (i64.wrap (w139-1))).bind fun v148=>
 z0c (i64.wrap (w139-1),((w140.set w139.toNat v145).set (i64.wrap (w139-1)).toNat v146))
 else
 z0d<|
 some w140
instance{w128:Int}:Hd (z1J w128):=⟨fun(w139,w140)=>([(17,xI w139)],[(0,(tO w140))])⟩
abbrev z1K(a0:List Int)(a2:Int)(m0:List Int):Int×Int->Option ((Int×Int)⊕List Int)
 |(w128,w127)=>
 if w128<w127 then
 chk (¬1<0)<|
 (atI a0 a2).bind fun v132=>
 (atI a0 (md w128 w127)).bind fun v133=>
 (z1e v132 v133 m0).bind fun v134=>
 if v134<0 then
 z0c (w128,i64.wrap (z1D .u64 (u64.wrap (i64.wrap (w128+w127))) 1))
 else
 z0c (i64.wrap ((md w128 w127)+1),w127)
 else
 z0d<|
 z0h (z1J w128) LFm (a2,a0)
instance:Hd (z1K a0 a2 m0):=⟨fun(w128,w127)=>([(14,xI w128),(15,xI w127)],[])⟩
abbrev z1I(a0:List Int)(a1:Int)(a2:Int)(a3:Int)(m0:List Int)(rf:List Int->Int->Int->Int->List Int->Option (List Int)):Int×Int->Option ((Int×Int)⊕List Int)
 |(w153,w152)=>
 if w153<w152 then
 chk (¬1<0)<|
 (atI a0 (i64.wrap ((i64.wrap ((i64.wrap ((md a1 a3)+a2))-1))-(md w153 w152)))).bind fun v157=>
 (atI a0 (md w153 w152)).bind fun v158=>
 (z1e v157 v158 m0).bind fun v159=>
 if v159<0 then
 z0c (w153,i64.wrap (z1D .u64 (u64.wrap (i64.wrap (w153+w152))) 1))
 else
 z0c (i64.wrap ((md w153 w152)+1),w152)
 else
 z0d<|
 if w153<a2 then
 if a2<(i64.wrap ((i64.wrap ((md a1 a3)+a2))-w153)) then
 (z0V a0 w153 a2 (i64.wrap ((i64.wrap ((md a1 a3)+a2))-w153)) m0).bind fun v160=>
 if a1<w153 then
 if w153<(md a1 a3) then
 (rf v160 a1 w153 (md a1 a3) m0).bind fun v161=>
 if(md a1 a3)<(i64.wrap ((i64.wrap ((md a1 a3)+a2))-w153)) then
 if(i64.wrap ((i64.wrap ((md a1 a3)+a2))-w153))<a3 then
 (rf v161 (md a1 a3) (i64.wrap ((i64.wrap ((md a1 a3)+a2))-w153)) a3 m0).bind fun v162=>
 some v162
 else
 some v161
 else
 some v161
 else
 if(md a1 a3)<(i64.wrap ((i64.wrap ((md a1 a3)+a2))-w153)) then
 if(i64.wrap ((i64.wrap ((md a1 a3)+a2))-w153))<a3 then
 (rf v160 (md a1 a3) (i64.wrap ((i64.wrap ((md a1 a3)+a2))-w153)) a3 m0).bind fun v163=>
 some v163
 else
 some v160
 else
 some v160
 else
 if(md a1 a3)<(i64.wrap ((i64.wrap ((md a1 a3)+a2))-w153)) then
 if(i64.wrap ((i64.wrap ((md a1 a3)+a2))-w153))<a3 then
 (rf v160 (md a1 a3) (i64.wrap ((i64.wrap ((md a1 a3)+a2))-w153)) a3 m0).bind fun v164=>
 some v164
 else
 some v160
 else
 some v160
 else
 if a1<w153 then
 if w153<(md a1 a3) then
 (rf a0 a1 w153 (md a1 a3) m0).bind fun v165=>
 if(md a1 a3)<(i64.wrap ((i64.wrap ((md a1 a3)+a2))-w153)) then
 if(i64.wrap ((i64.wrap ((md a1 a3)+a2))-w153))<a3 then
 (rf v165 (md a1 a3) (i64.wrap ((i64.wrap ((md a1 a3)+a2))-w153)) a3 m0).bind fun v166=>
 some v166
 else
 some v165
 else
 some v165
 else
 if(md a1 a3)<(i64.wrap ((i64.wrap ((md a1 a3)+a2))-w153)) then
 if(i64.wrap ((i64.wrap ((md a1 a3)+a2))-w153))<a3 then
 (rf a0 (md a1 a3) (i64.wrap ((i64.wrap ((md a1 a3)+a2))-w153)) a3 m0).bind fun v167=>
 some v167
 else
 some a0
 else
 some a0
 else
 if(md a1 a3)<(i64.wrap ((i64.wrap ((md a1 a3)+a2))-w153)) then
 if(i64.wrap ((i64.wrap ((md a1 a3)+a2))-w153))<a3 then
 (rf a0 (md a1 a3) (i64.wrap ((i64.wrap ((md a1 a3)+a2))-w153)) a3 m0).bind fun v168=>
 some v168
 else
 some a0
 else
 some a0
 else
 if a1<w153 then
 if w153<(md a1 a3) then
 (rf a0 a1 w153 (md a1 a3) m0).bind fun v169=>
 if(md a1 a3)<(i64.wrap ((i64.wrap ((md a1 a3)+a2))-w153)) then
 if(i64.wrap ((i64.wrap ((md a1 a3)+a2))-w153))<a3 then
 (rf v169 (md a1 a3) (i64.wrap ((i64.wrap ((md a1 a3)+a2))-w153)) a3 m0).bind fun v170=>
 some v170
 else
 some v169
 else
 some v169
 else
 if(md a1 a3)<(i64.wrap ((i64.wrap ((md a1 a3)+a2))-w153)) then
 if(i64.wrap ((i64.wrap ((md a1 a3)+a2))-w153))<a3 then
 (rf a0 (md a1 a3) (i64.wrap ((i64.wrap ((md a1 a3)+a2))-w153)) a3 m0).bind fun v171=>
 some v171
 else
 some a0
 else
 some a0
 else
 if(md a1 a3)<(i64.wrap ((i64.wrap ((md a1 a3)+a2))-w153)) then
 if(i64.wrap ((i64.wrap ((md a1 a3)+a2))-w153))<a3 then
 (rf a0 (md a1 a3) (i64.wrap ((i64.wrap ((md a1 a3)+a2))-w153)) a3 m0).bind fun v172=>
 some v172
 else
 some a0
 else
 some a0
instance:Hd (z1I a0 a1 a2 a3 m0 rf):=⟨fun(w153,w152)=>([(20,xI w153),(21,xI w152)],[])⟩
abbrev z1F(a0:List Int)(a1:Int)(a2:Int)(a3:Int)(m0:List Int)(rf:List Int->Int->Int->Int->List Int->Option (List Int)):Int×Int->Option ((Int×Int)⊕List Int)
 |(w177,w176)=>
 if w177<w176 then
 chk (¬1<0)<|
 (atI a0 (i64.wrap ((i64.wrap ((i64.wrap ((md a1 a3)+a2))-1))-(md w177 w176)))).bind fun v181=>
 (atI a0 (md w177 w176)).bind fun v182=>
 (z1e v181 v182 m0).bind fun v183=>
 if v183<0 then
 z0c (w177,i64.wrap (z1D .u64 (u64.wrap (i64.wrap (w177+w176))) 1))
 else
 z0c (i64.wrap ((md w177 w176)+1),w176)
 else
 z0d<|
 if w177<a2 then
 if a2<(i64.wrap ((i64.wrap ((md a1 a3)+a2))-w177)) then
 (z0V a0 w177 a2 (i64.wrap ((i64.wrap ((md a1 a3)+a2))-w177)) m0).bind fun v184=>
 if a1<w177 then
 if w177<(md a1 a3) then
 (rf v184 a1 w177 (md a1 a3) m0).bind fun v185=>
 if(md a1 a3)<(i64.wrap ((i64.wrap ((md a1 a3)+a2))-w177)) then
 if(i64.wrap ((i64.wrap ((md a1 a3)+a2))-w177))<a3 then
 (rf v185 (md a1 a3) (i64.wrap ((i64.wrap ((md a1 a3)+a2))-w177)) a3 m0).bind fun v186=>
 some v186
 else
 some v185
 else
 some v185
 else
 if(md a1 a3)<(i64.wrap ((i64.wrap ((md a1 a3)+a2))-w177)) then
 if(i64.wrap ((i64.wrap ((md a1 a3)+a2))-w177))<a3 then
 (rf v184 (md a1 a3) (i64.wrap ((i64.wrap ((md a1 a3)+a2))-w177)) a3 m0).bind fun v187=>
 some v187
 else
 some v184
 else
 some v184
 else
 if(md a1 a3)<(i64.wrap ((i64.wrap ((md a1 a3)+a2))-w177)) then
 if(i64.wrap ((i64.wrap ((md a1 a3)+a2))-w177))<a3 then
 (rf v184 (md a1 a3) (i64.wrap ((i64.wrap ((md a1 a3)+a2))-w177)) a3 m0).bind fun v188=>
 some v188
 else
 some v184
 else
 some v184
 else
 if a1<w177 then
 if w177<(md a1 a3) then
 (rf a0 a1 w177 (md a1 a3) m0).bind fun v189=>
 if(md a1 a3)<(i64.wrap ((i64.wrap ((md a1 a3)+a2))-w177)) then
 if(i64.wrap ((i64.wrap ((md a1 a3)+a2))-w177))<a3 then
 (rf v189 (md a1 a3) (i64.wrap ((i64.wrap ((md a1 a3)+a2))-w177)) a3 m0).bind fun v190=>
 some v190
 else
 some v189
 else
 some v189
 else
 if(md a1 a3)<(i64.wrap ((i64.wrap ((md a1 a3)+a2))-w177)) then
 if(i64.wrap ((i64.wrap ((md a1 a3)+a2))-w177))<a3 then
 (rf a0 (md a1 a3) (i64.wrap ((i64.wrap ((md a1 a3)+a2))-w177)) a3 m0).bind fun v191=>
 some v191
 else
 some a0
 else
 some a0
 else
 if(md a1 a3)<(i64.wrap ((i64.wrap ((md a1 a3)+a2))-w177)) then
 if(i64.wrap ((i64.wrap ((md a1 a3)+a2))-w177))<a3 then
 (rf a0 (md a1 a3) (i64.wrap ((i64.wrap ((md a1 a3)+a2))-w177)) a3 m0).bind fun v192=>
 some v192
 else
 some a0
 else
 some a0
 else
 if a1<w177 then
 if w177<(md a1 a3) then
 (rf a0 a1 w177 (md a1 a3) m0).bind fun v193=>
 if(md a1 a3)<(i64.wrap ((i64.wrap ((md a1 a3)+a2))-w177)) then
 if(i64.wrap ((i64.wrap ((md a1 a3)+a2))-w177))<a3 then
 (rf v193 (md a1 a3) (i64.wrap ((i64.wrap ((md a1 a3)+a2))-w177)) a3 m0).bind fun v194=>
 some v194
 else
 some v193
 else
 some v193
 else
 if(md a1 a3)<(i64.wrap ((i64.wrap ((md a1 a3)+a2))-w177)) then
 if(i64.wrap ((i64.wrap ((md a1 a3)+a2))-w177))<a3 then
 (rf a0 (md a1 a3) (i64.wrap ((i64.wrap ((md a1 a3)+a2))-w177)) a3 m0).bind fun v195=>
 some v195
 else
 some a0
 else
 some a0
 else
 if(md a1 a3)<(i64.wrap ((i64.wrap ((md a1 a3)+a2))-w177)) then
 if(i64.wrap ((i64.wrap ((md a1 a3)+a2))-w177))<a3 then
 (rf a0 (md a1 a3) (i64.wrap ((i64.wrap ((md a1 a3)+a2))-w177)) a3 m0).bind fun v196=>
 some v196
 else
 some a0
 else
 some a0
instance:Hd (z1F a0 a1 a2 a3 m0 rf):=⟨fun(w177,w176)=>([(20,xI w177),(21,xI w176)],[])⟩
def z0I(rf:List Int->Int->Int->Int->List Int->Option (List Int))(a0:List Int)(a1:Int)(a2:Int)(a3:Int)(m0:List Int):Option (List Int):=
 if(i64.wrap (a2-a1))=1 then
 z0h (z1S a0 a1 m0) LFm (a2,a3)
 else
 if(i64.wrap (a3-a2))=1 then
 z0h (z1K a0 a2 m0) LFm (a1,a2)
 else
 chk (¬1<0)<|
 if(md a1 a3)<a2 then
 z0h (z1I a0 a1 a2 a3 m0 rf) LFm (i64.wrap ((i64.wrap ((md a1 a3)+a2))-a3),i64.wrap (z1D .u64 (u64.wrap (i64.wrap (a1+a3))) 1))
 else
 z0h (z1F a0 a1 a2 a3 m0 rf) LFm (a1,a2)
theorem z3Y[ih:∀(a0:List Int) (a1:Int) (a2:Int) (a3:Int) (m0:List Int),Ok (rf a0 a1 a2 a3 m0) (fun r=>L 209 [(tO a0),.sc (.int .i64 a1),.sc (.int .i64 a2),.sc (.int .i64 a3),.cl 180 [.pr [(tI m0)]]]=some (.tup [],[(tO r),.dead,.dead,.dead,.dead]))]:Ok (z0I rf a0 a1 a2 a3 m0) (fun r=>L 209 [(tO a0),.sc (.int .i64 a1),.sc (.int .i64 a2),.sc (.int .i64 a3),.cl 180 [.pr [(tI m0)]]]=some (.tup [],[(tO r),.dead,.dead,.dead,.dead])):=⟨fun r h=>by have h:=z3p h;unfold z0I at h;exact z4q rfl Tryz.func209 (bdy Tryz.f209 rfl)⟩
def z0j:Nat->List Int->Int->Int->Int->List Int->Option (List Int)
 |0=>fun _ _ _ _ _=>none
 |k+1=>z0I (z0j k)
instance:∀ {k:Nat} {a0:List Int} {a1:Int} {a2:Int} {a3:Int} {m0:List Int},Ok (z0j k a0 a1 a2 a3 m0) (fun r=>L 209 [(tO a0),.sc (.int .i64 a1),.sc (.int .i64 a2),.sc (.int .i64 a3),.cl 180 [.pr [(tI m0)]]]=some (.tup [],[(tO r),.dead,.dead,.dead,.dead])):=by
 intro k
 induction k with
 |zero=>intros;exact⟨fun r h=>by cases h⟩
 |succ k ih=>intros;have ih2:= @ih;exact z3Y (rf:=z0j k)
abbrev z0K(a1:Int)(m2:List Int)(w45:Int):Int×Int×List Int->Option ((Int×Int×List Int)⊕((Int×List Int)⊕List Int))
 |(w55,w56,w57)=>
 if w56<=a1 then
 (z0j 5000 w57 w55 (i64.wrap (w55+w45)) w56 m2).bind fun v59=>
 z0c (w56,i64.wrap (w56+(i64.wrap (2*w45))),v59)
 else
 z0d<|
 if(i64.wrap (w55+w45))<a1 then
 (z0j 5000 w57 w55 (i64.wrap (w55+w45)) a1 m2).bind fun v60=>
 z0c (i64.wrap (w45*2),v60)
 else
 z0c (i64.wrap (w45*2),w57)
instance{w45:Int}:Hd (z0K a1 m2 w45):=⟨fun(w55,w56,w57)=>([(7,xI w55),(8,xI w56)],[(0,(tO w57))])⟩
abbrev z0L(a1:Int)(m2:List Int):Int×List Int->Option ((Int×List Int)⊕List Int)
 |(w45,w46)=>
 if w45<a1 then
 z0h (z0K a1 m2 w45) LFm (0,i64.wrap (2*w45),w46)
 else
 z0d<|
 some w46
instance:Hd (z0L a1 m2):=⟨fun(w45,w46)=>([(6,xI w45)],[(0,(tO w46))])⟩
abbrev z0M(a1:Int)(m2:List Int):Int×Int×List Int->Option ((Int×Int×List Int)⊕List Int)
 |(w32,w33,w34)=>
 if w33<=a1 then
 (z0C w34 w32 w33 m2).bind fun v36=>
 z0c (w33,i64.wrap (w33+20),v36)
 else
 z0d<|
 (z0C w34 w32 a1 m2).bind fun v37=>
 z0h (z0L a1 m2) LFm (20,v37)
instance:Hd (z0M a1 m2):=⟨fun(w32,w33,w34)=>([(7,xI w32),(8,xI w33)],[(0,(tO w34))])⟩
def z0T(a0:List Int)(a1:Int)(m2:List Int):Option (List Int):=
 z0h (z0M a1 m2) LFm (0,20,a0)
instance:Ok (z0T a0 a1 m2) (fun r=>L 181 [(tO a0),.sc (.int .i64 a1),.cl 180 [.pr [(tI m2)]]]=some (.tup [],[(tO r),.dead,.dead])):=⟨fun r h=>by have h:=z3p h;unfold z0T at h;exact z4q rfl Tryz.func181 (bdy Tryz.f181 rfl)⟩
def z0l(a0:List Int)(m4:List Int):Option (List Int):=
 (z0T a0 (a0.length:Int) m4).bind fun v2=>
 some v2
instance{m4:List Int}:Ok (z0l a0 m4) (fun r=>L 136 [(tO a0),.cl 180 [.pr [(tI m4)]]]=some (.tup [],[(tO r),.dead])):=⟨fun r h=>by have h:=z3p h;unfold z0l at h;exact z4q rfl Tryz.func136 (bdy Tryz.f136 rfl)⟩
abbrev z2z(a0:Dgm)(w136:Int)(w138:List Int):Int×List Int->Option ((Int×List Int)⊕((Int×List Int×List Int)⊕List Int))
 |(w159,w160)=>
 if w159<(a0.sets.length:Int) then
 (atI a0.below w159).bind fun v165=>
 (atI v165 w136).bind fun v166=>
 if v166=true then
 (atI w160 w136).bind fun v167=>
 z0c (i64.wrap (w159+1),(w160.set w136.toNat (i64.wrap (v167+1))))
 else
 z0c (i64.wrap (w159+1),w160)
 else
 z0d<|
 z0c (i64.wrap (w136+1),w160,(w138.set w136.toNat w136))
instance{a0:Dgm}{w136:Int}{w138:List Int}:Hd (z2z a0 w136 w138):=⟨fun(w159,w160)=>([(34,xI w159)],[(5,.vr [(tO w160)])])⟩
abbrev z2s(a0:Dgm)(a1:List Int)(w193:Int)(v221:Int):Int×List Int->Option ((Int×List Int)⊕((Int×List Int)⊕List Int))
 |(w231,w232)=>
 if w231<(a0.sets.length:Int) then
 (atI a0.below w231).bind fun v240=>
 (atI v240 v221).bind fun v241=>
 if v241=true then
 (atI a1 w231).bind fun v242=>
 (atI a1 v221).bind fun v243=>
 if v242=v243 then
 z0c (i64.wrap (w231+1),w232)
 else
 (atI w232 v221).bind fun v244=>
 (atI w232 w231).bind fun v245=>
 z0c (i64.wrap (w231+1),(w232.set v221.toNat (if v244<(i64.wrap (v245+1)) then(i64.wrap (v245+1)) else v244)))
 else
 z0c (i64.wrap (w231+1),w232)
 else
 z0d<|
 z0c (i64.wrap (w193+1),w232)
instance{a0:Dgm}{a1:List Int}{w193:Int}{v221:Int}:Hd (z2s a0 a1 w193 v221):=⟨fun(w231,w232)=>([(76,xI w231)],[(9,(tO w232))])⟩
abbrev z3b(a0:Dgm)(a1:List Int)(v169:List Int):Int×List Int->Option ((Int×List Int)⊕List Int)
 |(w193,w194)=>
 if w193<(v169.length:Int) then
 (atI v169 w193).bind fun v221=>
 (atI a0.sets v221).bind fun v222=>
 (z7O v222).bind fun v223=>
 if v223=1 then
 z0c (i64.wrap (w193+1),w194)
 else
 z0h (z2s a0 a1 w193 v221) LFm (0,w194)
 else
 z0d<|
 some w194
instance{a0:Dgm}{a1:List Int}{v169:List Int}:Hd (z3b a0 a1 v169):=⟨fun(w193,w194)=>([(62,xI w193)],[(9,(tO w194))])⟩
abbrev z3u(a0:Dgm)(a1:List Int):Int×List Int×List Int->Option ((Int×List Int×List Int)⊕List Int)
 |(w136,w137,w138)=>
 if w136<(a0.sets.length:Int) then
 (atI w138 w136).bind fun v154=>
 z0h (z2z a0 w136 w138) LFm (0,w137)
 else
 z0d<|
 (z0l w138 w137).bind fun v169=>
 chk (z0S 8 (a0.sets.length:Int))<|
 z0h (z3b a0 a1 v169) LFm (0,List.replicate (a0.sets.length:Int).toNat (0:Int))
instance{a0:Dgm}{a1:List Int}:Hd (z3u a0 a1):=⟨fun(w136,w137,w138)=>([(24,xI w136)],[(5,.vr [(tO w137)]),(6,(tO w138))])⟩
def z3h(a0:Dgm)(a1:List Int):Option (List Int):=
 chk (z0S 8 (a0.sets.length:Int))<|
 z0h (z3u a0 a1) LFm (0,List.replicate (a0.sets.length:Int).toNat (0:Int),List.replicate (a0.sets.length:Int).toNat (0:Int))
instance{a0:Dgm}{a1:List Int}:Ok (z3h a0 a1) (fun r=>L 133 [.agg [(tI a0.sets),(tR a0.next),.sl a0.below.length (a0.below.map fun x0=>(tB x0))],(tI a1)]=some ((tO r),[.dead,.dead])):=⟨fun r h=>by have h:=z3p h;unfold z3h at h;exact z4q rfl Tryz.func133 (bdy Tryz.f133 rfl)⟩
end
end
section
open Go Go.IntKind
noncomputable section
variable{v46:DFA×Tape}{a1 a2:Int}{v32:Int×Tape}{v201:List ByteArray}{a0:Tape}
def zdq(a0:Int)(a1:Int):Option (Int):=
 if a1<1 then
 some 0
 else
 chk (¬a1=0)<|
 if(Int.tmod a0 a1)<0 then
 some (i64.wrap ((Int.tmod a0 a1)+a1))
 else
 some (Int.tmod a0 a1)
instance{a0:Int}:Ok (zdq a0 a1) (fun r=>L 30 [.sc (.int .i64 a0),.sc (.int .i64 a1)]=some (.sc (.int .i64 r),[.dead,.dead])):=⟨fun r h=>by have h:=z3p h;unfold zdq at h;exact z4q rfl Tryz.func30 (bdy Tryz.f30 rfl)⟩
def z1g(a0:Tape)(a1:Int):Option (Int×Tape):=
 if(a0.l.length:Int)<=a0.at_ then
 some (0,a0)
 else
 (atI a0.l (i64.wrap ((i64.wrap (a0.at_+1))-1))).bind fun v3=>
 (zdq v3 a1).bind fun v4=>
 some (v4,(⟨a0.l,i64.wrap (a0.at_+1)⟩:Tape))
instance:Ok (z1g a0 a1) (fun r=>L 28 [.vr [(tI a0.l),.sc (.int .i64 a0.at_)],.sc (.int .i64 a1)]=some (.sc (.int .i64 r.1),[.vr [(tI r.2.l),.sc (.int .i64 r.2.at_)],.dead])):=⟨fun r h=>by have h:=z3p h;unfold z1g at h;exact z4q rfl Tryz.func28 (bdy Tryz.f28 rfl)⟩
def zbJ(a0:List Int):Option (Tape):=
 if 80<(a0.length:Int) then
 (z6O a0 0 80).bind fun v2=>
 some (⟨v2,0⟩:Tape)
 else
 some (⟨a0,0⟩:Tape)
instance{a0:List Int}:Ok (zbJ a0) (fun r=>L 12 [(tI a0)]=some (.vr [(tI r.l),.sc (.int .i64 r.at_)],[.dead])):=⟨fun r h=>by have h:=z3p h;unfold zbJ at h;exact z4q rfl Tryz.func12 (bdy Tryz.f12 rfl)⟩
abbrev z6y(a1:Int):Int×List Int×Int×List Int->Option ((Int×List Int×Int×List Int)⊕(ByteArray×Tape))
 |(w11,w12,w13,w14)=>
 if 0<w11 then
 (z1g (⟨w12,w13⟩:Tape) a1).bind fun v16=>
 chk (z1C 1 (w14.length+1))<|
 z0c (i64.wrap (w11-1),v16.2.l,v16.2.at_,w14++ [u8.wrap (i64.wrap (97+v16.1))])
 else
 z0d<|
 some (z1i w14,(⟨w12,w13⟩:Tape))
instance:Hd (z6y a1):=⟨fun(w11,w12,w13,w14)=>([(8,xI w11)],[(0,.vr [(tI w12),.sc (.int .i64 w13)]),(7,.os 1 w14.length (w14.map fun x0=>.sc (.int .u8 x0)))])⟩
def z6P(a0:Tape)(a1:Int)(a2:Int):Option (ByteArray×Tape):=
 (z1g a0 (i64.wrap (a2+1))).bind fun v9=>
 z0h (z6y a1) LFm (v9.1,v9.2.l,v9.2.at_,[])
instance:Ok (z6P a0 a1 a2) (fun r=>L 22 [.vr [(tI a0.l),.sc (.int .i64 a0.at_)],.sc (.int .i64 a1),.sc (.int .i64 a2)]=some (.sc (.string r.1),[.vr [(tI r.2.l),.sc (.int .i64 r.2.at_)],.dead,.dead])):=⟨fun r h=>by have h:=z3p h;unfold z6P at h;exact z4q rfl Tryz.func22 (bdy Tryz.f22 rfl)⟩
def z5r(a0:Tape):Option (Int×Tape):=
 (z1g a0 8).bind fun v2=>
 some (i64.wrap (2-(zDu .i64 v2.1 7)),v2.2)
instance:Ok (z5r a0) (fun r=>L 14 [.vr [(tI a0.l),.sc (.int .i64 a0.at_)]]=some (.sc (.int .i64 r.1),[.vr [(tI r.2.l),.sc (.int .i64 r.2.at_)]])):=⟨fun r h=>by have h:=z3p h;unfold z5r at h;exact z4q rfl Tryz.func14 (bdy Tryz.f14 rfl)⟩
abbrev z6z(a1:Int)(v32:Int×Tape)(w42:Int)(w45:List Bool)(w46:List (List Int))(v55:Int×Tape):Int×List Int×Int×List Int->Option ((Int×List Int×Int×List Int)⊕((Int×List Int×Int×List Bool×List (List Int))⊕(DFA×Tape)))
 |(w57,w58,w59,w60)=>
 if w57<a1 then
 (z1g (⟨w58,w59⟩:Tape) (i64.wrap (1+v32.1))).bind fun v62=>
 chk (z1C 8 (w60.length+1))<|
 z0c (i64.wrap (w57+1),v62.2.l,v62.2.at_,w60++ [v62.1])
 else
 z0d<|
 chk (z1C 24 (w46.length+1))<|
 z0c (i64.wrap (w42+1),w58,w59,w45++ [decide (v55.1=1)],w46++ [w60])
instance{w42:Int}{w45:List Bool}{w46:List (List Int)}{v55:Int×Tape}:Hd (z6z a1 v32 w42 w45 w46 v55):=⟨fun(w57,w58,w59,w60)=>([(11,xI w57)],[(0,.vr [(tI w58),.sc (.int .i64 w59)]),(10,(tO w60))])⟩
abbrev z6U(a1:Int)(v32:Int×Tape)(v33:Int×Tape):Int×List Int×Int×List Bool×List (List Int)->Option ((Int×List Int×Int×List Bool×List (List Int))⊕(DFA×Tape))
 |(w42,w43,w44,w45,w46)=>
 if w42<(i64.wrap (1+v32.1)) then
 (z1g (⟨w43,w44⟩:Tape) 2).bind fun v55=>
 chk (z1C 1 (w45.length+1))<|
 z0h (z6z a1 v32 w42 w45 w46 v55) LFm (0,v55.2.l,v55.2.at_,[])
 else
 z0d<|
 some ((⟨a1,v33.1,w45,w46⟩:DFA),(⟨w43,w44⟩:Tape))
instance{v33:Int×Tape}:Hd (z6U a1 v32 v33):=⟨fun(w42,w43,w44,w45,w46)=>([(9,xI w42)],[(0,.vr [(tI w43),.sc (.int .i64 w44)]),(7,.vr [.sc (.int .i64 a1),.sc (.int .i64 v33.1),.os 1 w45.length (w45.map fun x0=>.sc (.bool x0)),.os 1 w46.length (w46.map fun x0=>(tO x0))])])⟩
def z6A(a0:Tape)(a1:Int)(a2:Int):Option (DFA×Tape):=
 (z1g a0 a2).bind fun v32=>
 (z1g v32.2 (i64.wrap (1+v32.1))).bind fun v33=>
 z0h (z6U a1 v32 v33) LFm (0,v33.2.l,v33.2.at_,[],[])
instance:Ok (z6A a0 a1 a2) (fun r=>L 31 [.vr [(tI a0.l),.sc (.int .i64 a0.at_)],.sc (.int .i64 a1),.sc (.int .i64 a2)]=some (.agg [.sc (.int .i64 r.1.letters),.sc (.int .i64 r.1.start),.os 1 r.1.final.length (r.1.final.map fun x0=>.sc (.bool x0)),.os 1 r.1.next.length (r.1.next.map fun x0=>(tO x0))],[.vr [(tI r.2.l),.sc (.int .i64 r.2.at_)],.dead,.dead])):=⟨fun r h=>by have h:=z3p h;unfold z6A at h;exact z4q rfl Tryz.func31 (bdy Tryz.f31 rfl)⟩
abbrev z5e(w61:Int)(v77:List Int)(v46:DFA×Tape):Int×List (List Int)->Option ((Int×List (List Int))⊕((Int×List (List Int))⊕(DFA×Tape)))
 |(w81,w82)=>
 (atI w82 w61).bind fun v87=>
 if w81<(v77.length:Int) then
 (atI v87 w81).bind fun v88=>
 z0c (i64.wrap (w81+1),(w82.set w61.toNat (v87.set w81.toNat (if w61<v88 then v88 else w61))))
 else
 z0d<|
 z0c (i64.wrap (w61+1),w82)
instance{w61:Int}{v77:List Int}:Hd (z5e w61 v77 v46):=⟨fun(w81,w82)=>([(27,xI w81)],[(7,.vr [.sc (.int .i64 v46.1.letters),.sc (.int .i64 v46.1.start),.os 1 v46.1.final.length (v46.1.final.map fun x0=>.sc (.bool x0)),.os 1 w82.length (w82.map fun x0=>(tO x0))])])⟩
abbrev z5f(v46:DFA×Tape):Int×List (List Int)->Option ((Int×List (List Int))⊕(DFA×Tape))
 |(w61,w62)=>
 if w61<(v46.1.next.length:Int) then
 (atI w62 w61).bind fun v77=>
 z0h (z5e w61 v77 v46) LFm (0,w62)
 else
 z0d<|
 some ((⟨v46.1.letters,0,v46.1.final,w62⟩:DFA),v46.2)
instance:Hd (z5f v46):=⟨fun(w61,w62)=>([(18,xI w61)],[(7,.vr [.sc (.int .i64 v46.1.letters),.sc (.int .i64 v46.1.start),.os 1 v46.1.final.length (v46.1.final.map fun x0=>.sc (.bool x0)),.os 1 w62.length (w62.map fun x0=>(tO x0))])])⟩
def z5q(a0:Tape)(a1:Int)(a2:Int):Option (DFA×Tape):=
 (z6A a0 a1 a2).bind fun v46=>
 z0h (z5f v46) LFm (0,v46.1.next)
instance:Ok (z5q a0 a1 a2) (fun r=>L 33 [.vr [(tI a0.l),.sc (.int .i64 a0.at_)],.sc (.int .i64 a1),.sc (.int .i64 a2)]=some (.agg [.sc (.int .i64 r.1.letters),.sc (.int .i64 r.1.start),(tB r.1.final),(tR r.1.next)],[.vr [(tI r.2.l),.sc (.int .i64 r.2.at_)],.dead,.dead])):=⟨fun r h=>by have h:=z3p h;unfold z5q at h;exact zhQ rfl Tryz.func33 (bdy Tryz.f33 rfl)⟩
def z2Z(v90:Int×Tape)(w125:Int):Int×List Int×Int×List (List Int)×List Int->Option ((Int×List Int×Int×List (List Int)×List Int)⊕((Int×List Int×Int×List (List Int))⊕(DFA×Tape)))
 |(w162,w163,w164,w165,w166)=>
 if w162<(i64.wrap (1+v90.1)) then
 (z1g (⟨w163,w164⟩:Tape) (w166.length:Int)).bind fun v173=>
 (atI w165 w162).bind fun v174=>
 (atI w166 v173.1).bind fun v175=>
 (atI v174 w125).bind fun v176=>
 (z6O w166 0 v173.1).bind fun v177=>
 (z6O w166 (i64.wrap (v173.1+1)) (w166.length:Int)).bind fun v178=>
 chk (z1C 8 (v177.length))<|
 chk (z1C 8 (v177.length+v178.length))<|
 z0c (i64.wrap (w162+1),v173.2.l,v173.2.at_,(w165.set w162.toNat (v174.set w125.toNat v175)),v177++v178)
 else
 z0d<|
 z0c (i64.wrap (w125+1),w163,w164,w165)
def z2X(a1:Int)(v90:Int×Tape)(v91:Int×Tape)(w96:List Bool)(w125:Int):Int×List Int×Int×List (List Int)×List Int->Fr
 |(w162,w163,w164,w165,w166)=>⟨90,[(0,.one (.a 0 [] (0))),(1,.one (.t none (.sc (.int .i64 a1)))),(6,.one (.a 6 [] (0))),(7,.one (.a 7 [] (0))),(8,.one (.t none (.sc (.int .i64 (i64.wrap (1+v90.1)))))),(10,.one (.t none (.sc (.int .i64 w125)))),(11,.one (.h 11 [])),(13,.one (.t none (.sc (.int .i64 w162)))),(1090,.one (.a 0 [] (0)))],[(0,.vr [(tI w163),.sc (.int .i64 w164)]),(6,.vr [.sc (.int .i64 0),.sc (.int .i64 0),.os 1 0 [],.os 1 0 []]),(7,.vr [.sc (.int .i64 a1),.sc (.int .i64 v91.1),.os 1 w96.length (w96.map fun x0=>.sc (.bool x0)),.os 1 w165.length (w165.map fun x0=>(tO x0))]),(11,(tO w166))]⟩
def z3a(v90:Int×Tape)(w125:Int)(w126:List Int)(w127:Int)(w128:List (List Int)):Int×List Int->Option ((Int×List Int)⊕((Int×List Int×Int×List (List Int))⊕(DFA×Tape)))
 |(w154,w155)=>
 if w154<(i64.wrap (1+v90.1)) then
 chk (z1C 8 (w155.length+1))<|
 z0c (i64.wrap (w154+1),w155++ [w154])
 else
 z0d<|
 z0h (z2Z v90 w125) LFm (0,w126,w127,w128,w155)
def z2Y(a1:Int)(v90:Int×Tape)(v91:Int×Tape)(w96:List Bool)(w125:Int)(w126:List Int)(w127:Int)(w128:List (List Int)):Int×List Int->Fr
 |(w154,w155)=>⟨90,[(0,.one (.a 0 [] (0))),(1,.one (.t none (.sc (.int .i64 a1)))),(6,.one (.a 6 [] (0))),(7,.one (.a 7 [] (0))),(8,.one (.t none (.sc (.int .i64 (i64.wrap (1+v90.1)))))),(10,.one (.t none (.sc (.int .i64 w125)))),(11,.one (.h 11 [])),(12,.one (.t none (.sc (.int .i64 w154)))),(1090,.one (.a 0 [] (0)))],[(0,.vr [(tI w126),.sc (.int .i64 w127)]),(6,.vr [.sc (.int .i64 0),.sc (.int .i64 0),.os 1 0 [],.os 1 0 []]),(7,.vr [.sc (.int .i64 a1),.sc (.int .i64 v91.1),.os 1 w96.length (w96.map fun x0=>.sc (.bool x0)),.os 1 w128.length (w128.map fun x0=>(tO x0))]),(11,(tO w155))]⟩
def z3s(a1:Int)(v90:Int×Tape)(v91:Int×Tape)(w96:List Bool):Int×List Int×Int×List (List Int)->Option ((Int×List Int×Int×List (List Int))⊕(DFA×Tape))
 |(w125,w126,w127,w128)=>
 if w125<a1 then
 z0h (z3a v90 w125 w126 w127 w128) LFm (0,[])
 else
 z0d<|
 some ((⟨a1,v91.1,w96,w128⟩:DFA),(⟨w126,w127⟩:Tape))
def z3q(a1:Int)(v90:Int×Tape)(v91:Int×Tape)(w96:List Bool):Int×List Int×Int×List (List Int)->Fr
 |(w125,w126,w127,w128)=>⟨90,[(0,.one (.a 0 [] (0))),(1,.one (.t none (.sc (.int .i64 a1)))),(6,.one (.a 6 [] (0))),(7,.one (.a 7 [] (0))),(8,.one (.t none (.sc (.int .i64 (i64.wrap (1+v90.1)))))),(10,.one (.t none (.sc (.int .i64 w125)))),(1090,.one (.a 0 [] (0)))],[(0,.vr [(tI w126),.sc (.int .i64 w127)]),(6,.vr [.sc (.int .i64 0),.sc (.int .i64 0),.os 1 0 [],.os 1 0 []]),(7,.vr [.sc (.int .i64 a1),.sc (.int .i64 v91.1),.os 1 w96.length (w96.map fun x0=>.sc (.bool x0)),.os 1 w128.length (w128.map fun x0=>(tO x0))])]⟩
def z3t(a1:Int)(v90:Int×Tape)(v91:Int×Tape):Int×List Int×Int×List Bool×List (List Int)->Option ((Int×List Int×Int×List Bool×List (List Int))⊕(DFA×Tape))
 |(w93,w94,w95,w96,w97)=>
 if w93<(i64.wrap (1+v90.1)) then
 (z1g (⟨w94,w95⟩:Tape) 2).bind fun v99=>
 chk (z1C 1 (w96.length+1))<|
 chk (z0S 8 a1)<|
 chk (z1C 24 (w97.length+1))<|
 z0c (i64.wrap (w93+1),v99.2.l,v99.2.at_,w96++ [decide (v99.1=1)],w97++ [List.replicate a1.toNat (0:Int)])
 else
 z0d<|
 z0h (z3s a1 v90 v91 w96) LFm (0,w94,w95,w97)
def z3r(a1:Int)(v90:Int×Tape)(v91:Int×Tape):Int×List Int×Int×List Bool×List (List Int)->Fr
 |(w93,w94,w95,w96,w97)=>⟨90,[(0,.one (.a 0 [] (0))),(1,.one (.t none (.sc (.int .i64 a1)))),(6,.one (.a 6 [] (0))),(7,.one (.a 7 [] (0))),(8,.one (.t none (.sc (.int .i64 (i64.wrap (1+v90.1)))))),(9,.one (.t none (.sc (.int .i64 w93)))),(1090,.one (.a 0 [] (0)))],[(0,.vr [(tI w94),.sc (.int .i64 w95)]),(6,.vr [.sc (.int .i64 0),.sc (.int .i64 0),.os 1 0 [],.os 1 0 []]),(7,.vr [.sc (.int .i64 a1),.sc (.int .i64 v91.1),.os 1 w96.length (w96.map fun x0=>.sc (.bool x0)),.os 1 w97.length (w97.map fun x0=>(tO x0))])]⟩
def z3g(a0:Tape)(a1:Int)(a2:Int):Option (DFA×Tape):=
 (z1g a0 a2).bind fun v90=>
 (z1g v90.2 (i64.wrap (1+v90.1))).bind fun v91=>
 z0h (z3t a1 v90 v91) LFm (0,v91.2.l,v91.2.at_,[],[])
instance:Ok (z3g a0 a1 a2) (fun r=>L 32 [.vr [(tI a0.l),.sc (.int .i64 a0.at_)],.sc (.int .i64 a1),.sc (.int .i64 a2)]=some (.agg [.sc (.int .i64 r.1.letters),.sc (.int .i64 r.1.start),(tB r.1.final),(tR r.1.next)],[.vr [(tI r.2.l),.sc (.int .i64 r.2.at_)],.dead,.dead])):=⟨fun r h0=>by
 simp only[z3g] at h0
 refine zw5 rfl Tryz.func32 (zfn (bdy Tryz.f32 rfl) ⟨of_decide_eq_true rfl,of_decide_eq_true rfl⟩ rfl ?_)
 simp only[z9l,z9k,z8w,zbb,z7N]
 refine zp (zs ?_)
 refine z0m (zp (zs ?_))
 refine z0m (zp ?_)
 obtain⟨v90,f115,h1⟩:=z2E h0
 have f115k:=Ok.ok _ f115
 try simp at f115k
 refine zr rfl rfl rfl (by simp[f115k];rfl) ?_
 refine z0m (zp ?_)
 obtain⟨v91,f116,h2⟩:=z2E h1
 have f116k:=Ok.ok _ f116
 try simp at f116k
 refine zr rfl rfl rfl (by simp[f116k];rfl) ?_
 refine z0m (zp (zp (zs ?_)))
 refine z0m (zb rfl (z9F h2 (z3r a1 v90 v91) rfl rfl (by simp[z3r]) fun s o1 h3 hr1=> ?_))
 obtain⟨w93,w94,w95,w96,w97⟩:=s
 simp only[z3t] at h3
 simp only[z3r]
 refine zp (zp (zs ?_))
 refine z0m ?_
 by_cases c125:w93<(i64.wrap (1+v90.1))
 ·rw[if_pos c125] at h3
  refine zcr rfl (by simp[c125]) (z8v rfl (z0m (zp (zb rfl ?_))))
  obtain⟨v99,f126,h4⟩:=z2E h3
  have f126k:=Ok.ok _ f126
  try simp at f126k
  obtain⟨f127,h5⟩:=zEP h4
  obtain⟨f128,h6⟩:=zEq h5
  obtain⟨f129,h7⟩:=zmp h6
  refine zlB rfl rfl rfl rfl ?_
  refine zyj [(0,0,3,1),(1,2,3,2),(2,7,3,3),(3,9,3,4),(4,1,2,5),(4,3,1,6),(4,8,2,7),(4,10,1,8),(5,3,1,9),(5,8,2,10),(5,10,1,11),(6,4,3,12),(7,1,2,10),(7,3,1,13),(7,10,1,15),(8,1,2,11),(8,3,1,14),(8,8,2,15),(8,11,1,16),(9,4,3,17),(10,3,1,18),(10,10,1,20),(11,3,1,19),(11,8,2,20),(11,11,1,21),(12,1,2,17),(12,5,1,22),(12,8,2,23),(12,10,1,24),(13,4,3,23),(14,4,3,24),(15,1,2,20),(15,3,1,25),(15,11,1,27),(16,1,2,21),(16,3,1,26),(16,8,2,27),(17,5,1,28),(17,8,2,29),(17,10,1,30),(18,4,0,29),(19,4,3,30),(20,3,1,31),(20,11,1,33),(21,3,1,32),(21,8,2,33),(22,1,2,28),(22,8,2,34),(22,10,1,35),(23,1,2,29),(23,5,1,34),(23,10,1,36),(24,1,2,30),(24,5,1,35),(24,8,2,36),(24,11,1,37),(25,4,3,36),(26,4,3,37),(27,1,2,33),(27,3,1,38),(28,6,2,39),(28,8,2,40),(28,10,1,41),(29,5,1,40),(29,10,1,42),(30,5,1,41),(30,8,2,42),(30,11,1,43),(31,4,0,42),(32,4,3,43),(33,3,1,44),(34,1,2,40),(34,10,1,45),(35,1,2,41),(35,8,2,45),(35,11,1,46),(36,1,2,42),(36,5,1,45),(36,11,1,47),(37,1,2,43),(37,5,1,46),(37,8,2,47),(38,4,3,47),(39,8,2,48),(39,10,1,49),(40,6,2,48),(40,10,1,50),(41,6,2,49),(41,8,2,50),(41,11,1,51),(42,5,1,50),(42,11,1,52),(43,5,1,51),(43,8,2,52),(44,4,0,52),(45,1,2,50),(45,11,1,53),(46,1,2,51),(46,8,2,53),(47,1,2,52),(47,5,1,53),(48,13,3,55),(49,8,2,54),(49,11,1,56),(50,6,2,54),(50,11,1,57),(51,6,2,56),(51,8,2,57),(52,5,1,57),(53,1,2,57),(54,13,3,59),(55,10,1,59),(56,8,2,58),(57,6,2,58),(58,13,3,60),(59,11,1,60),(60,12,2,61),(61,14,2,62),(62,15,0,63),(63,16,2,64)] 64 (by kernel_rfl) ?_
  iterate 12 (refine z1u rfl rfl rfl rfl (by simp[z0x,z0y,f126k,f127,f128,f129];rfl) ?_)
  refine z1t rfl rfl rfl rfl (by simp[z0x,z0y,f126k,f127,f128,f129]) ?_
  refine z1u rfl rfl rfl rfl (by simp[z0x,z0y,f126k,f127,f128,f129];rfl) ?_
  refine z1u rfl rfl rfl rfl (by simp[z0x,z0y,f126k,f127,f128,f129];rfl) ?_
  refine z1t rfl rfl rfl rfl (by simp[z0x,z0y,f126k,f127,f128,f129]) ?_
  refine z1u rfl rfl rfl rfl (by simp[z0x,z0y,f126k,f127,f128,f129];rfl) ?_
  refine z1t rfl rfl rfl rfl (by simp[z0x,z0y,f126k,f127,f128,f129]) ?_
  iterate 5 (refine z1u rfl rfl rfl rfl (by simp[z0x,z0y,f126k,f127,f128,f129];rfl) ?_)
  refine z1t rfl rfl rfl rfl (by simp[z0x,z0y,f126k,f127,f128,f129]) ?_
  refine z1u rfl rfl rfl rfl (by simp[z0x,z0y,f126k,f127,f128,f129];rfl) ?_
  refine z1t rfl rfl rfl rfl (by simp[z0x,z0y,f126k,f127,f128,f129]) ?_
  iterate 3 (refine z1u rfl rfl rfl rfl (by simp[z0x,z0y,f126k,f127,f128,f129];rfl) ?_)
  iterate 3 (refine z1t rfl rfl rfl rfl (by simp[z0x,z0y,f126k,f127,f128,f129]) ?_)
  refine z1u rfl rfl rfl rfl (by simp[z0x,z0y,f126k,f127,f128,f129];rfl) ?_
  refine z1u rfl rfl rfl rfl (by simp[z0x,z0y,f126k,f127,f128,f129];rfl) ?_
  refine z1t rfl rfl rfl rfl (by simp[z0x,z0y,f126k,f127,f128,f129]) ?_
  refine z1u rfl rfl rfl rfl (by simp[z0x,z0y,f126k,f127,f128,f129];rfl) ?_
  refine z1t rfl rfl rfl rfl (by simp[z0x,z0y,f126k,f127,f128,f129]) ?_
  iterate 3 (refine z1u rfl rfl rfl rfl (by simp[z0x,z0y,f126k,f127,f128,f129];rfl) ?_)
  refine z1t rfl rfl rfl rfl (by simp[z0x,z0y,f126k,f127,f128,f129]) ?_
  refine z1t rfl rfl rfl rfl (by simp[z0x,z0y,f126k,f127,f128,f129]) ?_
  iterate 3 (refine z1u rfl rfl rfl rfl (by simp[z0x,z0y,f126k,f127,f128,f129];rfl) ?_)
  refine z1t rfl rfl rfl rfl (by simp[z0x,z0y,f126k,f127,f128,f129]) ?_
  refine z1t rfl rfl rfl rfl (by simp[z0x,z0y,f126k,f127,f128,f129]) ?_
  refine z1u rfl rfl rfl rfl (by simp[z0x,z0y,f126k,f127,f128,f129];rfl) ?_
  refine z1u rfl rfl rfl rfl (by simp[z0x,z0y,f126k,f127,f128,f129];rfl) ?_
  refine z1t rfl rfl rfl rfl (by simp[z0x,z0y,f126k,f127,f128,f129]) ?_
  refine z1t rfl rfl rfl rfl (by simp[z0x,z0y,f126k,f127,f128,f129]) ?_
  refine z1u rfl rfl rfl rfl (by simp[z0x,z0y,f126k,f127,f128,f129];rfl) ?_
  iterate 3 (refine z1t rfl rfl rfl rfl (by simp[z0x,z0y,f126k,f127,f128,f129]) ?_)
  refine z1u rfl rfl rfl rfl (by simp[z0x,z0y,f126k,f127,f128,f129];rfl) ?_
  iterate 3 (refine z1t rfl rfl rfl rfl (by simp[z0x,z0y,f126k,f127,f128,f129]) ?_)
  iterate 4 (refine z1u rfl rfl rfl rfl (by simp[z0x,z0y,f126k,f127,f128,f129];rfl) ?_)
  refine z1t rfl rfl rfl rfl (by simp[z0x,z0y,f126k,f127,f128,f129]) ?_
  refine z1u rfl rfl rfl rfl (by simp[z0x,z0y,f126k,f127,f128,f129];rfl) ?_
  refine z1t rfl rfl rfl rfl (by simp[z0x,z0y,f126k,f127,f128,f129]) ?_
  refine z1t rfl rfl rfl rfl (by simp[z0x,z0y,f126k,f127,f128,f129]) ?_
  refine z1u rfl rfl rfl rfl (by simp[z0x,z0y,f126k,f127,f128,f129];rfl) ?_
  refine z1t rfl rfl rfl rfl (by simp[z0x,z0y,f126k,f127,f128,f129]) ?_
  refine z1t rfl rfl rfl rfl (by simp[z0x,z0y,f126k,f127,f128,f129]) ?_
  refine z1u rfl rfl rfl rfl (by simp[z0x,z0y,f126k,f127,f128,f129];rfl) ?_
  refine z1t rfl rfl rfl rfl (by simp[z0x,z0y,f126k,f127,f128,f129]) ?_
  refine z1u rfl rfl rfl rfl (by simp[z0x,z0y,f126k,f127,f128,f129];rfl) ?_
  refine z1t rfl rfl rfl rfl (by simp[z0x,z0y,f126k,f127,f128,f129]) ?_
  refine z1t rfl rfl rfl rfl (by simp[z0x,z0y,f126k,f127,f128,f129]) ?_
  refine z1u rfl rfl rfl rfl (by simp[z0x,z0y,f126k,f127,f128,f129];rfl) ?_
  refine z1t rfl rfl rfl rfl (by simp[z0x,z0y,f126k,f127,f128,f129]) ?_
  refine z1t rfl rfl rfl rfl (by simp[z0x,z0y,f126k,f127,f128,f129]) ?_
  refine z1u rfl rfl rfl rfl (by simp[z0x,z0y,f126k,f127,f128,f129];rfl) ?_
  iterate 4 (refine z1t rfl rfl rfl rfl (by simp[z0x,z0y,f126k,f127,f128,f129]) ?_)
  refine z1u rfl rfl rfl rfl (by simp[z0x,z0y,f126k,f127,f128,f129];rfl) ?_
  refine z1u rfl rfl rfl rfl (by simp[z0x,z0y,f126k,f127,f128,f129];rfl) ?_
  refine z1t rfl rfl rfl rfl (by simp[z0x,z0y,f126k,f127,f128,f129]) ?_
  refine z1u rfl rfl rfl rfl (by simp[z0x,z0y,f126k,f127,f128,f129];rfl) ?_
  refine z1t rfl rfl rfl rfl (by simp[z0x,z0y,f126k,f127,f128,f129]) ?_
  refine z1t rfl rfl rfl rfl (by simp[z0x,z0y,f126k,f127,f128,f129]) ?_
  refine z1u rfl rfl rfl rfl (by simp[z0x,z0y,f126k,f127,f128,f129];rfl) ?_
  refine z1t rfl rfl rfl rfl (by simp[z0x,z0y,f126k,f127,f128,f129]) ?_
  refine z1u rfl rfl rfl rfl (by simp[z0x,z0y,f126k,f127,f128,f129];rfl) ?_
  iterate 4 (refine z1t rfl rfl rfl rfl (by simp[z0x,z0y,f126k,f127,f128,f129]) ?_)
  refine z1u rfl rfl rfl rfl (by simp[z0x,z0y,f126k,f127,f128,f129];rfl) ?_
  iterate 4 (refine z1t rfl rfl rfl rfl (by simp[z0x,z0y,f126k,f127,f128,f129]) ?_)
  iterate 3 (refine z1u rfl rfl rfl rfl (by simp[z0x,z0y,f126k,f127,f128,f129];rfl) ?_)
  refine z1t rfl rfl rfl rfl (by simp[z0x,z0y,f126k,f127,f128,f129]) ?_
  refine z1u rfl rfl rfl rfl (by simp[z0x,z0y,f126k,f127,f128,f129];rfl) ?_
  iterate 4 (refine z1t rfl rfl rfl rfl (by simp[z0x,z0y,f126k,f127,f128,f129]) ?_)
  refine z1u rfl rfl rfl rfl (by simp[z0x,z0y,f126k,f127,f128,f129];rfl) ?_
  refine z1t rfl rfl rfl rfl (by simp[z0x,z0y,f126k,f127,f128,f129]) ?_
  refine z1u rfl rfl rfl rfl (by simp[z0x,z0y,f126k,f127,f128,f129];rfl) ?_
  refine z1t rfl rfl rfl rfl (by simp[z0x,z0y,f126k,f127,f128,f129]) ?_
  refine z1u rfl rfl rfl rfl (by simp[z0x,z0y,f126k,f127,f128,f129];rfl) ?_
  refine z1t rfl rfl rfl rfl (by simp[z0x,z0y,f126k,f127,f128,f129]) ?_
  iterate 4 (refine z1u rfl rfl rfl rfl (by simp[z0x,z0y,f126k,f127,f128,f129];rfl) ?_)
  refine zyH rfl ?_
  refine zl8 rfl (by simp[f126k,f127,f128,f129];rfl) ?_
  refine z6d (z0m (zs ?_))
  have ho:=z5p h7
  refine z6v ho ?_
  simp[z3r]
 ·rw[if_neg c125] at h3
  refine zcs rfl (by simp[c125]) (zb3 rfl (z8Y ?_))
  obtain⟨rr1,h4,ho1⟩:=z6p h3
  have hs1:=hr1 _ ho1
  subst hs1
  refine z8a ho1 (z4y rfl (z0m (zp (zp (zs ?_)))))
  refine z0m (zb rfl (z9F h4 (z3q a1 v90 v91 w96) rfl rfl (by simp[z3q]) fun s o2 h5 hr2=> ?_))
  obtain⟨w125,w126,w127,w128⟩:=s
  simp only[z3s] at h5
  simp only[z3q]
  refine zp (zp (zs ?_))
  refine z0m ?_
  by_cases c196:w125<a1
  ·rw[if_pos c196] at h5
   refine zcr rfl (by simp[c196]) (z8v rfl (z0m (zp (zb rfl (zp (zs ?_))))))
   refine z0m (zp (zp (zs ?_)))
   refine z0m (zb rfl (z9F h5 (z2Y a1 v90 v91 w96 w125 w126 w127 w128) rfl rfl (by simp[z2Y]) fun s o3 h6 hr3=> ?_))
   obtain⟨w154,w155⟩:=s
   simp only[z3a] at h6
   simp only[z2Y]
   refine zp (zp (zs ?_))
   refine z0m ?_
   by_cases c200:w154<(i64.wrap (1+v90.1))
   ·rw[if_pos c200] at h6
    refine zcr rfl (by simp[c200]) (z8v rfl (z0m (zp (zb rfl ?_))))
    obtain⟨f201,h7⟩:=zmp h6
    refine zr rfl rfl rfl (by simp[f201];rfl) ?_
    refine z6d (z0m (zs ?_))
    have ho:=z5p h7
    refine z6v ho ?_
    simp[z2Y]
   ·rw[if_neg c200] at h6
    refine zcs rfl (by simp[c200]) (zb3 rfl (z8Y ?_))
    obtain⟨rr3,h7,ho3⟩:=z6p h6
    have hs3:=hr3 _ ho3
    subst hs3
    refine z8a ho3 (z4y rfl (z0m (zp (zs ?_))))
    refine z0m (zb rfl (z9F h7 (z2X a1 v90 v91 w96 w125) rfl rfl (by simp[z2X]) fun s o4 h8 hr4=> ?_))
    obtain⟨w162,w163,w164,w165,w166⟩:=s
    simp only[z2Z] at h8
    simp only[z2X]
    refine zp (zp (zs ?_))
    refine z0m ?_
    by_cases c220:w162<(i64.wrap (1+v90.1))
    ·rw[if_pos c220] at h8
     refine zcr rfl (by simp[c220]) (z8v rfl (z0m (zp (zb rfl (zp ?_)))))
     obtain⟨v173,f221,h9⟩:=z2E h8
     have f221k:=Ok.ok _ f221
     try simp at f221k
     refine zr rfl rfl rfl (by simp[f221k];rfl) ?_
     refine z0m (zp ?_)
     obtain⟨v174,f222,h10⟩:=za9 h9
     obtain⟨v175,f223,h11⟩:=za9 h10
     obtain⟨v176,f224,h12⟩:=za9 h11
     refine zaq rfl rfl rfl rfl ?_;repeat' ((first|refine z6w rfl rfl fun Q' hQ=> ?_|refine z5E rfl fun Q' hQ=> ?_);simp[f222,f223,f224];refine hQ.out _ ?_;clear hQ;clear Q')
     refine z0m ?_
     obtain⟨v177,f225,h13⟩:=z2E h12
     obtain⟨f225a,f225b,f225c,-⟩:=z6i f225
     obtain⟨f225d,f225g⟩:=zdh f225a f225b
     have f225e:=zey (g:=fun x:Int=>(.sc (.int .i64 x):T)) f225
     try simp at f225e
     have f225f:=zex f225
     try simp only[Int.reduceToNat,Z2,YL] at f225f
     obtain⟨v178,f226,h14⟩:=z2E h13
     obtain⟨f226a,f226b,f226c,-⟩:=z6i f226
     obtain⟨f226d,f226g⟩:=zdh f226a f226b
     have f226e:=zey (g:=fun x:Int=>(.sc (.int .i64 x):T)) f226
     try simp at f226e
     have f226f:=zex f226
     try simp only[Int.reduceToNat,Z2,YL] at f226f
     obtain⟨f227,h15⟩:=zmp h14
     obtain⟨f228,h16⟩:=zmp h15
     refine zaq rfl rfl rfl rfl ?_;repeat' ((first|refine z6w rfl rfl fun Q' hQ=> ?_|refine z5E rfl fun Q' hQ=> ?_);simp[f222,f225a,f225b,f225c,f225d,f225g,f225e,f225f,f226a,f226b,f226c,f226d,f226g,f226e,f226f,f227,f228];refine hQ.out _ ?_;clear hQ;clear Q')
     refine z6d (z0m (zr rfl rfl rfl (by simp[f222];rfl) ?_))
     have ho:=z5p h16
     refine z6v ho ?_
     simp[z2X]
    ·rw[if_neg c220] at h8
     refine zcs rfl (by simp[c220]) (zb3 rfl (z8Y ?_))
     obtain⟨rr4,h9,ho4⟩:=z6p h8
     have hs4:=hr4 _ ho4
     subst hs4
     refine z8a ho4 (z4y rfl (z6d (z0m (zs ?_))))
     have ho:=z5p h9
     refine z6v ho ?_
     simp[z3q]
  ·rw[if_neg c196] at h5
   refine zcs rfl (by simp[c196]) (zb3 rfl (z8Y ?_))
   obtain⟨rr2,h6,ho2⟩:=z6p h5
   have hs2:=hr2 _ ho2
   subst hs2
   refine z8a ho2 (z4y rfl (z0m (zp (zs ?_))))
   refine z0m (zn5 rfl ?_)
   cases h6
   simp⟩
abbrev zdo(a0:Int)(a1:Int)(w31:Int):Int×List ByteArray->Option ((Int×List ByteArray)⊕((Int×List ByteArray)⊕List ByteArray))
 |(w43,w44)=>
 if w43<a0 then
 (atI w44 w31).bind fun v47=>
 if(v47.size:Int)<a1 then
 chk (zaM v47 ⟨#[UInt8.ofNat (u8.wrap (i64.wrap (97+w43))).toNat]⟩)<|
 chk (z1C 16 (w44.length+1))<|
 z0c (i64.wrap (w43+1),w44++ [v47++⟨#[UInt8.ofNat (u8.wrap (i64.wrap (97+w43))).toNat]⟩])
 else
 z0d<|
 z0c (i64.wrap (w31+1),w44)
 else
 z0d<|
 z0c (i64.wrap (w31+1),w44)
instance{a0:Int}{w31:Int}:Hd (zdo a0 a1 w31):=⟨fun(w43,w44)=>([(7,xI w43)],[(5,.os 1 w44.length (w44.map fun x0=>.sc (.string x0)))])⟩
abbrev zdp(a0:Int)(a1:Int):Int×List ByteArray->Option ((Int×List ByteArray)⊕List ByteArray)
 |(w31,w32)=>
 if w31<(w32.length:Int) then
 z0h (zdo a0 a1 w31) LFm (0,w32)
 else
 z0d<|
 some w32
instance{a0:Int}:Hd (zdp a0 a1):=⟨fun(w31,w32)=>([(6,xI w31)],[(5,.os 1 w32.length (w32.map fun x0=>.sc (.string x0)))])⟩
def z7M(a0:Int)(a1:Int):Option (List ByteArray):=
 z0h (zdp a0 a1) LFm (0,[ByteArray.empty])
instance{a0:Int}:Ok (z7M a0 a1) (fun r=>L 93 [.sc (.int .i64 a0),.sc (.int .i64 a1)]=some (.os 1 r.length (r.map fun x0=>.sc (.string x0)),[.dead,.dead])):=⟨fun r h=>by have h:=z3p h;unfold z7M at h;exact z4q rfl Tryz.func93 (bdy Tryz.f93 rfl)⟩
abbrev z7E(v201:List ByteArray)(w385:ByteArray):Int×Int->Option ((Int×Int)⊕((ByteArray×Int)⊕((Int×List Int)⊕((Int×List Int×Int×List Bool×List (List Int))⊕(DFA×Tape)))))
 |(w394,w395)=>
 if w395<(v201.length:Int) then
 (atI v201 w395).bind fun v397=>
 if v397=w385 then
 z0c (w395,i64.wrap (w395+1))
 else
 z0c (w394,i64.wrap (w395+1))
 else
 z0d<|
 (zoD w385 1 (w385.size:Int)).bind fun v398=>
 z0c (v398,w394)
instance{w385:ByteArray}:Hd (z7E v201 w385):=⟨fun(w394,w395)=>([(12,xI w394),(52,xI w395)],[])⟩
abbrev z4z(v201:List ByteArray)(w357:Int)(w358:List Int):ByteArray×Int->Option ((ByteArray×Int)⊕((Int×List Int)⊕((Int×List Int×Int×List Bool×List (List Int))⊕(DFA×Tape))))
 |(w385,w386)=>
 if w386=(-1) then
 z0h (z7E v201 w385) LFm (w386,0)
 else
 z0d<|
 chk (z1C 8 (w358.length+1))<|
 z0c (i64.wrap (w357+1),w358++ [w386])
instance{w357:Int}{w358:List Int}:Hd (z4z v201 w357 w358):=⟨fun(w385,w386)=>([(11,xS w385),(12,xI w386)],[])⟩
abbrev z3H(a1:Int)(v201:List ByteArray)(w266:Int)(w269:List Bool)(w270:List (List Int))(v335:ByteArray)(v336:Int×Tape):Int×List Int->Option ((Int×List Int)⊕((Int×List Int×Int×List Bool×List (List Int))⊕(DFA×Tape)))
 |(w357,w358)=>
 if w357<a1 then
 chk (zaM v335 ⟨#[UInt8.ofNat (u8.wrap (i64.wrap (97+w357))).toNat]⟩)<|
 z0h (z4z v201 w357 w358) LFm (v335++⟨#[UInt8.ofNat (u8.wrap (i64.wrap (97+w357))).toNat]⟩,(-1))
 else
 z0d<|
 chk (z1C 24 (w270.length+1))<|
 z0c (i64.wrap (w266+1),v336.2.l,v336.2.at_,w269++ [decide (v336.1=1)],w270++ [w358])
instance{w266:Int}{w269:List Bool}{w270:List (List Int)}{v335:ByteArray}{v336:Int×Tape}:Hd (z3H a1 v201 w266 w269 w270 v335 v336):=⟨fun(w357,w358)=>([(10,xI w357)],[(9,(tO w358))])⟩
abbrev z4L(a1:Int)(v201:List ByteArray):Int×List Int×Int×List Bool×List (List Int)->Option ((Int×List Int×Int×List Bool×List (List Int))⊕(DFA×Tape))
 |(w266,w267,w268,w269,w270)=>
 if w266<(v201.length:Int) then
 (atI v201 w266).bind fun v335=>
 (z1g (⟨w267,w268⟩:Tape) 2).bind fun v336=>
 chk (z1C 1 (w269.length+1))<|
 z0h (z3H a1 v201 w266 w269 w270 v335 v336) LFm (0,[])
 else
 z0d<|
 some ((⟨a1,0,w269,w270⟩:DFA),(⟨w267,w268⟩:Tape))
instance:Hd (z4L a1 v201):=⟨fun(w266,w267,w268,w269,w270)=>([(24,xI w266)],[(0,.vr [(tI w267),.sc (.int .i64 w268)]),(5,.vr [.sc (.int .i64 a1),.sc (.int .i64 0),.os 1 w269.length (w269.map fun x0=>.sc (.bool x0)),.os 1 w270.length (w270.map fun x0=>(tO x0))])])⟩
def z4M(a0:Tape)(a1:Int):Option (DFA×Tape):=
 (z1g a0 2).bind fun v200=>
 (z7M a1 (i64.wrap (1+v200.1))).bind fun v201=>
 z0h (z4L a1 v201) LFm (0,v200.2.l,v200.2.at_,[],[])
instance:Ok (z4M a0 a1) (fun r=>L 43 [.vr [(tI a0.l),.sc (.int .i64 a0.at_)],.sc (.int .i64 a1)]=some (.agg [.sc (.int .i64 r.1.letters),.sc (.int .i64 r.1.start),.os 1 r.1.final.length (r.1.final.map fun x0=>.sc (.bool x0)),.os 1 r.1.next.length (r.1.next.map fun x0=>(tO x0))],[.vr [(tI r.2.l),.sc (.int .i64 r.2.at_)],.dead])):=⟨fun r h=>by have h:=z3p h;unfold z4M at h;exact z4q rfl Tryz.func43 (bdy Tryz.f43 rfl)⟩
def z6B(a0:Tape)(a1:Int)(a2:Int):Option (DFA×Tape):=
 (z1g a0 6).bind fun v6=>
 if v6.1=1 then
 (z5q v6.2 a1 a2).bind fun v7=>
 some (v7.1,v7.2)
 else
 if v6.1=2 then
 (z3g v6.2 a1 (if 4<a2 then 4 else a2)).bind fun v8=>
 some (v8.1,v8.2)
 else
 if v6.1=3 then
 (z4M v6.2 a1).bind fun v9=>
 some (v9.1,v9.2)
 else
 (z6A v6.2 a1 a2).bind fun v10=>
 some (v10.1,v10.2)
instance:Ok (z6B a0 a1 a2) (fun r=>L 13 [.vr [(tI a0.l),.sc (.int .i64 a0.at_)],.sc (.int .i64 a1),.sc (.int .i64 a2)]=some (.agg [.sc (.int .i64 r.1.letters),.sc (.int .i64 r.1.start),(tB r.1.final),(tR r.1.next)],[.vr [(tI r.2.l),.sc (.int .i64 r.2.at_)],.dead,.dead])):=⟨fun r h=>by have h:=z3p h;unfold z6B at h;exact zhQ rfl Tryz.func13 (bdy Tryz.f13 rfl)⟩
end
end
section
open Go
structure TapeOk(t:Tape):Prop where
 a0:0<=t.at_
 a1:t.at_<=t.l.length
 a2:t.l.length<=80
theorem zno(x n:Int)(h1:1<=n)(h2:n<4611686018427387904):∃v,zdq x n=some v/\0<=v/\v<n:=by
 have hx:x.tmod n<n:=Int.tmod_lt_of_pos _ (by omega)
 have hy: -n<x.tmod n:=Int.lt_tmod_of_pos x (by omega)
 unfold zdq
 rw[if_neg (by omega),z0i _ (by omega)]
 split
 · rw[z2G (by omega) (by omega)];exact⟨_,rfl,by omega,by omega⟩
 · exact⟨_,rfl,by omega,by omega⟩
theorem z7q{t:Tape}(ht:TapeOk t)(n:Int)(h1:1<=n)(h2:n<4611686018427387904):∃v t',z1g t n=some (v,t')/\0<=v/\v<n/\TapeOk t':=by
 obtain⟨a0,a1,a2⟩:=ht
 unfold z1g
 split
 · exact⟨_,_,rfl,by omega,by omega,a0,a1,a2⟩
 · rename_i hlt
   rw[z2G (x:=t.at_+1) (by omega) (by omega),z2G (by omega) (by omega)]
   obtain⟨k,hk⟩:=ZG a0
   have e:t.at_+1-1=(k:Int):=by omega
   rw[e,z0A (by omega)]
   obtain⟨v,hv,h3,h4⟩:=zno t.l[k] n h1 h2
   simp only[Z0,hv]
   exact⟨_,_,rfl,h3,h4,by simp only;omega,by simp only;omega,a2⟩
theorem zyz(l:List Int):∃t,zbJ l=some t/\TapeOk t:=by
 unfold zbJ
 split
 · rename_i h
   have:=zb4 (xs:=l) (k:=80) (by omega)
   simp only[Int.cast_ofNat_Int] at this
   rw[this]
   exact⟨_,rfl,by simp,by simp,by simp only[Zr];omega⟩
 · exact⟨_,rfl,by simp,by simp,by simp;omega⟩
def zoT(m:Int)(w:ByteArray):Prop:=∀k,∀h:k<w.size,97<=(w[k].toNat:Int)/\(w[k].toNat:Int)<97+m
theorem zbg(l:List Int):(z1i l).size=l.length:=by simp[z1i,ByteArray.size]
theorem znU(l:List Int)(k:Nat)(h:k<(z1i l).size):(z1i l)[k]=UInt8.ofNat (l[k]'(by rw[zbg] at h;exact h)).toNat:=by
 simp[z1i,ByteArray.getElem_eq_getElem_data]
theorem zyV{t:Tape}(ht:TapeOk t)(m most:Int)(hm:1<=m/\m<=26)(hk:0<=most/\most<1000):∃w t',z6P t m most=some (w,t')/\zoT m w/\(w.size:Int)<=most/\TapeOk t':=by
 unfold z6P
 rw[z2G (by omega) (by omega)]
 obtain⟨n,t1,e1,n0,n1,ht1⟩:=z7q ht (most+1) (by omega) (by omega)
 simp only[e1,Z0]
 refine Exists.elim (z1Q (b:=z6y m) (fun s=>0<=s.1/\s.1+s.2.2.2.length=n/\TapeOk ⟨s.2.1,s.2.2.1⟩/\ ∀x∈s.2.2.2,97<=x/\x<97+m) (fun s=>s.1.toNat) (fun r=>zoT m r.1/\(r.1.size:Int)<=most/\TapeOk r.2) ?_ LFm (n,t1.l,t1.at_,[]) ⟨n0,by simp,ht1,by simp⟩ (by simp only[LFm];omega)) fun r h=>⟨r.1,r.2,h⟩
 rintro⟨q,l,a,b⟩ ⟨i1,i2,i3,i4⟩
 simp only at i1 i2 i3 i4⊢
 simp only[z6y]
 by_cases hq:0<q
 · left
   obtain⟨v,t2,e2,v0,v1,ht2⟩:=z7q i3 m (by omega) (by omega)
   rw[if_pos hq,e2]
   simp only[Z0]
   rw[z0i _ (by unfold z1C;omega),z2G (x:=q-1) (by omega) (by omega),z2G (x:=97+v) (by omega) (by omega),zwe (by omega) (by omega)]
   refine⟨_,rfl,⟨by simp only;omega,by simp only[Zb,ZD];omega,ht2,?_⟩,by simp only;omega⟩
   intro x hx
   rcases Zf.1 hx with h|h
   · exact i4 x h
   · have:x=97+v:=by simpa using h
     omega
 · right
   rw[if_neg hq]
   refine⟨_,rfl,fun k hk=> ?_,by rw[zbg];omega,i3⟩
   rw[znU]
   have:=i4 _ (Zk (by rw[zbg] at hk;exact hk))
   generalize b[k]'_=z at this
   simp only[Xr]
   omega
end
section
open Go
def zab(m n:Nat)(r:List Int):Prop:=r.length=m/\ ∀x∈r,0<=x/\x<n
structure DfaOk(d:DFA)(m n:Nat):Prop where
 lt:d.letters=m
 m1:1<=m
 m6:m<=6
 n1:1<=n
 fin:d.final.length=n
 nl:d.next.length=n
 s0:0<=d.start
 s1:d.start<n
 row:∀r∈d.next,zab m n r
theorem zjx{σ τ ρ:Type}{b:σ->Option (σ⊕(τ⊕ρ))}(I:σ->Prop)(m:σ->Nat)(Post:τ->Prop){s:σ}(hI:I s)(hm:m s<LFm)
 (step:∀s,I s->(∃s',b s=some (.inl s')/\I s'/\m s'<m s)∨(∃r,b s=some (.inr (.inl r))/\Post r)):∃r,z0h b LFm s=some (.inl r)/\Post r:=by
 obtain⟨r,h1,r',h2,h3⟩:=z1Q I m (fun r=>∃t,r= .inl t/\Post t) (fun s hs=>(step s hs).imp id fun⟨r,h,hp⟩=>⟨_,h,r,rfl,hp⟩) LFm s hI hm
 exact⟨r',by rw[h1,h2],h3⟩
theorem zdl{α:Type}{l:List α}{x y:α}:y∈l++ [x]↔y∈l∨y=x:=by simp
theorem zyI{t:Tape}(ht:TapeOk t)(m most:Nat)(hm:1<=m/\m<=6)(hk:1<=most/\most<=1000):∃d t' n,z6A t m most=some (d,t')/\DfaOk d m n/\n<=most/\TapeOk t':=by
 unfold z6A
 obtain⟨v,t1,e1,v0,v1,ht1⟩:=z7q ht (most:Int) (by omega) (by omega)
 simp only[e1,Z0]
 obtain⟨k,rfl⟩:=ZG v0
 have hw:IntKind.i64.wrap (1+(k:Int))=((k+1:Nat):Int):=by rw[z2G (by omega) (by omega)];omega
 rw[hw]
 obtain⟨s,t2,e2,s0,s1,ht2⟩:=z7q ht1 ((k+1:Nat):Int) (by omega) (by omega)
 simp only[e2,Z0]
 refine Exists.elim (z1Q (b:=z6U m ((k:Int),t1) (s,t2)) (fun z=>0<=z.1/\z.1<=(k+1:Nat)/\TapeOk ⟨z.2.1,z.2.2.1⟩/\(z.2.2.2.1.length:Int)=z.1/\(z.2.2.2.2.length:Int)=z.1/\ ∀r∈z.2.2.2.2,zab m (k+1) r) (fun z=>k+2-z.1.toNat)
  (fun r=>DfaOk r.1 m (k+1)/\TapeOk r.2) ?_ LFm (0,t2.l,t2.at_,[],[]) ⟨by simp,by simp;omega,ht2,by simp,by simp,by simp⟩ (by simp only[LFm];omega)) fun r h=>⟨r.1,r.2,k+1,h.1,h.2.1,by omega,h.2.2⟩
 rintro⟨i,tl,ta,fs,rs⟩ ⟨i0,i1,i2,i3,i4,i5⟩
 simp only at i0 i1 i2 i3 i4 i5⊢
 simp only[z6U,hw]
 by_cases hi:i<((k+1:Nat):Int)
 · left
   rw[if_pos hi]
   obtain⟨u,t3,e3,u0,u1,ht3⟩:=z7q i2 2 (by omega) (by omega)
   simp only[e3,Z0]
   rw[z0i _ (by unfold z1C;omega)]
   refine Exists.elim (zjx (b:=z6z m ((k:Int),t1) i fs rs (u,t3)) (fun z=>0<=z.1/\z.1<=m/\TapeOk ⟨z.2.1,z.2.2.1⟩/\(z.2.2.2.length:Int)=z.1/\ ∀x∈z.2.2.2,0<=x/\x<(k+1:Nat)) (fun z=>m+1-z.1.toNat)
    (fun z=>z.1=i+1/\TapeOk ⟨z.2.1,z.2.2.1⟩/\(z.2.2.2.1.length:Int)=i+1/\(z.2.2.2.2.length:Int)=i+1/\ ∀r∈z.2.2.2.2,zab m (k+1) r) (s:=(0,t3.l,t3.at_,[])) ⟨by simp,by simp,ht3,by simp,by simp⟩ (by simp only[LFm];omega) ?_) fun r h=>⟨_,h.1,⟨by have:=h.2.1;omega,by have:=h.2.1;omega,h.2.2.1,by have:=h.2.1;have:=h.2.2.2.1;omega,by have:=h.2.1;have:=h.2.2.2.2.1;omega,h.2.2.2.2.2⟩,by have:=h.2.1;omega⟩
   rintro⟨j,ul,ua,row⟩ ⟨j0,j1,j2,j3,j4⟩
   simp only at j0 j1 j2 j3 j4⊢
   simp only[z6z,hw]
   by_cases hj:j<(m:Int)
   · left
     rw[if_pos hj]
     obtain⟨x,t4,e4,x0,x1,ht4⟩:=z7q j2 ((k+1:Nat):Int) (by omega) (by omega)
     simp only[e4,Z0]
     rw[z0i _ (by unfold z1C;omega),z2G (by omega) (by omega)]
     refine⟨_,rfl,⟨by simp only;omega,by simp only;omega,ht4,by simp only[Zb,ZD];omega,fun y hy=> ?_⟩,by simp only;omega⟩
     rcases zdl.1 hy with h|rfl
     · exact j4 y h
     · exact⟨x0,x1⟩
   · right
     rw[if_neg hj,z0i _ (by unfold z1C;omega),z2G (by omega) (by omega)]
     refine⟨_,rfl,by simp only,j2,by simp only[Zb,ZD];omega,by simp only[Zb,ZD];omega,fun y hy=> ?_⟩
     rcases zdl.1 hy with h|rfl
     · exact i5 y h
     · exact⟨by omega,j4⟩
 · right
   rw[if_neg hi]
   exact⟨_,rfl,⟨rfl,hm.1,hm.2,by omega,by simp only;omega,by simp only;omega,s0,s1,i5⟩,i2⟩
theorem zr4{t:Tape}(ht:TapeOk t):∃m t',z5r t=some (((m:Nat):Int),t')/\1<=m/\m<=2/\TapeOk t':=by
 unfold z5r
 obtain⟨v,t1,e1,v0,v1,ht1⟩:=z7q ht 8 (by omega) (by omega)
 simp only[e1,Z0]
 obtain⟨k,rfl⟩:=ZG v0
 have:zDu .i64 (k:Int) 7=((k/7:Nat):Int):=by
  unfold zDu
  rw[show((k:Int).tdiv 7)=((k/7:Nat):Int) by rfl,z2G (by omega) (by omega)]
 rw[this,z2G (by omega) (by omega)]
 exact⟨2-k/7,t1,by congr 2;omega,by omega,by omega,ht1⟩
end
section
open Go
variable{rs:List (List Int)}{xs:List Int}{k m n:Nat}{t:Tape}
theorem zoy(h:∀r∈rs,zab m n r){r':List Int}(hr:zab m n r')(i:Nat):∀r∈rs.set i r',zab m n r:=fun r hm=>by grind
theorem zt8{r:List Int}(h:zab m n r){x:Int}(hx:0<=x/\x<n)(j:Nat):zab m n (r.set j x):=⟨by simp[h.1],fun y hy=>by
 rcases Xw hy with h'|rfl
 · exact h.2 y h'
 · exact hx⟩
theorem zt9(h:∀r∈rs,zab m n r)(hk:k<rs.length):zab m n rs[k]:=h _ (Zk hk)
theorem zqT(ht:TapeOk t)(m most:Nat)(hm:1<=m/\m<=6)(hk:1<=most/\most<=1000):∃d t' n,z5q t m most=some (d,t')/\DfaOk d m n/\n<=most/\TapeOk t':=by
 unfold z5q
 obtain⟨d,t1,n,e1,hd,hn,ht1⟩:=zyI ht m most hm hk
 simp only[e1,Z0]
 refine Exists.elim (z1Q (b:=z5f (d,t1)) (fun z=>0<=z.1/\z.1<=n/\z.2.length=n/\ ∀r∈z.2,zab m n r) (fun z=>n+1-z.1.toNat) (fun r=>DfaOk r.1 m n/\TapeOk r.2) ?_ LFm (0,d.next) ⟨by simp,by simp,hd.nl,hd.row⟩ (by simp only[LFm];omega)) fun r h=>⟨r.1,r.2,n,h.1,h.2.1,hn,h.2.2⟩
 rintro⟨i,rs⟩ ⟨i0,i1,i2,i3⟩
 simp only at i0 i1 i2 i3⊢
 simp only[z5f,hd.nl]
 obtain⟨i,rfl⟩:=ZG i0
 by_cases hi:(i:Int)<n
 · left
   rw[if_pos hi,z0A (by omega)]
   simp only[Z0]
   have hri:=zt9 i3 (show i<rs.length by omega)
   refine Exists.elim (zjx (b:=z5e (i:Int) rs[i] _) (fun z=>0<=z.1/\z.1<=m/\z.2.length=n/\ ∀r∈z.2,zab m n r) (fun z=>m+1-z.1.toNat) (fun z=>z.1=(i:Int)+1/\z.2.length=n/\ ∀r∈z.2,zab m n r) (s:=(0,rs)) ⟨by simp,by simp,i2,i3⟩ (by simp only[LFm];omega) ?_) fun r h=>⟨_,h.1,⟨by have:=h.2.1;omega,by have:=h.2.1;omega,h.2.2.1,h.2.2.2⟩,by have:=h.2.1;omega⟩
   rintro⟨j,us⟩ ⟨j0,j1,j2,j3⟩
   simp only at j0 j1 j2 j3⊢
   obtain⟨j,rfl⟩:=ZG j0
   simp only[z5e,hri.1]
   rw[z0A (by omega)]
   simp only[Z0]
   have hui:=zt9 j3 (show i<us.length by omega)
   by_cases hj:(j:Int)<m
   · left
     rw[if_pos hj,z0A (by rw[hui.1];omega),z2G (by omega) (by omega)]
     simp only[Z0]
     refine⟨_,rfl,⟨by simp only;omega,by simp only;omega,by simp only[X9];exact j2,zoy j3 (zt8 hui ?_ _) _⟩,by simp only;omega⟩
     have:=hui.2 _ (Zk (show j<us[i].length by rw[hui.1];omega))
     split<;>omega
   · right
     rw[if_neg hj,z2G (by omega) (by omega)]
     exact⟨_,rfl,rfl,j2,j3⟩
 · right
   rw[if_neg hi]
   exact⟨_,rfl,⟨hd.lt,hd.m1,hd.m6,hd.n1,hd.fin,by simp only;omega,by simp,by simp only;have:=hd.n1;omega,i3⟩,ht1⟩
theorem zwH(m n:Nat)(hn:1<=n):zab m n (List.replicate m 0):=⟨by simp,fun x hx=>by rw[(List.mem_replicate.1 hx).2];omega⟩
theorem zzt(h:k<xs.length):z6O xs 0 (k:Int)=some (xs.take k):=zb4 (by omega)
theorem zzs(h:k<xs.length):z6O xs ((k:Int)+1) (xs.length:Int)=some (xs.drop (k+1)):=by
 have:=zn7 (xs:=xs) (k:=k+1) (by omega)
 rwa [show((k+1:Nat):Int)=(k:Int)+1 by omega] at this
theorem zwQ(ht:TapeOk t)(m most:Nat)(hm:1<=m/\m<=6)(hk:1<=most/\most<=1000):∃d t' n,z3g t m most=some (d,t')/\DfaOk d m n/\n<=most/\TapeOk t':=by
 unfold z3g
 obtain⟨v,t1,e1,v0,v1,ht1⟩:=z7q ht (most:Int) (by omega) (by omega)
 simp only[e1,Z0]
 obtain⟨k,rfl⟩:=ZG v0
 have hw:IntKind.i64.wrap (1+(k:Int))=((k+1:Nat):Int):=by rw[z2G (by omega) (by omega)];omega
 rw[hw]
 obtain⟨s,t2,e2,s0,s1,ht2⟩:=z7q ht1 ((k+1:Nat):Int) (by omega) (by omega)
 simp only[e2,Z0]
 refine Exists.elim (z1Q (b:=z3t m ((k:Int),t1) (s,t2)) (fun z=>0<=z.1/\z.1<=(k+1:Nat)/\TapeOk ⟨z.2.1,z.2.2.1⟩/\(z.2.2.2.1.length:Int)=z.1/\(z.2.2.2.2.length:Int)=z.1/\ ∀r∈z.2.2.2.2,zab m (k+1) r) (fun z=>k+2-z.1.toNat)
  (fun r=>DfaOk r.1 m (k+1)/\TapeOk r.2) ?_ LFm (0,t2.l,t2.at_,[],[]) ⟨by simp,by simp;omega,ht2,by simp,by simp,by simp⟩ (by simp only[LFm];omega)) fun r h=>⟨r.1,r.2,k+1,h.1,h.2.1,by omega,h.2.2⟩
 rintro⟨i,tl,ta,fs,rs⟩ ⟨i0,i1,i2,i3,i4,i5⟩
 simp only at i0 i1 i2 i3 i4 i5⊢
 simp only[z3t,hw]
 by_cases hi:i<((k+1:Nat):Int)
 · left
   rw[if_pos hi]
   obtain⟨u,t3,e3,u0,u1,ht3⟩:=z7q i2 2 (by omega) (by omega)
   simp only[e3,Z0]
   rw[z0i _ (by unfold z1C;omega),z0i _ (by unfold z0S;omega),z0i _ (by unfold z1C;omega),z2G (by omega) (by omega)]
   refine⟨_,rfl,⟨by simp only;omega,by simp only;omega,ht3,by simp only[Zb,ZD];omega,by simp only[Zb,ZD];omega,fun y hy=> ?_⟩,by simp only;omega⟩
   rcases zdl.1 hy with h|rfl
   · exact i5 y h
   · exact zwH m (k+1) (by omega)
 · right
   rw[if_neg hi]
   refine Exists.elim (z1Q (b:=z3s m ((k:Int),t1) (s,t2) fs) (fun z=>0<=z.1/\z.1<=m/\TapeOk ⟨z.2.1,z.2.2.1⟩/\z.2.2.2.length=k+1/\ ∀r∈z.2.2.2,zab m (k+1) r) (fun z=>m+1-z.1.toNat)
    (fun r=>DfaOk r.1 m (k+1)/\TapeOk r.2) ?_ LFm (0,tl,ta,rs) ⟨by simp,by simp,i2,by simp only;omega,i5⟩ (by simp only[LFm];omega)) fun r h=>⟨r,by rw[h.1];rfl,h.2⟩
   rintro⟨a,ul,ua,us⟩ ⟨a0,a1,a2,a3,a4⟩
   simp only at a0 a1 a2 a3 a4⊢
   obtain⟨a,rfl⟩:=ZG a0
   simp only[z3s]
   by_cases ha:(a:Int)<m
   · left
     rw[if_pos ha]
     refine Exists.elim (zjx (b:=z3a ((k:Int),t1) (a:Int) ul ua us) (fun z=>0<=z.1/\z.1<=(k+1:Nat)/\(z.2.length:Int)=z.1/\ ∀x∈z.2,0<=x/\x<(k+1:Nat)) (fun z=>k+2-z.1.toNat)
      (fun z=>z.1=(a:Int)+1/\TapeOk ⟨z.2.1,z.2.2.1⟩/\z.2.2.2.length=k+1/\ ∀r∈z.2.2.2,zab m (k+1) r) (s:=(0,[])) ⟨by simp,by simp;omega,by simp,by simp⟩ (by simp only[LFm];omega) ?_) fun r h=>⟨_,h.1,⟨by have:=h.2.1;omega,by have:=h.2.1;omega,h.2.2.1,h.2.2.2.1,h.2.2.2.2⟩,by have:=h.2.1;omega⟩
     rintro⟨q,left⟩ ⟨q0,q1,q2,q3⟩
     simp only at q0 q1 q2 q3⊢
     simp only[z3a,hw]
     by_cases hq:q<((k+1:Nat):Int)
     · left
       rw[if_pos hq,z0i _ (by unfold z1C;omega),z2G (by omega) (by omega)]
       refine⟨_,rfl,⟨by simp only;omega,by simp only;omega,by simp only[Zb,ZD];omega,fun y hy=> ?_⟩,by simp only;omega⟩
       rcases zdl.1 hy with h|rfl
       · exact q3 y h
       · omega
     · right
       rw[if_neg hq]
       refine Exists.elim (zjx (b:=z2Z ((k:Int),t1) (a:Int)) (fun z=>0<=z.1/\z.1<=(k+1:Nat)/\TapeOk ⟨z.2.1,z.2.2.1⟩/\z.2.2.2.1.length=k+1/\(∀r∈z.2.2.2.1,zab m (k+1) r)/\(z.2.2.2.2.length:Int)=(k+1:Nat)-z.1/\ ∀x∈z.2.2.2.2,0<=x/\x<(k+1:Nat)) (fun z=>k+2-z.1.toNat)
        (fun z=>z.1=(a:Int)+1/\TapeOk ⟨z.2.1,z.2.2.1⟩/\z.2.2.2.length=k+1/\ ∀r∈z.2.2.2,zab m (k+1) r) (s:=(0,ul,ua,us,left)) ⟨by simp,by simp;omega,a2,a3,a4,by simp only;omega,q3⟩ (by simp only[LFm];omega) ?_) fun r h=>⟨r,by rw[h.1];rfl,h.2⟩
       rintro⟨p,xl,xa,xs,lf⟩ ⟨p0,p1,p2,p3,p4,p5,p6⟩
       simp only at p0 p1 p2 p3 p4 p5 p6⊢
       obtain⟨p,rfl⟩:=ZG p0
       simp only[z2Z,hw]
       by_cases hp:(p:Int)<((k+1:Nat):Int)
       · left
         rw[if_pos hp]
         obtain⟨x,t4,e4,x0,x1,ht4⟩:=z7q p2 (lf.length:Int) (by omega) (by omega)
         obtain⟨x,rfl⟩:=ZG x0
         have hrp:=zt9 p4 (show p<xs.length by omega)
         have hlx:x<lf.length:=by omega
         simp only[e4,Z0]
         rw[z0A (show p<xs.length by omega)]
         simp only[Z0]
         rw[z0A hlx]
         simp only[Z0]
         rw[z0A (show a<xs[p].length by rw[hrp.1];omega),z2G (x:=(x:Int)+1) (by omega) (by omega),zzt hlx]
         simp only[Z0]
         rw[zzs hlx]
         simp only[Z0]
         rw[z0i _ (by unfold z1C;simp only[Zr];omega),z0i _ (by unfold z1C;simp only[Zr,Yh];omega),z2G (by omega) (by omega)]
         refine⟨_,rfl,⟨by simp only;omega,by simp only;omega,ht4,by simp only[X9];exact p3,zoy p4 (zt8 hrp (p6 _ (Zk hlx)) _) _,by simp only[Zb,Zr,Yh];omega,fun y hy=> ?_⟩,by simp only;omega⟩
         rcases Zf.1 hy with h|h
         · grind
         · grind
       · right
         rw[if_neg hp,z2G (by omega) (by omega)]
         exact⟨_,rfl,rfl,p2,p3,p4⟩
   · right
     rw[if_neg ha]
     exact⟨_,rfl,⟨rfl,hm.1,hm.2,by omega,by simp only;omega,a3,s0,s1,a4⟩,a2⟩
end
section
open Go
variable{d:DFA}{a b m n q s:Nat}
theorem zfj(h:a<2^62):IntKind.i64.wrap (a:Int)=(a:Int):=z2G (by omega) (by omega)
theorem zxY(ha:a<2^62)(hb:b<2^62):z3k .i64 (a:Int) (b:Int)=((a&&&b:Nat):Int):=by
 unfold z3k
 have e:(BitVec.ofInt IntKind.i64.bits (a:Int)&&&BitVec.ofInt IntKind.i64.bits (b:Int)).toNat=a&&&b:=by
  show(BitVec.ofInt 64 (a:Int)&&&BitVec.ofInt 64 (b:Int)).toNat=_
  rw[BitVec.toNat_and,BitVec.toNat_ofInt,BitVec.toNat_ofInt]
  have h1:((a:Int)%((2^64:Nat):Int)).toNat=a:=by omega
  have h2:((b:Int)%((2^64:Nat):Int)).toNat=b:=by omega
  rw[h1,h2]
 rw[e]
 exact zfj (YR Nat.and_le_left ha)
theorem zzB{k:Nat}(ha:a<2^k)(hb:b<2^k):a|||b<2^k:=Nat.or_lt_two_pow ha hb
theorem znb(ha:a<2^62)(hb:b<2^62):orI .i64 (a:Int) (b:Int)=((a|||b:Nat):Int):=by
 unfold orI
 have e:(BitVec.ofInt IntKind.i64.bits (a:Int)|||BitVec.ofInt IntKind.i64.bits (b:Int)).toNat=a|||b:=by
  show(BitVec.ofInt 64 (a:Int)|||BitVec.ofInt 64 (b:Int)).toNat=_
  rw[BitVec.toNat_or,BitVec.toNat_ofInt,BitVec.toNat_ofInt]
  have h1:((a:Int)%((2^64:Nat):Int)).toNat=a:=by omega
  have h2:((b:Int)%((2^64:Nat):Int)).toNat=b:=by omega
  rw[h1,h2]
 rw[e]
 exact zfj (zzB ha hb)
theorem zhK(ha:a<2^62)(hb:b<2^62):zhL .i64 (a:Int) (b:Int)=0↔a&&&b=a:=by
 unfold zhL
 have e:(BitVec.ofInt IntKind.i64.bits (a:Int)&&& ~~~ BitVec.ofInt IntKind.i64.bits (b:Int)).toNat=(BitVec.ofNat 64 a&&& ~~~ BitVec.ofNat 64 b).toNat:=by
  show(BitVec.ofInt 64 (a:Int)&&& ~~~ BitVec.ofInt 64 (b:Int)).toNat=_
  congr 2
 rw[e]
 have hle:(BitVec.ofNat 64 a&&& ~~~ BitVec.ofNat 64 b).toNat<=a:=by
  rw[BitVec.toNat_and]
  refine ZO Nat.and_le_left ?_
  simp only[BitVec.toNat_ofNat]
  omega
 rw[zfj (by omega)]
 have ta:∀i,(BitVec.ofNat 64 a).toNat.testBit i=a.testBit i:=fun i=>by
  rw[BitVec.toNat_ofNat,X2 (by omega)]
 have tb:∀i,(BitVec.ofNat 64 b).toNat.testBit i=b.testBit i:=fun i=>by
  rw[BitVec.toNat_ofNat,X2 (by omega)]
 have hz:∀i,(BitVec.ofNat 64 a&&& ~~~ BitVec.ofNat 64 b).toNat.testBit i=(a.testBit i&& !(b.testBit i)):=fun i=>by
  rw[BitVec.testBit_toNat,BitVec.getLsbD_and,BitVec.getLsbD_not]
  by_cases hi:i<64
  · simp only[hi,decide_true,YO]
    rw[←BitVec.testBit_toNat,←BitVec.testBit_toNat,ta,tb]
  · have:a.testBit i=false:=YQ (Zy ha (Zm (by omega) (by omega)))
    rw[←BitVec.testBit_toNat,ta,this];simp
 constructor
 · intro h
   have h0:(BitVec.ofNat 64 a&&& ~~~ BitVec.ofNat 64 b).toNat=0:=by omega
   apply ZZ
   intro i
   have:=hz i
   rw[h0,Xj] at this
   rw[XK]
   revert this
   cases a.testBit i<;>cases b.testBit i<;>simp
 · intro h
   have:(BitVec.ofNat 64 a&&& ~~~ BitVec.ofNat 64 b).toNat=0:=by
    apply ZZ
    intro i
    have e2:(a&&&b).testBit i=a.testBit i:=by rw[h]
    rw[XK] at e2
    rw[hz,Xj]
    revert e2
    cases a.testBit i<;>cases b.testBit i<;>simp
   omega
theorem zov(hq:q<=64):z1D .i64 (a:Int) (q:Int)=((a>>>q:Nat):Int):=by
 unfold z1D
 have e:min ((q:Int).toNat) IntKind.i64.bits=q:=by
  show min ((q:Int).toNat) 64=q
  omega
 rw[e,Xv,Xu _ (by exact Int.pow_nonneg (by omega))]
 simp
theorem z8B(hq:q<=61):zmA .i64 1 (q:Int)=((2^q:Nat):Int):=by
 rw[zsP]
 have e:min ((q:Int).toNat) IntKind.i64.bits=q:=by
  show min ((q:Int).toNat) 64=q
  omega
 rw[e,Int.one_mul]
 have:((2:Int)^q)=((2^q:Nat):Int):=by simp
 rw[this]
 exact zfj (Yn (by omega) (by omega))
theorem zhE(ha:a<2^62)(hq:q<=64):(z3k .i64 (z1D .i64 (a:Int) (q:Int)) 1=1)↔a.testBit q=true:=by
 rw[zov hq,show(1:Int)=((1:Nat):Int) from rfl,zxY (by rw[Xv];exact YR (Nat.div_le_self _ _) ha) (by decide),Nat.testBit]
 have:(1&&&a>>>q)=(a>>>q)&&&1:=Nat.and_comm ..
 rw[this]
 have h2:=Nat.and_one_is_mod (a>>>q)
 rw[h2]
 simp only[bne_iff_ne,ne_eq]
 omega
theorem zDS(h:q<2^62):IntKind.u64.wrap (q:Int)=(q:Int):=by rw[Xl];omega
def zjp(rows:List (List Int))(s a:Nat):Nat->Nat
 |0=>0
 |q+1=>if s.testBit q=true then zjp rows s a q|||2^((rows.getD q []).getD a 0).toNat else zjp rows s a q
def mvN(d:DFA)(s a:Nat):Nat:=zjp d.next s a d.next.length
theorem zcq(hd:DfaOk d m n)(hq:q<n)(ha:a<m):∃h1:q<d.next.length,∃h2:a<d.next[q].length,(d.next.getD q []).getD a 0=d.next[q][a]/\0<=d.next[q][a]/\d.next[q][a]<n:=by
 have h1:q<d.next.length:=by rw[hd.nl];exact hq
 have hr:=hd.row _ (Zk h1)
 have h2:a<d.next[q].length:=by rw[hr.1];exact ha
 exact⟨h1,h2,by simp[List.getD,h1,h2],hr.2 _ (Zk h2)⟩
theorem zoK{d:DFA}{m n:Nat}(hd:DfaOk d m n){s a:Nat}(ha:a<m)(p:Nat):∀q,q<=n->((zjp d.next s a q).testBit p=true↔ ∃i,i<q/\s.testBit i=true/\((d.next.getD i []).getD a 0).toNat=p)
 |0,_=>by simp[zjp]
 |q+1,hq=>by
  have ih:=zoK hd (s:=s) ha p q (by omega)
  unfold zjp
  by_cases hb:s.testBit q=true
  · rw[if_pos hb,YH,Y2,ih,Y8]
    constructor
    · rintro(⟨i,h1,h2,h3⟩|h)
      · exact⟨i,by omega,h2,h3⟩
      · exact⟨q,by omega,hb,by simpa using h⟩
    · rintro⟨i,h1,h2,h3⟩
      by_cases e:i=q
      · subst e;right;simpa using h3
      · left;exact⟨i,by omega,h2,h3⟩
  · rw[if_neg hb,ih]
    constructor
    · rintro⟨i,h1,h2,h3⟩;exact⟨i,by omega,h2,h3⟩
    · rintro⟨i,h1,h2,h3⟩
      by_cases e:i=q
      · subst e;exact absurd h2 hb
      · exact⟨i,by omega,h2,h3⟩
theorem zgN{d:DFA}{m n:Nat}(hd:DfaOk d m n){s a:Nat}(ha:a<m):∀q,q<=n->zjp d.next s a q<2^n
 |0,_=>Yu n
 |q+1,hq=>by
  have ih:=zgN hd (s:=s) ha q (by omega)
  unfold zjp
  split
  · obtain⟨h1,h2,e,h3,h4⟩:=zcq hd (q:=q) (by omega) ha
    refine zzB ih (Yn (by omega) ?_)
    rw[e];omega
  · exact ih
theorem zau(hd:DfaOk d m n)(ha:a<m)(p:Nat):(mvN d s a).testBit p=true↔ ∃i,i<n/\s.testBit i=true/\((d.next.getD i []).getD a 0).toNat=p:=by
 unfold mvN;rw[hd.nl];exact zoK hd ha p n (Z7 _)
theorem zc6(hd:DfaOk d m n)(ha:a<m):mvN d s a<2^n:=by
 unfold mvN;rw[hd.nl];exact zgN hd ha n (Z7 _)
theorem zgG(h:n<=12):2^n<=4096:=Zm (n:=2) (by omega) h
theorem ztE(hd:DfaOk d m n)(hn:n<=12)(hs:s<2^n)(ha:a<m):z7P d (s:Int) (a:Int)=some ((mvN d s a:Nat):Int):=by
 have h12:=zgG hn
 unfold z7P mvN
 refine z0n (s:=((0:Int),(0:Int))) n (fun q=>(((zjp d.next s a q:Nat):Int),(q:Int))) rfl (by simp only[LFm];omega) (fun q hq=> ?_) ?_
 · have hlt:=zgN hd (s:=s) ha q (by omega)
   obtain⟨h1,h2,e,h3,h4⟩:=zcq hd (q:=q) hq ha
   simp only[z8c]
   rw[if_pos (by omega),z0A h1]
   simp only[Z0]
   rw[z0i _ (by omega),z0H (by omega)]
   by_cases hb:s.testBit q=true
   · rw[if_pos ((zhE (by omega) (by omega)).2 hb),z0A h2]
     simp only[Z0]
     obtain⟨v,hv⟩:=ZG h3
     rw[z0i _ (by omega),hv,z8B (by omega),znb (by omega) (Yn (by omega) (by omega))]
     simp only[zjp]
     rw[if_pos hb,e,hv,Z2]
   · rw[if_neg (fun h=>hb ((zhE (by omega) (by omega)).1 h))]
     simp only[zjp]
     rw[if_neg hb]
 · simp only[z8c]
   rw[if_neg (by rw[hd.nl];omega),hd.nl]
end
section
open Go
variable{w:ByteArray}{d:DFA}{k m n:Nat}
def zqE(d:DFA)(r:List Int):Bool:=decide ((r.length:Int)=d.letters)&&r.all fun x=>decide (0<=x/\x<(d.final.length:Int))
def ziD(d:DFA):Bool:=decide (d.next.length=d.final.length)&&decide (0<=d.start/\d.start<(d.final.length:Int))&&d.next.all (zqE d)
def zAF(d:DFA):Int:=if d.letters<1∨6<d.letters then 1 else if 512<d.final.length then 3 else if ziD d=true then 0 else 4
def zDL(d:DFA):Prop:=d.final.length<2^61/\d.next.length<2^61/\ ∀r∈d.next,r.length<2^61
theorem zwi(hc:zDL d):z0h (z6q d) LFm 0=some (if d.next.all (zqE d)=true then 0 else 4):=by
 rw[zdr (l:=d.next) ([]:List Int) (zqE d) (A:=some 4) (B:=some 0) (by have:=hc.2.1;omega) (fun k hk=> ?_) ?_]
 · split<;>rfl
 · simp only[z6q]
   rw[if_neg (by omega)]
 · simp only[z6q]
   have hkl:=hc.2.1
   have hrl:=hc.2.2 _ (Zk hk)
   rw[if_pos (by omega),z0A hk]
   simp only[Z0,List.getD,Z1 hk,Z4]
   by_cases hl:(d.next[k].length:Int)=d.letters
   · rw[if_pos hl]
     rw[zdr (l:=d.next[k]) (0:Int) (fun x=>decide (0<=x/\x<(d.final.length:Int))) (A:=z0d (some 4)) (B:=z0c ((k+1:Nat):Int)) (by omega) (fun j hj=> ?_) ?_]
     · simp only[zqE,hl,decide_true,YO]
     · simp only[z6Y]
       rw[if_neg (by omega),z0H (by omega)]
     · simp only[z6Y]
       rw[if_pos (by omega),z0A hj]
       simp only[Z0,List.getD,Z1 hj,Z4]
       by_cases h1:d.next[k][j]<0
       · rw[if_pos h1,if_neg (by simp;omega)]
       · rw[if_neg h1]
         by_cases h2:(d.final.length:Int)<=d.next[k][j]
         · rw[if_pos h2,if_neg (by simp;omega)]
         · rw[if_neg h2,if_pos (by simp;omega),z0H (by omega)]
   · rw[if_neg hl]
     rw[if_neg (by simp[zqE,hl])]
theorem zdH(hc:zDL d):z5A d=some (zAF d):=by
 unfold z5A zAF
 by_cases h1:d.letters<1
 · rw[if_pos h1,if_pos (.inl h1)]
 rw[if_neg h1]
 by_cases h2:6<d.letters
 · rw[if_pos h2,if_pos (.inr h2)]
 have hno:¬(d.letters<1∨6<d.letters):=by omega
 rw[if_neg h2,if_neg hno]
 by_cases h3:512<(d.final.length:Int)
 · have h3':512<d.final.length:=by omega
   rw[if_pos h3,if_pos h3']
 have h3':¬512<d.final.length:=by omega
 rw[if_neg h3,if_neg h3']
 by_cases h4:(d.next.length:Int)=(d.final.length:Int)
 · rw[if_pos h4]
   by_cases h5:d.start<0
   · rw[if_pos h5,if_neg (by simp[ziD];omega)]
   rw[if_neg h5]
   by_cases h6:(d.final.length:Int)<=d.start
   · rw[if_pos h6,if_neg (by simp[ziD];omega)]
   rw[if_neg h6,zwi hc]
   congr 1
   have e1:decide (d.next.length=d.final.length)=true:=by simp;omega
   have e2:decide (0<=d.start/\d.start<(d.final.length:Int))=true:=by simp;omega
   simp only[ziD,e1,e2,YO]
 · rw[if_neg h4,if_neg (by simp[ziD];omega)]
def zDw(d:DFA):Int:=if zAF d=0 then(if 12<d.final.length then 3 else 0) else zAF d
theorem zmK(hc:zDL d):z6j d=some (zDw d):=by
 unfold z6j zDw
 rw[zdH hc]
 simp only[Z0]
 split
 · split
   · rw[if_pos (by omega)]
   · rw[if_neg (by omega)]
 · rfl
theorem zo4(hd:DfaOk d m n)(hn:n<=512):zAF d=0:=by
 have h1:=hd.lt
 have h2:=hd.m1
 have h3:=hd.m6
 have hf:=hd.fin
 have hl:=hd.nl
 unfold zAF
 rw[if_neg (by omega),if_neg (by omega),if_pos]
 have e1:decide (d.next.length=d.final.length)=true:=by simp;omega
 have e2:decide (0<=d.start/\d.start<(d.final.length:Int))=true:=by have:=hd.s0;have:=hd.s1;simp;omega
 simp only[ziD,e1,e2,YO,Zn]
 intro r hr
 obtain⟨a,b⟩:=hd.row r hr
 have e3:decide ((r.length:Int)=d.letters)=true:=by simp;omega
 simp only[zqE,e3,YO,Zn,decide_eq_true_eq]
 intro x hx
 have:=b x hx
 omega
theorem zBS(hd:DfaOk d m n)(hn:n<=12):zDw d=0:=by
 have hf:=hd.fin
 unfold zDw
 rw[zo4 hd (by omega),if_pos rfl,if_neg (by omega)]
theorem zps(hd:DfaOk d m n)(hn:n<=12):zDL d:=⟨by rw[hd.fin];omega,by rw[hd.nl];omega,fun r hr=>by have:=(hd.row r hr).1;have:=hd.m6;omega⟩
theorem zc3(w:ByteArray)(m:Int):z7e w m=z8Z w m:=by
 unfold z7e z8Z z8s
 by_cases h1:m<1
 · rw[if_pos h1,if_neg (by omega)];rfl
 rw[if_neg h1]
 have h1':1<=m:=by omega
 by_cases h2:6<m
 · rw[if_pos h2,if_pos h1']
   simp only[Z0]
   rw[if_neg (by simp;omega)]
 rw[if_neg h2,if_pos h1']
 simp only[Z0]
 rw[if_pos (show decide (m<=6)=true by simp;omega)]
 all_goals rfl
def z9I(m:Int)(c:UInt8):Bool:=decide (97<=c.toNat)&&decide ((c.toNat:Int)<97+m)
theorem zi8(h:97<=k)(h2:k<256):IntKind.i64.wrap (IntKind.u8.wrap ((k:Int)-97))=((k-97:Nat):Int):=by
 rw[zwe (by omega) (by omega),z2G (by omega) (by omega)];omega
theorem za7(h:k<w.size):w[k]=w.data.toList.getD k 0:=by
 have h':k<w.data.toList.length:=by rw[ZX];exact h
 rw[List.getD,Z1 h',Z4,X1]
 rfl
theorem zy1{m:Int}(hm:1<=m/\m<=6):z8Z w m=some (decide (w.size<=2048)&&w.data.toList.all (z9I m)):=by
 unfold z8Z z8s
 rw[if_pos hm.1]
 simp only[Z0]
 rw[if_pos (show decide (m<=6)=true by simp;omega)]
 by_cases h:2048<(w.size:Int)
 · rw[if_pos h,show decide (w.size<=2048)=false by simp;omega];rfl
 rw[if_neg h,show decide (w.size<=2048)=true by simp;omega,YO]
 have hl:w.data.toList.length=w.size:=by rw[ZX];rfl
 rw[z4N (s:=(0:Int)) w.size (fun k=>(k:Int)) (fun k=> !z9I m (w.data.toList.getD k 0)) (fun _=>some false) (x:=some true) rfl (by simp only[LFm];omega)]
 · rw[zaA]
   simp only[X4]
   rw[←hl,zdd]
   cases w.data.toList.all (z9I m)<;>rfl
 · intro k hk
   have hb:w[k].toNat<256:=w[k].toNat_lt
   simp only[z8b]
   rw[if_pos (by omega),zbh hk]
   simp only[Z0]
   rw[←za7 hk]
   by_cases h1:(w[k].toNat:Int)<97
   · have:z9I m w[k]=false:=by simp only[z9I,YJ,decide_eq_false_iff_not];omega
     simp only[h1,this,Xe,if_true]
   · rw[if_neg h1,zi8 (by omega) hb]
     by_cases h2:m<=((w[k].toNat-97:Nat):Int)
     · have:z9I m w[k]=false:=by simp only[z9I,YJ,decide_eq_false_iff_not];omega
       simp only[h2,this,Xe,if_true]
     · have:z9I m w[k]=true:=by simp only[z9I,Z5,decide_eq_true_eq];omega
       rw[if_neg h2,this,if_neg (by simp),z0H (by omega)]
 · simp only[z8b]
   rw[if_neg (by omega)]
def zaP(m:Nat)(w:ByteArray):Prop:=w.size<=2048/\ ∀c∈w.data.toList,97<=c.toNat/\c.toNat<97+m
instance(m:Nat)(w:ByteArray):Decidable (zaP m w):=by unfold zaP;exact inferInstance
theorem zj7(hm:1<=m/\m<=6):z8Z w (m:Int)=some (decide (zaP m w)):=by
 rw[zy1 (by omega)]
 congr 1
 rw[Yg,decide_eq_true_iff]
 unfold zaP
 simp only[Z5,decide_eq_true_eq,Zn,z9I]
 constructor
 · rintro⟨a,b⟩;exact⟨a,fun c hc=>by have:=b c hc;omega⟩
 · rintro⟨a,b⟩;exact⟨a,fun c hc=>by have:=b c hc;omega⟩
theorem zcF{r p:Nat}(hr:r<2^62)(hp:p<2^62):z4u (r:Int) (p:Int)=some (decide (p&&&r=p)):=by
 unfold z4u
 congr 1
 rw[Yg];simp only[decide_eq_true_eq]
 exact zhK hp hr
def z4i(d:DFA):Nat->List UInt8->Nat
 |s,[]=>s
 |s,c::w=>z4i d (mvN d s (c.toNat-97)) w
theorem z5D(d:DFA):∀(s:Nat) (u v:List UInt8),z4i d s (u++v)=z4i d (z4i d s u) v
 |s,[],v=>rfl
 |s,c::u,v=>by simp only[ZN,z4i,z5D]
theorem zgy{d:DFA}{m n:Nat}(hd:DfaOk d m n):∀ {w:List UInt8} {s:Nat},s<2^n->(∀c∈w,97<=c.toNat/\c.toNat<97+m)->z4i d s w<2^n
 | [],s,hs,_=>hs
 |c::w,s,hs,hw=>by
  have hc:=hw c (Zz ..)
  exact zgy (w:=w) (s:=mvN d s (c.toNat-97)) hd (zc6 hd (by omega)) fun c' hc'=>hw c' (Zp _ hc')
theorem zlb{α:Type}{l:List α}(h:k<l.length):l.take (k+1)=l.take k++ [l[k]]:=by rw[Zw h]
end
section
open Go
def zoU(a:Nat):ByteArray:=⟨#[UInt8.ofNat (97+a)]⟩
abbrev RS:=List Nat×List ByteArray
def zhX(d:DFA)(i a:Nat)(st:RS):RS:=if mvN d (st.1.getD i 0) a∈st.1 then st else(st.1++ [mvN d (st.1.getD i 0) a],st.2++ [st.2.getD i ByteArray.empty++zoU a])
def zaD(d:DFA)(i:Nat)(st:RS):Nat->RS
 |0=>st
 |a+1=>zhX d i a (zaD d i st a)
def z8P(d:DFA)(m s:Nat):Nat->RS
 |0=>([s],[ByteArray.empty])
 |k+1=>if k<(z8P d m s k).1.length then zaD d k (z8P d m s k) m else z8P d m s k
structure RInv(d:DFA)(m n s:Nat)(st:RS):Prop where
 nd:st.1.Nodup
 lt:∀x∈st.1,x<2^n
 len:st.2.length=st.1.length
 f0:st.1[0]? =some s
 w0:st.2[0]? =some ByteArray.empty
 ok:∀i,i<st.1.length->(st.2.getD i ByteArray.empty).size<=i/\(∀c∈(st.2.getD i ByteArray.empty).data.toList,97<=c.toNat/\c.toNat<97+m)/\z4i d s (st.2.getD i ByteArray.empty).data.toList=st.1.getD i 0
variable{d:DFA}{S l:List Nat}{a i m n s x:Nat}{α:Type}
variable{st:RS}
theorem z5Z{l r:List α}(d:α)(h:i<l.length):(l++r).getD i d=l.getD i d:=by grind
theorem z9h{l:List α}{x d:α}(h:i=l.length):(l++ [x]).getD i d=x:=by
 subst h;simp[List.getD]
theorem z0e(h:i<l.length):l.getD i 0∈l:=by grind
theorem z7u{α:Type}:∀ {l r:List α},l.Nodup->(∀x∈l,x∈r)->l.length<=r.length
 | [],r,_,_=>by simp
 |x::l,r,hn,hs=>by
  obtain⟨a,b,rfl⟩:=List.append_of_mem (hs x (Zz ..))
  have hn':=YE.1 hn
  have:=z7u (r:=a++b) hn'.2 fun y hy=>by grind
  simp only[Zs,Zb] at*
  omega
theorem z2r{N:Nat}(hn:l.Nodup)(hl:∀x∈l,x<N):l.length<=N:=by
 have:=z7u hn (r:=List.range N) fun x hx=>Zh.2 (hl x hx)
 simpa using this
theorem z9a(a:Nat):(zoU a).data.toList= [UInt8.ofNat (97+a)]:=rfl
theorem z9C(u v:ByteArray):(u++v).data.toList=u.data.toList++v.data.toList:=by simp
theorem zfH(u v:ByteArray):(u++v).size=u.size+v.size:=by simp
theorem z8k(a:Nat):(zoU a).size=1:=rfl
theorem z6V(h:a<26):(UInt8.ofNat (97+a)).toNat=97+a:=by simp[Xr];omega
theorem zws(hd:DfaOk d m n)(h:RInv d m n s st)(hi:i<st.1.length)(ha:a<m):
 RInv d m n s (zhX d i a st)/\mvN d (st.1.getD i 0) a∈(zhX d i a st).1/\ ∃S W,(zhX d i a st).1=st.1++S/\(zhX d i a st).2=st.2++W:=by
 have hm6:=hd.m6
 unfold zhX
 split
 · rename_i hm
   exact⟨h,hm,[],[],by simp,by simp⟩
 · rename_i hm
   obtain⟨o1,o2,o3⟩:=h.ok i hi
   refine⟨⟨?_,?_,by simp[h.len],?_,?_,?_⟩,by simp,_,_,rfl,rfl⟩
   · refine Ys.2 ⟨h.nd,by simp,fun x hx y hy=> ?_⟩
     obtain rfl:y=_:=by simpa using hy
     exact fun e=>hm (e▸hx)
   · intro x hx
     rcases Zf.1 hx with hx|hx
     · exact h.lt x hx
     · obtain rfl:x=_:=by simpa using hx
       exact zc6 hd ha
   · rw[ZK (by omega)];exact h.f0
   · rw[ZK (by rw[h.len];omega)];exact h.w0
   · intro j hj
     simp only[Zb,ZD] at hj
     by_cases e:j=st.1.length
     · rw[z9h e,z9h (by rw[h.len];exact e),zfH,z9C,z9a,z8k,z5D,o3]
       refine⟨by omega,fun c hc=> ?_,?_⟩
       · rcases Zf.1 hc with hc|hc
         · exact o2 c hc
         · obtain rfl:=Zi.1 hc
           rw[z6V (by omega)];omega
       · simp only[z4i]
         rw[z6V (by omega),Y1]
     · rw[z5Z _ (show j<st.2.length by rw[h.len];omega),z5Z _ (show j<st.1.length by omega)]
       exact h.ok j (by omega)
theorem zh6{d:DFA}{m n s:Nat}(hd:DfaOk d m n){st:RS}(h:RInv d m n s st){i:Nat}(hi:i<st.1.length):∀a,a<=m->
 RInv d m n s (zaD d i st a)/\(∀b,b<a->mvN d (st.1.getD i 0) b∈(zaD d i st a).1)/\(∃S W,(zaD d i st a).1=st.1++S/\(zaD d i st a).2=st.2++W)
 |0,_=>⟨h,fun b hb=>by omega,[],[],by simp[zaD],by simp[zaD]⟩
 |a+1,ha=>by
  obtain⟨h1,h2,S,W,h3,h4⟩:=zh6 hd h hi a (by omega)
  have hi':i<(zaD d i st a).1.length:=by rw[h3,Zb];omega
  obtain⟨k1,k2,S',W',k3,k4⟩:=zws hd h1 hi' (show a<m by omega)
  have e:(zaD d i st a).1.getD i 0=st.1.getD i 0:=by rw[h3,z5Z _ hi]
  rw[e] at k2
  refine⟨k1,fun b hb=> ?_,S++S',W++W',by rw[zaD,k3,h3,Zu],by rw[zaD,k4,h4,Zu]⟩
  by_cases hb':b=a
  · subst hb';exact k2
  · rw[zaD,k3];exact Zf.2 (.inl (h2 b (by omega)))
theorem zb0{d:DFA}{m n s:Nat}(hd:DfaOk d m n)(hs:s<2^n):∀k,RInv d m n s (z8P d m s k)/\ ∀j,j<k->j<(z8P d m s k).1.length->∀a,a<m->mvN d ((z8P d m s k).1.getD j 0) a∈(z8P d m s k).1
 |0=>⟨⟨by simp[z8P],by simpa[z8P] using hs,rfl,rfl,rfl,fun i hi=>by
   obtain rfl:i=0:=by simpa[z8P] using hi
   exact⟨Z7 _,fun c hc=>by simp[z8P,List.getD] at hc,rfl⟩⟩,fun j hj=>by omega⟩
 |k+1=>by
  obtain⟨h1,h2⟩:=zb0 hd hs k
  unfold z8P
  split
  · rename_i hk
    obtain⟨k1,k2,S,W,k3,k4⟩:=zh6 hd h1 hk m (Z7 _)
    refine⟨k1,fun j hj hjl a ha=> ?_⟩
    by_cases e:j=k
    · grind
    · have hj':j<(z8P d m s k).1.length:=by omega
      have:=h2 j (by omega) hj' a ha
      rw[show(zaD d k (z8P d m s k) m).1.getD j 0=(z8P d m s k).1.getD j 0 by rw[k3,z5Z _ hj'],k3]
      exact Zf.2 (.inl this)
  · grind
theorem zmZ(hd:DfaOk d m n)(hs:s<2^n)(k:Nat):(z8P d m s k).1.length<=2^n:=z2r (zb0 hd hs k).1.nd (zb0 hd hs k).1.lt
theorem zjh{d:DFA}{m s:Nat}{k:Nat}(h:¬k<(z8P d m s k).1.length):∀j,k<=j->z8P d m s j=z8P d m s k
 |0,hj=>by grind
 |j+1,hj=>by
  by_cases e:k=j+1
  · rw[e]
  · have ih:=zjh h j (by omega)
    rw[z8P,ih,if_neg (by omega)]
def z0Z(d:DFA)(m n s:Nat):RS:=z8P d m s (2^n)
theorem zf2(hd:DfaOk d m n)(hs:s<2^n)(hx:x∈(z0Z d m n s).1)(ha:a<m):mvN d x a∈(z0Z d m n s).1:=by
 obtain⟨i,hi,rfl⟩:=Zo hx
 have hl:=zmZ hd hs (2^n)
 have:=(zb0 hd hs (2^n)).2 i (by unfold z0Z at hi;omega) hi a ha
 have e:(z8P d m s (2^n)).1.getD i 0=(z0Z d m n s).1[i]:=by
  show(z0Z d m n s).1.getD i 0=_
  rw[List.getD,Z1 hi,Z4]
 rw[e] at this
 exact this
theorem z6h(hd:DfaOk d m n)(hs:s<2^n):RInv d m n s (z0Z d m n s):=(zb0 hd hs _).1
def toI(l:List Nat):List Int:=l.map fun x=>((x:Nat):Int)
theorem z0a(l:List Nat):(toI l).length=l.length:=by simp[toI]
theorem z6u(l:List Nat)(x:Nat):toI (l++ [x])=toI l++ [((x:Nat):Int)]:=by simp[toI]
theorem z1o(h:i<l.length):atI (toI l) (i:Int)=some ((l.getD i 0:Nat):Int):=by
 rw[z0A (by rw[z0a];exact h)]
 simp[toI,List.getD,h]
theorem zz6{l:List ByteArray}(h:i<l.length):atI l (i:Int)=some (l.getD i ByteArray.empty):=by
 rw[z0A h,List.getD,Z1 h,Z4]
def zlM(n:Nat)(S:List Nat):List Bool:=(List.range (2^n)).map fun x=>decide (x∈S)
theorem zBQ(h:x<2^n):atI (zlM n S) (x:Int)=some (decide (x∈S)):=by
 rw[z0A (by simpa[zlM] using h)];simp[zlM]
theorem ztF:(zlM n S).set x true=zlM n (S++ [x]):=by
 apply Ze (by simp[zlM])
 intro i h1 h2
 simp only[zlM,Yi,ZF,ZP,Zf,Zi]
 by_cases e:x=i
 · subst e;simp
 · grind
theorem ztG:(List.replicate (2^n) false).set s true=zlM n [s]:=by
 have:List.replicate (2^n) false=zlM n []:=by
  apply Ze (by simp[zlM])
  intro i h1 h2
  simp[zlM]
 rw[this,ztF];rfl
def zEt(S:List Nat):List (Int×Bool):=S.map fun x=>(((x:Nat):Int),true)
theorem map_set{x:Nat}:∀ {S:List Nat},x∉S->z8p ((x:Nat):Int) true (zEt S)=zEt (S++ [x])
 | [],_=>rfl
 |y::S,h=>by
  have ih:=map_set (x:=x) (S:=S) (fun hh=>h (Zp _ hh))
  have hne:y≠x:=fun e=>h (by simp[e])
  simp only[zEt,Zq,z8p,ZN]
  rw[if_neg (by omega)]
  congr 1
theorem zjB(h:a<26):(⟨#[UInt8.ofNat (IntKind.u8.wrap (IntKind.i64.wrap (97+(a:Int)))).toNat]⟩:ByteArray)=zoU a:=by
 rw[z2G (by omega) (by omega),zwe (by omega) (by omega)]
 have:(97+(a:Int)).toNat=97+a:=by omega
 rw[this];rfl
theorem znu(hd:DfaOk d m n)(hn:n<=12)(h:RInv d m n s st)(hi:i<st.1.length):
 z0h (z6k d i) LFm (0,zlM n st.1,toI st.1,st.2)=z0c (((i+1:Nat):Int),zlM n (zaD d i st m).1,toI (zaD d i st m).1,(zaD d i st m).2):=by
 have h12:=zgG hn
 have hm6:=hd.m6
 have hl:=z2r h.nd h.lt
 refine z0n (s:=((0:Int),zlM n st.1,toI st.1,st.2)) m (fun a=>((a:Int),zlM n (zaD d i st a).1,toI (zaD d i st a).1,(zaD d i st a).2)) rfl (by simp only[LFm];omega) (fun a ha=> ?_) ?_
 · obtain⟨k1,_,S,W,k3,k4⟩:=zh6 hd h hi a (by omega)
   have hl2:=z2r k1.nd k1.lt
   have hi':i<(zaD d i st a).1.length:=by rw[k3,Zb];omega
   have hx:(zaD d i st a).1.getD i 0<2^n:=k1.lt _ (z0e hi')
   obtain⟨o1,_,_⟩:=k1.ok i hi'
   simp only[z6k]
   rw[if_pos (by rw[hd.lt];omega),z1o hi']
   simp only[Z0]
   rw[ztE hd hn hx ha]
   simp only[Z0]
   rw[zBQ (zc6 hd ha)]
   simp only[Z0,decide_eq_true_eq]
   rw[z0H (by omega),zaD]
   unfold zhX
   have hml:=zc6 hd (s:=(zaD d i st a).1.getD i 0) ha
   have hlt:=hd.lt
   clear hd h k3 k4
   revert hml
   generalize zaD d i st a=st' at*
   generalize mvN d (st'.1.getD i 0) a=x
   intro hml
   by_cases hm:x∈st'.1
   · rw[if_pos hm,if_pos hm]
   · rw[if_neg hm,if_neg hm,z0i _ (by unfold z1C;rw[z0a];omega),zz6 (by rw[k1.len];exact hi'),Z0]
     rw[zjB (by omega),z0i _ (by unfold zaM;rw[z8k];omega),z0i _ (by unfold z1C;rw[k1.len];omega),Z2,ztF]
     rw[z6u]
 · simp only[z6k]
   rw[if_neg (by rw[hd.lt];omega),z0H (by omega)]
theorem zwM(hd:DfaOk d m n)(hn:n<=12)(hs:s<2^n):z8m d (s:Int)=some (toI (z0Z d m n s).1,(z0Z d m n s).2):=by
 have h12:=zgG hn
 have hp:=Yu n
 unfold z8m
 rw[hd.fin,z0i _ (by omega),z8B (by omega),z0i _ (by unfold z0S;omega),z0i _ (by omega),Z2,Z2,ztG]
 refine zaw (s:=((0:Int),zlM n [s],[(s:Int)],[ByteArray.empty])) (fun z=>∃k:Nat,k<=2^n/\z=((k:Int),zlM n (z8P d m s k).1,toI (z8P d m s k).1,(z8P d m s k).2)) (fun z=>2^n+1-z.1.toNat) ⟨0,by omega,rfl⟩ (by simp only[LFm];omega) ?_
 rintro z ⟨k,hk,rfl⟩
 have hl:=zmZ hd hs k
 simp only[z9d]
 by_cases h:k<(z8P d m s k).1.length
 · left
   rw[if_pos (by rw[z0a];omega),znu hd hn (zb0 hd hs k).1 h]
   refine⟨_,rfl,⟨k+1,by omega,?_⟩,by simp only;omega⟩
   rw[z8P,if_pos h]
 · right
   rw[if_neg (by rw[z0a];omega)]
   unfold z0Z
   rw[zjh h _ hk]
end
section
open Go
theorem zvw(x y:Int):∃c,cmp_Compare_int x y=some c/\(c<0↔x<y):=by
 simp only[cmp_Compare_int,cmp_isNaN_int,decide_true,Xm,Z0,ZV,if_false]
 by_cases h1:x<y
 · rw[if_pos h1];exact⟨_,rfl,by omega⟩
 · rw[if_neg h1]
   by_cases h2:y<x
   · rw[if_pos h2];exact⟨_,rfl,by omega⟩
   · rw[if_neg h2];exact⟨_,rfl,by omega⟩
def kv(K:List Int)(x:Int):Int:=K.getD x.toNat 0
def zET(K:List Int)(x:Int):Prop:=0<=x/\x<K.length
abbrev zFS(K:List Int)(l:List Int):Prop:=∀x∈l,zET K x
abbrev zGM(K:List Int)(l:List Int):Prop:=l.Pairwise fun x y=>kv K x<=kv K y
def zAu(K:List Int):SrtC where
 cmp x y:=z1e x y K
 key x:=kv K x*1048576+x
 ok x:=zET K x/\x<1048576
 law x y hx hy h:=by
  obtain⟨i,rfl⟩:=ZG hx.1.1
  obtain⟨j,rfl⟩:=ZG hy.1.1
  have hi:i<K.length:=by have:=hx.1.2;omega
  have hj:j<K.length:=by have:=hy.1.2;omega
  obtain⟨c,h1,h2⟩:=zvw K[i] K[j]
  refine⟨c,?_,?_⟩
  · unfold z1e
    rw[z0A hi,Z0,z0A hj,Z0,h1];rfl
  · rw[h2]
    have e1:kv K (i:Int)=K[i]:=by simp[kv,List.getD,hi]
    have e2:kv K (j:Int)=K[j]:=by simp[kv,List.getD,hj]
    have:=hx.2
    have:=hy.2
    omega
theorem zol:∀k,z0j k=fun l a m b K=>zxo k l a m b (zAu K)
 |0=>rfl
 |k+1=>by
  show z0I (z0j k)=_
  rw[zol k]
  rfl
theorem zwt(l K:List Int):z0l l K=zCc l (zAu K):=by
 have h9:z0K=fun a K w=>zcD a (zAu K) w:=by
  unfold z0K
  rw[zol]
  all_goals rfl
 have h7:z0L=fun a K=>zeF a (zAu K):=by
  unfold z0L
  rw[h9]
  all_goals rfl
 have h2:z0M=fun a K=>zeG a (zAu K):=by
  unfold z0M
  rw[h7]
  all_goals rfl
 unfold z0l z0T
 rw[h2]
 all_goals rfl
theorem zvX(n:Nat):((List.range n).map fun x=>((x:Nat):Int)).Pairwise (·< ·):=Yt _ (fun a b (h:a<b)=>by omega) XH
theorem zsC{K:List Int}{n:Nat}(hv:zFS K (toI (List.range n)))(hn:(toI (List.range n)).length<=5000):∃S,z0l (toI (List.range n)) K=some S/\zGM K S/\S.Perm (toI (List.range n)):=by
 have hok:∀x∈toI (List.range n),(zAu K).ok x:=fun x hx=>⟨hv x hx,by
  rw[z0a,ZC] at hn
  obtain⟨i,hi,rfl⟩:=Zj.1 hx
  have:=Zh.1 hi
  omega⟩
 obtain⟨S,e,h1,h2⟩:=zmV (K:=zAu K) hok (zvX n) hn
 refine⟨S,by rw[zwt,e],?_,h2⟩
 refine XC (fun {x y} hx hy h=> ?_) h1
 have o1:=hok x (h2.mem_iff.1 hx)
 have o2:=hok y (h2.mem_iff.1 hy)
 have a1:=o1.1.1
 have a2:=o1.2
 have b1:=o2.1.1
 have b2:=o2.2
 have h3:kv K x*1048576+x<=kv K y*1048576+y:=h
 show kv K x<=kv K y
 omega
end
section
open Go Go.IntKind
noncomputable section
variable{a1 a2 a3:Int}{m5 m8 n3 n6 p0 p3:List (List Int)}{m6 m7 n4 n5 p1 p2:List ByteArray}{a0 m2 m3 m4 n0 n1 n2 n7 n8 n9:List Int}{rf:List Int->Int->Int->Int->List Int->List Int->List Int->List (List Int)->List ByteArray->List ByteArray->List (List Int)->Option (List Int)}
def z1Y(a0:Int)(a1:Int)(m0:List Int)(m9:List Int)(p4:List Int)(q2:List (List Int))(q3:List ByteArray)(q4:List ByteArray)(m1:List (List Int)):Option (Int):=
 (atI m1 a1).bind fun v8=>
 (atI v8 0).bind fun v9=>
 (atI p4 v9).bind fun v10=>
 (atI m1 a0).bind fun v11=>
 (atI v11 0).bind fun v12=>
 (atI p4 v12).bind fun v13=>
 (cmp_Compare_int v10 v13).bind fun v14=>
 some v14
instance{a0:Int}{m0:List Int}{m9:List Int}{p4:List Int}{q2:List (List Int)}{q3:List ByteArray}{q4:List ByteArray}{m1:List (List Int)}:Ok (z1Y a0 a1 m0 m9 p4 q2 q3 q4 m1) (fun r=>L 137 [.sc (.int .i64 a0),.sc (.int .i64 a1),.pr [(tI m0),(tI m9),(tI p4),(tR q2),(tS q3),(tS q4)],.pr [(tR m1)]]=some (.sc (.int .i64 r),[.dead,.dead,.dead,.dead])):=⟨fun r h=>by have h:=z3p h;unfold z1Y at h;exact z4q rfl Tryz.func137 (bdy Tryz.f137 rfl)⟩
abbrev z1W(a1:Int)(n7:List Int)(n8:List Int)(n9:List Int)(p0:List (List Int))(p1:List ByteArray)(p2:List ByteArray)(p3:List (List Int))(w95:Int):Int×List Int->Option ((Int×List Int)⊕((Int×List Int)⊕List Int))
 |(w127,w128)=>
 if a1<w127 then
 (atI w128 w127).bind fun v136=>
 (atI w128 (i64.wrap (w127-1))).bind fun v137=>
 (z1Y v136 v137 n7 n8 n9 p0 p1 p2 p3).bind fun v138=>
 if v138<0 then
 (atI (w128.set w127.toNat v137) (i64.wrap (w127-1))).bind fun v142=>
 z0c (i64.wrap (w127-1),((w128.set w127.toNat v137).set (i64.wrap (w127-1)).toNat v136))
 else
 z0d<|
 z0c (i64.wrap (w95+1),w128)
 else
 z0d<|
 z0c (i64.wrap (w95+1),w128)
instance{w95:Int}:Hd (z1W a1 n7 n8 n9 p0 p1 p2 p3 w95):=⟨fun(w127,w128)=>([(9,xI w127)],[(0,(tO w128))])⟩
abbrev z1X(a1:Int)(a2:Int)(n7:List Int)(n8:List Int)(n9:List Int)(p0:List (List Int))(p1:List ByteArray)(p2:List ByteArray)(p3:List (List Int)):Int×List Int->Option ((Int×List Int)⊕List Int)
 |(w95,w96)=>
 if w95<a2 then
 z0h (z1W a1 n7 n8 n9 p0 p1 p2 p3 w95) LFm (w95,w96)
 else
 z0d<|
 some w96
instance:Hd (z1X a1 a2 n7 n8 n9 p0 p1 p2 p3):=⟨fun(w95,w96)=>([(8,xI w95)],[(0,(tO w96))])⟩
def z0R(a0:List Int)(a1:Int)(a2:Int)(n7:List Int)(n8:List Int)(n9:List Int)(p0:List (List Int))(p1:List ByteArray)(p2:List ByteArray)(p3:List (List Int)):Option (List Int):=
 z0h (z1X a1 a2 n7 n8 n9 p0 p1 p2 p3) LFm (i64.wrap (a1+1),a0)
instance:Ok (z0R a0 a1 a2 n7 n8 n9 p0 p1 p2 p3) (fun r=>L 208 [(tO a0),.sc (.int .i64 a1),.sc (.int .i64 a2),.cl 137 [.pr [(tI n7),(tI n8),(tI n9),(tR p0),(tS p1),(tS p2)],.pr [(tR p3)]]]=some (.tup [],[(tO r),.dead,.dead,.dead])):=⟨fun r h=>by have h:=z3p h;unfold z0R at h;exact z4q rfl Tryz.func208 (bdy Tryz.f208 rfl)⟩
abbrev z2p(a1:Int)(a2:Int)(a3:Int):Int×List Int->Option ((Int×List Int)⊕List Int)
 |(w19,w20)=>
 if w19<a3 then
 (atI w20 (i64.wrap (a2+w19))).bind fun v25=>
 (atI w20 (i64.wrap (a1+w19))).bind fun v26=>
 (atI (w20.set (i64.wrap (a1+w19)).toNat v25) (i64.wrap (a2+w19))).bind fun v28=>
 z0c (i64.wrap (w19+1),((w20.set (i64.wrap (a1+w19)).toNat v25).set (i64.wrap (a2+w19)).toNat v26))
 else
 z0d<|
 some w20
instance:Hd (z2p a1 a2 a3):=⟨fun(w19,w20)=>([(10,xI w19)],[(0,(tO w20))])⟩
def z0G(a0:List Int)(a1:Int)(a2:Int)(a3:Int)(m2:List Int)(m3:List Int)(m4:List Int)(m5:List (List Int))(m6:List ByteArray)(m7:List ByteArray)(m8:List (List Int)):Option (List Int):=
 z0h (z2p a1 a2 a3) LFm (0,a0)
instance:Ok (z0G a0 a1 a2 a3 m2 m3 m4 m5 m6 m7 m8) (fun r=>L 236 [(tO a0),.sc (.int .i64 a1),.sc (.int .i64 a2),.sc (.int .i64 a3),.cl 137 [.pr [(tI m2),(tI m3),(tI m4),(tR m5),(tS m6),(tS m7)],.pr [(tR m8)]]]=some (.tup [],[(tO r),.dead,.dead,.dead,.dead])):=⟨fun r h=>by have h:=z3p h;unfold z0G at h;exact z4q rfl Tryz.func236 (bdy Tryz.f236 rfl)⟩
abbrev z2F(a2:Int)(m2:List Int)(m3:List Int)(m4:List Int)(m5:List (List Int))(m6:List ByteArray)(m7:List ByteArray)(m8:List (List Int)):Int×Int×List Int->Option ((Int×Int×List Int)⊕List Int)
 |(w13,w15,w14)=>
 if w13=w15 then
 z0d<|
 (z0G w14 (i64.wrap (a2-w13)) a2 w13 m2 m3 m4 m5 m6 m7 m8).bind fun v18=>
 some v18
 else
 if w15<w13 then
 (z0G w14 (i64.wrap (a2-w13)) a2 w15 m2 m3 m4 m5 m6 m7 m8).bind fun v19=>
 z0c (i64.wrap (w13-w15),w15,v19)
 else
 (z0G w14 (i64.wrap (a2-w13)) (i64.wrap ((i64.wrap (a2+w15))-w13)) w13 m2 m3 m4 m5 m6 m7 m8).bind fun v20=>
 z0c (w13,i64.wrap (w15-w13),v20)
instance:Hd (z2F a2 m2 m3 m4 m5 m6 m7 m8):=⟨fun(w13,w15,w14)=>([(10,xI w13),(11,xI w15)],[(0,(tO w14))])⟩
def z1m(a0:List Int)(a1:Int)(a2:Int)(a3:Int)(m2:List Int)(m3:List Int)(m4:List Int)(m5:List (List Int))(m6:List ByteArray)(m7:List ByteArray)(m8:List (List Int)):Option (List Int):=
 z0h (z2F a2 m2 m3 m4 m5 m6 m7 m8) LFm (i64.wrap (a2-a1),i64.wrap (a3-a2),a0)
instance:Ok (z1m a0 a1 a2 a3 m2 m3 m4 m5 m6 m7 m8) (fun r=>L 229 [(tO a0),.sc (.int .i64 a1),.sc (.int .i64 a2),.sc (.int .i64 a3),.cl 137 [.pr [(tI m2),(tI m3),(tI m4),(tR m5),(tS m6),(tS m7)],.pr [(tR m8)]]]=some (.tup [],[(tO r),.dead,.dead,.dead,.dead])):=⟨fun r h=>by have h:=z3p h;unfold z1m at h;exact z4q rfl Tryz.func229 (bdy Tryz.f229 rfl)⟩
abbrev z2w(w102:Int):Int×List Int->Option ((Int×List Int)⊕List Int)
 |(w114,w115)=>
 if w114<(i64.wrap (w102-1)) then
 (atI w115 (i64.wrap (w114+1))).bind fun v120=>
 (atI w115 w114).bind fun v121=>
 (atI (w115.set w114.toNat v120) (i64.wrap (w114+1))).bind fun v123=>
 z0c (i64.wrap (w114+1),((w115.set w114.toNat v120).set (i64.wrap (w114+1)).toNat v121))
 else
 z0d<|
 some w115
instance{w102:Int}:Hd (z2w w102):=⟨fun(w114,w115)=>([(13,xI w114)],[(0,(tO w115))])⟩
abbrev z2x(a0:List Int)(a1:Int)(m2:List Int)(m3:List Int)(m4:List Int)(m5:List (List Int))(m6:List ByteArray)(m7:List ByteArray)(m8:List (List Int)):Int×Int->Option ((Int×Int)⊕List Int)
 |(w102,w103)=>
 if w102<w103 then
 chk (¬1<0)<|
 (atI a0 (md w102 w103)).bind fun v107=>
 (atI a0 a1).bind fun v108=>
 (z1Y v107 v108 m2 m3 m4 m5 m6 m7 m8).bind fun v109=>
 if v109<0 then
 z0c (i64.wrap ((md w102 w103)+1),w103)
 else
 z0c (w102,i64.wrap (z1D .u64 (u64.wrap (i64.wrap (w102+w103))) 1))
 else
 z0d<|
 z0h (z2w w102) LFm (a1,a0)
instance:Hd (z2x a0 a1 m2 m3 m4 m5 m6 m7 m8):=⟨fun(w102,w103)=>([(10,xI w102),(11,xI w103)],[])⟩
abbrev z2n(w128:Int):Int×List Int->Option ((Int×List Int)⊕List Int)
 |(w139,w140)=>
 if w128<w139 then
 (atI w140 (i64.wrap (w139-1))).bind fun v145=>
 (atI w140 w139).bind fun v146=>
 (atI (w140.set w139.toNat v145) (i64.wrap (w139-1))).bind fun v148=>
 z0c (i64.wrap (w139-1),((w140.set w139.toNat v145).set (i64.wrap (w139-1)).toNat v146))
 else
 z0d<|
 some w140
instance{w128:Int}:Hd (z2n w128):=⟨fun(w139,w140)=>([(17,xI w139)],[(0,(tO w140))])⟩
abbrev z2o(a0:List Int)(a2:Int)(m2:List Int)(m3:List Int)(m4:List Int)(m5:List (List Int))(m6:List ByteArray)(m7:List ByteArray)(m8:List (List Int)):Int×Int->Option ((Int×Int)⊕List Int)
 |(w128,w127)=>
 if w128<w127 then
 chk (¬1<0)<|
 (atI a0 a2).bind fun v132=>
 (atI a0 (md w128 w127)).bind fun v133=>
 (z1Y v132 v133 m2 m3 m4 m5 m6 m7 m8).bind fun v134=>
 if v134<0 then
 z0c (w128,i64.wrap (z1D .u64 (u64.wrap (i64.wrap (w128+w127))) 1))
 else
 z0c (i64.wrap ((md w128 w127)+1),w127)
 else
 z0d<|
 z0h (z2n w128) LFm (a2,a0)
instance:Hd (z2o a0 a2 m2 m3 m4 m5 m6 m7 m8):=⟨fun(w128,w127)=>([(14,xI w128),(15,xI w127)],[])⟩
abbrev z2m(a0:List Int)(a1:Int)(a2:Int)(a3:Int)(m2:List Int)(m3:List Int)(m4:List Int)(m5:List (List Int))(m6:List ByteArray)(m7:List ByteArray)(m8:List (List Int))(rf:List Int->Int->Int->Int->List Int->List Int->List Int->List (List Int)->List ByteArray->List ByteArray->List (List Int)->Option (List Int)):Int×Int->Option ((Int×Int)⊕List Int)
 |(w153,w152)=>
 if w153<w152 then
 chk (¬1<0)<|
 (atI a0 (i64.wrap ((i64.wrap ((i64.wrap ((md a1 a3)+a2))-1))-(md w153 w152)))).bind fun v157=>
 (atI a0 (md w153 w152)).bind fun v158=>
 (z1Y v157 v158 m2 m3 m4 m5 m6 m7 m8).bind fun v159=>
 if v159<0 then
 z0c (w153,i64.wrap (z1D .u64 (u64.wrap (i64.wrap (w153+w152))) 1))
 else
 z0c (i64.wrap ((md w153 w152)+1),w152)
 else
 z0d<|
 if w153<a2 then
 if a2<(i64.wrap ((i64.wrap ((md a1 a3)+a2))-w153)) then
 (z1m a0 w153 a2 (i64.wrap ((i64.wrap ((md a1 a3)+a2))-w153)) m2 m3 m4 m5 m6 m7 m8).bind fun v160=>
 if a1<w153 then
 if w153<(md a1 a3) then
 (rf v160 a1 w153 (md a1 a3) m2 m3 m4 m5 m6 m7 m8).bind fun v161=>
 if(md a1 a3)<(i64.wrap ((i64.wrap ((md a1 a3)+a2))-w153)) then
 if(i64.wrap ((i64.wrap ((md a1 a3)+a2))-w153))<a3 then
 (rf v161 (md a1 a3) (i64.wrap ((i64.wrap ((md a1 a3)+a2))-w153)) a3 m2 m3 m4 m5 m6 m7 m8).bind fun v162=>
 some v162
 else
 some v161
 else
 some v161
 else
 if(md a1 a3)<(i64.wrap ((i64.wrap ((md a1 a3)+a2))-w153)) then
 if(i64.wrap ((i64.wrap ((md a1 a3)+a2))-w153))<a3 then
 (rf v160 (md a1 a3) (i64.wrap ((i64.wrap ((md a1 a3)+a2))-w153)) a3 m2 m3 m4 m5 m6 m7 m8).bind fun v163=>
 some v163
 else
 some v160
 else
 some v160
 else
 if(md a1 a3)<(i64.wrap ((i64.wrap ((md a1 a3)+a2))-w153)) then
 if(i64.wrap ((i64.wrap ((md a1 a3)+a2))-w153))<a3 then
 (rf v160 (md a1 a3) (i64.wrap ((i64.wrap ((md a1 a3)+a2))-w153)) a3 m2 m3 m4 m5 m6 m7 m8).bind fun v164=>
 some v164
 else
 some v160
 else
 some v160
 else
 if a1<w153 then
 if w153<(md a1 a3) then
 (rf a0 a1 w153 (md a1 a3) m2 m3 m4 m5 m6 m7 m8).bind fun v165=>
 if(md a1 a3)<(i64.wrap ((i64.wrap ((md a1 a3)+a2))-w153)) then
 if(i64.wrap ((i64.wrap ((md a1 a3)+a2))-w153))<a3 then
 (rf v165 (md a1 a3) (i64.wrap ((i64.wrap ((md a1 a3)+a2))-w153)) a3 m2 m3 m4 m5 m6 m7 m8).bind fun v166=>
 some v166
 else
 some v165
 else
 some v165
 else
 if(md a1 a3)<(i64.wrap ((i64.wrap ((md a1 a3)+a2))-w153)) then
 if(i64.wrap ((i64.wrap ((md a1 a3)+a2))-w153))<a3 then
 (rf a0 (md a1 a3) (i64.wrap ((i64.wrap ((md a1 a3)+a2))-w153)) a3 m2 m3 m4 m5 m6 m7 m8).bind fun v167=>
 some v167
 else
 some a0
 else
 some a0
 else
 if(md a1 a3)<(i64.wrap ((i64.wrap ((md a1 a3)+a2))-w153)) then
 if(i64.wrap ((i64.wrap ((md a1 a3)+a2))-w153))<a3 then
 (rf a0 (md a1 a3) (i64.wrap ((i64.wrap ((md a1 a3)+a2))-w153)) a3 m2 m3 m4 m5 m6 m7 m8).bind fun v168=>
 some v168
 else
 some a0
 else
 some a0
 else
 if a1<w153 then
 if w153<(md a1 a3) then
 (rf a0 a1 w153 (md a1 a3) m2 m3 m4 m5 m6 m7 m8).bind fun v169=>
 if(md a1 a3)<(i64.wrap ((i64.wrap ((md a1 a3)+a2))-w153)) then
 if(i64.wrap ((i64.wrap ((md a1 a3)+a2))-w153))<a3 then
 (rf v169 (md a1 a3) (i64.wrap ((i64.wrap ((md a1 a3)+a2))-w153)) a3 m2 m3 m4 m5 m6 m7 m8).bind fun v170=>
 some v170
 else
 some v169
 else
 some v169
 else
 if(md a1 a3)<(i64.wrap ((i64.wrap ((md a1 a3)+a2))-w153)) then
 if(i64.wrap ((i64.wrap ((md a1 a3)+a2))-w153))<a3 then
 (rf a0 (md a1 a3) (i64.wrap ((i64.wrap ((md a1 a3)+a2))-w153)) a3 m2 m3 m4 m5 m6 m7 m8).bind fun v171=>
 some v171
 else
 some a0
 else
 some a0
 else
 if(md a1 a3)<(i64.wrap ((i64.wrap ((md a1 a3)+a2))-w153)) then
 if(i64.wrap ((i64.wrap ((md a1 a3)+a2))-w153))<a3 then
 (rf a0 (md a1 a3) (i64.wrap ((i64.wrap ((md a1 a3)+a2))-w153)) a3 m2 m3 m4 m5 m6 m7 m8).bind fun v172=>
 some v172
 else
 some a0
 else
 some a0
instance:Hd (z2m a0 a1 a2 a3 m2 m3 m4 m5 m6 m7 m8 rf):=⟨fun(w153,w152)=>([(20,xI w153),(21,xI w152)],[])⟩
abbrev z2i(a0:List Int)(a1:Int)(a2:Int)(a3:Int)(m2:List Int)(m3:List Int)(m4:List Int)(m5:List (List Int))(m6:List ByteArray)(m7:List ByteArray)(m8:List (List Int))(rf:List Int->Int->Int->Int->List Int->List Int->List Int->List (List Int)->List ByteArray->List ByteArray->List (List Int)->Option (List Int)):Int×Int->Option ((Int×Int)⊕List Int)
 |(w177,w176)=>
 if w177<w176 then
 chk (¬1<0)<|
 (atI a0 (i64.wrap ((i64.wrap ((i64.wrap ((md a1 a3)+a2))-1))-(md w177 w176)))).bind fun v181=>
 (atI a0 (md w177 w176)).bind fun v182=>
 (z1Y v181 v182 m2 m3 m4 m5 m6 m7 m8).bind fun v183=>
 if v183<0 then
 z0c (w177,i64.wrap (z1D .u64 (u64.wrap (i64.wrap (w177+w176))) 1))
 else
 z0c (i64.wrap ((md w177 w176)+1),w176)
 else
 z0d<|
 if w177<a2 then
 if a2<(i64.wrap ((i64.wrap ((md a1 a3)+a2))-w177)) then
 (z1m a0 w177 a2 (i64.wrap ((i64.wrap ((md a1 a3)+a2))-w177)) m2 m3 m4 m5 m6 m7 m8).bind fun v184=>
 if a1<w177 then
 if w177<(md a1 a3) then
 (rf v184 a1 w177 (md a1 a3) m2 m3 m4 m5 m6 m7 m8).bind fun v185=>
 if(md a1 a3)<(i64.wrap ((i64.wrap ((md a1 a3)+a2))-w177)) then
 if(i64.wrap ((i64.wrap ((md a1 a3)+a2))-w177))<a3 then
 (rf v185 (md a1 a3) (i64.wrap ((i64.wrap ((md a1 a3)+a2))-w177)) a3 m2 m3 m4 m5 m6 m7 m8).bind fun v186=>
 some v186
 else
 some v185
 else
 some v185
 else
 if(md a1 a3)<(i64.wrap ((i64.wrap ((md a1 a3)+a2))-w177)) then
 if(i64.wrap ((i64.wrap ((md a1 a3)+a2))-w177))<a3 then
 (rf v184 (md a1 a3) (i64.wrap ((i64.wrap ((md a1 a3)+a2))-w177)) a3 m2 m3 m4 m5 m6 m7 m8).bind fun v187=>
 some v187
 else
 some v184
 else
 some v184
 else
 if(md a1 a3)<(i64.wrap ((i64.wrap ((md a1 a3)+a2))-w177)) then
 if(i64.wrap ((i64.wrap ((md a1 a3)+a2))-w177))<a3 then
 (rf v184 (md a1 a3) (i64.wrap ((i64.wrap ((md a1 a3)+a2))-w177)) a3 m2 m3 m4 m5 m6 m7 m8).bind fun v188=>
 some v188
 else
 some v184
 else
 some v184
 else
 if a1<w177 then
 if w177<(md a1 a3) then
 (rf a0 a1 w177 (md a1 a3) m2 m3 m4 m5 m6 m7 m8).bind fun v189=>
 if(md a1 a3)<(i64.wrap ((i64.wrap ((md a1 a3)+a2))-w177)) then
 if(i64.wrap ((i64.wrap ((md a1 a3)+a2))-w177))<a3 then
 (rf v189 (md a1 a3) (i64.wrap ((i64.wrap ((md a1 a3)+a2))-w177)) a3 m2 m3 m4 m5 m6 m7 m8).bind fun v190=>
 some v190
 else
 some v189
 else
 some v189
 else
 if(md a1 a3)<(i64.wrap ((i64.wrap ((md a1 a3)+a2))-w177)) then
 if(i64.wrap ((i64.wrap ((md a1 a3)+a2))-w177))<a3 then
 (rf a0 (md a1 a3) (i64.wrap ((i64.wrap ((md a1 a3)+a2))-w177)) a3 m2 m3 m4 m5 m6 m7 m8).bind fun v191=>
 some v191
 else
 some a0
 else
 some a0
 else
 if(md a1 a3)<(i64.wrap ((i64.wrap ((md a1 a3)+a2))-w177)) then
 if(i64.wrap ((i64.wrap ((md a1 a3)+a2))-w177))<a3 then
 (rf a0 (md a1 a3) (i64.wrap ((i64.wrap ((md a1 a3)+a2))-w177)) a3 m2 m3 m4 m5 m6 m7 m8).bind fun v192=>
 some v192
 else
 some a0
 else
 some a0
 else
 if a1<w177 then
 if w177<(md a1 a3) then
 (rf a0 a1 w177 (md a1 a3) m2 m3 m4 m5 m6 m7 m8).bind fun v193=>
 if(md a1 a3)<(i64.wrap ((i64.wrap ((md a1 a3)+a2))-w177)) then
 if(i64.wrap ((i64.wrap ((md a1 a3)+a2))-w177))<a3 then
 (rf v193 (md a1 a3) (i64.wrap ((i64.wrap ((md a1 a3)+a2))-w177)) a3 m2 m3 m4 m5 m6 m7 m8).bind fun v194=>
 some v194
 else
 some v193
 else
 some v193
 else
 if(md a1 a3)<(i64.wrap ((i64.wrap ((md a1 a3)+a2))-w177)) then
 if(i64.wrap ((i64.wrap ((md a1 a3)+a2))-w177))<a3 then
 (rf a0 (md a1 a3) (i64.wrap ((i64.wrap ((md a1 a3)+a2))-w177)) a3 m2 m3 m4 m5 m6 m7 m8).bind fun v195=>
 some v195
 else
 some a0
 else
 some a0
 else
 if(md a1 a3)<(i64.wrap ((i64.wrap ((md a1 a3)+a2))-w177)) then
 if(i64.wrap ((i64.wrap ((md a1 a3)+a2))-w177))<a3 then
 (rf a0 (md a1 a3) (i64.wrap ((i64.wrap ((md a1 a3)+a2))-w177)) a3 m2 m3 m4 m5 m6 m7 m8).bind fun v196=>
 some v196
 else
 some a0
 else
 some a0
instance:Hd (z2i a0 a1 a2 a3 m2 m3 m4 m5 m6 m7 m8 rf):=⟨fun(w177,w176)=>([(20,xI w177),(21,xI w176)],[])⟩
def z0Y(rf:List Int->Int->Int->Int->List Int->List Int->List Int->List (List Int)->List ByteArray->List ByteArray->List (List Int)->Option (List Int))(a0:List Int)(a1:Int)(a2:Int)(a3:Int)(m2:List Int)(m3:List Int)(m4:List Int)(m5:List (List Int))(m6:List ByteArray)(m7:List ByteArray)(m8:List (List Int)):Option (List Int):=
 if(i64.wrap (a2-a1))=1 then
 z0h (z2x a0 a1 m2 m3 m4 m5 m6 m7 m8) LFm (a2,a3)
 else
 if(i64.wrap (a3-a2))=1 then
 z0h (z2o a0 a2 m2 m3 m4 m5 m6 m7 m8) LFm (a1,a2)
 else
 chk (¬1<0)<|
 if(md a1 a3)<a2 then
 z0h (z2m a0 a1 a2 a3 m2 m3 m4 m5 m6 m7 m8 rf) LFm (i64.wrap ((i64.wrap ((md a1 a3)+a2))-a3),i64.wrap (z1D .u64 (u64.wrap (i64.wrap (a1+a3))) 1))
 else
 z0h (z2i a0 a1 a2 a3 m2 m3 m4 m5 m6 m7 m8 rf) LFm (a1,a2)
theorem z4F[ih:∀(a0:List Int) (a1:Int) (a2:Int) (a3:Int) (m2:List Int) (m3:List Int) (m4:List Int) (m5:List (List Int)) (m6:List ByteArray) (m7:List ByteArray) (m8:List (List Int)),Ok (rf a0 a1 a2 a3 m2 m3 m4 m5 m6 m7 m8) (fun r=>L 209 [(tO a0),.sc (.int .i64 a1),.sc (.int .i64 a2),.sc (.int .i64 a3),.cl 137 [.pr [(tI m2),(tI m3),(tI m4),(tR m5),(tS m6),(tS m7)],.pr [(tR m8)]]]=some (.tup [],[(tO r),.dead,.dead,.dead,.dead]))]:Ok (z0Y rf a0 a1 a2 a3 m2 m3 m4 m5 m6 m7 m8) (fun r=>L 209 [(tO a0),.sc (.int .i64 a1),.sc (.int .i64 a2),.sc (.int .i64 a3),.cl 137 [.pr [(tI m2),(tI m3),(tI m4),(tR m5),(tS m6),(tS m7)],.pr [(tR m8)]]]=some (.tup [],[(tO r),.dead,.dead,.dead,.dead])):=⟨fun r h=>by have h:=z3p h;unfold z0Y at h;exact z4q rfl Tryz.func209 (bdy Tryz.f209 rfl)⟩
def z0o:Nat->List Int->Int->Int->Int->List Int->List Int->List Int->List (List Int)->List ByteArray->List ByteArray->List (List Int)->Option (List Int)
 |0=>fun _ _ _ _ _ _ _ _ _ _ _=>none
 |k+1=>z0Y (z0o k)
instance:∀ {k:Nat} {a0:List Int} {a1:Int} {a2:Int} {a3:Int} {m2:List Int} {m3:List Int} {m4:List Int} {m5:List (List Int)} {m6:List ByteArray} {m7:List ByteArray} {m8:List (List Int)},Ok (z0o k a0 a1 a2 a3 m2 m3 m4 m5 m6 m7 m8) (fun r=>L 209 [(tO a0),.sc (.int .i64 a1),.sc (.int .i64 a2),.sc (.int .i64 a3),.cl 137 [.pr [(tI m2),(tI m3),(tI m4),(tR m5),(tS m6),(tS m7)],.pr [(tR m8)]]]=some (.tup [],[(tO r),.dead,.dead,.dead,.dead])):=by
 intro k
 induction k with
 |zero=>intros;exact⟨fun r h=>by cases h⟩
 |succ k ih=>intros;have ih2:= @ih;exact z4F (rf:=z0o k)
abbrev z1a(a1:Int)(n0:List Int)(n1:List Int)(n2:List Int)(n3:List (List Int))(n4:List ByteArray)(n5:List ByteArray)(n6:List (List Int))(w45:Int):Int×Int×List Int->Option ((Int×Int×List Int)⊕((Int×List Int)⊕List Int))
 |(w55,w56,w57)=>
 if w56<=a1 then
 (z0o 5000 w57 w55 (i64.wrap (w55+w45)) w56 n0 n1 n2 n3 n4 n5 n6).bind fun v59=>
 z0c (w56,i64.wrap (w56+(i64.wrap (2*w45))),v59)
 else
 z0d<|
 if(i64.wrap (w55+w45))<a1 then
 (z0o 5000 w57 w55 (i64.wrap (w55+w45)) a1 n0 n1 n2 n3 n4 n5 n6).bind fun v60=>
 z0c (i64.wrap (w45*2),v60)
 else
 z0c (i64.wrap (w45*2),w57)
instance{w45:Int}:Hd (z1a a1 n0 n1 n2 n3 n4 n5 n6 w45):=⟨fun(w55,w56,w57)=>([(7,xI w55),(8,xI w56)],[(0,(tO w57))])⟩
abbrev z1b(a1:Int)(n0:List Int)(n1:List Int)(n2:List Int)(n3:List (List Int))(n4:List ByteArray)(n5:List ByteArray)(n6:List (List Int)):Int×List Int->Option ((Int×List Int)⊕List Int)
 |(w45,w46)=>
 if w45<a1 then
 z0h (z1a a1 n0 n1 n2 n3 n4 n5 n6 w45) LFm (0,i64.wrap (2*w45),w46)
 else
 z0d<|
 some w46
instance:Hd (z1b a1 n0 n1 n2 n3 n4 n5 n6):=⟨fun(w45,w46)=>([(6,xI w45)],[(0,(tO w46))])⟩
abbrev z1c(a1:Int)(n0:List Int)(n1:List Int)(n2:List Int)(n3:List (List Int))(n4:List ByteArray)(n5:List ByteArray)(n6:List (List Int)):Int×Int×List Int->Option ((Int×Int×List Int)⊕List Int)
 |(w32,w33,w34)=>
 if w33<=a1 then
 (z0R w34 w32 w33 n0 n1 n2 n3 n4 n5 n6).bind fun v36=>
 z0c (w33,i64.wrap (w33+20),v36)
 else
 z0d<|
 (z0R w34 w32 a1 n0 n1 n2 n3 n4 n5 n6).bind fun v37=>
 z0h (z1b a1 n0 n1 n2 n3 n4 n5 n6) LFm (20,v37)
instance:Hd (z1c a1 n0 n1 n2 n3 n4 n5 n6):=⟨fun(w32,w33,w34)=>([(7,xI w32),(8,xI w33)],[(0,(tO w34))])⟩
def z1l(a0:List Int)(a1:Int)(n0:List Int)(n1:List Int)(n2:List Int)(n3:List (List Int))(n4:List ByteArray)(n5:List ByteArray)(n6:List (List Int)):Option (List Int):=
 z0h (z1c a1 n0 n1 n2 n3 n4 n5 n6) LFm (0,20,a0)
instance:Ok (z1l a0 a1 n0 n1 n2 n3 n4 n5 n6) (fun r=>L 181 [(tO a0),.sc (.int .i64 a1),.cl 137 [.pr [(tI n0),(tI n1),(tI n2),(tR n3),(tS n4),(tS n5)],.pr [(tR n6)]]]=some (.tup [],[(tO r),.dead,.dead])):=⟨fun r h=>by have h:=z3p h;unfold z1l at h;exact z4q rfl Tryz.func181 (bdy Tryz.f181 rfl)⟩
def z0z(a0:List Int)(p5:List Int)(p6:List Int)(p7:List Int)(p8:List (List Int))(p9:List ByteArray)(q0:List ByteArray)(q1:List (List Int)):Option (List Int):=
 (z1l a0 (a0.length:Int) p5 p6 p7 p8 p9 q0 q1).bind fun v2=>
 some v2
instance{p5:List Int}{p6:List Int}{p7:List Int}{p8:List (List Int)}{p9:List ByteArray}{q0:List ByteArray}{q1:List (List Int)}:Ok (z0z a0 p5 p6 p7 p8 p9 q0 q1) (fun r=>L 136 [(tO a0),.cl 137 [.pr [(tI p5),(tI p6),(tI p7),(tR p8),(tS p9),(tS q0)],.pr [(tR q1)]]]=some (.tup [],[(tO r),.dead])):=⟨fun r h=>by have h:=z3p h;unfold z0z at h;exact z4q rfl Tryz.func136 (bdy Tryz.f136 rfl)⟩
def z5j(a0:Imgs)(w36:List (List Int)):Int×List Int->Option ((Int×List Int)⊕(List Int×List (List Int)))
 |(w50,w51)=>
 if w50<(w36.length:Int) then
 (atI w36 w50).bind fun v55=>
 (atI v55 0).bind fun v56=>
 (atI a0.height v56).bind fun v57=>
 if 1<=v57 then
 chk (z1C 8 (w51.length+1))<|
 z0c (i64.wrap (w50+1),w51++ [w50])
 else
 z0c (i64.wrap (w50+1),w51)
 else
 z0d<|
 (z0z w51 a0.sets a0.class_ a0.height a0.tiles a0.words a0.back w36).bind fun v58=>
 some (v58,w36)
def z4g(a0:Imgs)(w36:List (List Int)):Int×List Int->Fr
 |(w50,w51)=>⟨61,[(1,.one (.a 1 [] (0))),(4,.one (.a 4 [] (0))),(7,.one (.h 7 [])),(36,.one (.h 4 [0])),(37,.one (.t none (.sc (.int .i64 (w36.length:Int))))),(38,.one (.t none (.sc (.int .i64 w50))))],[(1,.vr [.sl a0.sets.length (a0.sets.map fun x0=>.sc (.int .i64 x0)),.sl a0.class_.length (a0.class_.map fun x0=>.sc (.int .i64 x0)),.sl a0.height.length (a0.height.map fun x0=>.sc (.int .i64 x0)),.sl a0.tiles.length (a0.tiles.map fun x0=>.sl x0.length (x0.map fun x1=>.sc (.int .i64 x1))),.sl a0.words.length (a0.words.map fun x0=>.sc (.string x0)),.sl a0.back.length (a0.back.map fun x0=>.sc (.string x0))]),(4,.vr [.os 1 w36.length (w36.map fun x0=>.os 1 x0.length (x0.map fun x1=>.sc (.int .i64 x1)))]),(7,.os 1 w51.length (w51.map fun x0=>.sc (.int .i64 x0)))]⟩
def z4w(a0:Imgs):Int×List (List Int)->Option ((Int×List (List Int))⊕(List Int×List (List Int)))
 |(w35,w36)=>
 if w35<(a0.class_.length:Int) then
 (atI a0.class_ w35).bind fun v42=>
 if v42=(w36.length:Int) then
 chk (z1C 24 (w36.length+1))<|
 (atI (w36++ [[]]) v42).bind fun v43=>
 chk (z1C 8 (v43.length+1))<|
 z0c (i64.wrap (w35+1),((w36++ [[]]).set v42.toNat (v43++ [w35])))
 else
 (atI w36 v42).bind fun v45=>
 chk (z1C 8 (v45.length+1))<|
 z0c (i64.wrap (w35+1),(w36.set v42.toNat (v45++ [w35])))
 else
 z0d<|
 z0h (z5j a0 w36) LFm (0,[])
def z4v(a0:Imgs):Int×List (List Int)->Fr
 |(w35,w36)=>⟨61,[(1,.one (.a 1 [] (0))),(4,.one (.a 4 [] (0))),(11,.one (.t none (.sl a0.class_.length (a0.class_.map fun x0=>.sc (.int .i64 x0))))),(12,.one (.t none (.sc (.int .i64 (a0.class_.length:Int))))),(13,.one (.t none (.sc (.int .i64 w35))))],[(1,.vr [.sl a0.sets.length (a0.sets.map fun x0=>.sc (.int .i64 x0)),.sl a0.class_.length (a0.class_.map fun x0=>.sc (.int .i64 x0)),.sl a0.height.length (a0.height.map fun x0=>.sc (.int .i64 x0)),.sl a0.tiles.length (a0.tiles.map fun x0=>.sl x0.length (x0.map fun x1=>.sc (.int .i64 x1))),.sl a0.words.length (a0.words.map fun x0=>.sc (.string x0)),.sl a0.back.length (a0.back.map fun x0=>.sc (.string x0))]),(4,.vr [.os 1 w36.length (w36.map fun x0=>.os 1 x0.length (x0.map fun x1=>.sc (.int .i64 x1)))])]⟩
def z5Q(a0:Imgs):Option (List Int×List (List Int)):=
 z0h (z4w a0) LFm (0,[])
instance{a0:Imgs}:Ok (z5Q a0) (fun r=>L 80 [.agg [.sl a0.sets.length (a0.sets.map fun x0=>.sc (.int .i64 x0)),.sl a0.class_.length (a0.class_.map fun x0=>.sc (.int .i64 x0)),.sl a0.height.length (a0.height.map fun x0=>.sc (.int .i64 x0)),.sl a0.tiles.length (a0.tiles.map fun x0=>.sl x0.length (x0.map fun x1=>.sc (.int .i64 x1))),.sl a0.words.length (a0.words.map fun x0=>.sc (.string x0)),.sl a0.back.length (a0.back.map fun x0=>.sc (.string x0))]]=some (.tup [.sl r.1.length (r.1.map fun x0=>.sc (.int .i64 x0)),.sl r.2.length (r.2.map fun x0=>.sl x0.length (x0.map fun x1=>.sc (.int .i64 x1)))],[.dead])):=⟨fun r h0=>by
 simp only[z5Q] at h0
 refine zw5 rfl Tryz.func80 (zfn (bdy Tryz.f80 rfl) ⟨of_decide_eq_true rfl,of_decide_eq_true rfl⟩ rfl ?_)
 simp only[z9l,z9k,z8w,zbb,z7N]
 refine zp (zs ?_)
 refine z0m (zp (zs ?_))
 refine z0m (zp (zp (zs ?_)))
 refine z0m (zb rfl (z9F h0 (z4v a0) rfl rfl (by simp[z4v]) fun s o1 h1 hr1=> ?_))
 obtain⟨w35,w36⟩:=s
 simp only[z4w] at h1
 simp only[z4v]
 refine zp (zs ?_)
 refine z0m (zp ?_)
 by_cases c57:w35<(a0.class_.length:Int)
 ·rw[if_pos c57] at h1
  refine zcr rfl (by simp[c57]) (z8v rfl (z0m (zp (zb rfl (zp ?_)))))
  obtain⟨v42,f58,h2⟩:=za9 h1
  refine zr rfl rfl rfl (by simp[f58];rfl) ?_
  refine z0m (zp (zp (zs ?_)))
  refine z0m ?_
  by_cases c59:v42=(w36.length:Int)
  ·rw[if_pos c59] at h2
   have c59e:=eq_true c59
   refine zcr rfl (by simp[c59e]) ?_
   obtain⟨f60,h3⟩:=zmp h2
   refine zr rfl rfl rfl (by simp[f60];rfl) ?_
   refine z0m ?_
   obtain⟨v43,f61,h4⟩:=z2E h3
   obtain⟨f61a,f61b,f61c,f61d,f61e⟩:=zfJ f61
   try simp at f61b f61c
   have f61s:∀hh,((w36++ [[]]).map (fun x0:List Int=>(.os 1 x0.length (x0.map fun x1=>.sc (.int .i64 x1)):T)))[v42.toNat]'hh=(fun x0:List Int=>(.os 1 x0.length (x0.map fun x1=>.sc (.int .i64 x1)):T)) v43:=fun hh=>by rw[ZF];exact congrArg (fun x0:List Int=>(.os 1 x0.length (x0.map fun x1=>.sc (.int .i64 x1)):T)) (f61e _)
   try simp only[List.map_set,Y0,Zq,Yr,Yp] at f61s
   obtain⟨f62,h5⟩:=zmp h4
   refine zlB rfl rfl rfl rfl ?_
   iterate 6 (refine zeh rfl rfl (by simp[z0x,z0y,f61a,f61b,f61c,f61d,f61e,f61s,f62];rfl) ?_)
   refine zgi ?_
   iterate 5 (refine zeh rfl rfl (by simp[z0x,z0y,f61a,f61b,f61c,f61d,f61e,f61s,f62];rfl) ?_)
   refine zgh ?_
   refine⟨?_,?_⟩
   ·refine zeh rfl rfl (by simp[z0x,z0y,f61a,f61b,f61c,f61d,f61e,f61s,f62];rfl) ?_
    refine zgi ?_
    iterate 4 (refine zeh rfl rfl (by simp[z0x,z0y,f61a,f61b,f61c,f61d,f61e,f61s,f62];rfl) ?_)
    refine zgh ?_
    refine⟨?_,?_⟩
    ·refine zeh rfl rfl (by simp[z0x,z0y,f61a,f61b,f61c,f61d,f61e,f61s,f62];rfl) ?_
     iterate 3 (refine zeh rfl rfl (by simp[z0x,z0y,f61a,f61b,f61c,f61d,f61e,f61s,f62];rfl) ?_)
     refine zgh ?_
     simp[zbY,f61a,f61b,f61c,f61d,f61e,f61s,f62]
    simp[zbY,f61a,f61b,f61c,f61d,f61e,f61s,f62]
   refine zl8 rfl (by simp[f61a,f61b,f61c,f61d,f61e,f61s,f62];rfl) ?_
   refine z6d (z0m (zs ?_))
   have ho:=z5p h5
   refine z6v ho ?_
   simp[z4v]
  ·rw[if_neg c59] at h2
   have c59e:=eq_false c59
   refine zcs rfl (by simp[c59e]) (z8v rfl (z0m ?_))
   obtain⟨v45,f63,h3⟩:=za9 h2
   obtain⟨f64,h4⟩:=zmp h3
   refine zlB rfl rfl rfl rfl ?_
   iterate 6 (refine zeh rfl rfl (by simp[z0x,z0y,f63,f64];rfl) ?_)
   refine zgi ?_
   iterate 5 (refine zeh rfl rfl (by simp[z0x,z0y,f63,f64];rfl) ?_)
   refine zgh ?_
   refine⟨?_,?_⟩
   ·refine zeh rfl rfl (by simp[z0x,z0y,f63,f64];rfl) ?_
    refine zgi ?_
    iterate 4 (refine zeh rfl rfl (by simp[z0x,z0y,f63,f64];rfl) ?_)
    refine zgh ?_
    refine⟨?_,?_⟩
    ·refine zeh rfl rfl (by simp[z0x,z0y,f63,f64];rfl) ?_
     iterate 3 (refine zeh rfl rfl (by simp[z0x,z0y,f63,f64];rfl) ?_)
     refine zgh ?_
     simp[zbY,f63,f64]
    simp[zbY,f63,f64]
   refine zl8 rfl (by simp[f63,f64];rfl) ?_
   refine z6d (z0m (zs ?_))
   have ho:=z5p h4
   refine z6v ho ?_
   simp[z4v]
 ·rw[if_neg c57] at h1
  refine zcs rfl (by simp[c57]) (zb3 rfl (z8Y ?_))
  obtain⟨rr1,h2,ho1⟩:=z6p h1
  have hs1:=hr1 _ ho1
  subst hs1
  refine z8a ho1 (z4y rfl (z0m (zp (zs ?_))))
  refine z0m (zp (zp (zs ?_)))
  refine z0m (zb rfl (z9F h2 (z4g a0 w36) rfl rfl (by simp[z4g]) fun s o2 h3 hr2=> ?_))
  obtain⟨w50,w51⟩:=s
  simp only[z5j] at h3
  simp only[z4g]
  refine zp (zs ?_)
  refine z0m (zp ?_)
  by_cases c76:w50<(w36.length:Int)
  ·rw[if_pos c76] at h3
   refine zcr rfl (by simp[c76]) (z8v rfl (z0m (zp (zb rfl (zp ?_)))))
   obtain⟨v55,f77,h4⟩:=za9 h3
   refine zr rfl rfl rfl (by simp[f77];rfl) ?_
   refine z0m (zp ?_)
   obtain⟨v56,f78,h5⟩:=z2E h4
   obtain⟨f78a,f78b,f78c,f78d,f78e⟩:=zfJ f78
   simp only[Int.reduceToNat,Z2] at f78c f78d f78e
   have f78j:v55≠ []:=by intro hh;rw[hh] at f78c;simp at f78c
   have f78l:0<v55.length:=by omega
   obtain⟨v57,f79,h6⟩:=za9 h5
   refine zaq rfl rfl rfl rfl ?_;repeat' ((first|refine z6w rfl rfl fun Q' hQ=> ?_|refine z5E rfl fun Q' hQ=> ?_);simp[f77,f78a,f78b,f78c,f78d,f78e,f78j,f78l,f79];refine hQ.out _ ?_;clear hQ;clear Q')
   refine z0m ?_
   by_cases c80:1<=v57
   ·rw[if_pos c80] at h6
    refine zcr rfl (by simp[c80]) ?_
    obtain⟨f81,h7⟩:=zmp h6
    refine zr rfl rfl rfl (by simp[f77,f81];rfl) ?_
    refine z6d (z0m (zr rfl rfl rfl (by simp[f77];rfl) ?_))
    have ho:=z5p h7
    refine z6v ho ?_
    simp[z4g]
   ·rw[if_neg c80] at h6
    refine zcs rfl (by simp[c80]) (z8v rfl (z6d (z0m (zr rfl rfl rfl (by simp[f77];rfl) ?_))))
    have ho:=z5p h6
    refine z6v ho ?_
    simp[z4g]
  ·rw[if_neg c76] at h3
   refine zcs rfl (by simp[c76]) (zb3 rfl (z8Y ?_))
   obtain⟨rr2,h4,ho2⟩:=z6p h3
   have hs2:=hr2 _ ho2
   subst hs2
   refine z8a ho2 (z4y rfl (z0m (zp (ztl rfl rfl (by simp;rfl) ?_))))
   obtain⟨v58,f82,h5⟩:=z2E h4
   have f82k:=Ok.ok _ f82
   try simp at f82k
   refine zr rfl rfl rfl (by simp[f82k];rfl) ?_
   refine z0m (zp ?_)
   refine zaq rfl rfl rfl rfl ?_;repeat' ((first|refine z6w rfl rfl fun Q' hQ=> ?_|refine z5E rfl fun Q' hQ=> ?_);simp;refine hQ.out _ ?_;clear hQ;clear Q')
   refine z0m (zn5 rfl ?_)
   cases h5
   simp⟩
end
end
section
open Go
def zzY(M:List (List Int))(H:List Int)(x:Int):Option Int:=(atI M x).bind fun m=>(atI m 0).bind fun r=>atI H r
def zAQ(s c h:List Int)(t:List (List Int))(w b:List ByteArray)(M:List (List Int)):SrtC where
 cmp x y:=z1Y x y s c h t w b M
 key x:=x-(zzY M h x).getD 0*1048576
 ok x:=0<=x/\x<1048576/\(zzY M h x).isSome
 law x y hx hy hl:=by
  obtain⟨x0,x1,x2⟩:=hx
  obtain⟨y0,y1,y2⟩:=hy
  obtain⟨u,hu⟩:=ZT.1 x2
  obtain⟨v,hv⟩:=ZT.1 y2
  have hu':=hu
  have hv':=hv
  unfold zzY at hu hv
  cases h1:atI M x with
  |none=>rw[h1] at hu;cases hu
  |some p=>
   cases h2:atI M y with
   |none=>rw[h2] at hv;cases hv
   |some q=>
    rw[h1,Z0] at hu
    rw[h2,Z0] at hv
    cases h3:atI p 0 with
    |none=>rw[h3] at hu;cases hu
    |some p0=>
     cases h4:atI q 0 with
     |none=>rw[h4] at hv;cases hv
     |some q0=>
      rw[h3,Z0] at hu
      rw[h4,Z0] at hv
      obtain⟨z,e1,e2⟩:=zvw v u
      refine⟨z,?_,?_⟩
      · unfold z1Y
        rw[h2,Z0,h4,Z0,hv,Z0,h1,Z0,h3,Z0,hu,Z0,e1];rfl
      · rw[e2,hu',hv',Z4,Z4]
        omega
theorem zle:∀k,z0o k=fun l a m b s c h t w x M=>zxo k l a m b (zAQ s c h t w x M)
 |0=>rfl
 |k+1=>by
  show z0Y (z0o k)=_
  rw[zle k]
  rfl
theorem zsA(l s c h:List Int)(t:List (List Int))(w b:List ByteArray)(M:List (List Int)):z0z l s c h t w b M=zCc l (zAQ s c h t w b M):=by
 have h9:z1a=fun a s c h t w b M k=>zcD a (zAQ s c h t w b M) k:=by
  unfold z1a
  rw[zle]
  all_goals rfl
 have h7:z1b=fun a s c h t w b M=>zeF a (zAQ s c h t w b M):=by
  unfold z1b
  rw[h9]
  all_goals rfl
 have h2:z1c=fun a s c h t w b M=>zeG a (zAQ s c h t w b M):=by
  unfold z1c
  rw[h7]
  all_goals rfl
 unfold z0z z1l
 rw[h2]
 all_goals rfl
end
section
open Go
variable{d:DFA}{m n p q r:Nat}
def z6T(p r:Nat):Prop:=p&&&r=p
theorem z2e:z6T p r↔ ∀q,p.testBit q=true->r.testBit q=true:=by
 unfold z6T
 constructor
 · intro h q hq
   have:(p&&&r).testBit q=true:=by rw[h];exact hq
   rw[XK,Z5] at this
   exact this.2
 · intro h
   apply ZZ
   intro q
   rw[XK]
   cases hp:p.testBit q with
   |false=>rfl
   |true=>rw[h q hp];rfl
theorem z8y(p:Nat):z6T p p:=Nat.and_self p
theorem zd3(h1:z6T p q)(h2:z6T q r):z6T p r:=z2e.2 fun i hi=>z2e.1 h2 i (z2e.1 h1 i hi)
theorem zaY(h1:z6T p q)(h2:z6T q p):p=q:=ZZ fun i=>by
 have a:=z2e.1 h1 i
 have b:=z2e.1 h2 i
 cases hp:p.testBit i<;>cases hq:q.testBit i<;>simp_all
theorem zng(hd:DfaOk d m n){a:Nat}(ha:a<m)(h:z6T p r):z6T (mvN d p a) (mvN d r a):=z2e.2 fun q hq=>by
 obtain⟨i,h1,h2,h3⟩:=(zau hd ha q).1 hq
 exact(zau hd ha q).2 ⟨i,h1,z2e.1 h i h2,h3⟩
theorem zji{d:DFA}{m n:Nat}(hd:DfaOk d m n):∀ {w:List UInt8} {p r:Nat},(∀c∈w,97<=c.toNat/\c.toNat<97+m)->z6T p r->z6T (z4i d p w) (z4i d r w)
 | [],p,r,_,h=>h
 |c::w,p,r,hw,h=>zji (w:=w) (p:=mvN d p (c.toNat-97)) (r:=mvN d r (c.toNat-97)) hd (fun c' hc'=>hw c' (Zp _ hc')) (zng hd (by have:=hw c (Zz ..);omega) h)
theorem zgD{d:DFA}{m n s:Nat}(hd:DfaOk d m n)(hs:s<2^n):∀ {w:List UInt8} {x:Nat},(∀c∈w,97<=c.toNat/\c.toNat<97+m)->x∈(z0Z d m n s).1->z4i d x w∈(z0Z d m n s).1
 | [],x,_,h=>h
 |c::w,x,hw,h=>zgD (w:=w) (x:=mvN d x (c.toNat-97)) hd hs (fun c' hc'=>hw c' (Zp _ hc')) (zf2 hd hs h (by have:=hw c (Zz ..);omega))
theorem zbE{s:Nat}(hd:DfaOk d m n)(hs:s<2^n):s∈(z0Z d m n s).1:=by
 have:=(z6h hd hs).f0
 exact ZQ this
def znV(d:DFA)(m:Nat)(p r:Nat):Prop:=∃w:List UInt8,(∀c∈w,97<=c.toNat/\c.toNat<97+m)/\z6T p (z4i d r w)
theorem zvS(hd:DfaOk d m n)(hr:r<2^n):znV d m p r↔ ∃x∈(z0Z d m n r).1,z6T p x:=by
 constructor
 · rintro⟨w,h1,h2⟩
   exact⟨_,zgD hd hr h1 (zbE hd hr),h2⟩
 · rintro⟨x,hx,hs⟩
   obtain⟨i,hi,rfl⟩:=Zo hx
   obtain⟨_,o2,o3⟩:=(z6h hd hr).ok i hi
   refine⟨_,o2,?_⟩
   rw[o3,List.getD,Z1 hi,Z4]
   exact hs
theorem zdQ(d:DFA)(m p:Nat):znV d m p p:=⟨[],fun c hc=>by simp at hc,z8y p⟩
theorem zdP(hd:DfaOk d m n)(h1:znV d m p q)(h2:znV d m q r):znV d m p r:=by
 obtain⟨u,u1,u2⟩:=h1
 obtain⟨v,v1,v2⟩:=h2
 refine⟨v++u,fun c hc=> ?_,?_⟩
 · rcases Zf.1 hc with h|h
   · exact v1 c h
   · exact u1 c h
 · rw[z5D]
   exact zd3 u2 (zji hd u1 v2)
end
section
open Go
theorem z9L{a0:List Int}{r:List Int}(h:zaQ a0=some r):L 237 [.os 1 a0.length (a0.map fun x0=>.sc (.int .i64 x0))]=some (.tup [],[.os 1 r.length (r.map fun x0=>.sc (.int .i64 x0))]):=by
 refine zzW rfl fun C=> ?_
 simp only[xt,xtF,xtC,Nat.reduceEqDiff,if_true,if_false,zo0,zgW,h,ZY]
end
end Go.Proofs.YtiobkcdgggbljaaGreatDoor
