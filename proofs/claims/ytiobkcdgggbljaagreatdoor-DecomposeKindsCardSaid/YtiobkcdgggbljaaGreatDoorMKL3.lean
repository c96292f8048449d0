/- Proved here: a part of the proof of the law at hand, in one text: no condition. -/
import Derived.Test.YtiobkcdgggbljaaGreatDoorMKL2
import Derived.Test.YtiobkcdgggbljaaGreatDoorProg
import Derived.KernelRfl
set_option linter.unusedVariables false
set_option linter.unusedSimpArgs false
set_option linter.unusedSectionVars false
namespace Go.Proofs.YtiobkcdgggbljaaGreatDoor
section
open Go
set_option maxRecDepth 100000
structure SrtC where
 cmp:Int->Int->Option Int
 key:Int->Int
 ok:Int->Prop
 law:∀x y,ok x->ok y->y<x->∃c,cmp x y=some c/\(c<0↔key x<key y)
noncomputable section
abbrev ziS(a1:Int)(a3_0_0:SrtC)(w95:Int):Int×List Int->Option ((Int×List Int)⊕((Int×List Int)⊕List Int))
 |(w127,w128)=>
 if a1<w127 then
  (atI w128 w127).bind fun v136=>
  (atI w128 (IntKind.i64.wrap (w127-1))).bind fun v137=>
  (a3_0_0.cmp v136 v137).bind fun v138=>
  if v138<0 then
   (atI (w128.set w127.toNat v137) (IntKind.i64.wrap (w127-1))).bind fun v142=>
   z0d (IntKind.i64.wrap (w127-1),((w128.set w127.toNat v137).set (IntKind.i64.wrap (w127-1)).toNat v136))
  else
   z0f<|
   z0d (IntKind.i64.wrap (w95+1),w128)
 else
  z0f<|
  z0d (IntKind.i64.wrap (w95+1),w128)
abbrev ziT(a1:Int)(a2:Int)(a3_0_0:SrtC):Int×List Int->Option ((Int×List Int)⊕List Int)
 |(w95,w96)=>
 if w95<a2 then
  z0h (ziS a1 a3_0_0 w95) LFm (w95,w96)
 else
  z0f<|
  some w96
def zAx(a0:List Int)(a1:Int)(a2:Int)(a3_0_0:SrtC):Option (List Int):=
 z0h (ziT a1 a2 a3_0_0) LFm (IntKind.i64.wrap (a1+1),a0)
abbrev zt5(a1:Int)(a2:Int)(a3:Int):Int×List Int->Option ((Int×List Int)⊕List Int)
 |(w19,w20)=>
 if w19<a3 then
  (atI w20 (IntKind.i64.wrap (a2+w19))).bind fun v25=>
  (atI w20 (IntKind.i64.wrap (a1+w19))).bind fun v26=>
  (atI (w20.set (IntKind.i64.wrap (a1+w19)).toNat v25) (IntKind.i64.wrap (a2+w19))).bind fun v28=>
  z0d (IntKind.i64.wrap (w19+1),((w20.set (IntKind.i64.wrap (a1+w19)).toNat v25).set (IntKind.i64.wrap (a2+w19)).toNat v26))
 else
  z0f<|
  some w20
def zzW(a0:List Int)(a1:Int)(a2:Int)(a3:Int)(a4_0_0:SrtC):Option (List Int):=
 z0h (zt5 a1 a2 a3) LFm (0,a0)
abbrev zt6(a2:Int)(a4_0_0:SrtC):Int×Int×List Int->Option ((Int×Int×List Int)⊕List Int)
 |(w13,w15,w14)=>
 if w13=w15 then
  z0f<|
  (zzW w14 (IntKind.i64.wrap (a2-w13)) a2 w13 a4_0_0).bind fun v18=>
  some v18
 else
  if w15<w13 then
   (zzW w14 (IntKind.i64.wrap (a2-w13)) a2 w15 a4_0_0).bind fun v19=>
   z0d (IntKind.i64.wrap (w13-w15),w15,v19)
  else
   (zzW w14 (IntKind.i64.wrap (a2-w13)) (IntKind.i64.wrap ((IntKind.i64.wrap (a2+w15))-w13)) w13 a4_0_0).bind fun v20=>
   z0d (w13,IntKind.i64.wrap (w15-w13),v20)
def zAw(a0:List Int)(a1:Int)(a2:Int)(a3:Int)(a4_0_0:SrtC):Option (List Int):=
 z0h (zt6 a2 a4_0_0) LFm (IntKind.i64.wrap (a2-a1),IntKind.i64.wrap (a3-a2),a0)
abbrev ziP(w102:Int):Int×List Int->Option ((Int×List Int)⊕List Int)
 |(w114,w115)=>
 if w114<(IntKind.i64.wrap (w102-1)) then
  (atI w115 (IntKind.i64.wrap (w114+1))).bind fun v120=>
  (atI w115 w114).bind fun v121=>
  (atI (w115.set w114.toNat v120) (IntKind.i64.wrap (w114+1))).bind fun v123=>
  z0d (IntKind.i64.wrap (w114+1),((w115.set w114.toNat v120).set (IntKind.i64.wrap (w114+1)).toNat v121))
 else
  z0f<|
  some w115
abbrev ziQ(a0:List Int)(a1:Int)(a4_0_0:SrtC):Int×Int->Option ((Int×Int)⊕List Int)
 |(w102,w103)=>
 if w102<w103 then
  chk (¬1<0)<|
  (atI a0 (IntKind.i64.wrap (z0w .u64 (IntKind.u64.wrap (IntKind.i64.wrap (w102+w103))) 1))).bind fun v107=>
  (atI a0 a1).bind fun v108=>
  (a4_0_0.cmp v107 v108).bind fun v109=>
  if v109<0 then
   z0d (IntKind.i64.wrap ((IntKind.i64.wrap (z0w .u64 (IntKind.u64.wrap (IntKind.i64.wrap (w102+w103))) 1))+1),w103)
  else
   z0d (w102,IntKind.i64.wrap (z0w .u64 (IntKind.u64.wrap (IntKind.i64.wrap (w102+w103))) 1))
 else
  z0f<|
  z0h (ziP w102) LFm (a1,a0)
abbrev ziR(w128:Int):Int×List Int->Option ((Int×List Int)⊕List Int)
 |(w139,w140)=>
 if w128<w139 then
  (atI w140 (IntKind.i64.wrap (w139-1))).bind fun v145=>
  (atI w140 w139).bind fun v146=>
  (atI (w140.set w139.toNat v145) (IntKind.i64.wrap (w139-1))).bind fun v148=>
  z0d (IntKind.i64.wrap (w139-1),((w140.set w139.toNat v145).set (IntKind.i64.wrap (w139-1)).toNat v146))
 else
  z0f<|
  some w140
abbrev zeJ(a0:List Int)(a2:Int)(a4_0_0:SrtC):Int×Int->Option ((Int×Int)⊕List Int)
 |(w128,w127)=>
 if w128<w127 then
  chk (¬1<0)<|
  (atI a0 a2).bind fun v132=>
  (atI a0 (IntKind.i64.wrap (z0w .u64 (IntKind.u64.wrap (IntKind.i64.wrap (w128+w127))) 1))).bind fun v133=>
  (a4_0_0.cmp v132 v133).bind fun v134=>
  if v134<0 then
   z0d (w128,IntKind.i64.wrap (z0w .u64 (IntKind.u64.wrap (IntKind.i64.wrap (w128+w127))) 1))
  else
   z0d (IntKind.i64.wrap ((IntKind.i64.wrap (z0w .u64 (IntKind.u64.wrap (IntKind.i64.wrap (w128+w127))) 1))+1),w127)
 else
  z0f<|
  z0h (ziR w128) LFm (a2,a0)
abbrev zbc(a0:List Int)(a1:Int)(a2:Int)(a3:Int)(a4_0_0:SrtC)(rf:List Int->Int->Int->Int->SrtC->Option (List Int)):Int×Int->Option ((Int×Int)⊕List Int)
 |(w153,w152)=>
 if w153<w152 then
  chk (¬1<0)<|
  (atI a0 (IntKind.i64.wrap ((IntKind.i64.wrap ((IntKind.i64.wrap ((IntKind.i64.wrap (z0w .u64 (IntKind.u64.wrap (IntKind.i64.wrap (a1+a3))) 1))+a2))-1))-(IntKind.i64.wrap (z0w .u64 (IntKind.u64.wrap (IntKind.i64.wrap (w153+w152))) 1))))).bind fun v157=>
  (atI a0 (IntKind.i64.wrap (z0w .u64 (IntKind.u64.wrap (IntKind.i64.wrap (w153+w152))) 1))).bind fun v158=>
  (a4_0_0.cmp v157 v158).bind fun v159=>
  if v159<0 then
   z0d (w153,IntKind.i64.wrap (z0w .u64 (IntKind.u64.wrap (IntKind.i64.wrap (w153+w152))) 1))
  else
   z0d (IntKind.i64.wrap ((IntKind.i64.wrap (z0w .u64 (IntKind.u64.wrap (IntKind.i64.wrap (w153+w152))) 1))+1),w152)
 else
  z0f<|
  if w153<a2 then
   if a2<(IntKind.i64.wrap ((IntKind.i64.wrap ((IntKind.i64.wrap (z0w .u64 (IntKind.u64.wrap (IntKind.i64.wrap (a1+a3))) 1))+a2))-w153)) then
    (zAw a0 w153 a2 (IntKind.i64.wrap ((IntKind.i64.wrap ((IntKind.i64.wrap (z0w .u64 (IntKind.u64.wrap (IntKind.i64.wrap (a1+a3))) 1))+a2))-w153)) a4_0_0).bind fun v160=>
    if a1<w153 then
     if w153<(IntKind.i64.wrap (z0w .u64 (IntKind.u64.wrap (IntKind.i64.wrap (a1+a3))) 1)) then
      (rf v160 a1 w153 (IntKind.i64.wrap (z0w .u64 (IntKind.u64.wrap (IntKind.i64.wrap (a1+a3))) 1)) a4_0_0).bind fun v161=>
      if(IntKind.i64.wrap (z0w .u64 (IntKind.u64.wrap (IntKind.i64.wrap (a1+a3))) 1))<(IntKind.i64.wrap ((IntKind.i64.wrap ((IntKind.i64.wrap (z0w .u64 (IntKind.u64.wrap (IntKind.i64.wrap (a1+a3))) 1))+a2))-w153)) then
       if(IntKind.i64.wrap ((IntKind.i64.wrap ((IntKind.i64.wrap (z0w .u64 (IntKind.u64.wrap (IntKind.i64.wrap (a1+a3))) 1))+a2))-w153))<a3 then
        (rf v161 (IntKind.i64.wrap (z0w .u64 (IntKind.u64.wrap (IntKind.i64.wrap (a1+a3))) 1)) (IntKind.i64.wrap ((IntKind.i64.wrap ((IntKind.i64.wrap (z0w .u64 (IntKind.u64.wrap (IntKind.i64.wrap (a1+a3))) 1))+a2))-w153)) a3 a4_0_0).bind fun v162=>
        some v162
       else
        some v161
      else
       some v161
     else
      if(IntKind.i64.wrap (z0w .u64 (IntKind.u64.wrap (IntKind.i64.wrap (a1+a3))) 1))<(IntKind.i64.wrap ((IntKind.i64.wrap ((IntKind.i64.wrap (z0w .u64 (IntKind.u64.wrap (IntKind.i64.wrap (a1+a3))) 1))+a2))-w153)) then
       if(IntKind.i64.wrap ((IntKind.i64.wrap ((IntKind.i64.wrap (z0w .u64 (IntKind.u64.wrap (IntKind.i64.wrap (a1+a3))) 1))+a2))-w153))<a3 then
        (rf v160 (IntKind.i64.wrap (z0w .u64 (IntKind.u64.wrap (IntKind.i64.wrap (a1+a3))) 1)) (IntKind.i64.wrap ((IntKind.i64.wrap ((IntKind.i64.wrap (z0w .u64 (IntKind.u64.wrap (IntKind.i64.wrap (a1+a3))) 1))+a2))-w153)) a3 a4_0_0).bind fun v163=>
        some v163
       else
        some v160
      else
       some v160
    else
     if(IntKind.i64.wrap (z0w .u64 (IntKind.u64.wrap (IntKind.i64.wrap (a1+a3))) 1))<(IntKind.i64.wrap ((IntKind.i64.wrap ((IntKind.i64.wrap (z0w .u64 (IntKind.u64.wrap (IntKind.i64.wrap (a1+a3))) 1))+a2))-w153)) then
      if(IntKind.i64.wrap ((IntKind.i64.wrap ((IntKind.i64.wrap (z0w .u64 (IntKind.u64.wrap (IntKind.i64.wrap (a1+a3))) 1))+a2))-w153))<a3 then
       (rf v160 (IntKind.i64.wrap (z0w .u64 (IntKind.u64.wrap (IntKind.i64.wrap (a1+a3))) 1)) (IntKind.i64.wrap ((IntKind.i64.wrap ((IntKind.i64.wrap (z0w .u64 (IntKind.u64.wrap (IntKind.i64.wrap (a1+a3))) 1))+a2))-w153)) a3 a4_0_0).bind fun v164=>
       some v164
      else
       some v160
     else
      some v160
   else
    if a1<w153 then
     if w153<(IntKind.i64.wrap (z0w .u64 (IntKind.u64.wrap (IntKind.i64.wrap (a1+a3))) 1)) then
      (rf a0 a1 w153 (IntKind.i64.wrap (z0w .u64 (IntKind.u64.wrap (IntKind.i64.wrap (a1+a3))) 1)) a4_0_0).bind fun v165=>
      if(IntKind.i64.wrap (z0w .u64 (IntKind.u64.wrap (IntKind.i64.wrap (a1+a3))) 1))<(IntKind.i64.wrap ((IntKind.i64.wrap ((IntKind.i64.wrap (z0w .u64 (IntKind.u64.wrap (IntKind.i64.wrap (a1+a3))) 1))+a2))-w153)) then
       if(IntKind.i64.wrap ((IntKind.i64.wrap ((IntKind.i64.wrap (z0w .u64 (IntKind.u64.wrap (IntKind.i64.wrap (a1+a3))) 1))+a2))-w153))<a3 then
        (rf v165 (IntKind.i64.wrap (z0w .u64 (IntKind.u64.wrap (IntKind.i64.wrap (a1+a3))) 1)) (IntKind.i64.wrap ((IntKind.i64.wrap ((IntKind.i64.wrap (z0w .u64 (IntKind.u64.wrap (IntKind.i64.wrap (a1+a3))) 1))+a2))-w153)) a3 a4_0_0).bind fun v166=>
        some v166
       else
        some v165
      else
       some v165
     else
      if(IntKind.i64.wrap (z0w .u64 (IntKind.u64.wrap (IntKind.i64.wrap (a1+a3))) 1))<(IntKind.i64.wrap ((IntKind.i64.wrap ((IntKind.i64.wrap (z0w .u64 (IntKind.u64.wrap (IntKind.i64.wrap (a1+a3))) 1))+a2))-w153)) then
       if(IntKind.i64.wrap ((IntKind.i64.wrap ((IntKind.i64.wrap (z0w .u64 (IntKind.u64.wrap (IntKind.i64.wrap (a1+a3))) 1))+a2))-w153))<a3 then
        (rf a0 (IntKind.i64.wrap (z0w .u64 (IntKind.u64.wrap (IntKind.i64.wrap (a1+a3))) 1)) (IntKind.i64.wrap ((IntKind.i64.wrap ((IntKind.i64.wrap (z0w .u64 (IntKind.u64.wrap (IntKind.i64.wrap (a1+a3))) 1))+a2))-w153)) a3 a4_0_0).bind fun v167=>
        some v167
       else
        some a0
      else
       some a0
    else
     if(IntKind.i64.wrap (z0w .u64 (IntKind.u64.wrap (IntKind.i64.wrap (a1+a3))) 1))<(IntKind.i64.wrap ((IntKind.i64.wrap ((IntKind.i64.wrap (z0w .u64 (IntKind.u64.wrap (IntKind.i64.wrap (a1+a3))) 1))+a2))-w153)) then
      if(IntKind.i64.wrap ((IntKind.i64.wrap ((IntKind.i64.wrap (z0w .u64 (IntKind.u64.wrap (IntKind.i64.wrap (a1+a3))) 1))+a2))-w153))<a3 then
       (rf a0 (IntKind.i64.wrap (z0w .u64 (IntKind.u64.wrap (IntKind.i64.wrap (a1+a3))) 1)) (IntKind.i64.wrap ((IntKind.i64.wrap ((IntKind.i64.wrap (z0w .u64 (IntKind.u64.wrap (IntKind.i64.wrap (a1+a3))) 1))+a2))-w153)) a3 a4_0_0).bind fun v168=>
       some v168
      else
       some a0
     else
      some a0
  else
   if a1<w153 then
    if w153<(IntKind.i64.wrap (z0w .u64 (IntKind.u64.wrap (IntKind.i64.wrap (a1+a3))) 1)) then
     (rf a0 a1 w153 (IntKind.i64.wrap (z0w .u64 (IntKind.u64.wrap (IntKind.i64.wrap (a1+a3))) 1)) a4_0_0).bind fun v169=>
     if(IntKind.i64.wrap (z0w .u64 (IntKind.u64.wrap (IntKind.i64.wrap (a1+a3))) 1))<(IntKind.i64.wrap ((IntKind.i64.wrap ((IntKind.i64.wrap (z0w .u64 (IntKind.u64.wrap (IntKind.i64.wrap (a1+a3))) 1))+a2))-w153)) then
      if(IntKind.i64.wrap ((IntKind.i64.wrap ((IntKind.i64.wrap (z0w .u64 (IntKind.u64.wrap (IntKind.i64.wrap (a1+a3))) 1))+a2))-w153))<a3 then
       (rf v169 (IntKind.i64.wrap (z0w .u64 (IntKind.u64.wrap (IntKind.i64.wrap (a1+a3))) 1)) (IntKind.i64.wrap ((IntKind.i64.wrap ((IntKind.i64.wrap (z0w .u64 (IntKind.u64.wrap (IntKind.i64.wrap (a1+a3))) 1))+a2))-w153)) a3 a4_0_0).bind fun v170=>
       some v170
      else
       some v169
     else
      some v169
    else
     if(IntKind.i64.wrap (z0w .u64 (IntKind.u64.wrap (IntKind.i64.wrap (a1+a3))) 1))<(IntKind.i64.wrap ((IntKind.i64.wrap ((IntKind.i64.wrap (z0w .u64 (IntKind.u64.wrap (IntKind.i64.wrap (a1+a3))) 1))+a2))-w153)) then
      if(IntKind.i64.wrap ((IntKind.i64.wrap ((IntKind.i64.wrap (z0w .u64 (IntKind.u64.wrap (IntKind.i64.wrap (a1+a3))) 1))+a2))-w153))<a3 then
       (rf a0 (IntKind.i64.wrap (z0w .u64 (IntKind.u64.wrap (IntKind.i64.wrap (a1+a3))) 1)) (IntKind.i64.wrap ((IntKind.i64.wrap ((IntKind.i64.wrap (z0w .u64 (IntKind.u64.wrap (IntKind.i64.wrap (a1+a3))) 1))+a2))-w153)) a3 a4_0_0).bind fun v171=>
       some v171
      else
       some a0
     else
      some a0
   else
    if(IntKind.i64.wrap (z0w .u64 (IntKind.u64.wrap (IntKind.i64.wrap (a1+a3))) 1))<(IntKind.i64.wrap ((IntKind.i64.wrap ((IntKind.i64.wrap (z0w .u64 (IntKind.u64.wrap (IntKind.i64.wrap (a1+a3))) 1))+a2))-w153)) then
     if(IntKind.i64.wrap ((IntKind.i64.wrap ((IntKind.i64.wrap (z0w .u64 (IntKind.u64.wrap (IntKind.i64.wrap (a1+a3))) 1))+a2))-w153))<a3 then
      (rf a0 (IntKind.i64.wrap (z0w .u64 (IntKind.u64.wrap (IntKind.i64.wrap (a1+a3))) 1)) (IntKind.i64.wrap ((IntKind.i64.wrap ((IntKind.i64.wrap (z0w .u64 (IntKind.u64.wrap (IntKind.i64.wrap (a1+a3))) 1))+a2))-w153)) a3 a4_0_0).bind fun v172=>
      some v172
     else
      some a0
    else
     some a0
def zt4(rf:List Int->Int->Int->Int->SrtC->Option (List Int))(a0:List Int)(a1:Int)(a2:Int)(a3:Int)(a4_0_0:SrtC):Option (List Int):=
 if(IntKind.i64.wrap (a2-a1))=1 then
  z0h (ziQ a0 a1 a4_0_0) LFm (a2,a3)
 else
  if(IntKind.i64.wrap (a3-a2))=1 then
   z0h (zeJ a0 a2 a4_0_0) LFm (a1,a2)
  else
   chk (¬1<0)<|
   if(IntKind.i64.wrap (z0w .u64 (IntKind.u64.wrap (IntKind.i64.wrap (a1+a3))) 1))<a2 then
    z0h (zbc a0 a1 a2 a3 a4_0_0 rf) LFm (IntKind.i64.wrap ((IntKind.i64.wrap ((IntKind.i64.wrap (z0w .u64 (IntKind.u64.wrap (IntKind.i64.wrap (a1+a3))) 1))+a2))-a3),IntKind.i64.wrap (z0w .u64 (IntKind.u64.wrap (IntKind.i64.wrap (a1+a3))) 1))
   else
    z0h (zbc a0 a1 a2 a3 a4_0_0 rf) LFm (a1,a2)
def zvz:Nat->List Int->Int->Int->Int->SrtC->Option (List Int)
 |0=>fun _ _ _ _ _=>none
 |k+1=>zt4 (zvz k)
abbrev zbX(a1:Int)(a2_0_0:SrtC)(w45:Int):Int×Int×List Int->Option ((Int×Int×List Int)⊕((Int×List Int)⊕List Int))
 |(w55,w56,w57)=>
 if w56<=a1 then
  (zvz 5000 w57 w55 (IntKind.i64.wrap (w55+w45)) w56 a2_0_0).bind fun v59=>
  z0d (w56,IntKind.i64.wrap (w56+(IntKind.i64.wrap (2*w45))),v59)
 else
  z0f<|
  if(IntKind.i64.wrap (w55+w45))<a1 then
   (zvz 5000 w57 w55 (IntKind.i64.wrap (w55+w45)) a1 a2_0_0).bind fun v60=>
   z0d (IntKind.i64.wrap (w45*2),v60)
  else
   z0d (IntKind.i64.wrap (w45*2),w57)
abbrev zdO(a1:Int)(a2_0_0:SrtC):Int×List Int->Option ((Int×List Int)⊕List Int)
 |(w45,w46)=>
 if w45<a1 then
  z0h (zbX a1 a2_0_0 w45) LFm (0,IntKind.i64.wrap (2*w45),w46)
 else
  z0f<|
  some w46
abbrev zdP(a1:Int)(a2_0_0:SrtC):Int×Int×List Int->Option ((Int×Int×List Int)⊕List Int)
 |(w32,w33,w34)=>
 if w33<=a1 then
  (zAx w34 w32 w33 a2_0_0).bind fun v36=>
  z0d (w33,IntKind.i64.wrap (w33+20),v36)
 else
  z0f<|
  (zAx w34 w32 a1 a2_0_0).bind fun v37=>
  z0h (zdO a1 a2_0_0) LFm (20,v37)
def zBO(a0:List Int)(a1:Int)(a2_0_0:SrtC):Option (List Int):=
 z0h (zdP a1 a2_0_0) LFm (0,20,a0)
def zzX(a0:List Int)(a1_0_0:SrtC):Option (List Int):=
 (zBO a0 (a0.length:Int) a1_0_0).bind fun v2=>
 some v2
end
end
section
open Go
set_option maxRecDepth 100000
variable{x:Int}{P R V:List Int}{i w:Nat}{K:SrtC}{α:Type}
theorem zzE(i j:Nat)(h:i+j<4611686018427387904):IntKind.i64.wrap (z0w .u64 (IntKind.u64.wrap (IntKind.i64.wrap ((i:Int)+j))) 1)=(((i+j)/2:Nat):Int):=by
 have e1:IntKind.u64.wrap (IntKind.i64.wrap ((i:Int)+j))=(((i+j:Nat)):Int):=by
  rw[z3f (by omega) (by omega),XC];omega
 have e2:z0w .u64 (((i+j:Nat)):Int) 1=(((i+j)/2:Nat):Int):=by
  unfold z0w
  have:min ((1:Int).toNat) IntKind.u64.bits=1:=by decide
  rw[this,Int.fdiv_eq_ediv_of_nonneg _ (by decide)]
  omega
 rw[e1,e2,z3f (by omega) (by omega)]
theorem at0(A:List α)(x:α)(B:List α)(h:i=A.length):atI (A++x::B) (i:Int)=some x:=by
 subst h
 rw[z0Y (by simp)];simp
theorem at1(A:List α)(x y:α)(B:List α)(h:i=A.length+1):atI (A++x::y::B) (i:Int)=some y:=by
 have:A++x::y::B=(A++ [x])++y::B:=by simp
 rw[this]
 exact at0 _ _ _ (by simpa using h)
theorem zxi(A:List α)(x z:α)(B:List α)(h:i=A.length):(A++x::B).set i z=A++z::B:=by
 subst h;simp
theorem put1(A:List α)(x y z:α)(B:List α)(h:i=A.length+1):(A++x::y::B).set i z=A++x::z::B:=by
 have:A++x::y::B=(A++ [x])++y::B:=by simp
 rw[this,zxi _ _ _ _ (by simpa using h)];simp
abbrev kvC(K:SrtC)(x:Int):Int:=K.key x
abbrev okS(K:SrtC)(x:Int):Prop:=K.ok x
abbrev zjo(K:SrtC)(l:List Int):Prop:=∀x∈l,okS K x
abbrev zbk(K:SrtC)(l:List Int):Prop:=l.Pairwise fun x y=>kvC K x<=kvC K y
abbrev Bef(U V:List Int):Prop:=∀x∈U,∀y∈V,x<y
theorem zAD{y:Int}(hx:okS K x)(hy:okS K y)(h:y<x):∃c,K.cmp x y=some c/\(c<0↔kvC K x<kvC K y):=K.law x y hx hy h
theorem zb6{t:Nat}(h:t<V.length):V.getD t 0∈V:=by grind
theorem zxV{S:List Int}(hv:zjo K (S++ [x]))(hs:zbk K S)(hb:∀y∈S,y<x)(hl:P.length+S.length<2^40)(hw:w=P.length+S.length):
 ∃S',z0h (ziS (P.length:Int) K (w:Int)) LFm ((w:Int),P++S++x::R)=some (.inl (((w+1:Nat):Int),P++S'++R))/\zbk K S'/\S'.Perm (S++ [x]):=by
 refine Exists.elim (z2e (b:=ziS (P.length:Int) K (w:Int)) (fun z=>∃S1 S2,S1++S2=S/\z=(((P.length+S1.length:Nat):Int),P++S1++x::(S2++R))/\ ∀y∈S2,kvC K x<kvC K y) (fun z=>z.1.toNat)
  (fun r=>∃S',r= .inl (((w+1:Nat):Int),P++S'++R)/\zbk K S'/\S'.Perm (S++ [x])) ?_ LFm ((w:Int),P++S++x::R) ⟨S,[],by simp,by rw[hw];simp,by simp⟩ (by simp only[LFm];omega)) fun r h=>by grind
 rintro z ⟨S1,S2,rfl,rfl,h2⟩
 have hlen:S1.length+S2.length<2^40:=by grind
 have fin:(∀y∈S1,kvC K y<=kvC K x)->zbk K (S1++x::S2)/\(S1++x::S2).Perm (S1++S2++ [x]):=fun hle=>by
  refine⟨?_,?_⟩
  · rw[zbk,YF] at hs⊢
    refine⟨hs.1,ZA.2 ⟨fun y hy=>by have:=h2 y hy;omega,hs.2.1⟩,fun a ha b hb=> ?_⟩
    rcases Zw.1 hb with rfl|hb
    · exact hle a ha
    · exact hs.2.2 a ha b hb
  · grind
 simp only[ziS]
 rcases List.eq_nil_or_concat S1 with rfl|⟨S0,y,rfl⟩
 · right
   rw[if_neg (by simp)]
   obtain⟨f1,f2⟩:=fin (fun y hy=>by simp at hy)
   refine⟨_,rfl,x::S2,?_,by simpa using f1,by simpa using f2⟩
   have:IntKind.i64.wrap ((w:Int)+1)=((w+1:Nat):Int):=by rw[z3f (by omega) (by omega)];omega
   rw[this];simp
 · simp only[List.concat_eq_append] at*
   have hy:okS K y:=hv y (by simp)
   have hx:okS K x:=hv x (by simp)
   have e1:P++(S0++ [y])++x::(S2++R)=(P++S0)++y::x::(S2++R):=by simp
   have hn:(P.length+(S0++ [y]).length:Nat)=(P++S0).length+1:=by simp;omega
   have hj:IntKind.i64.wrap ((((P++S0).length+1:Nat):Int)-1)=(((P++S0).length:Nat):Int):=by
    rw[z3f (by simp at hlen⊢;omega) (by simp at hlen⊢;simp at hl;omega)];omega
   rw[e1,hn,if_pos (by simp;omega),at1 _ _ _ _ rfl,Z0,hj,at0 _ _ _ rfl,Z0]
   obtain⟨c,hc,hc2⟩:=zAD hx hy (hb y (by simp))
   rw[hc,Z0]
   by_cases hlt:c<0
   · left
     rw[if_pos hlt,Z2,put1 _ _ _ _ _ rfl,at0 _ _ _ rfl,Z0,Z2,zxi _ _ _ _ rfl]
     refine⟨_,rfl,⟨S0,y::S2,by simp,?_,fun z hz=> ?_⟩,by simp only;omega⟩
     · simp
     · grind
   · right
     rw[if_neg hlt]
     have hyx:kvC K y<=kvC K x:=by grind
     obtain⟨f1,f2⟩:=fin (fun z hz=>by
      rcases Zf.1 hz with hz|hz
      · grind
      · obtain rfl:=Zh.1 hz;exact hyx)
     refine⟨_,rfl,S0++ [y]++x::S2,?_,f1,f2⟩
     have:IntKind.i64.wrap ((w:Int)+1)=((w+1:Nat):Int):=by rw[z3f (by omega) (by omega)];omega
     rw[this];simp
theorem znZ{X:List Int}(hv:zjo K X)(hX:X.Pairwise (·< ·))(hl:P.length+X.length<2^40){a b:Nat}(ha:a=P.length)(hb:b=P.length+X.length):
 ∃S,zAx (P++X++R) (a:Int) (b:Int) K=some (P++S++R)/\zbk K S/\S.Perm X:=by
 subst ha hb
 unfold zAx
 rw[z0V (by omega)]
 cases X with
 |nil=>
  refine⟨[],?_,by simp,.refl _⟩
  rw[show LFm=(LFm-1)+1 from rfl,z0h]
  simp only[ziT]
  rw[if_neg (by simp;omega)]
  rfl
 |cons x X=>
  refine Exists.elim (z2e (b:=ziT (P.length:Int) ((P.length+(x::X).length:Nat):Int) K) (fun z=>∃S U T,S≠ []/\z=(((P.length+S.length:Nat):Int),P++S++(U++R))/\zbk K S/\T++U=x::X/\S.Perm T) (fun z=>P.length+(x::X).length+1-z.1.toNat)
   (fun r=>∃S,r=P++S++R/\zbk K S/\S.Perm (x::X)) ?_ LFm ((P.length+1:Nat),P++x::X++R) ⟨[x],X,[x],by simp,by simp,by simp,rfl,.refl _⟩ (by simp only[LFm];omega)) fun r h=>by grind
  rintro z ⟨S,U,T,h0,rfl,h1,hT,hST⟩
  have h2:(S++U).Perm (x::X):=by grind
  have hlen:=h2.length_eq
  rw[Zb] at hlen
  simp only[ziT]
  cases U with
  |nil=>
   right
   rw[if_neg (by simp at hlen⊢;omega)]
   exact⟨_,rfl,S,by simp,h1,by simpa using h2⟩
  |cons u U=>
   left
   rw[if_pos (by simp at hlen⊢;omega)]
   have hvS:zjo K (S++ [u]):=fun y hy=>hv y (h2.mem_iff.1 (by
    rcases Zf.1 hy with hy|hy
    · exact Zf.2 (.inl hy)
    · obtain rfl:=Zh.1 hy;simp))
   have hbu:∀y∈S,y<u:=fun y hy=>by
    have hp:(T++u::U).Pairwise (·< ·):=by rw[hT];exact hX
    exact(YF.1 hp).2.2 y (hST.mem_iff.1 hy) u (Zv ..)
   obtain⟨S',e,s1,s2⟩:=zxV (P:=P) (S:=S) (R:=U++R) (x:=u) hvS h1 hbu (by simp at hlen hl⊢;omega) rfl
   have e':P++S++(u::U++R)=P++S++u::(U++R):=rfl
   rw[e',e]
   have hS':=s2.length_eq
   simp at hS'
   refine⟨_,rfl,⟨S',U,T++ [u],fun h=>by rw[h] at hS';simp at hS',?_,s1,by rw[Zu];exact hT,s2.trans (hST.append_right [u])⟩,?_⟩
   · simp only[hS']
     congr 1
   · grind
theorem zun(hl:P.length+V.length<2^40)(hw:w=P.length+V.length+1):
 z0h (ziP (w:Int)) LFm ((P.length:Int),P++x::(V++R))=some (P++V++x::R):=by
 refine z0q (s:=((P.length:Int),P++x::(V++R))) V.length (fun k=>(((P.length+k:Nat):Int),(P++V.take k)++x::(V.drop k++R))) (by simp) (by simp only[LFm];omega) (fun k hk=> ?_) ?_
 · have hlk:P.length+k=(P++V.take k).length:=by rw[Zb,Zo];omega
   simp only[ziP]
   rw[z3f (x:=(w:Int)-1) (by omega) (by omega),if_pos (by omega)]
   have hj:IntKind.i64.wrap (((P.length+k:Nat):Int)+1)=((P.length+k+1:Nat):Int):=by rw[z3f (by omega) (by omega)];omega
   rw[hj,Yr hk,ZM,hlk,at1 _ _ _ _ rfl,Z0,at0 _ _ _ rfl,Z0,Z2,zxi _ _ _ _ rfl,at1 _ _ _ _ rfl,Z0,Z2,put1 _ _ _ _ _ rfl]
   rw[ZB hk]
   have e2:P.length+(k+1)=(P++V.take k).length+1:=by omega
   rw[e2]
   simp only[Zu,ZM,Y7]
 · simp only[ziP]
   rw[z3f (x:=(w:Int)-1) (by omega) (by omega),if_neg (by omega)]
   simp
theorem zqv(hl:P.length+V.length<2^40):
 z0h (ziR (P.length:Int)) LFm (((P.length+V.length:Nat):Int),P++V++x::R)=some (P++x::(V++R)):=by
 refine z0q (s:=(((P.length+V.length:Nat):Int),P++V++x::R)) V.length (fun k=>(((P.length+(V.length-k):Nat):Int),(P++V.take (V.length-k))++x::(V.drop (V.length-k)++R))) (by simp) (by simp only[LFm];omega) (fun k hk=> ?_) ?_
 · obtain⟨j,hj⟩:∃j,V.length-k=j+1:=⟨V.length-k-1,by omega⟩
   have hjl:j<V.length:=by omega
   have e3:V.length-(k+1)=j:=by omega
   have hlk:P.length+j=(P++V.take j).length:=by grind
   rw[hj,e3]
   simp only[ziR]
   rw[if_pos (by omega)]
   have hw:IntKind.i64.wrap (((P.length+(j+1):Nat):Int)-1)=((P.length+j:Nat):Int):=by rw[z3f (by omega) (by omega)];omega
   have e1:(P++V.take (j+1))++x::(V.drop (j+1)++R)=(P++V.take j)++V[j]::x::(V.drop (j+1)++R):=by
    rw[ZB hjl];simp only[Zu,ZM,Y7]
   have e2:P.length+(j+1)=(P++V.take j).length+1:=by omega
   rw[hw,e1,hlk,e2,at0 _ _ _ rfl,Z0,at1 _ _ _ _ rfl,Z0,Z2,put1 _ _ _ _ _ rfl,at0 _ _ _ rfl,Z0,Z2,zxi _ _ _ _ rfl,Yr hjl]
   rfl
 · grind
end
section
open Go
set_option maxRecDepth 100000
theorem zdA{P X M Y R:List Int}(K:SrtC)(hxy:X.length=Y.length)(hl:P.length+X.length+M.length+Y.length<2^40){a b n:Nat}(ha:a=P.length)(hb:b=P.length+X.length+M.length)(hn:n=X.length):
 zzW (P++(X++(M++(Y++R)))) (a:Int) (b:Int) (n:Int) K=some (P++(Y++(M++(X++R)))):=by
 subst ha hb hn
 unfold zzW
 refine z0q (s:=((0:Int),P++(X++(M++(Y++R))))) X.length (fun k=>((k:Int),P++(Y.take k++(X.drop k++(M++(X.take k++(Y.drop k++R))))))) (by simp) (by simp only[LFm];omega) (fun k hk=> ?_) ?_
 · have hk':k<Y.length:=by omega
   simp only[zt5]
   have e1:IntKind.i64.wrap ((((P.length+X.length+M.length:Nat)):Int)+(k:Int))=((P.length+X.length+M.length+k:Nat):Int):=by rw[z3f (by omega) (by omega)];omega
   have e2:IntKind.i64.wrap ((P.length:Int)+(k:Int))=((P.length+k:Nat):Int):=by rw[z3f (by omega) (by omega)];omega
   rw[if_pos (by omega),e1,e2,z0V (by omega),Yr hk,Yr hk']
   have f1:P++(Y.take k++(X[k]::X.drop (k+1)++(M++(X.take k++(Y[k]::Y.drop (k+1)++R)))))=(P++Y.take k)++X[k]::(X.drop (k+1)++(M++(X.take k++Y[k]::(Y.drop (k+1)++R)))):=by grind
   have l1:P.length+k=(P++Y.take k).length:=by grind
   have g:∀z:Int,(P++Y.take k)++z::(X.drop (k+1)++(M++(X.take k++Y[k]::(Y.drop (k+1)++R))))=((P++Y.take k)++z::(X.drop (k+1)++(M++X.take k)))++Y[k]::(Y.drop (k+1)++R):=fun z=>by grind
   have l2:∀z:Int,P.length+X.length+M.length+k=((P++Y.take k)++z::(X.drop (k+1)++(M++X.take k))).length:=fun z=>by grind
   rw[f1,l1]
   conv=>lhs;rw[show(P++List.take k Y++X[k]::(List.drop (k+1) X++(M++(List.take k X++Y[k]::(List.drop (k+1) Y++R)))))=_ from g X[k]]
   rw[at0 _ _ _ (l2 X[k]),Z0,←g,at0 _ _ _ rfl,Z0,Z2,zxi _ _ _ _ rfl,g,at0 _ _ _ (l2 Y[k]),Z0,Z2,zxi _ _ _ _ (l2 Y[k])]
   rw[ZB hk,ZB hk']
   simp only[Zu,ZM,Y7]
 · grind
theorem rotate{P U V R:List Int}(K:SrtC)(hU:U≠ [])(hV:V≠ [])(hl:P.length+U.length+V.length<2^40){a m b:Nat}(ha:a=P.length)(hm:m=P.length+U.length)(hb:b=P.length+U.length+V.length):
 zAw (P++(U++(V++R))) (a:Int) (m:Int) (b:Int) K=some (P++(V++(U++R))):=by
 subst ha hm hb
 unfold zAw
 have e1:IntKind.i64.wrap (((P.length+U.length:Nat):Int)-(P.length:Int))=(U.length:Int):=by rw[z3f (by omega) (by omega)];omega
 have e2:IntKind.i64.wrap (((P.length+U.length+V.length:Nat):Int)-((P.length+U.length:Nat):Int))=(V.length:Int):=by rw[z3f (by omega) (by omega)];omega
 rw[e1,e2]
 refine ziz (s:=((U.length:Int),(V.length:Int),P++(U++(V++R)))) (fun z=>∃(A X Y B:List Int),X≠ []/\Y≠ []/\A.length+X.length=P.length+U.length/\A.length+X.length+Y.length<=P.length+U.length+V.length/\z=((X.length:Int),(Y.length:Int),A++(X++(Y++B)))/\A++(Y++(X++B))=P++(V++(U++R))) (fun z=>z.1.toNat+z.2.1.toNat) ⟨P,U,V,R,hU,hV,rfl,by omega,rfl,rfl⟩ (by simp only[LFm];omega) ?_
 rintro z ⟨A,X,Y,B,hX,hY,hm,hb,rfl,hfin⟩
 have x0:=ZJ.2 hX
 have y0:=ZJ.2 hY
 have hmi:IntKind.i64.wrap (((P.length+U.length:Nat):Int)-(X.length:Int))=(A.length:Int):=by rw[z3f (by omega) (by omega)];omega
 simp only[zt6]
 by_cases h1:(X.length:Int)=(Y.length:Int)
 · right
   rw[if_pos h1,hmi]
   have:=zdA (P:=A) (X:=X) (M:= []) (Y:=Y) (R:=B) K (by omega) (by simp;omega) rfl (b:=P.length+U.length) (by simp;omega) rfl
   rw[Y7,Y7] at this
   rw[this,Z0,hfin]
 · left
   rw[if_neg h1]
   by_cases h2:(Y.length:Int)<(X.length:Int)
   · rw[if_pos h2,hmi]
     have hx1:(X.take Y.length).length=Y.length:=by rw[Zo];omega
     have:=zdA (P:=A) (X:=X.take Y.length) (M:=X.drop Y.length) (Y:=Y) (R:=B) K hx1 (by simp only[Zo,Yd];omega) rfl (b:=P.length+U.length) (by simp only[Zo,Yd];omega) (n:=Y.length) hx1.symm
     have e:A++(X.take Y.length++(X.drop Y.length++(Y++B)))=A++(X++(Y++B)):=by
      rw[←Zu (X.take Y.length),ZL]
     rw[e] at this
     rw[this,Z0]
     have hw:IntKind.i64.wrap ((X.length:Int)-(Y.length:Int))=((X.drop Y.length).length:Int):=by rw[z3f (by omega) (by omega),Yd];omega
     refine⟨_,rfl,⟨A++Y,X.drop Y.length,X.take Y.length,B,?_,?_,?_,?_,?_,?_⟩,?_⟩
     · grind
     · grind
     · grind
     · grind
     · grind
     · rw[←hfin,Zu,←Zu (X.take Y.length),ZL]
     · grind
   · rw[if_neg h2,hmi]
     have hlt:X.length<Y.length:=by omega
     have hb1:IntKind.i64.wrap (IntKind.i64.wrap (((P.length+U.length:Nat):Int)+(Y.length:Int))-(X.length:Int))=((P.length+U.length+Y.length-X.length:Nat):Int):=by
      rw[z3f (x:=((P.length+U.length:Nat):Int)+(Y.length:Int)) (by omega) (by omega),z3f (by omega) (by omega)];omega
     have hy1:(Y.drop (Y.length-X.length)).length=X.length:=by rw[Yd];omega
     have:=zdA (P:=A) (X:=X) (M:=Y.take (Y.length-X.length)) (Y:=Y.drop (Y.length-X.length)) (R:=B) K hy1.symm (by simp only[Zo,Yd];omega) rfl (b:=P.length+U.length+Y.length-X.length) (by simp only[Zo];omega) rfl
     have e:A++(X++(Y.take (Y.length-X.length)++(Y.drop (Y.length-X.length)++B)))=A++(X++(Y++B)):=by
      rw[←Zu (Y.take (Y.length-X.length)),ZL]
     rw[e] at this
     rw[hb1,this,Z0]
     have hw:IntKind.i64.wrap ((Y.length:Int)-(X.length:Int))=((Y.take (Y.length-X.length)).length:Int):=by rw[z3f (by omega) (by omega),Zo];omega
     refine⟨_,rfl,⟨A,Y.drop (Y.length-X.length),Y.take (Y.length-X.length),X++B,?_,?_,?_,?_,?_,?_⟩,?_⟩
     · grind
     · grind
     · rw[hy1];exact hm
     · rw[hy1,Zo];omega
     · rw[hw,hy1]
     · rw[←hfin,←Zu (Y.take (Y.length-X.length)),ZL]
     · grind
theorem zsY{ρ:Type}{b:Int×Int->Option ((Int×Int)⊕ρ)}{p:Nat->Bool}{lo hi:Nat}{Post:ρ->Prop}(hlh:lo<=hi)(h40:hi<2^40)(hmono:∀i j,lo<=i->i<j->j<hi->p j=true->p i=true)
 (step:∀i j:Nat,lo<=i->i<j->j<=hi->b ((i:Int),(j:Int))=if p ((i+j)/2)=true then z0d ((((i+j)/2+1:Nat):Int),(j:Int)) else z0d ((i:Int),(((i+j)/2:Nat):Int)))
 (last:∀s,lo<=s->s<=hi->(∀k,lo<=k->k<s->p k=true)->(∀k,s<=k->k<hi->p k=false)->∃r,b ((s:Int),(s:Int))=some (.inr r)/\Post r):
 ∃r,z0h b LFm ((lo:Int),(hi:Int))=some r/\Post r:=by
 refine z2e (fun z=>∃i j:Nat,lo<=i/\i<=j/\j<=hi/\z=((i:Int),(j:Int))/\(∀k,lo<=k->k<i->p k=true)/\(∀k,j<=k->k<hi->p k=false)) (fun z=>(z.2-z.1).toNat) Post ?_ LFm _ ⟨lo,hi,by omega,hlh,by omega,rfl,fun k h1 h2=>by omega,fun k h1 h2=>by omega⟩ (by simp only[LFm];omega)
 rintro z ⟨i,j,h1,h2,h3,rfl,h4,h5⟩
 by_cases hij:i<j
 · left
   rw[step i j h1 hij h3]
   by_cases hp:p ((i+j)/2)=true
   · rw[if_pos hp]
     refine⟨_,rfl,⟨(i+j)/2+1,j,by omega,by omega,h3,rfl,fun k k1 k2=> ?_,h5⟩,by simp only;omega⟩
     by_cases e:k=(i+j)/2
     · rw[e];exact hp
     · grind
   · rw[if_neg hp]
     refine⟨_,rfl,⟨i,(i+j)/2,h1,by omega,by omega,rfl,h4,fun k k1 k2=> ?_⟩,by simp only;omega⟩
     by_cases e:k=(i+j)/2
     · rw[e];simpa using hp
     · grind
 · right
   obtain rfl:i=j:=by omega
   exact last i h1 h3 h4 h5
end
section
open Go
set_option maxRecDepth 100000
variable{x:Int}{P R V V1 V2:List Int}{rf:List Int->Int->Int->Int->SrtC->Option (List Int)}{N a b k m t:Nat}{K:SrtC}
theorem atM{A B:List Int}{i:Nat}(h:t<V.length)(hi:i=A.length+t):atI (A++(V++B)) (i:Int)=some (V.getD t 0):=by
 subst hi
 rw[z0Y (by simp;omega)]
 congr 1
 rw[List.getElem_append_right (by omega)]
 have:A.length+t-A.length=t:=by omega
 simp only[this]
 rw[List.getElem_append_left h,List.getD,Z1 h,Z7]
theorem zAv(hv:zjo K V)(h:t<V.length):okS K (V.getD t 0):=by grind
theorem z7Y(hs:zbk K V){i j:Nat}(hij:i<=j)(hj:j<V.length):kvC K (V.getD i 0)<=kvC K (V.getD j 0):=by
 rw[List.getD,List.getD,Z1 hj,Z1 (show i<V.length by omega),Z7,Z7]
 by_cases e:i=j
 · subst e;omega
 · exact ZH.1 hs i j (by omega) hj (by omega)
theorem z6U(h:x∈V.take k):∃i,i<k/\i<V.length/\x=V.getD i 0:=by
 obtain⟨i,hi,rfl⟩:=Zq h
 have hi':i<k/\i<V.length:=by rw[Zo] at hi;omega
 refine⟨i,hi'.1,hi'.2,?_⟩
 rw[Xu,List.getD,Z1 hi'.2,Z7]
theorem z6V(h:x∈V.drop k):∃i,k<=i/\i<V.length/\x=V.getD i 0:=by
 obtain⟨i,hi,rfl⟩:=Zq h
 have hi':k+i<V.length:=by rw[Yd] at hi;omega
 refine⟨k+i,by omega,hi',?_⟩
 rw[List.getElem_drop,List.getD,Z1 hi',Z7]
theorem zru(hs:zbk K (V1++V2))(h1:∀y∈V1,kvC K y<=kvC K x)(h2:∀y∈V2,kvC K x<=kvC K y):zbk K (V1++x::V2):=by
 rw[zbk,YF] at hs⊢
 refine⟨hs.1,ZA.2 ⟨h2,hs.2.1⟩,fun a ha b hb=> ?_⟩
 rcases Zw.1 hb with rfl|hb
 · exact h1 a ha
 · exact hs.2.2 a ha b hb
def tl3(rf:List Int->Int->Int->Int->SrtC->Option (List Int))(K:SrtC)(M E b:Int)(v:List Int):Option (List Int):=
 if M<E then(if E<b then(rf v M E b K).bind fun r=>some r else some v) else some v
def tl2(rf:List Int->Int->Int->Int->SrtC->Option (List Int))(K:SrtC)(a s M E b:Int)(v:List Int):Option (List Int):=
 if a<s then(if s<M then(rf v a s M K).bind fun r=>tl3 rf K M E b r else tl3 rf K M E b v) else tl3 rf K M E b v
def tl1(rf:List Int->Int->Int->Int->SrtC->Option (List Int))(K:SrtC)(a m s M E b:Int)(v:List Int):Option (List Int):=
 if s<m then(if m<E then(zAw v s m E K).bind fun r=>tl2 rf K a s M E b r else tl2 rf K a s M E b v) else tl2 rf K a s M E b v
def zjj(rf:List Int->Int->Int->Int->SrtC->Option (List Int))(K:SrtC)(N:Nat):Prop:=
 ∀ {P U V R:List Int} {a m b:Nat},U≠ []->V≠ []->zjo K (U++V)->zbk K U->zbk K V->Bef U V->P.length+U.length+V.length<2^40->U.length+V.length<=N->a=P.length->m=P.length+U.length->b=P.length+U.length+V.length->
   ∃W,rf (P++(U++(V++R))) (a:Int) (m:Int) (b:Int) K=some (P++(W++R))/\zbk K W/\W.Perm (U++V)
theorem zkJ(hrf:zjj rf K N){U:List Int}(hv:zjo K (U++V))(hsU:zbk K U)(hsV:zbk K V)(hBf:Bef U V)(hl:P.length+U.length+V.length<2^40)(hN:U.length+V.length<=N)(ha:a=P.length)(hm:m=P.length+U.length)(hb:b=P.length+U.length+V.length)
 (f:List Int->Option (List Int)):
 ∃W,(if(a:Int)<(m:Int) then(if(m:Int)<(b:Int) then(rf (P++(U++(V++R))) (a:Int) (m:Int) (b:Int) K).bind f else f (P++(U++(V++R)))) else f (P++(U++(V++R))))=f (P++(W++R))/\zbk K W/\W.Perm (U++V):=by
 by_cases h1:U= []
 · grind
 · have h1':=ZJ.2 h1
   rw[if_pos (by omega)]
   by_cases h2:V= []
   · grind
   · have h2':=ZJ.2 h2
     rw[if_pos (by omega)]
     obtain⟨W,e,w1,w2⟩:=hrf h1 h2 hv hsU hsV hBf hl hN ha hm hb (R:=R)
     exact⟨W,by rw[e,Z0],w1,w2⟩
theorem zyV(hrf:zjj rf K N){U1 U2:List Int}{s M E:Nat}(hv:zjo K (U1++U2++(V1++V2)))(hsU:zbk K (U1++U2))(hsV:zbk K (V1++V2))(hBf:Bef (U1++U2) (V1++V2))(hl:P.length+U1.length+U2.length+V1.length+V2.length<2^40)
 (h1:U1.length+V1.length<=N) (h2:U2.length+V2.length<=N) (ha:a=P.length) (hs:s=a+U1.length) (hm:m=s+U2.length) (hE:E=m+V1.length) (hb:b=E+V2.length) (hM:M=s+V1.length)
 (c1:∀x∈U1,∀y∈V2,kvC K x<=kvC K y) (c2:∀x∈V1,∀y∈U2,kvC K x<=kvC K y):
 ∃W,tl1 rf K (a:Int) (m:Int) (s:Int) (M:Int) (E:Int) (b:Int) (P++(U1++U2++(V1++V2++R)))=some (P++(W++R))/\zbk K W/\W.Perm (U1++U2++(V1++V2)):=by
 have e0:tl1 rf K (a:Int) (m:Int) (s:Int) (M:Int) (E:Int) (b:Int) (P++(U1++U2++(V1++V2++R)))=tl2 rf K (a:Int) (s:Int) (M:Int) (E:Int) (b:Int) (P++(U1++(V1++(U2++(V2++R))))):=by
  unfold tl1
  by_cases hu:U2= []
  · grind
  · have hu':=ZJ.2 hu
    rw[if_pos (by omega)]
    by_cases hw:V1= []
    · grind
    · have hw':=ZJ.2 hw
      rw[if_pos (by omega)]
      have:=rotate (P:=P++U1) (U:=U2) (V:=V1) (R:=V2++R) K hu hw (by simp;omega) (a:=s) (m:=m) (b:=E) (by simp;omega) (by simp;omega) (by simp;omega)
      have e:P++U1++(U2++(V1++(V2++R)))=P++(U1++U2++(V1++V2++R)):=by simp only[Zu]
      rw[e] at this
      rw[this,Z0]
      simp only[Zu]
 rw[e0]
 have q1:=YF.1 hsU
 have q2:=YF.1 hsV
 have m1:∀x∈U1++V1,x∈U1++U2++(V1++V2):=fun x hx=>by grind
 have m2:∀x∈U2++V2,x∈U1++U2++(V1++V2):=fun x hx=>by grind
 obtain⟨L,e1,l1,l2⟩:=zkJ (R:=U2++(V2++R)) hrf (P:=P) (U:=U1) (V:=V1) (fun x hx=>hv x (m1 x hx)) q1.1 q2.1 (fun x hx y hy=>hBf x (Zf.2 (.inl hx)) y (Zf.2 (.inl hy))) (by omega) h1 ha (m:=s) (by omega) (b:=M) (by omega) (tl3 rf K (M:Int) (E:Int) (b:Int))
 have hL:=l2.length_eq
 rw[Zb] at hL
 unfold tl2
 rw[e1]
 obtain⟨Rw,e2,r1,r2⟩:=zkJ (R:=R) hrf (P:=P++L) (U:=U2) (V:=V2) (fun x hx=>hv x (m2 x hx)) q1.2.1 q2.2.1 (fun x hx y hy=>hBf x (Zf.2 (.inr hx)) y (Zf.2 (.inr hy))) (by rw[Zb];omega) h2 (a:=M) (by rw[Zb];omega) (m:=E) (by rw[Zb];omega) (b:=b) (by rw[Zb];omega) (fun r=>some r)
 unfold tl3
 have e:P++(L++(U2++(V2++R)))=P++L++(U2++(V2++R)):=by simp only[Zu]
 rw[e,e2]
 refine⟨L++Rw,by simp only[Zu],?_,?_⟩
 · grind
 · grind
theorem zki(hrf:zjj rf K N){U:List Int}(hv:zjo K (U++V))(hsU:zbk K U)(hsV:zbk K V)(hBf:Bef U V)(hl:P.length+U.length+V.length<2^40){M lo hi:Nat}(ha:a=P.length)(hm:m=P.length+U.length)(hb:b=P.length+U.length+V.length)
 (hU2:2<=U.length) (hV2:2<=V.length) (hN:U.length+V.length<=N+1) (hM:M=(a+b)/2) (hlo:(lo=a/\m<=M)∨(lo=M+m-b/\M<m)) (hhi:(hi=m/\m<=M)∨(hi=M/\M<m)):
 ∃r,z0h (zbc (P++(U++(V++R))) (a:Int) (m:Int) (b:Int) K rf) LFm ((lo:Int),(hi:Int))=some r/\ ∃W,r=P++(W++R)/\zbk K W/\W.Perm (U++V):=by
 have hvU:zjo K U:=fun x hx=>hv x (Zf.2 (.inl hx))
 have hvV:zjo K V:=fun x hx=>hv x (Zf.2 (.inr hx))
 have cM:IntKind.i64.wrap (z0w .u64 (IntKind.u64.wrap (IntKind.i64.wrap ((a:Int)+b))) 1)=(M:Int):=by rw[zzE _ _ (by omega),hM]
 have cN:IntKind.i64.wrap ((M:Int)+(m:Int))=((M+m:Nat):Int):=by rw[z3f (by omega) (by omega)];omega
 have cP:IntKind.i64.wrap (((M+m:Nat):Int)-1)=((M+m-1:Nat):Int):=by rw[z3f (by omega) (by omega)];omega
 refine zsY (p:=fun c=>decide (kvC K (U.getD (c-a) 0)<=kvC K (V.getD (M+m-1-c-m) 0))) (by omega) (by omega) (fun i j h1 h2 h3 hp=> ?_) (fun i j h1 h2 h3=> ?_) (fun s h1 h2 h3 h4=> ?_)
 · simp only[decide_eq_true_eq] at hp⊢
   have k1:=z7Y hsU (i:=i-a) (j:=j-a) (by omega) (by omega)
   have k2:=z7Y hsV (i:=M+m-1-j-m) (j:=M+m-1-i-m) (by omega) (by omega)
   omega
 · simp only[zbc]
   rw[if_pos (by omega),z0i _ (by omega),cM,zzE i j (by omega),cN,cP]
   have hc:(i+j)/2<hi/\lo<=(i+j)/2:=by omega
   have w1:IntKind.i64.wrap (((M+m-1:Nat):Int)-(((i+j)/2:Nat):Int))=((M+m-1-(i+j)/2:Nat):Int):=by rw[z3f (by omega) (by omega)];omega
   have e1:P++(U++(V++R))=(P++U)++(V++R):=by simp only[Zu]
   have g1:atI (P++(U++(V++R))) ((M+m-1-(i+j)/2:Nat):Int)=some (V.getD (M+m-1-(i+j)/2-m) 0):=by
    rw[e1];exact atM (by omega) (by rw[Zb];omega)
   have g2:atI (P++(U++(V++R))) (((i+j)/2:Nat):Int)=some (U.getD ((i+j)/2-a) 0):=atM (by omega) (by omega)
   rw[w1,g1,Z0,g2,Z0]
   obtain⟨c,hc1,hc2⟩:=zAD (zAv hvV (t:=M+m-1-(i+j)/2-m) (by omega)) (zAv hvU (t:=(i+j)/2-a) (by omega)) (hBf _ (zb6 (by omega)) _ (zb6 (by omega)))
   rw[hc1,Z0]
   simp only[decide_eq_true_eq]
   by_cases h:c<0
   · grind
   · have:=(not_congr hc2).1 h
     rw[if_neg h,if_pos (by omega),z0V (by omega)]
 · have wE:IntKind.i64.wrap (((M+m:Nat):Int)-(s:Int))=((M+m-s:Nat):Int):=by rw[z3f (by omega) (by omega)];omega
   have hx:(zbc (P++(U++(V++R))) (a:Int) (m:Int) (b:Int) K rf) ((s:Int),(s:Int))=z0f (tl1 rf K (a:Int) (m:Int) (s:Int) (M:Int) ((M+m-s:Nat):Int) (b:Int) (P++(U++(V++R)))):=by
    simp only[zbc]
    rw[if_neg (by omega),cM,cN,wE]
    rfl
   have hsa:a<=s/\s<=m/\s<=M:=by omega
   have tU:U.take (s-a)++U.drop (s-a)=U:=ZL ..
   have tV:V.take (M-s)++V.drop (M-s)=V:=ZL ..
   have lU1:(U.take (s-a)).length=s-a:=by rw[Zo];omega
   have lU2:(U.drop (s-a)).length=m-s:=by rw[Yd];omega
   have lV1:(V.take (M-s)).length=M-s:=by rw[Zo];omega
   have lV2:(V.drop (M-s)).length=b-(M+m-s):=by rw[Yd];omega
   have c1:∀x∈U.take (s-a),∀y∈V.drop (M-s),kvC K x<=kvC K y:=fun x hx y hy=>by
    obtain⟨i,i1,i2,rfl⟩:=z6U hx
    obtain⟨j,j1,j2,rfl⟩:=z6V hy
    have hs1:lo<=s-1/\s-1<s:=by omega
    have:=h3 (s-1) hs1.1 hs1.2
    simp only[decide_eq_true_eq] at this
    have k1:=z7Y hsU (i:=i) (j:=s-1-a) (by omega) (by omega)
    have k2:=z7Y hsV (i:=M+m-1-(s-1)-m) (j:=j) (by omega) (by omega)
    omega
   have c2:∀x∈V.take (M-s),∀y∈U.drop (s-a),kvC K x<=kvC K y:=fun x hx y hy=>by
    obtain⟨i,i1,i2,rfl⟩:=z6U hx
    obtain⟨j,j1,j2,rfl⟩:=z6V hy
    have hs1:s<=s/\s<hi:=by omega
    have:=h4 s hs1.1 hs1.2
    simp only[decide_eq_false_iff_not] at this
    have k1:=z7Y hsU (i:=s-a) (j:=j) (by omega) (by omega)
    have k2:=z7Y hsV (i:=i) (j:=M+m-1-s-m) (by omega) (by omega)
    omega
   obtain⟨W,e,w1,w2⟩:=zyV (P:=P) (U1:=U.take (s-a)) (U2:=U.drop (s-a)) (V1:=V.take (M-s)) (V2:=V.drop (M-s)) (R:=R) hrf (a:=a) (m:=m) (b:=b) (s:=s) (M:=M) (E:=M+m-s) (by rw[tU,tV];exact hv) (by rw[tU];exact hsU) (by rw[tV];exact hsV) (by rw[tU,tV];exact hBf) (by omega) (by omega) (by omega) ha (by omega) (by omega) (by omega) (by omega) (by omega) c1 c2
   rw[tU,tV] at e w2
   rw[hx,e]
   exact⟨_,rfl,W,rfl,w1,w2⟩
theorem zfA{K:SrtC}:∀(k:Nat) {P U V R:List Int} {a m b:Nat},U≠ []->V≠ []->zjo K (U++V)->zbk K U->zbk K V->Bef U V->P.length+U.length+V.length<2^40->U.length+V.length<=k->a=P.length->m=P.length+U.length->b=P.length+U.length+V.length->
 ∃W,zvz k (P++(U++(V++R))) (a:Int) (m:Int) (b:Int) K=some (P++(W++R))/\zbk K W/\W.Perm (U++V)
 |0,P,U,V,R,a,m,b,hU,_,_,_,_,_,_,hk,_,_,_=>by
  have:=ZJ.2 hU
  omega
 |k+1,P,U,V,R,a,m,b,hU,hV,hv,hsU,hsV,hBf,hl,hk,ha,hm,hb=>by
  have u0:=ZJ.2 hU
  have v0:=ZJ.2 hV
  have hvU:zjo K U:=fun x hx=>hv x (Zf.2 (.inl hx))
  have hvV:zjo K V:=fun x hx=>hv x (Zf.2 (.inr hx))
  have cU:IntKind.i64.wrap ((m:Int)-(a:Int))=(U.length:Int):=by rw[z3f (by omega) (by omega)];omega
  have cV:IntKind.i64.wrap ((b:Int)-(m:Int))=(V.length:Int):=by rw[z3f (by omega) (by omega)];omega
  show ∃W,zt4 (zvz k) (P++(U++(V++R))) (a:Int) (m:Int) (b:Int) K=_/\_
  unfold zt4
  rw[cU,cV]
  by_cases h1:U.length=1
  · obtain⟨x,rfl⟩:=XF.1 h1
    rw[if_pos (by simp)]
    have hx:okS K x:=hvU x (by simp)
    have:=zsY (b:=ziQ (P++([x]++(V++R))) (a:Int) K) (p:=fun h=>decide (kvC K (V.getD (h-m) 0)<kvC K x)) (lo:=m) (hi:=b) (Post:=fun r=>∃W,r=P++(W++R)/\zbk K W/\W.Perm ([x]++V)) (by omega) (by omega) (fun i j q1 q2 q3 hp=> ?_) (fun i j q1 q2 q3=> ?_) (fun s q1 q2 q3 q4=> ?_)
    · obtain⟨r,e,W,rfl,w1,w2⟩:=this
      exact⟨W,e,w1,w2⟩
    · simp only[decide_eq_true_eq] at hp⊢
      have k1:=z7Y hsV (i:=i-m) (j:=j-m) (by omega) (by omega)
      omega
    · simp only[ziQ]
      rw[if_pos (by omega),z0i _ (by omega),zzE _ _ (by omega)]
      have e1:P++([x]++(V++R))=(P++ [x])++(V++R):=by simp only[Zu]
      have g1:atI (P++([x]++(V++R))) (((i+j)/2:Nat):Int)=some (V.getD ((i+j)/2-m) 0):=by
       rw[e1];exact atM (by omega) (by rw[Zb];simp at hm⊢;omega)
      rw[g1,Z0,show P++([x]++(V++R))=P++x::(V++R) from rfl,at0 _ _ _ ha,Z0]
      obtain⟨c,hc1,hc2⟩:=zAD (zAv hvV (t:=(i+j)/2-m) (by omega)) hx (hBf _ (by simp) _ (zb6 (by omega)))
      rw[hc1,Z0]
      simp only[decide_eq_true_eq]
      by_cases h:c<0
      · rw[if_pos h,if_pos (hc2.1 h),z0V (by omega)]
      · grind
    · simp only[ziQ]
      rw[if_neg (by omega)]
      have lV1:(V.take (s-m)).length=s-m:=by rw[Zo];omega
      simp only[ZD] at*
      have:=zun (P:=P) (V:=V.take (s-m)) (R:=V.drop (s-m)++R) (x:=x) (by omega) (w:=s) (by omega)
      rw[←Zu (V.take (s-m)),ZL] at this
      rw[show P++([x]++(V++R))=P++x::(V++R) from rfl,ha,this]
      refine⟨_,rfl,V.take (s-m)++x::V.drop (s-m),by simp only[Zu,ZM],?_,?_⟩
      · refine zru (by rw[ZL];exact hsV) (fun y hy=> ?_) (fun y hy=> ?_)
        · obtain⟨i,i1,i2,rfl⟩:=z6U hy
          have:=q3 (m+i) (by omega) (by omega)
          simp only[decide_eq_true_eq,Y1] at this
          omega
        · obtain⟨i,i1,i2,rfl⟩:=z6V hy
          have:=q4 (m+i) (by omega) (by omega)
          simp only[decide_eq_false_iff_not,Y1] at this
          omega
      · refine List.perm_middle.trans ?_
        rw[ZL]
        exact .refl _
  · rw[if_neg (by omega)]
    by_cases h2:V.length=1
    · obtain⟨x,rfl⟩:=XF.1 h2
      rw[if_pos (by simp)]
      have hx:okS K x:=hvV x (by simp)
      have:=zsY (b:=zeJ (P++(U++([x]++R))) (m:Int) K) (p:=fun h=>decide (kvC K (U.getD (h-a) 0)<=kvC K x)) (lo:=a) (hi:=m) (Post:=fun r=>∃W,r=P++(W++R)/\zbk K W/\W.Perm (U++ [x])) (by omega) (by omega) (fun i j q1 q2 q3 hp=> ?_) (fun i j q1 q2 q3=> ?_) (fun s q1 q2 q3 q4=> ?_)
      · obtain⟨r,e,W,rfl,w1,w2⟩:=this
        exact⟨W,e,w1,w2⟩
      · simp only[decide_eq_true_eq] at hp⊢
        have k1:=z7Y hsU (i:=i-a) (j:=j-a) (by omega) (by omega)
        omega
      · simp only[zeJ]
        have e1:P++(U++([x]++R))=(P++U)++x::R:=by grind
        have g1:atI (P++(U++([x]++R))) (((i+j)/2:Nat):Int)=some (U.getD ((i+j)/2-a) 0):=atM (by omega) (by omega)
        have g2:atI (P++(U++([x]++R))) (m:Int)=some x:=by rw[e1];exact at0 _ _ _ (by rw[Zb];omega)
        rw[if_pos (by omega),z0i _ (by omega),zzE _ _ (by omega),g2,Z0,g1,Z0]
        obtain⟨c,hc1,hc2⟩:=zAD hx (zAv hvU (t:=(i+j)/2-a) (by omega)) (hBf _ (zb6 (by omega)) _ (by simp))
        rw[hc1,Z0]
        simp only[decide_eq_true_eq]
        by_cases h:c<0
        · grind
        · have:=(not_congr hc2).1 h
          rw[if_neg h,if_pos (by omega),z0V (by omega)]
      · simp only[zeJ]
        rw[if_neg (by omega)]
        have lU1:(U.take (s-a)).length=s-a:=by rw[Zo];omega
        have lU2:(U.drop (s-a)).length=m-s:=by rw[Yd];omega
        simp only[ZD] at*
        have:=zqv (P:=P++U.take (s-a)) (V:=U.drop (s-a)) (R:=R) (x:=x) (by rw[Zb];omega)
        have e2:(P++U.take (s-a)).length=s:=by rw[Zb];omega
        have e3:(P++U.take (s-a)).length+(U.drop (s-a)).length=m:=by rw[e2,lU2];omega
        have e4:P++U.take (s-a)++U.drop (s-a)++x::R=P++(U++([x]++R)):=by
         rw[Zu P,ZL];simp only[Zu,ZM,Y7]
        rw[e3,e4,e2] at this
        rw[this]
        refine⟨_,rfl,U.take (s-a)++x::U.drop (s-a),by simp only[Zu,ZM],?_,?_⟩
        · refine zru (by rw[ZL];exact hsU) (fun y hy=> ?_) (fun y hy=> ?_)
          · obtain⟨i,i1,i2,rfl⟩:=z6U hy
            have:=q3 (a+i) (by omega) (by omega)
            simp only[decide_eq_true_eq,Y1] at this
            omega
          · obtain⟨i,i1,i2,rfl⟩:=z6V hy
            have:=q4 (a+i) (by omega) (by omega)
            simp only[decide_eq_false_iff_not,Y1] at this
            omega
        · refine List.perm_middle.trans ?_
          rw[ZL]
          exact(List.perm_append_singleton x U).symm
    · rw[if_neg (by omega)]
      have hrf:zjj (zvz k) K k:=fun {P' U' V' R' a' m' b'} g1 g2 g3 g4 g5 g6 g7 g8 g9 g10 g11=>zfA k g1 g2 g3 g4 g5 g6 g7 g8 g9 g10 g11
      have cM:IntKind.i64.wrap (z0w .u64 (IntKind.u64.wrap (IntKind.i64.wrap ((a:Int)+b))) 1)=(((a+b)/2:Nat):Int):=zzE _ _ (by omega)
      have cN:IntKind.i64.wrap ((((a+b)/2:Nat):Int)+(m:Int))=(((a+b)/2+m:Nat):Int):=by rw[z3f (by omega) (by omega)];omega
      rw[z0i _ (by omega),cM,cN]
      by_cases hMm:(a+b)/2<m
      · have cB:IntKind.i64.wrap ((((a+b)/2+m:Nat):Int)-(b:Int))=(((a+b)/2+m-b:Nat):Int):=by rw[z3f (by omega) (by omega)];omega
        rw[if_pos (by omega),cB]
        obtain⟨r,e,W,rfl,w1,w2⟩:=zki (R:=R) hrf hv hsU hsV hBf hl (M:=(a+b)/2) (lo:=(a+b)/2+m-b) (hi:=(a+b)/2) ha hm hb (by omega) (by omega) (by omega) rfl (.inr ⟨rfl,hMm⟩) (.inr ⟨rfl,hMm⟩)
        exact⟨W,e,w1,w2⟩
      · rw[if_neg (by omega)]
        obtain⟨r,e,W,rfl,w1,w2⟩:=zki (R:=R) hrf hv hsU hsV hBf hl (M:=(a+b)/2) (lo:=a) (hi:=m) ha hm hb (by omega) (by omega) (by omega) rfl (.inl ⟨rfl,by omega⟩) (.inl ⟨rfl,by omega⟩)
        exact⟨W,e,w1,w2⟩
end
section
open Go
set_option maxRecDepth 100000
variable{l l0:List Int}{B i:Nat}{K:SrtC}
def zjn(K:SrtC)(B:Nat)(l:List Int):Prop:=(∀i j,i<j->j<l.length->i/B=j/B->kvC K (l.getD i 0)<=kvC K (l.getD j 0))/\ ∀i j,j<l.length->i/B<j/B->l.getD i 0<l.getD j 0
theorem zz4(h:∀i j,i<j->j<l.length->kvC K (l.getD i 0)<=kvC K (l.getD j 0)):zbk K l:=by
 refine ZH.2 fun i j hi hj hij=> ?_
 have:=h i j hij hj
 rwa [List.getD,List.getD,Z1 hj,Z1 hi,Z7,Z7] at this
theorem zgq{A X:List Int}(h:i<A.length):(A++X).getD i 0=A.getD i 0:=by grind
theorem zgp{A X:List Int}:(A++X).getD (A.length+i) 0=X.getD i 0:=by grind
theorem zja{A X:List Int}{q:Nat}(hB:0<B)(hA:A.length=q*B)(h:zjn K B (A++X)):zjn K B X:=by
 have e:∀i,(A.length+i)/B=i/B+q:=fun i=>by rw[hA,Nat.add_comm,Nat.add_mul_div_right _ _ hB]
 refine⟨fun i j hij hj hb=> ?_,fun i j hj hb=> ?_⟩
 · have:=h.1 (A.length+i) (A.length+j) (by omega) (by rw[Zb];omega) (by rw[e,e,hb])
   rwa [zgp,zgp] at this
 · have:=h.2 (A.length+i) (A.length+j) (by rw[Zb];omega) (by rw[e,e];omega)
   rwa [zgp,zgp] at this
theorem ze2{U X:List Int}(hU:U.length<=B)(h:zjn K B (U++X)):zbk K U:=zz4 fun i j hij hj=>by
 have:=h.1 i j hij (by rw[Zb];omega) (by rw[Xg (by omega),Xg (by omega)])
 rwa [zgq (by omega),zgq hj] at this
theorem zjb{X:List Int}(hB:0<B)(h:zjn K B X):Bef (X.take B) (X.drop B):=fun x hx y hy=>by
 obtain⟨i,i1,i2,rfl⟩:=z6U hx
 obtain⟨j,j1,j2,rfl⟩:=z6V hy
 have:=Nat.div_pos j1 hB
 exact h.2 i j j2 (by rw[Xg i1];exact this)
theorem zd4{D W:List Int}{q:Nat}(hB:0<B)(hD:D.length=q*B)(h:zjn K B D)(hW:zbk K W)(hl:W.length<=B)(hBf:Bef D W):zjn K B (D++W):=by
 have e:∀i,(D.length+i)/B=i/B+q:=fun i=>by rw[hD,Nat.add_comm,Nat.add_mul_div_right _ _ hB]
 refine⟨fun i j hij hj hb=> ?_,fun i j hj hb=> ?_⟩
 · by_cases h1:j<D.length
   · rw[zgq (by omega),zgq h1]
     exact h.1 i j hij h1 hb
   · have h2:D.length<=i:=by
      rcases Yu i D.length with h2|h2
      · exfalso
        have a1:i/B<q:=by rw[Nat.div_lt_iff_lt_mul hB,←hD];exact h2
        have a2:q<=j/B:=by rw[Nat.le_div_iff_mul_le hB,←hD];omega
        omega
      · exact h2
     obtain⟨i',rfl⟩:=X4 h2
     obtain⟨j',rfl⟩:=X4 (show D.length<=j by omega)
     rw[zgp,zgp]
     exact z7Y hW (by omega) (by rw[Zb] at hj;omega)
 · have hij:i<j:=Nat.lt_of_not_le fun hji=>by have:=Nat.div_le_div_right (c:=B) hji;omega
   rw[Zb] at hj
   by_cases h1:j<D.length
   · rw[zgq (by omega),zgq h1]
     exact h.2 i j h1 hb
   · obtain⟨j',rfl⟩:=X4 (show D.length<=j by omega)
     by_cases h2:i<D.length
     · rw[zgq h2,zgp]
       exact hBf _ (zb6 h2) _ (zb6 (by omega))
     · obtain⟨i',rfl⟩:=X4 (show D.length<=i by omega)
       rw[e,e,Xg (by omega),Xg (by omega)] at hb
       omega
theorem ztN(K:SrtC)(B:Nat):zjn K B []:=⟨fun i j _ hj=>by simp at hj,fun i j hj=>by simp at hj⟩
theorem zvX(hv:zjo K l0)(ha:l0.Pairwise (·< ·))(hn:l0.length<2^38)(Post:List Int->Prop)(k:∀D,zjn K 20 D->D.Perm l0->∃r,z0h (zdO ((l0.length:Nat):Int) K) LFm (20,D)=some r/\Post r):
 ∃r,z0h (zdP ((l0.length:Nat):Int) K) LFm (0,20,l0)=some r/\Post r:=by
 refine z2e (fun z=>∃(D X:List Int) (q:Nat),D.length=q*20/\z=((D.length:Int),((D.length+20:Nat):Int),D++X)/\zjn K 20 D/\Bef D X/\X.Pairwise (·< ·)/\(D++X).Perm l0) (fun z=>l0.length+1-z.1.toNat) Post ?_ LFm _ ⟨[],l0,0,rfl,rfl,ztN K 20,(fun x hx=>by simp at hx),ha,.refl _⟩ (by simp only[LFm];omega)
 rintro z ⟨D,X,q,hq,rfl,hD,hBf,hXp,hp⟩
 have hlen:=hp.length_eq
 rw[Zb] at hlen
 have hvX:zjo K X:=fun x hx=>hv x (hp.mem_iff.1 (Zf.2 (.inr hx)))
 simp only[zdP]
 by_cases h:D.length+20<=l0.length
 · left
   rw[if_pos (by omega)]
   have t1:X.take 20++X.drop 20=X:=ZL ..
   have t2:(X.take 20).length=20:=by rw[Zo];omega
   obtain⟨S,e,s1,s2⟩:=znZ (P:=D) (X:=X.take 20) (R:=X.drop 20) (fun x hx=>hvX x (ZK hx)) (hXp.sublist (List.take_sublist ..)) (by omega) (a:=D.length) (b:=D.length+20) rfl (by omega)
   have hS:=s2.length_eq
   rw[t2] at hS
   rw[Zu,t1] at e
   rw[e,Z0,z3f (by omega) (by omega)]
   refine⟨_,rfl,⟨D++S,X.drop 20,q+1,by rw[Zb];omega,?_,zd4 (by omega) hq hD s1 (by omega) (fun x hx y hy=>hBf x hx y (ZK (s2.mem_iff.1 hy))),?_,hXp.sublist (List.drop_sublist ..),?_⟩,by simp only;omega⟩
   · grind
   · grind
   · grind
 · right
   rw[if_neg (by omega)]
   obtain⟨S,e,s1,s2⟩:=znZ (P:=D) (X:=X) (R:= []) hvX hXp (by omega) (a:=D.length) (b:=l0.length) rfl (by omega)
   rw[Y8,Y8] at e
   rw[e,Z0]
   have hSl:=s2.length_eq
   obtain⟨r,e2,hr⟩:=k (D++S) (zd4 (by omega) hq hD s1 (by omega) (fun x hx y hy=>hBf x hx y (s2.mem_iff.1 hy))) ((s2.append_left D).trans hp)
   exact⟨r,by rw[e2];rfl,hr⟩
theorem zzG(hv:zjo K l0)(hn:l0.length<=5000)(hB0:0<B)(hB:B<5000)(hb:zjn K B l)(hp:l.Perm l0):
 ∃S,z0h (zbX ((l0.length:Nat):Int) K (B:Int)) LFm (0,((2*B:Nat):Int),l)=some (.inl (((B*2:Nat):Int),S))/\zjn K (B*2) S/\S.Perm l0:=by
 refine Exists.elim (z2e (b:=zbX ((l0.length:Nat):Int) K (B:Int)) (fun z=>∃(D X:List Int) (q:Nat),D.length=q*(B*2)/\z=((D.length:Int),((D.length+2*B:Nat):Int),D++X)/\zjn K (B*2) D/\zjn K B X/\Bef D X/\(D++X).Perm l0) (fun z=>l0.length+1-z.1.toNat)
  (fun r=>∃S,r= .inl (((B*2:Nat):Int),S)/\zjn K (B*2) S/\S.Perm l0) ?_ LFm (0,((2*B:Nat):Int),l) ⟨[],l,0,by simp,by simp,ztN K _,hb,(fun x hx=>by simp at hx),hp⟩ (by simp only[LFm];omega)) fun r h=>by grind
 rintro z ⟨D,X,q,hq,rfl,hD,hX,hBf,hp2⟩
 have hlen:=hp2.length_eq
 rw[Zb] at hlen
 have hvX:zjo K X:=fun x hx=>hv x (hp2.mem_iff.1 (Zf.2 (.inr hx)))
 have wB:IntKind.i64.wrap (2*(B:Int))=((2*B:Nat):Int):=by rw[z3f (by omega) (by omega)];omega
 have wB2:IntKind.i64.wrap ((B:Int)*2)=((B*2:Nat):Int):=by grind
 have wa:IntKind.i64.wrap ((D.length:Int)+(B:Int))=((D.length+B:Nat):Int):=by rw[z3f (by omega) (by omega)];omega
 simp only[zbX]
 rw[wa,wB,wB2]
 have t1:X.take B++X.drop B=X:=ZL ..
 by_cases h:D.length+2*B<=l0.length
 · left
   rw[if_pos (by omega)]
   have t2:(X.take B).length=B:=by rw[Zo];omega
   have hX2:zjn K B (X.drop B):=zja (A:=X.take B) (q:=1) hB0 (by omega) (by rw[t1];exact hX)
   have t3:(X.drop B).take B++(X.drop B).drop B=X.drop B:=ZL ..
   have t4:((X.drop B).take B).length=B:=by grind
   obtain⟨W,e,w1,w2⟩:=zfA (K:=K) 5000 (P:=D) (U:=X.take B) (V:=(X.drop B).take B) (R:=(X.drop B).drop B) (a:=D.length) (m:=D.length+B) (b:=D.length+2*B) (fun h=>by rw[h] at t2;simp at t2;omega) (fun h=>by rw[h] at t4;simp at t4;omega)
    (fun x hx=>hvX x (by
      rcases Zf.1 hx with hx|hx
      · exact ZK hx
      · exact XR (ZK hx)))
    (ze2 (B:=B) (X:=X.drop B) (by omega) (by rw[t1];exact hX)) (ze2 (B:=B) (X:=(X.drop B).drop B) (by omega) (by rw[t3];exact hX2)) (fun x hx y hy=>zjb hB0 hX x hx y (ZK hy)) (by omega) (by omega) rfl (by omega) (by omega)
   have hW:=w2.length_eq
   rw[Zb,t2,t4] at hW
   rw[t3,t1] at e
   have hX3:zjn K B ((X.drop B).drop B):=zja (A:=(X.drop B).take B) (q:=1) hB0 (by omega) (by rw[t3];exact hX2)
   have hWX:∀y∈W,y∈X:=fun y hy=>by grind
   have ws:IntKind.i64.wrap (((D.length+2*B:Nat):Int)+((2*B:Nat):Int))=((D.length+2*B+2*B:Nat):Int):=by rw[z3f (by omega) (by omega)];omega
   rw[e,Z0,ws]
   refine⟨_,rfl,⟨D++W,(X.drop B).drop B,q+1,?_,?_,zd4 (by omega) hq hD w1 (by omega) (fun x hx y hy=>hBf x hx y (hWX y hy)),hX3,?_,?_⟩,by simp only;omega⟩
   · grind
   · grind
   · intro x hx y hy
     rcases Zf.1 hx with hx|hx
     · grind
     · rcases Zf.1 (w2.mem_iff.1 hx) with h|h
       · exact zjb hB0 hX x h y (XR hy)
       · exact zjb hB0 hX2 x h y hy
   · grind
 · right
   rw[if_neg (by omega)]
   by_cases h2:D.length+B<l0.length
   · have t2:(X.take B).length=B:=by rw[Zo];omega
     have hX2:zjn K B (X.drop B):=zja (A:=X.take B) (q:=1) hB0 (by omega) (by rw[t1];exact hX)
     have t4:(X.drop B).length=l0.length-D.length-B:=by rw[Yd];omega
     obtain⟨W,e,w1,w2⟩:=zfA (K:=K) 5000 (P:=D) (U:=X.take B) (V:=X.drop B) (R:= []) (a:=D.length) (m:=D.length+B) (b:=l0.length) (fun h=>by rw[h] at t2;simp at t2;omega) (fun h=>by rw[h] at t4;simp at t4;omega)
      (fun x hx=>hvX x (by rw[t1] at hx;exact hx))
      (ze2 (B:=B) (X:=X.drop B) (by omega) (by rw[t1];exact hX)) (ze2 (B:=B) (X:= []) (by omega) (by rw[Y8];exact hX2)) (zjb hB0 hX) (by omega) (by omega) rfl (by omega) (by omega)
     rw[Y8,Y8,t1] at e
     rw[if_pos (by omega),e,Z0]
     have hWl:=w2.length_eq
     rw[t1] at hWl
     refine⟨_,rfl,D++W,rfl,zd4 (by omega) hq hD w1 (by omega) (fun x hx y hy=>hBf x hx y (by have:=w2.mem_iff.1 hy;rwa [t1] at this)),?_⟩
     have:=w2.append_left D
     rw[t1] at this
     exact this.trans hp2
   · rw[if_neg (by omega)]
     refine⟨_,rfl,D++X,rfl,?_,hp2⟩
     exact zd4 (by omega) hq hD (ze2 (B:=B) (X:= []) (by omega) (by rw[Y8];exact hX)) (by omega) hBf
theorem zlX(hv:zjo K l)(ha:l.Pairwise (·< ·))(hn:l.length<=5000):∃S,zzX l K=some S/\zbk K S/\S.Perm l:=by
 unfold zzX zBO
 obtain⟨r,e,h⟩:=zvX (Post:=fun r=>zbk K r/\r.Perm l) hv ha (by omega) fun D hD hp=>by
  refine z2e (fun z=>∃(B:Nat) (S:List Int),0<B/\B<10000/\z=((B:Int),S)/\zjn K B S/\S.Perm l) (fun z=>10000-z.1.toNat) _ ?_ LFm _ ⟨20,D,by omega,by omega,rfl,hD,hp⟩ (by simp only[LFm];omega)
  rintro z ⟨B,S,hB0,hB1,rfl,hS,hp2⟩
  have hlen:=hp2.length_eq
  simp only[zdO]
  by_cases h:B<l.length
  · left
    have wB:IntKind.i64.wrap (2*(B:Int))=((2*B:Nat):Int):=by rw[z3f (by omega) (by omega)];omega
    obtain⟨S',e,s1,s2⟩:=zzG hv hn hB0 (by omega) hS hp2
    rw[if_pos (by omega),wB,e]
    exact⟨_,rfl,⟨B*2,S',by omega,by omega,rfl,s1,s2⟩,by simp only;omega⟩
  · right
    rw[if_neg (by omega)]
    exact⟨_,rfl,ze2 (B:=B) (X:= []) (by omega) (by rw[Y8];exact hS),hp2⟩
 exact⟨r,by rw[e];rfl,h⟩
end
section
structure Run{ρ:Type}(x:Option ρ)(K:ρ->Prop):Prop where
 out:∃v,x=some v/\K v
structure RK{σ ρ:Type}(o:σ⊕ρ)(K:ρ->Prop)(o':σ⊕ρ):Prop where
 eq:o'=o
 k:∀r,o'= .inr r->K r
class Ok{ρ:Type}(x:Option ρ)(S:outParam (ρ->Prop)):Prop where
 ok:∀r,x=some r->S r
section
variable {G:Prop} {ρ:Type} {K:ρ->Prop}
theorem zzk{b n:Nat}{x:Option ρ}(k:n*b<=140737488355328->n<=4611686018427387904->Run x K->G)(h:Run (chk (z1V b n) x) K):G:=by
 obtain⟨v,e,hk⟩:=h
 obtain⟨⟨a,c⟩,e⟩:=z4N e
 exact k a c ⟨v,e,hk⟩
theorem zzj{n:Nat}{x:Option ρ}(k:n<=140737488355328->n<=4611686018427387904->Run x K->G)(h:Run (chk (z1V 1 n) x) K):G:=zzk (fun a b=>k (by omega) b) h
theorem zBM{b l:Int}{x:Option ρ}(k:0<=l->l<=140737488355328->b*l<=140737488355328->max l 0=l->Run x K->G)(h:Run (chk (z0Q b l) x) K):G:=by
 obtain⟨v,e,hk⟩:=h
 obtain⟨⟨a,c,d⟩,e⟩:=z4N e
 exact k a c d (by omega) ⟨v,e,hk⟩
theorem zB3{l:Int}{x:Option ρ}(k:0<=l->l<=140737488355328->max l 0=l->Run x K->G)(h:Run (chk (z0Q 1 l) x) K):G:=zBM (fun a b _ d=>k a b d) h
theorem zB1{i:Int}{n:Nat}{x:Option ρ}(k:0<=i->i<(n:Int)->i.toNat<n->i.toNat+1<=n->Run x K->G)(h:Run (chk (0<=i/\i<(n:Int)) x) K):G:=by
 obtain⟨v,e,hk⟩:=h
 obtain⟨⟨a,c⟩,e⟩:=z4N e
 exact k a c (by omega) (by omega) ⟨v,e,hk⟩
theorem zzf{i n:Int}{x:Option ρ}(k:0<=i->i<n->i.toNat<n.toNat->i.toNat+1<=n.toNat->Run x K->G)(h:Run (chk (0<=i/\i<n) x) K):G:=by
 obtain⟨v,e,hk⟩:=h
 obtain⟨⟨a,c⟩,e⟩:=z4N e
 exact k a c (by omega) (by omega) ⟨v,e,hk⟩
theorem zB9{p:Prop}[Decidable p]{x:Option ρ}(k:p->Run x K->G)(h:Run (chk p x) K):G:=by
 obtain⟨v,e,hk⟩:=h
 obtain⟨a,e⟩:=z4N e
 exact k a ⟨v,e,hk⟩
theorem zB2{α:Type}{xs:List α}{i:Nat}{f:α->Option ρ}(k:∀v,i<xs.length->i+1<=xs.length->xs[i]? =some v->(∀hh:i<xs.length,xs[i]'hh=v)->Run (f v) K->G)(h:Run ((atI xs (i:Int)).bind f) K):G:=by
 obtain⟨r,e,hk⟩:=h
 obtain⟨v,⟨a,b,c,d⟩,e⟩:=zw3 e
 exact k v a b c d ⟨r,e,hk⟩
theorem zCg{α:Type}{xs:List α}{i:Int}{f:α->Option ρ}(k:∀v,0<=i->i<xs.length->i.toNat+1<=xs.length->xs[i.toNat]? =some v->(∀hh:i.toNat<xs.length,xs[i.toNat]'hh=v)->Run (f v) K->G)(h:Run ((atI xs i).bind f) K):G:=by
 obtain⟨r,e,hk⟩:=h
 obtain⟨v,⟨a,b,c,d,d2⟩,e⟩:=z6B e
 exact k v a b c d d2 ⟨r,e,hk⟩
theorem zzm{s:ByteArray}{i:Int}{f:Int->Option ρ}(k:∀v,0<=i->i<s.size->(∃b,s[i.toNat]? =some b/\v=(b.toNat:Int))->(∀hh:i.toNat<s.size,((s[i.toNat]'hh).toNat:Int)=v)->Run (f v) K->G)(h:Run ((zmV s i).bind f) K):G:=by
 obtain⟨r,e,hk⟩:=h
 obtain⟨v,e1,e2⟩:=z1n e
 obtain⟨a,b,c,d1,d2,d3⟩:=zqE e1
 exact k v a b ⟨c,d1,d2⟩ d3 ⟨r,e2,hk⟩
theorem zxo{α:Type}{xs:List α}{i:Int}{v:α}{f:α->Option ρ}(hv:xs[i.toNat]? =some v)(hi:0<=i)(k:Run (f v) K->G)(h:Run ((atI xs i).bind f) K):G:=by
 obtain⟨r,e,hk⟩:=h
 unfold atI at e
 rw[if_pos hi,hv] at e
 exact k ⟨r,e,hk⟩
theorem zzh{α:Type}{xs:List α}{i:Nat}{v:α}{f:α->Option ρ}(hv:xs[i]? =some v)(k:Run (f v) K->G)(h:Run ((atI xs (i:Int)).bind f) K):G:=zxo (i:=(i:Int)) hv (Int.natCast_nonneg i) k h
theorem zCh{α:Type}{xs:List α}{v:α}{f:α->Option ρ}(hv:xs[0]? =some v)(k:Run (f v) K->G)(h:Run ((atI xs 0).bind f) K):G:=zxo (i:=0) hv (Int.le_refl 0) k h
theorem zxm{α:Type}{e:Option α}{v:α}{f:α->Option ρ}(hv:e=some v)(k:Run (f v) K->G)(h:Run (e.bind f) K):G:=by subst hv;exact k h
theorem zzl{α:Type}{e:Option α}{S:α->Prop}[Ok e S]{f:α->Option ρ}(k:∀v,e=some v->S v->Run (f v) K->G)(h:Run (e.bind f) K):G:=by
 obtain⟨r,e1,hk⟩:=h
 obtain⟨v,e2,e3⟩:=z1n e1
 exact k v e2 (Ok.ok v e2) ⟨r,e3,hk⟩
theorem zCf{p:Prop}[Decidable p]{x y:Option ρ}(k:(p=True)->Run x K->G)(k2:(p=False)->Run y K->G)(h:Run (if p then x else y) K):G:=by
 by_cases c:p
 · rw[if_pos c] at h;exact k (eq_true c) h
 · rw[if_neg c] at h;exact k2 (eq_false c) h
theorem p_0{α:Type}{xs:List α}{f:α->Option ρ}(k:∀v,0<xs.length->xs≠ []->xs[0]? =some v->(∀hh:0<xs.length,xs[0]'hh=v)->Run (f v) K->G)(h:Run ((atI xs 0).bind f) K):G:=by
 obtain⟨r,e,hk⟩:=h
 obtain⟨v,⟨b,c,d,d2⟩,e⟩:=zw3 (i:=0) e
 exact k v b (ZJ.1 b) d d2 ⟨r,e,hk⟩
theorem zB4{α:Type}{xs:List α}{i:Nat}{f:α->Option ρ}(k:∀v,(OfNat.ofNat i:Nat)<xs.length->xs≠ []->xs[(OfNat.ofNat i:Nat)]? =some v->(∀hh:(OfNat.ofNat i:Nat)<xs.length,xs[(OfNat.ofNat i:Nat)]'hh=v)->Run (f v) K->G)(h:Run ((atI xs (OfNat.ofNat i:Int)).bind f) K):G:=by
 obtain⟨r,e,hk⟩:=h
 obtain⟨v,⟨b,c,d,d2⟩,e⟩:=zw3 (i:=i) e
 exact k v b (ZJ.1 (YS (Yw _) b)) d d2 ⟨r,e,hk⟩
class IsS(α:Type):Prop
theorem zBb{α:Type}[IsS α]{xs:List α}{i:Int}{f:α->Option ρ}(k:∀v,0<=i->i<xs.length->i.toNat+1<=xs.length->xs[i.toNat]? =some v->(∀m,i.toNat*m+m<=xs.length*m)->(∀(g:α->List T) (m:Nat),(∀x,(g x).length=m)->((xs.flatMap g).drop (i.toNat*m)).take m=g v)->
 (∀(g:α->List T) (m j:Nat),(∀x,(g x).length=m)->j<m->(xs.flatMap g)[i.toNat*m+j]? =(g v)[j]?)->(∀(g:α->List T) (m:Nat),(∀x,(g x).length=m)->0<m->(xs.flatMap g)[i.toNat*m]? =(g v)[0]?)->Run (f v) K->G) (h:Run ((atI xs i).bind f) K):G:=by
 obtain⟨r,e,hk⟩:=h
 obtain⟨v,⟨a,b,c,d,d2⟩,e⟩:=z6B e
 refine k v a b c d (fun m=> ?_) (fun g m hg=>(z8H hg d).2.1) (fun g m j hg hj=>(z8H hg d).2.2.1 j hj) (fun g m hg hj=>(z8H hg d).2.2.1 0 hj) ⟨r,e,hk⟩
 calc i.toNat*m+m=(i.toNat+1)*m:=by rw[Yf,Nat.one_mul]
  _<=_:=Ye _ c
theorem zhY{α:Type}{xs:List α}{v:α}(h:xs[0]? =some v)(g:α->List T):∃r,xs.flatMap g=g v++r:=by
 cases xs with
 |nil=>cases h
 |cons a l=>
  simp at h;subst h
  exact⟨l.flatMap g,ZG ..⟩
theorem zzn{α:Type}[IsS α]{xs:List α}{f:α->Option ρ}(k:∀v,0<xs.length->xs≠ []->xs[0]? =some v->(∀(g:α->List T) (j:Nat),j<(g v).length->(xs.flatMap g)[j]? =(g v)[j]?)->(∀(g:α->List T) (m:Nat),m=(g v).length->(xs.flatMap g).take m=g v)->Run (f v) K->G)(h:Run ((atI xs 0).bind f) K):G:=by
 obtain⟨r,e,hk⟩:=h
 obtain⟨v,⟨b,c,d,d2⟩,e⟩:=zw3 (i:=0) e
 refine k v b (ZJ.1 b) d (fun g j hj=> ?_) (fun g m hm=> ?_) ⟨r,e,hk⟩
 · obtain⟨q,hq⟩:=zhY d g
   rw[hq,ZN hj]
 · obtain⟨q,hq⟩:=zhY d g
   subst hm
   rw[hq,List.take_left]
theorem zBa{α:Type}{l:List α}{j:Nat}{a:α}{i:Int}{f:α->Option ρ}(k:∀v,0<=i->i<l.length->i.toNat+1<=l.length->(∀(g:α->T) hh,((l.map g).set j (g a))[i.toNat]'hh=g v)->(∀(g:α->T),((l.map g).set j (g a))[i.toNat]? =some (g v))->Run (f v) K->G)(h:Run ((atI (l.set j a) i).bind f) K):G:=by
 obtain⟨r,e,hk⟩:=h
 obtain⟨v,⟨x,b,c,d,d2⟩,e⟩:=z6B e
 rw[Xn] at b c
 have key:∀(g:α->T),((l.map g).set j (g a))[i.toNat]? =some (g v):=fun g=>by rw[←List.map_set,Zc,d];rfl
 exact k v x b c (fun g hh=>(Z6.1 (key g)).2) key ⟨r,e,hk⟩
theorem zBc{α:Type}{l:List α}{a:α}{i:Int}{f:α->Option ρ}(k:∀v,0<=i->i<(l.length:Int)+1->i.toNat<=l.length->(∀(g:α->T) hh,(l.map g++ [g a])[i.toNat]'hh=g v)->(∀g:α->T,(l.map g++ [g a])[i.toNat]? =some (g v))->Run (f v) K->G)(h:Run ((atI (l++ [a]) i).bind f) K):G:=by
 obtain⟨r,e,hk⟩:=h
 obtain⟨v,⟨x,b,c,d,d2⟩,e⟩:=z6B e
 rw[Zb,ZD] at b c
 have key:∀(g:α->T),(l.map g++ [g a])[i.toNat]? =some (g v):=fun g=>by
  have:=congrArg (Option.map g) d
  rwa [←Zc,Y3] at this
 exact k v x (by omega) (by omega) (fun g hh=>(Z6.1 (key g)).2) key ⟨r,e,hk⟩
theorem zv0{α:Type}{xs:List α}{l u:Int}{f:List α->Option ρ}(k:∀v:List α,0<=l->l<=u->u<=xs.length->0<=u->l<=(u.toNat:Int)->l<=max u 0->(∀g:α->T,((xs.map g).drop l.toNat).take (u.toNat-l.toNat)=v.map g)->(∀g:α->T,T.sl (u.toNat-l.toNat) (v.map g)=T.sl v.length (v.map g))->Run (f v) K->G)(h:Run ((z6G xs l u).bind f) K):G:=by
 obtain⟨r,e,hk⟩:=h
 obtain⟨v,e1,e2⟩:=z1n e
 obtain⟨a,b,c,-⟩:=z5F e1
 obtain⟨d,g⟩:=zcB a b
 exact k v a b c d g (by omega) (fun g=>zdH e1) (fun g=>zdG e1 g) ⟨r,e2,hk⟩
theorem zv1{α:Type}[IsS α]{xs:List α}{l u:Int}{f:List α->Option ρ}(k:∀v:List α,0<=l->l<=u->u<=xs.length->0<=u->l<=(u.toNat:Int)->l<=max u 0->(∀(g:α->List T) (m:Nat),(∀x,(g x).length=m)->((xs.flatMap g).drop (l.toNat*m)).take ((u.toNat-l.toNat)*m)=v.flatMap g)->(∀g:α->List T,T.sl (u.toNat-l.toNat) (v.flatMap g)=T.sl v.length (v.flatMap g))->Run (f v) K->G)(h:Run ((z6G xs l u).bind f) K):G:=by
 obtain⟨r,e,hk⟩:=h
 obtain⟨v,e1,e2⟩:=z1n e
 obtain⟨a,b,c,-⟩:=z5F e1
 obtain⟨d,g⟩:=zcB a b
 exact k v a b c d g (by omega) (fun g m hg=>zma hg e1) (fun g=>zpM e1 g) ⟨r,e2,hk⟩
theorem zuZ{s:ByteArray}{l u:Int}{f:ByteArray->Option ρ}(k:∀v,0<=l->l<=u->u<=s.size->0<=u->l<=(u.toNat:Int)->l<=max u 0->s.extract l.toNat u.toNat=v->Run (f v) K->G)(h:Run ((zs9 s l u).bind f) K):G:=by
 obtain⟨r,e,hk⟩:=h
 obtain⟨v,e1,e2⟩:=z1n e
 obtain⟨a,b,c,d⟩:=zm8 e1
 obtain⟨d1,g⟩:=zcB a b
 exact k v a b c d1 g (by omega) d.symm ⟨r,e2,hk⟩
theorem zxn{α β:Type}{e:Option (α⊕β)}{S:α⊕β->Prop}[Ok e S]{f:α⊕β->Option ρ}(k:∀v,S (.inl v)->Run (f (.inl v)) K->G)(k2:∀v,S (.inr v)->Run (f (.inr v)) K->G)(h:Run (e.bind f) K):G:=by
 obtain⟨r,e1,hk⟩:=h
 obtain⟨v,e2,e3⟩:=z1n e1
 cases v with
 |inl v=>exact k v (Ok.ok _ e2) ⟨r,e3,hk⟩
 |inr v=>exact k2 v (Ok.ok _ e2) ⟨r,e3,hk⟩
theorem zB6{α:Type}{m:Option α}{x y:Option ρ}(k:m.isSome=true->Run x K->G)(k2:m=none->Run y K->G)(h:Run (if m.isSome=true then x else y) K):G:=by
 cases m with
 |some v=>exact k rfl (by simpa using h)
 |none=>exact k2 rfl (by simpa using h)
theorem zB7{b:Bool}{x y:Option ρ}(k:b=true->Run x K->G)(k2:b=false->Run y K->G)(h:Run (if b=true then x else y) K):G:=by
 cases b with
 |true=>exact k rfl (by simpa using h)
 |false=>exact k2 rfl (by simpa using h)
theorem zB8{α:Type}{xs:List α}{x y:Option ρ}(k:((xs.length:Int)=0)=True->xs= []->Run x K->G)(k2:((xs.length:Int)=0)=False->xs≠ []->Run y K->G)(h:Run (if(xs.length:Int)=0 then x else y) K):G:=by
 by_cases c:(xs.length:Int)=0
 · rw[if_pos c] at h;exact k (eq_true c) (ZX (by omega)) h
 · rw[if_neg c] at h;exact k2 (eq_false c) (fun e=>c (by rw[e];rfl)) h
theorem zB5{α:Type}{xs:List α}{x y:Option ρ}(k:((0:Int)<(xs.length:Int))=True->xs≠ []->0<xs.length->Run x K->G)(k2:((0:Int)<(xs.length:Int))=False->xs= []->Run y K->G)(h:Run (if(0:Int)<(xs.length:Int) then x else y) K):G:=by
 by_cases c:(0:Int)<(xs.length:Int)
 · rw[if_pos c] at h;exact k (eq_true c) (fun e=>by subst e;simp at c) (by omega) h
 · rw[if_neg c] at h;exact k2 (eq_false c) (ZX (by omega)) h
theorem zzi{κ ν:Type}[DecidableEq κ]{q:κ}{m:List (κ×ν)}{f:ν->Option ρ}{y:Option ρ}(k:∀v,z7T q m=some v->zqm q m=some (q,v)->Run (f v) K->G)(k2:z7T q m=none->zqm q m=none->Run y K->G)(h:Run ((z7T q m).elim y f) K):G:=by
 have e:=zgo q m
 have hk:∀l:List (κ×ν),∀p,zqm q l=some p->p.1=q:=by
  intro l
  induction l with
  |nil=>intro p hp;cases hp
  |cons a l ih=>
   intro p hp
   simp only[zqm] at hp
   split at hp
   · rename_i ha;cases hp;exact ha
   · exact ih p hp
 cases hp:zqm q m with
 |none=>
  rw[hp] at e
  rw[←e] at h
  exact k2 e.symm hp h
 |some p=>
  rw[hp] at e
  rw[←e] at h
  have h1:=hk m p hp
  exact k p.2 e.symm (by rw[hp,←h1]) h
theorem zze{v:ρ}(k:K v->G)(h:Run (some v) K):G:=by
 obtain⟨r,e,hk⟩:=h
 cases e;exact k hk
theorem zzg(h:Run none K):G:=by
 obtain⟨r,e,hk⟩:=h
 cases e
theorem z4s{x:Option ρ}{r:ρ}(h:x=some r):Run x (·=r):=⟨r,h,rfl⟩
theorem zpK{α β:Type}{P:α×β->Prop}(h:∀a,∀b,P (a,b)):∀s:α×β,P s:=fun s=>h s.1 s.2
end
theorem zri{α β:Type}{P:α⊕β->Prop}(h1:∀a,P (.inl a))(h2:∀b,P (.inr b)):∀s:α⊕β,P s:=fun s=>by
 cases s with
 |inl a=>exact h1 a
 |inr b=>exact h2 b
theorem zsh{α:Type}{P:Option α->Prop}(h1:∀_:Unit,P none)(h2:∀a,P (some a)):∀s:Option α,P s:=fun s=>by
 cases s with
 |none=>exact h1 ()
 |some a=>exact h2 a
section
variable {P:Program} {C:z0e} {cf:Cfg} {LF:Nat} {c:Code} {fr:Fr} {Q:X->Fr->Prop} {σ ρ:Type} {K:ρ->Prop} {o:σ⊕ρ} {H:σ->Fr} {cn:Fr->Fr}
theorem zCe{s:σ}(h:Run (z0d s:Option (σ⊕ρ)) (RK o K))(e:cn fr=H s):zct H cn o Q .n fr:=by
 obtain⟨r,e1,e2⟩:=h
 have:=z1K e1
 exact z2t (e2.eq.symm.trans this) e
theorem zCc{i:Nat}{x:Option ρ}(k:Run x K->Q (.x i) fr)(h:Run (z0f x:Option (σ⊕ρ)) (RK o K)):zct H cn o Q (.x i) fr:=by
 obtain⟨r,e1,e2⟩:=h
 obtain⟨v,e3,rfl⟩:=z3R e1
 exact z5a (e2.eq.symm) (k ⟨v,e3,e2.k _ rfl⟩)
theorem zCd{x:Option ρ}(k:Run x K->Q .r fr)(h:Run (z0f x:Option (σ⊕ρ)) (RK o K)):zct H cn o Q .r fr:=by
 obtain⟨r,e1,e2⟩:=h
 obtain⟨v,e3,rfl⟩:=z3R e1
 exact zuP (e2.eq.symm) (k ⟨v,e3,e2.k _ rfl⟩)
end
def zz7{α:Type}(k:Nat)(v:α):List (Nat×α)->List (Nat×α)
 | []=> []
 |(j,u)::r=>if j=k then(j,v)::r else(j,u)::zz7 k v r
def zyy{α:Type}:List (Nat×α)->List (Nat×α)->List (Nat×α)
 | [],l=>l
 |(k,v)::r,l=>zyy r (zz7 k v l)
def zwT(x:List (Nat×E)×List (Nat×T))(fr:Fr):Fr:= {fr with tm:=zyy x.1 fr.tm,ob:=zyy x.2 fr.ob}
class Hd{σ ρ:Type}(b:σ->Option (σ⊕ρ)) where
 H:σ->List (Nat×E)×List (Nat×T)
variable{fr1:Fr}{i k m:Nat}{g:Option (Option Nat×Bool)}{rest t:SchT}
section
variable {P:Program} {C:z0e} {cf:Cfg} {LF:Nat} {c:Code} {fr fr0:Fr} {Q:X->Fr->Prop} {σ ρ:Type} {K:ρ->Prop}
theorem zxh{lv:List Nat}{body:σ->Option (σ⊕ρ)}[hd:Hd body]{s0:σ}(hk:zcK c=5)(hv:cf.live (zbx (lpC c))=some lv)(h:Run (z0h body LF s0) K)
 (hf:z9C (some lv) fr=fr0) (h0:fr0=zwT (Hd.H body s0) fr0) (round:∀s,∀o,Run (body s) (RK o K)->wpC P C cf LF (lpC c) (zwT (Hd.H body s) fr0) (zct (fun s=>zwT (Hd.H body s) fr0) (z9C (some lv)) o Q)):wpC P C cf LF c fr Q:=by
 obtain⟨r,e,hk2⟩:=h
 exact z6x e (fun s=>zwT (Hd.H body s) fr0) hk hv (hf.trans h0) fun s o h1 h2=>round s o ⟨o,h1,rfl,fun r' e'=>by rw[h2 r' e'];exact hk2⟩
end
@[simp] theorem zuu{α:Type}(c:Nat):∀l:List α,(l.map fun _=>c).sum=l.length*c
  | []=>by simp
  |x::l=>by simp only[Zn,List.sum_cons,zuu c l,Zr,Yf];omega
abbrev xI(x:Int):E:=.one (.t none (.sc (.int .i64 x)))
theorem zC9{a b:Fr}(h:zbl a b):zbl a b:=h
section
variable {P:Program} {C:z0e} {cf:Cfg} {LF:Nat} {c:Code} {fr:Fr}
theorem zBF{Q:X->Fr->Prop}{id:Nat}(h:z9a id Q (.x i) fr):z9a id Q (.x i) fr:=h
theorem zAL{Q:X->Fr->Prop}(h:wpC P C cf LF c fr Q):wpC P C cf LF c fr Q:=h
theorem zBt{wio:FuncId->Nat->Bool}{M:List Nat}{ops:Array Oper}{l:List (Nat×Nat)}{Q:Fr->Prop}(h:z9y P C wio M ops l fr Q):z9y P C wio M ops l fr Q:=h
theorem zAQ{l:List Oper}{Q:Fr->Prop}(h:∃fr2,z7i P l fr=some fr2/\Q fr2):∃fr2,z7i P l fr=some fr2/\Q fr2:=h
theorem tpN{Q:Fr->Prop}(e:t= .nil)(h:Q fr):z7s P C cf c i t fr Q:=by subst e;exact zft h
theorem tpA{a b:SchT}{Q:Fr->Prop}(e:t= .alt a b)(h:z7s P C cf c i a fr (fun x=>z7s P C cf c i b fr (fun y=>zbl x y)/\Q x)):z7s P C cf c i t fr Q:=by subst e;exact zfu h
theorem tpO{o:Oper}{Q:Fr->Prop}(e:t= .op k m rest)(ho:zhM c k=some o)(hg:o.guard=none)(hs:z0v P C cf.wio (cf.wr i).isEmpty (cf.wr i).contains fr o m=some fr1)(h:z7s P C cf c i rest fr1 Q):z7s P C cf c i t fr Q:=by subst e;exact zdx ho hg hs h
theorem tpT{o:Oper}{Q:Fr->Prop}(e:t= .op k m rest)(ho:zhM c k=some o)(hg:zwE c o=some g)(hv:zsZ g fr=some true)(hs:z0v P C cf.wio (cf.wr i).isEmpty (cf.wr i).contains fr o m=some fr1)(h:z7s P C cf c i rest fr1 Q):z7s P C cf c i t fr Q:=by subst e;exact zAO ho hg hv hs h
theorem tpF{o:Oper}{Q:Fr->Prop}(e:t= .op k m rest)(ho:zhM c k=some o)(hg:zwE c o=some g)(hv:zsZ g fr=some false)(hs:nrmO? (putF fr o.dst (.one (.k undef)))=some fr1)(h:z7s P C cf c i rest fr1 Q):z7s P C cf c i t fr Q:=by subst e;exact zAP ho hg hv hs h
theorem zBv{Q:Fr->Prop}(h:z7s P C cf c i t fr Q):z7s P C cf c i t fr Q:=h
end
theorem zlH{G:Prop}(g:G:=by
 repeat' (first
  |with_reducible refine z0a ?_
  |with_reducible refine z6g ?_
  |with_reducible refine z9N ?_
  |with_reducible refine z2f ?_
  |((with_reducible refine zBF ?_);first|refine z2n rfl ?_|refine zgH rfl ?_)
  |with_reducible refine zbi ?_
  |(revert h;with_reducible refine zCc fun h=> ?_)
  |(revert h;with_reducible refine zCd fun h=> ?_)
  |((with_reducible refine zCe h ?_);simp[*,zwT,zyy,zz7,Hd.H];done)
  |(revert h;first
   |with_reducible refine zzg
   |with_reducible refine zzj fun _ _ h=> ?_
   |with_reducible refine zzk fun _ _ h=> ?_
   |with_reducible refine zB3 fun _ _ _ h=> ?_
   |with_reducible refine zBM fun _ _ _ _ h=> ?_
   |with_reducible refine zB1 fun _ _ _ _ h=> ?_
   |with_reducible refine zzf fun _ _ _ _ h=> ?_
   |with_reducible refine zB9 fun _ h=> ?_
   |with_reducible refine zxo (by assumption) (by assumption) fun h=> ?_
   |with_reducible refine zzh (by assumption) fun h=> ?_
   |with_reducible refine zCh (by assumption) fun h=> ?_
   |with_reducible refine zxm (by assumption) fun h=> ?_
   |with_reducible refine zzn fun _ _ _ _ k k1 h=> ?_
   |with_reducible refine zBb fun _ _ _ _ _ _ k k1 k2 h=> ?_
   |with_reducible refine zBa fun _ _ _ _ k k1 h=> ?_
   |with_reducible refine zBc fun _ _ _ _ k k1 h=> ?_
   |with_reducible refine p_0 fun _ _ _ _ _ h=> ?_
   |with_reducible refine zB4 fun _ _ _ _ _ h=> ?_
   |with_reducible refine zB2 fun _ _ _ _ _ h=> ?_
   |with_reducible refine zCg fun _ _ _ _ _ _ h=> ?_
   |with_reducible refine zzm fun _ _ _ _ _ h=> ?_
   |((with_reducible refine zv1 fun _ _ _ _ _ _ _ k k2 h=> ?_);try simp at k;try simp only[Int.reduceToNat,Z2,YN] at k2)
   |((with_reducible refine zv0 fun _ _ _ _ _ _ _ k k2 h=> ?_);try simp at k;try simp only[Int.reduceToNat,Z2,YN] at k2)
   |((with_reducible refine zuZ fun _ _ _ _ _ _ _ k h=> ?_);try simp only[Int.reduceToNat,Z2] at k)
   |((with_reducible refine zxn (fun _ k h=> ?_) fun _ k h=> ?_)<;>(try simp at k))
   |((with_reducible refine zzl fun _ _ k h=> ?_);try simp at k))
  |((with_reducible refine zAL ?_);first
   |refine zq rfl ?_
   |refine zb rfl ?_
   |refine zxg rfl ?_
   |refine z5E rfl ?_
   |refine zs5 rfl ?_
   |refine z7S rfl ?_
   |refine zcx rfl ?_
   |refine zr rfl rfl rfl (by simp[*];with_reducible rfl) ?_
   |refine z9P rfl rfl rfl rfl ?_
   |refine zkx rfl rfl rfl rfl ?_
   |refine z7P rfl (by first|(simp[*];done)|fail) ?_
   |refine z7Q rfl (by first|(simp[*];done)|fail) ?_
   |refine zs6 rfl rfl (by simp[*];rfl) ?_
   |(refine zxh rfl rfl h (by simp[*];rfl) (by first|(simp[*,zwT,zyy,zz7,Hd.H];done)|fail) ?_;clear h;(repeat' (first|refine zpK fun _=> ?_|refine zri ?_ ?_|refine zsh ?_ ?_));all_goals (intro _ _ h;simp only[zwT,zyy,zz7,Hd.H,Nat.reduceEqDiff,if_true,if_false])))
  |((with_reducible refine zBt ?_);first
   |(refine z5R rfl rfl fun Q' hQ=> ?_;simp[*];refine hQ.out _ ?_;clear hQ;clear Q')
   |(refine zcy rfl rfl fun Q1 Q2 h1 h2=> ?_;simp[*,zc7];(first|refine h1.out ?_|refine h2.out ?_);clear h1 h2;clear Q1 Q2;intro Q' hQ;simp[*];refine hQ.out _ ?_;clear hQ;clear Q')
   |(refine z5b rfl fun Q' hQ=> ?_;simp[*];refine hQ.out _ ?_;clear hQ;clear Q'))
  |((with_reducible refine zBv ?_);first
   |refine tpN rfl ?_
   |refine tpA rfl ?_
   |refine tpO rfl rfl rfl (by simp[*,z0v,z0x];rfl) ?_
   |refine tpT rfl rfl rfl (by first|(simp[*];done)|fail) (by simp[*,z0v,z0x];rfl) ?_
   |refine tpF rfl rfl rfl (by first|(simp[*];done)|fail) (by simp[*];rfl) ?_)
  |((with_reducible refine zAQ ?_);refine zk3 rfl (by simp[*];rfl) ?_)
  |((with_reducible refine And.intro ?_ ?_);rotate_left)
  |((with_reducible refine zC9 ?_);simp[*,zbl];done)
  |(revert h;with_reducible refine zzi (fun _ _ _ h=> ?_) fun _ _ h=> ?_)
  |(revert h;first
   |with_reducible refine zB6 (fun _ h=> ?_) fun _ h=> ?_
   |with_reducible refine zB7 (fun _ h=> ?_) fun _ h=> ?_
   |with_reducible refine zB8 (fun _ _ h=> ?_) fun _ _ h=> ?_
   |with_reducible refine zB5 (fun _ _ _ h=> ?_) fun _ _ h=> ?_
   |with_reducible refine zCf (fun _ h=> ?_) fun _ h=> ?_
   |((with_reducible refine zze fun h=> ?_);cases h;simp[*];done)))):G:=g
end
section
open Go
structure Tape where
 l:List Int
 at_:Int
deriving Inhabited
structure DFA where
 letters:Int
 start:Int
 final:List Bool
 next:List (List Int)
deriving Inhabited
structure Imgs where
 sets:List Int
 class_:List Int
 height:List Int
 tiles:List (List Int)
 words:List ByteArray
 back:List ByteArray
deriving Inhabited
structure Dgm where
 sets:List Int
 next:List (List Int)
 below:List (List Bool)
deriving Inhabited
structure Hol where
 set:Int
 tiles:List Int
 words:List ByteArray
 perms:List (List Int)
deriving Inhabited
instance:IsS Hol:=⟨⟩
end
section
open Go
abbrev tI(l:List Int):T:=.sl l.length (l.map fun x=>.sc (.int .i64 x))
abbrev tO(l:List Int):T:=.os 1 l.length (l.map fun x=>.sc (.int .i64 x))
abbrev tR(l:List (List Int)):T:=.sl l.length (l.map fun x=>.sl x.length (x.map fun y=>.sc (.int .i64 y)))
abbrev tB(l:List Bool):T:=.sl l.length (l.map fun x=>.sc (.bool x))
abbrev tS(l:List ByteArray):T:=.sl l.length (l.map fun x=>.sc (.string x))
abbrev md(a b:Int):Int:=IntKind.i64.wrap (z0w .u64 (IntKind.u64.wrap (IntKind.i64.wrap (a+b))) 1)
attribute [simp] tI tO tR tB tS
end
section
attribute [simp] undef scB ext z1U z4c Function.comp_def zi5 zlG zeq zlz nav sub upd z5A z8w z2X z8l z2d zld z6F zzJ z7e zaA zei zmK onA kill z5C zhG zdz z3S zag zdL zy7 z6z zcL zcA zvm zbT zdZ setT moveT moveR mvA zpL znD plugL' zqr zmi z6L zzx zzw zwx zzT zzS nrmO? plugL putR zaC explode cellsE z6n rdV scE zvZ znI zBe zvY ztO zqg zq5 zq9 zq7 zq6 zqf zsQ zq4 ziH zqe zq8 zqa zqb zqc zqd zpx zpu zpv zpw zpy zoj zok zon zoo zrF zrG zrJ zom zrI zol zrH zpP zhK rdK zrK zvy zt2 zuC zuD List.map_flatMap znF zkD zoE z1x zzR unS zBi zBj zgB opE zyE zj3 zpY zpO zs1 zCk zba zo2 zuc znt zeM zAr zbA zsP zvQ zyo zaq zav zbm z9c zes zub zxE zzz z8N freezeKids zy6 zhB zoO zAF zgV zsM zau z8I za6 z6C z6A z8o zrk zhA zbl ztS zjf zBN zyx zse zsN zgM zjg zy4 zbh zjh zxU zva zoF zAB zmT zAd opn zgR z6N zng zyr ztX zAG z5n zh4 za9 zgt clB ioF zAX zAj zd3 zar putF opF zeW z7a zsZ zep zbo zbx onE ids zh1 zh0 za1 zql z9C z7i z8K z7b z6I z6J zz9 zrW zkf zbn zed zzq zpQ zkB ziG zsf zAu zzp zls zzo zdT zoq zzd ziG zlv zAq zAt zAp zAs zBu zaz z0x wrF zcD noM zAH frz1 zvB zy5 zcN zza ziB ziw zbS ziu zsW zeF zyT zvj zkQ zvi zyB zeG zeD zeC zcH zeE zg3 ziA ziv zmD ztd zt0 zrN zA9 ztG zAE ztH zlc zcI zc2 zmp zla zi4 zy9 zti Option.map_some zj0 ztg
end
section
def Mo(C0 C1:z0e):Prop:=∀f a o,C0 f a=some o->C1 f a=some o
section
variable {P:Program} {C0 C1:z0e}
theorem zeT(hMo:Mo C0 C1){wio:FuncId->Nat->Bool}{fr fr':Fr}{f:FuncId}{args:List E}{dst:Option Nat}(h:zd3 C0 wio fr f args dst=some fr'):Ev fun m=>zd3 C1 wio fr f args dst=some fr':=by
 unfold zd3 at h⊢
 split at h
 · cases h
 · rename_i ts deps io ha
   split at h
   · cases h
   · rename_i r outs hc
     refine⟨0,fun m _=> ?_⟩
     show(match C1 f ts with|none=>none|some (r,outs)=>_)=_
     rw[hMo _ _ _ hc]
     exact h
theorem zsj(hMo:Mo C0 C1){wio:FuncId->Nat->Bool}{fr fr':Fr}{o:Oper}(h:opF P C0 wio fr o=some fr'):Ev fun m=>opF P C1 wio fr o=some fr':=by
 unfold opF at h⊢
 split at h
 · exact .pure fun _=>h
 · split at h
   · exact zeT hMo h
   · cases h
 · exact .pure fun _=>h
 · exact .pure fun _=>h
 · exact .pure fun _=>h
theorem zoD(hMo:Mo C0 C1){wio:FuncId->Nat->Bool}{fr fr':Fr}{o:Oper}(h:zbo P C0 wio fr o=some fr'):Ev fun m=>zbo P C1 wio fr o=some fr':=by
 unfold zbo at h⊢
 split at h
 · split at h
   · split at h
     · exact zeT hMo h
     · cases h
   · cases h
 · exact .pure fun _=>h
theorem zwe(hMo:Mo C0 C1){wio:FuncId->Nat->Bool}{M:Nat->Bool}{fr fr':Fr}{o:Oper}(h:wrF P C0 wio M fr o=some fr'):Ev fun m=>wrF P C1 wio M fr o=some fr':=by
 unfold wrF at h⊢
 split at h
 · split at h
   · cases h
   · split at h
     · exact zeT hMo h
     · split at h
       · rename_i hM
         simp only[hM,if_true]
         exact zeT hMo h
       · cases h
     · cases h
 · exact .pure fun _=>h
 · exact .pure fun _=>h
 · exact .pure fun _=>h
 · cases h
theorem zm7(hMo:Mo C0 C1){wio:FuncId->Nat->Bool}{ops:Array Oper}:∀ {l:List Oper} {fr fr':Fr},zep P C0 wio ops l fr=some fr'->Ev fun m=>zep P C1 wio ops l fr=some fr'
 | [],fr,fr',h=>.pure fun _=>h
 |o::rest,fr,fr',h=>by
  simp only[zep] at h⊢
  split at h
  · cases h
  · split at h
    · rename_i fr1 h1
      exact(zsj hMo h1).both (zm7 hMo h) fun m a1 a2=>by rw[a1];exact a2
    · cases h
  · split at h
    · rename_i fr1 h1
      exact(zm7 hMo h)
    · cases h
theorem zeP(hMo:Mo C0 C1){wio:FuncId->Nat->Bool}{same:Bool}{M:Nat->Bool}{ops:Array Oper}:∀ {l:List (Nat×Oper×Nat)} {fr fr':Fr},zaz P C0 wio same M ops l fr=some fr'->Ev fun m=>zaz P C1 wio same M ops l fr=some fr'
 | [],fr,fr',h=>.pure fun _=>h
 |(k,o,mk)::rest,fr,fr',h=>by
  simp only[zaz] at h⊢
  split at h
  · cases h
  · split at h
    · exact zeP hMo h
    · cases h
  · split at h
    · rename_i hm
      simp only[if_pos hm]
      split at h
      · split at h
        · exact zeP hMo h
        · cases h
      · cases h
    · rename_i hm
      simp only[if_neg hm]
      split at h
      · rename_i fr1 h1
        have h2:Ev fun m=>(if mk=2 then opF P C1 wio fr o else if same=true then zbo P C1 wio fr o else wrF P C1 wio M fr o)=some fr1:=by
         by_cases e:mk=2
         · simp only[if_pos e] at h1⊢;exact zsj hMo h1
         · simp only[if_neg e] at h1⊢
           by_cases e2:same=true
           · simp only[if_pos e2] at h1⊢;exact zoD hMo h1
           · simp only[if_neg e2] at h1⊢;exact zwe hMo h1
        exact h2.both (zeP hMo h) fun m a1 a2=>by rw[a1];exact a2
      · cases h
theorem zbf(hMo:Mo C0 C1){wio:FuncId->Nat->Bool}{same:Bool}{M:Nat->Bool}{ops:Array Oper}:∀ {l:SchT} {fr fr':Fr},z7d P C0 wio same M ops l fr=some fr'->Ev fun m=>z7d P C1 wio same M ops l fr=some fr'
 | .nil,fr,fr',h=>.pure fun _=>h
 | .alt x y,fr,fr',h=>by
   simp only[z7d] at h⊢
   split at h
   · rename_i f1 f2 h1 h2
     obtain⟨rfl,hs⟩:=zdI h
     exact(zbf hMo h1).both (zbf hMo h2) fun m a1 a2=>by rw[a1,a2];exact zeA hs
   · cases h
 | .op k mk rest,fr,fr',h=>by
   simp only[z7d] at h⊢
   split at h
   · cases h
   rename_i o ho
   try simp only[ho]
   split at h
   · cases h
   · split at h
     · exact zbf hMo h
     · cases h
   · split at h
     · rename_i hm
       simp only[if_pos hm]
       split at h
       · split at h
         · exact zbf hMo h
         · cases h
       · cases h
     · rename_i hm
       simp only[if_neg hm]
       split at h
       · rename_i fr1 h1
         have h2:Ev fun m=>(if mk=2 then opF P C1 wio fr o else if same=true then zbo P C1 wio fr o else wrF P C1 wio M fr o)=some fr1:=by
          by_cases e:mk=2
          · simp only[if_pos e] at h1⊢;exact zsj hMo h1
          · simp only[if_neg e] at h1⊢
            by_cases e2:same=true
            · simp only[if_pos e2] at h1⊢;exact zoD hMo h1
            · simp only[if_neg e2] at h1⊢;exact zwe hMo h1
         exact h2.both (zbf hMo h) fun m a1 a2=>by rw[a1];exact a2
       · cases h
theorem zqu(hMo:Mo C0 C1){c:Cfg}{id:Nat}{ops:Array Oper}{fr fr':Fr}(h:z9f P C0 c id ops fr=some fr'):Ev fun m=>z9f P C1 c id ops fr=some fr':=by
 unfold z9f at h⊢
 split at h
 · exact zbf hMo h
 · split at h
   · exact zeP hMo h
   · cases h
theorem znX(hMo:Mo C0 C1){B:z0e->Fr->Option (X×Fr)}{cn:Fr->Fr}(hB:∀fr o,B C0 fr=some o->Ev fun m=>B C1 fr=some o):∀ {n:Nat} {fr:Fr} {o:X×Fr},zcP (B C0) cn n fr=some o->Ev fun m=>zcP (B C1) cn n fr=some o
 |0,fr,o,h=>by cases h
 |n+1,fr,o,h=>by
  simp only[zcP] at h⊢
  split at h
  · rename_i fr1 h1
    exact(hB _ _ h1).both (znX hMo hB h) fun m a1 a2=>by rw[a1];exact a2
  · rename_i x fr1 hne h1
    refine(hB _ _ h1).imp fun m a1=> ?_
    rw[a1]
    cases x with
    |n=>exact absurd rfl hne
    |x i=>exact h
    |r=>exact h
  · cases h
theorem zj5(hMo:Mo C0 C1){c:Cfg}{LF:Nat}:∀(b:Code) {fr:Fr} {o:X×Fr},z2E P C0 c LF b fr=some o->Ev fun m=>z2E P C1 c LF b fr=some o:=by
 intro b
 induction b with
 |skip=>intro fr o h;exact .pure fun _=>h
 |label l=>intro fr o h;exact .pure fun _=>h
 |exit id=>intro fr o h;exact .pure fun _=>h
 |ret=>intro fr o h;exact .pure fun _=>h
 |goto l=>intro fr o h;cases h
 |scope c ih=>intro fr o h;simp only[z2E] at h⊢;exact ih h
 |refuse s=>intro fr o h;cases h
 |rangeFunc=>intro fr o h;cases h
 |region id ops draw=>
  intro fr o h
  simp only[z2E] at h⊢
  split at h
  · rename_i hd
    simp only[hd,if_true]
    split at h
    · rename_i fr1 h1
      exact(zqu hMo h1).imp fun m a1=>by rw[a1];exact h
    · cases h
  · rename_i hd
    simp only[hd,ZZ,if_false]
    split at h
    · rename_i fr1 h1
      exact(zm7 hMo h1).imp fun m a1=>by rw[a1];exact h
    · cases h
 |seq a b ih1 ih2=>
  intro fr o h
  simp only[z2E] at h⊢
  split at h
  · rename_i fr1 h1
    exact(ih1 h1).both (ih2 h) fun m a1 a2=>by rw[a1];exact a2
  · rename_i hne
    refine(ih1 h).imp fun m a1=> ?_
    rw[a1]
    obtain⟨x,fr1⟩:=o
    cases x with
    |n=>exact absurd h (hne _)
    |x i=>rfl
    |r=>rfl
 |cond c x y ih1 ih2=>
  intro fr o h
  simp only[z2E] at h⊢
  split at h
  · exact ih1 h
  · exact ih2 h
  · cases h
 |block id c ih=>
  intro fr o h
  simp only[z2E] at h⊢
  split at h
  · rename_i i fr1 h1
    exact(ih h1).imp fun m a1=>by rw[a1];exact h
  · rename_i hne
    refine(ih h).imp fun m a1=> ?_
    rw[a1]
    obtain⟨x,fr1⟩:=o
    cases x with
    |n=>rfl
    |x i=>exact absurd h (hne _ _)
    |r=>rfl
 |loop b ih=>
  intro fr o h
  simp only[z2E] at h⊢
  exact znX hMo (B:=fun C fr=>z2E P C c LF b fr) (fun fr o h=>ih h) h
theorem zxa(hMo:Mo C0 C1){c:Cfg}{LF:Nat}{fn:Func}{args:List T}{o:T×List T}(h:zjl P C0 c LF fn args=some o):Ev fun m=>zjl P C1 c LF fn args=some o:=by
 unfold zjl at h⊢
 split at h
 · rename_i hc
   simp only[if_pos hc]
   split at h
   · cases h
   · rename_i b hb
     split at h
     · rename_i fr h1
       exact(zj5 hMo _ h1).imp fun m a1=>by rw[a1];exact h
     · rename_i fr h1
       exact(zj5 hMo _ h1).imp fun m a1=>by rw[a1];exact h
     · cases h
 · cases h
end
class XMo(X:z0e->z0e):Prop where
 mo:∀ {C D:z0e},Mo C D->Mo (X C) (X D)
instance{x:z0e}:XMo (fun _=>x):=⟨fun _=>fun _ _ _ h=>h⟩
theorem zxC{D:z0e}:Mo (fun _ _=>none) D:=fun _ _ _ h=>by cases h
def tab:List (FuncId×List T×T×List T)->z0e
 | []=>fun _ _=>none
 |(g,b,r,os)::l=>fun f a=>if(Nat.beq g f&&zmG b a)=true then some (r,os) else tab l f a
theorem zwj{C:z0e}:∀ {l:List (FuncId×List T×T×List T)},(∀x∈l,C x.1 x.2.1=some x.2.2)->Mo (tab l) C
 | [],_=>fun f a o h=>by cases h
 |(g,b,r,os)::l,hl=>fun f a o h=>by
  simp only[tab] at h
  split at h
  · rename_i hc
    simp only[Z5] at hc
    cases h
    have:=hl _ (Zv ..)
    rw[←ZV hc.1,←z8J hc.2]
    exact this
  · exact zwj (fun x hx=>hl x (Zl _ hx)) f a o h
noncomputable def zkP(P:Program)(X:z0e->z0e)(cf:FuncId->Option Cfg)(S:z0e):Nat->z0e
 |0=>S
 |n+1=>fun f a=>match S f a with
  |some o=>some o
  |none=>match cf f with
   |some c=>(match P.funcs[f]? with|some fn=>zjl P (zkP P X cf S n) c LFm fn a|none=>none)
   |none=>X (fun _ _=>none) f a
theorem zkO{P:Program}{X:z0e->z0e}[hx:XMo X]{cf:FuncId->Option Cfg}{S:z0e}(hS:Mo S (Lim P X cf)):∀n,Mo (zkP P X cf S n) (Lim P X cf)
 |0=>hS
 |n+1=>fun f a o h=>by
  simp only[zkP] at h
  split at h
  · rename_i o' ho
    cases h
    exact hS f a o ho
  · split at h
    · rename_i c hc
      split at h
      · rename_i fn hfn
        obtain⟨k,hk⟩:=zxa (zkO hS n) h
        exact zsC hc hfn (hk k (Z8 _))
      · cases h
    · rename_i hc
      exact znV hc ⟨0,fun m _=>hx.mo zxC f a o h⟩
theorem zxP{P:Program}{X:z0e->z0e}[XMo X]{cf:FuncId->Option Cfg}(l:List (FuncId×List T×T×List T))(n:Nat){f:FuncId}{a:List T}{o:T×List T}(h:zkP P X cf (tab l) n f a=some o)(hl:∀x∈l,Lim P X cf x.1 x.2.1=some x.2.2):Lim P X cf f a=some o:=
 zkO (zwj hl) n f a o h
end
section
open Go
def zer:List T->Option (List Int)
 | []=>some []
 | .sc (.int .i64 x)::l=>(zer l).map (x:: ·)
 |_=>none
theorem z8B:∀xs:List Int,zer (xs.map fun x=>.sc (.int .i64 x))=some xs
 | []=>rfl
 |x::xs=>by simp[zer,z8B xs]
theorem z8C:∀ {cs:List T} {xs:List Int},zer cs=some xs->cs=xs.map fun x=>.sc (.int .i64 x)
 | [],xs,h=>by simp[zer] at h;subst h;rfl
 |c::cs,xs,h=>by
  unfold zer at h
  split at h
  · rename_i he;cases he
  · rename_i x l he
    cases he
    simp only[Z4] at h
    obtain⟨ys,hy,rfl⟩:=h
    simp[←z8C hy]
  · cases h
def szN(s:Nat):Nat:=(List.range 7).countP fun q=>s.testBit q
def zwN(p r:Nat):Bool:=decide (szN r<szN p)||(decide (szN p=szN r)&&decide (p<=r))
def leI(a b:Int):Bool:=zwN a.toNat b.toNat
def zvq(x:Int):List Int->List Int
 | []=> [x]
 |y::l=>if leI x y=true then x::y::l else y::zvq x l
def zcp:List Int->List Int
 | []=> []
 |x::l=>zvq x (zcp l)
def zlM(xs:List Int):Option (List Int):=if xs≠ []/\xs.length<4611686018427387904/\xs.all (fun x=>decide (0<=x/\x<128))=true then some (zcp xs) else none
def zud(fn:FuncId)(args:List T):Option (T×List T):=match args with
 | [.os 1 n cs,.sc (.func (.func f) fs gs)]=>if f=fn/\fs.isEmpty/\gs.isEmpty then(match zer cs with|some xs=>if xs.length=n then(zlM xs).map fun ys=>(.tup [],[.os 1 ys.length (ys.map fun x=>.sc (.int .i64 x)),.dead]) else none|none=>none) else none
 |_=>none
def zeo(x:List Int):T:=.sl x.length (x.map fun z=>.sc (.int .i64 z))
def zm5:List T->Option (List (List Int))
 | []=>some []
 | .sl n cs::l=>(match zer cs with|some x=>if x.length=n then(zm5 l).map (x:: ·) else none|none=>none)
 |_=>none
theorem zkn:∀xs:List (List Int),zm5 (xs.map zeo)=some xs
 | []=>rfl
 |x::xs=>by simp[zeo,zm5,z8B,zkn xs]
theorem zko:∀ {cs:List T} {xs:List (List Int)},zm5 cs=some xs->cs=xs.map zeo
 | [],xs,h=>by simp[zm5] at h;subst h;rfl
 |c::cs,xs,h=>by
  unfold zm5 at h
  split at h
  · rename_i he;cases he
  · rename_i n es l he
    cases he
    split at h
    case h_2=>cases h
    rename_i x hx
    split at h
    case isFalse=>cases h
    rename_i hn
    simp only[Z4] at h
    obtain⟨ys,hy,rfl⟩:=h
    subst hn
    rw[z8C hx,zko hy,Zn,zeo]
  · cases h
def zxW(x:List Int):List (List Int)->List (List Int)
 | []=> [x]
 |y::l=>if z8M x y<=0 then x::y::l else y::zxW x l
def z9q:List (List Int)->List (List Int)
 | []=> []
 |x::l=>zxW x (z9q l)
def zjz(xs:List (List Int)):Option (List (List Int)):=if xs≠ []/\xs.length<4611686018427387904 then some (z9q xs) else none
def zue(fn:FuncId)(args:List T):Option (T×List T):=match args with
 | [.os 1 n cs,.sc (.func (.func f) fs gs)]=>if f=fn/\fs.isEmpty/\gs.isEmpty then(match zm5 cs with|some xs=>if xs.length=n then(zjz xs).map fun ys=>(.tup [],[.os 1 ys.length (ys.map zeo),.dead]) else none|none=>none) else none
 |_=>none
def z9Z(xs:List Int):Option (List Int):=if xs≠ []/\xs.length<4611686018427387904 then some (xs.mergeSort fun x y=>decide (x<=y)) else none
def zn1(args:List T):Option (T×List T):=match args with
 | [.os 1 n cs]=>(match zer cs with|some xs=>if xs.length=n then(z9Z xs).map fun ys=>(.tup [],[.os 1 ys.length (ys.map fun x=>.sc (.int .i64 x))]) else none|none=>none)
 |_=>none
def zbq(xs:List Int):Option (List Int):=if xs.length*8<=140737488355328 then some xs else none
def zn3(args:List T):Option (T×List T):=match args with
 | [.sl n cs]=>(match zer cs with|some xs=>if xs.length=n then(zbq xs).map fun ys=>(.os 1 ys.length (ys.map fun x=>.sc (.int .i64 x)),[.dead]) else none|none=>none)
 |_=>none
def tzN(s:Nat):Nat:=(List.range 7).findIdx fun q=>s.testBit q
def vTz(x:Int):Option Int:=if 0<x/\x<128 then some ((tzN x.toNat:Nat):Int) else none
def xTz(args:List T):Option (T×List T):=match args with
 | [.sc (.int .u64 x)]=>(vTz x).map fun r=>(.sc (.int .i64 r),[.dead])
 |_=>none
def xtC:z0e:=fun f args=>if f=102 then xTz args else if f=175 then zud 176 args else if f=100 then zue 101 args else if f=237 then zn1 args else if f=104 then zn3 args else none
def z4D(r:List Int×T):List T:= [zeo r.1,r.2]
def zee:List T->Option (List (List Int×T))
 | []=>some []
 | .sl n cs:: .sl m ds::l=>(match zer cs with|some x=>if x.length=n then(zee l).map ((x,.sl m ds):: ·) else none|none=>none)
 |_=>none
theorem zhJ:∀ {cs:List T} {xs:List (List Int×T)},zee cs=some xs->cs=xs.flatMap z4D/\ ∀r∈xs,∃m ds,r.2= .sl m ds
 | [],xs,h=>by simp[zee] at h;subst h;exact⟨rfl,fun r hr=>by cases hr⟩
 | [c],xs,h=>by cases c<;>simp[zee] at h
 |c::d::l,xs,h=>by
  unfold zee at h
  split at h
  · rename_i he;cases he
  · rename_i n cs m ds l' he
    cases he
    split at h
    case h_2=>cases h
    rename_i x hx
    split at h
    case isFalse=>cases h
    rename_i hn
    rw[Z4] at h
    obtain⟨ys,hy,rfl⟩:=h
    obtain⟨e1,e2⟩:=zhJ hy
    refine⟨?_,fun r hr=> ?_⟩
    · rw[ZG,←e1,z4D,zeo,z8C hx];subst hn;simp
    · rcases Zw.1 hr with rfl|hr
      · exact⟨_,_,rfl⟩
      · exact e2 r hr
  · cases h
theorem zfU:∀(xs:List (List Int×T)),(∀r∈xs,∃m ds,r.2= .sl m ds)->zee (xs.flatMap z4D)=some xs
 | [],_=>rfl
 |r::xs,h=>by
  obtain⟨p,t⟩:=r
  obtain⟨m,ds,e⟩:=h _ (Zv ..)
  simp only at e
  subst e
  rw[ZG]
  simp only[z4D,zeo,ZM,Y7,zee,z8B,Zg,if_true]
  rw[zfU xs fun r hr=>h r (Zl _ hr)];rfl
def zu7(x:List Int×T):List (List Int×T)->List (List Int×T)
 | []=> [x]
 |y::l=>if za2 x.1 y.1<0 then x::y::l else y::zu7 x l
def z4X:List (List Int×T)->List (List Int×T)
 | []=> []
 |x::l=>zu7 x (z4X l)
def zjq(fn:FuncId)(args:List T):Option (T×List T):=match args with
 | [.os 2 n cs,.sc (.func (.func f) fs gs)]=>if f=fn/\fs.isEmpty/\gs.isEmpty then(match zee cs with|some xs=>if xs.length=n/\xs.length<4611686018427387904/\(xs.map (·.1)).Nodup then some (.tup [],[.os 2 (z4X xs).length ((z4X xs).flatMap z4D),.dead]) else none|none=>none) else none
 |_=>none
def zuN:T->Option (List Int×T)
 | .agg [.sl n l,.sl m ds]=>(match zer l with|some p=>if p.length=n then some (p,.sl m ds) else none|none=>none)
 |_=>none
def zfM:List T->Option (List (List Int×T))
 | []=>some []
 |t::l=>(match zuN t,zfM l with|some r,some rs=>some (r::rs)|_,_=>none)
theorem zrV{t:T}{r:List Int×T}(h:zuN t=some r):t= .agg (z4D r)/\ ∃m ds,r.2= .sl m ds:=by
 unfold zuN at h
 split at h
 · split at h
   · rename_i p hp
     split at h
     · rename_i hn
       cases h
       subst hn
       exact⟨by rw[z8C hp];simp[z4D,zeo],_,_,rfl⟩
     · cases h
   · cases h
 · cases h
theorem zhF:∀ {l:List T} {rs:List (List Int×T)},zfM l=some rs->l=rs.map (fun r=>.agg (z4D r))/\ ∀r∈rs,∃m ds,r.2= .sl m ds
 | [],rs,h=>by simp[zfM] at h;subst h;exact⟨rfl,fun r hr=>by cases hr⟩
 |t::l,rs,h=>by
  rw[zfM] at h
  split at h
  · rename_i r rs' h1 h2
    cases h
    obtain⟨a1,a2⟩:=zrV h1
    obtain⟨b1,b2⟩:=zhF h2
    refine⟨by rw[a1,b1];rfl,fun q hq=> ?_⟩
    rcases Zw.1 hq with rfl|hq
    · exact a2
    · exact b2 q hq
  · cases h
noncomputable def zuY(c:Code):Code:=.seq (zjk c) (.seq (zjk (zd7 c)) (.seq (zjk (zd7 (zd7 c))) (zjk (zd7 (zd7 (zd7 c))))))
noncomputable def zh3:Code:=match Tryz.f50.body with|some c=>c|none=>.skip
noncomputable def cfRw:Cfg:= {wio:=fun f i=>(f==105&&(i==0))||(f==999999&&(i==0))||(f==777781&&(i==8)),live:=fun r=>if r=3 then some [0,5,20,21,22] else if r=7 then some [0,5,7,8,20,21,22,27,28] else if r=16 then some [0,5,7,8,9,10,13,20,21,22,27,28,52,53,54] else if r=25 then some [16,77] else none,dr:=fun r=>if r=18 then some [(0,0),(1,0),(2,0),(3,0),(4,0),(5,0),(6,1),(7,2),(8,0),(9,2)] else none,fz:=fun r=>if r=20 then some [13] else if r=23 then some [5] else if r=999998 then some [] else none}
open Classical in
noncomputable def zjt(C:z0e)(args:List T):Option (T×List T):=
 match z2E Tryz.prog C cfRw LFm (zuY zh3) (z6J 89 args) with
 |some (.n,fr)=>(match z2X fr.tm 5,z2X fr.tm 16,z2d fr.ob 16 with
  | .one (.t none (.ms kk ks cs)),.one (.h 16 []),some (.os 2 0 [])=>(match zfM cs with
    |some rs=>if(rs.map (·.1)).Nodup/\rs.length*48<=140737488355328/\args.length<=89/\args.all (fun t=> !z6N t)=true/\fr.nt=89/\(∀r∈rs,z1U r.2=r.2) then some (.sl (z4X rs).length ((z4X rs).flatMap z4D),args.map fun _=>.dead) else none
    |none=>none)
  |_,_,_=>none)
 |_=>none
noncomputable def xtF(C:z0e):z0e:=fun f args=>if f=105 then zjq 106 args else if f=50 then zjt C args else xtC f args
instance:XMo xtF:=⟨fun {C0 C1} h f a o=>by
 unfold xtF
 split
 · exact id
 split
 · unfold zjt
   intro h2
   split at h2
   · rename_i fr hf
     obtain⟨n,hn⟩:=zj5 h _ hf
     rw[hn n (Z8 _)]
     exact h2
   · cases h2
 · exact id⟩
end
section
open Go
set_option maxRecDepth 100000
@[simp] theorem ty3:z3e Tryz.prog 3=some ⟨.int .i64,1,8,(some [(.sc (.int .i64 0))])⟩:=by kernel_rfl
@[simp] theorem ty4:z3e Tryz.prog 4=some ⟨.bool,1,1,(some [(.sc (.bool false))])⟩:=by kernel_rfl
@[simp] theorem ty5:z3e Tryz.prog 5=some ⟨.int .u8,1,1,(some [(.sc (.int .u8 0))])⟩:=by kernel_rfl
@[simp] theorem ty9:z3e Tryz.prog 9=some ⟨.string,1,16,(some [(.sc (.string ByteArray.empty))])⟩:=by kernel_rfl
@[simp] theorem ty22:z3e Tryz.prog 22=some ⟨.slice 3,1,24,(some [(.os 1 0 [])])⟩:=by kernel_rfl
@[simp] theorem ty23:z3e Tryz.prog 23=some ⟨.pointer 68,1,8,(some [(.sc (.pointer none))])⟩:=by kernel_rfl
@[simp] theorem ty25:z3e Tryz.prog 25=some ⟨.slice 4,1,24,(some [(.os 1 0 [])])⟩:=by kernel_rfl
@[simp] theorem ty26:z3e Tryz.prog 26=some ⟨.slice 22,1,24,(some [(.os 1 0 [])])⟩:=by kernel_rfl
noncomputable def zCs:Array Field:=match Tryz.prog.underlying 28 with|some (.struct fs)=>fs|_=> #[]
@[simp] theorem ty28:z3e Tryz.prog 28=some ⟨.struct zCs,4,64,(some [(.sc (.int .i64 0)),(.sc (.int .i64 0)),(.os 1 0 []),(.os 1 0 [])])⟩:=by kernel_rfl
@[simp] theorem fi28_0:z1o Tryz.prog 28 0=some (0,1,false):=by kernel_rfl
@[simp] theorem fi28_1:z1o Tryz.prog 28 1=some (1,1,false):=by kernel_rfl
@[simp] theorem fi28_2:z1o Tryz.prog 28 2=some (2,1,false):=by kernel_rfl
@[simp] theorem fi28_3:z1o Tryz.prog 28 3=some (3,1,false):=by kernel_rfl
@[simp] theorem zC8:z7k Tryz.prog 28=(some [(.sc (.int .i64 0)),(.sc (.int .i64 0)),(.os 1 0 []),(.os 1 0 [])]):=by kernel_rfl
@[simp] theorem bs28(fr:Fr)(parts:List (Nat×Operand)):z7U Tryz.prog fr 28 parts=match z8I fr (z1o Tryz.prog 28) ([(.sc (.int .i64 0)),(.sc (.int .i64 0)),(.os 1 0 []),(.os 1 0 [])].map (A.t none)) parts with|some xs=>some (E.ag xs)|none=>none:=z2I zC8 fr parts
@[simp] theorem ty31:z3e Tryz.prog 31=some ⟨.slice 101,1,24,(some [(.os 2 0 [])])⟩:=by kernel_rfl
noncomputable def zCr:Array Field:=match Tryz.prog.underlying 33 with|some (.struct fs)=>fs|_=> #[]
@[simp] theorem ty33:z3e Tryz.prog 33=some ⟨.struct zCr,3,56,(some [(.sc (.int .i64 0)),(.os 1 0 []),(.os 2 0 [])])⟩:=by kernel_rfl
@[simp] theorem fi33_0:z1o Tryz.prog 33 0=some (0,1,false):=by kernel_rfl
@[simp] theorem fi33_1:z1o Tryz.prog 33 1=some (1,1,false):=by kernel_rfl
@[simp] theorem fi33_2:z1o Tryz.prog 33 2=some (2,1,false):=by kernel_rfl
@[simp] theorem zC7:z7k Tryz.prog 33=(some [(.sc (.int .i64 0)),(.os 1 0 []),(.os 2 0 [])]):=by kernel_rfl
@[simp] theorem bs33(fr:Fr)(parts:List (Nat×Operand)):z7U Tryz.prog fr 33 parts=match z8I fr (z1o Tryz.prog 33) ([(.sc (.int .i64 0)),(.os 1 0 []),(.os 2 0 [])].map (A.t none)) parts with|some xs=>some (E.ag xs)|none=>none:=z2I zC7 fr parts
@[simp] theorem ty34:z3e Tryz.prog 34=some ⟨.slice 80,1,24,(some [(.os 4 0 [])])⟩:=by kernel_rfl
noncomputable def zCq:Array Field:=match Tryz.prog.underlying 36 with|some (.struct fs)=>fs|_=> #[]
@[simp] theorem ty36:z3e Tryz.prog 36=some ⟨.struct zCq,7,152,(some [(.sc (.int .i64 0)),(.os 1 0 []),(.os 2 0 []),(.os 1 0 []),(.os 1 0 []),(.os 1 0 []),(.os 4 0 [])])⟩:=by kernel_rfl
@[simp] theorem fi36_0:z1o Tryz.prog 36 0=some (0,3,true):=by kernel_rfl
@[simp] theorem fi36_1:z1o Tryz.prog 36 1=some (3,1,false):=by kernel_rfl
@[simp] theorem fi36_2:z1o Tryz.prog 36 2=some (4,1,false):=by kernel_rfl
@[simp] theorem fi36_3:z1o Tryz.prog 36 3=some (5,1,false):=by kernel_rfl
@[simp] theorem fi36_4:z1o Tryz.prog 36 4=some (6,1,false):=by kernel_rfl
@[simp] theorem zC6:z7k Tryz.prog 36=(some [(.sc (.int .i64 0)),(.os 1 0 []),(.os 2 0 []),(.os 1 0 []),(.os 1 0 []),(.os 1 0 []),(.os 4 0 [])]):=by kernel_rfl
@[simp] theorem bs36(fr:Fr)(parts:List (Nat×Operand)):z7U Tryz.prog fr 36 parts=match z8I fr (z1o Tryz.prog 36) ([(.sc (.int .i64 0)),(.os 1 0 []),(.os 2 0 []),(.os 1 0 []),(.os 1 0 []),(.os 1 0 []),(.os 4 0 [])].map (A.t none)) parts with|some xs=>some (E.ag xs)|none=>none:=z2I zC6 fr parts
@[simp] theorem ty37:z3e Tryz.prog 37=some ⟨.int .i64,1,8,(some [(.sc (.int .i64 0))])⟩:=by kernel_rfl
noncomputable def zCp:Array Field:=match Tryz.prog.underlying 68 with|some (.struct fs)=>fs|_=> #[]
@[simp] theorem ty68:z3e Tryz.prog 68=some ⟨.struct zCp,2,32,(some [(.os 1 0 []),(.sc (.int .i64 0))])⟩:=by kernel_rfl
@[simp] theorem fi68_0:z1o Tryz.prog 68 0=some (0,1,false):=by kernel_rfl
@[simp] theorem fi68_1:z1o Tryz.prog 68 1=some (1,1,false):=by kernel_rfl
@[simp] theorem zC5:z7k Tryz.prog 68=(some [(.os 1 0 []),(.sc (.int .i64 0))]):=by kernel_rfl
@[simp] theorem bs68(fr:Fr)(parts:List (Nat×Operand)):z7U Tryz.prog fr 68 parts=match z8I fr (z1o Tryz.prog 68) ([(.os 1 0 []),(.sc (.int .i64 0))].map (A.t none)) parts with|some xs=>some (E.ag xs)|none=>none:=z2I zC5 fr parts
@[simp] theorem ty70:z3e Tryz.prog 70=some ⟨.slice 9,1,24,(some [(.os 1 0 [])])⟩:=by kernel_rfl
noncomputable def zCo:Array Field:=match Tryz.prog.underlying 72 with|some (.struct fs)=>fs|_=> #[]
@[simp] theorem ty72:z3e Tryz.prog 72=some ⟨.struct zCo,6,144,(some [(.os 1 0 []),(.os 1 0 []),(.os 1 0 []),(.os 1 0 []),(.os 1 0 []),(.os 1 0 [])])⟩:=by kernel_rfl
@[simp] theorem fi72_0:z1o Tryz.prog 72 0=some (0,1,false):=by kernel_rfl
@[simp] theorem fi72_1:z1o Tryz.prog 72 1=some (1,1,false):=by kernel_rfl
@[simp] theorem fi72_2:z1o Tryz.prog 72 2=some (2,1,false):=by kernel_rfl
@[simp] theorem fi72_3:z1o Tryz.prog 72 3=some (3,1,false):=by kernel_rfl
@[simp] theorem fi72_4:z1o Tryz.prog 72 4=some (4,1,false):=by kernel_rfl
@[simp] theorem fi72_5:z1o Tryz.prog 72 5=some (5,1,false):=by kernel_rfl
@[simp] theorem zC4:z7k Tryz.prog 72=(some [(.os 1 0 []),(.os 1 0 []),(.os 1 0 []),(.os 1 0 []),(.os 1 0 []),(.os 1 0 [])]):=by kernel_rfl
@[simp] theorem bs72(fr:Fr)(parts:List (Nat×Operand)):z7U Tryz.prog fr 72 parts=match z8I fr (z1o Tryz.prog 72) ([(.os 1 0 []),(.os 1 0 []),(.os 1 0 []),(.os 1 0 []),(.os 1 0 []),(.os 1 0 [])].map (A.t none)) parts with|some xs=>some (E.ag xs)|none=>none:=z2I zC4 fr parts
noncomputable def zCn:Array Field:=match Tryz.prog.underlying 74 with|some (.struct fs)=>fs|_=> #[]
@[simp] theorem ty74:z3e Tryz.prog 74=some ⟨.struct zCn,14,304,(some [(.sc (.int .i64 0)),(.sc (.int .i64 0)),(.os 1 0 []),(.os 1 0 []),(.os 1 0 []),(.os 1 0 []),(.os 1 0 []),(.os 1 0 []),(.os 1 0 []),(.os 1 0 []),(.os 1 0 []),(.os 1 0 []),(.os 1 0 []),(.os 1 0 [])])⟩:=by kernel_rfl
@[simp] theorem fi74_0:z1o Tryz.prog 74 0=some (0,4,true):=by kernel_rfl
@[simp] theorem fi74_1:z1o Tryz.prog 74 1=some (4,6,true):=by kernel_rfl
@[simp] theorem fi74_2:z1o Tryz.prog 74 2=some (10,1,false):=by kernel_rfl
@[simp] theorem fi74_3:z1o Tryz.prog 74 3=some (11,1,false):=by kernel_rfl
@[simp] theorem fi74_4:z1o Tryz.prog 74 4=some (12,1,false):=by kernel_rfl
@[simp] theorem fi74_5:z1o Tryz.prog 74 5=some (13,1,false):=by kernel_rfl
@[simp] theorem zC3:z7k Tryz.prog 74=(some [(.sc (.int .i64 0)),(.sc (.int .i64 0)),(.os 1 0 []),(.os 1 0 []),(.os 1 0 []),(.os 1 0 []),(.os 1 0 []),(.os 1 0 []),(.os 1 0 []),(.os 1 0 []),(.os 1 0 []),(.os 1 0 []),(.os 1 0 []),(.os 1 0 [])]):=by kernel_rfl
@[simp] theorem bs74(fr:Fr)(parts:List (Nat×Operand)):z7U Tryz.prog fr 74 parts=match z8I fr (z1o Tryz.prog 74) ([(.sc (.int .i64 0)),(.sc (.int .i64 0)),(.os 1 0 []),(.os 1 0 []),(.os 1 0 []),(.os 1 0 []),(.os 1 0 []),(.os 1 0 []),(.os 1 0 []),(.os 1 0 []),(.os 1 0 []),(.os 1 0 []),(.os 1 0 []),(.os 1 0 [])].map (A.t none)) parts with|some xs=>some (E.ag xs)|none=>none:=z2I zC3 fr parts
noncomputable def zCm:Array Field:=match Tryz.prog.underlying 80 with|some (.struct fs)=>fs|_=> #[]
@[simp] theorem ty80:z3e Tryz.prog 80=some ⟨.struct zCm,4,80,(some [(.sc (.int .i64 0)),(.os 1 0 []),(.os 1 0 []),(.os 1 0 [])])⟩:=by kernel_rfl
@[simp] theorem fi80_0:z1o Tryz.prog 80 0=some (0,1,false):=by kernel_rfl
@[simp] theorem fi80_1:z1o Tryz.prog 80 1=some (1,1,false):=by kernel_rfl
@[simp] theorem fi80_2:z1o Tryz.prog 80 2=some (2,1,false):=by kernel_rfl
@[simp] theorem fi80_3:z1o Tryz.prog 80 3=some (3,1,false):=by kernel_rfl
@[simp] theorem zC2:z7k Tryz.prog 80=(some [(.sc (.int .i64 0)),(.os 1 0 []),(.os 1 0 []),(.os 1 0 [])]):=by kernel_rfl
@[simp] theorem bs80(fr:Fr)(parts:List (Nat×Operand)):z7U Tryz.prog fr 80 parts=match z8I fr (z1o Tryz.prog 80) ([(.sc (.int .i64 0)),(.os 1 0 []),(.os 1 0 []),(.os 1 0 [])].map (A.t none)) parts with|some xs=>some (E.ag xs)|none=>none:=z2I zC2 fr parts
@[simp] theorem ty87:z3e Tryz.prog 87=some ⟨.map 3 3,1,8,(some [(.sc (.map none))])⟩:=by kernel_rfl
@[simp] theorem mt87:zcG Tryz.prog 87=some ((some .i64),3):=by kernel_rfl
@[simp] theorem zv87:zlC Tryz.prog 3=some (.int .i64 0):=by kernel_rfl
@[simp] theorem ty95:z3e Tryz.prog 95=some ⟨.int .u64,1,8,(some [(.sc (.int .u64 0))])⟩:=by kernel_rfl
@[simp] theorem ty96:z3e Tryz.prog 96=some ⟨.slice 26,1,24,(some [(.os 1 0 [])])⟩:=by kernel_rfl
noncomputable def zBr:Array Field:=match Tryz.prog.underlying 101 with|some (.struct fs)=>fs|_=> #[]
@[simp] theorem ty101:z3e Tryz.prog 101=some ⟨.struct zBr,2,48,(some [(.os 1 0 []),(.os 1 0 [])])⟩:=by kernel_rfl
@[simp] theorem fi101_0:z1o Tryz.prog 101 0=some (0,1,false):=by kernel_rfl
@[simp] theorem fi101_1:z1o Tryz.prog 101 1=some (1,1,false):=by kernel_rfl
@[simp] theorem zAV:z7k Tryz.prog 101=(some [(.os 1 0 []),(.os 1 0 [])]):=by kernel_rfl
@[simp] theorem bs101(fr:Fr)(parts:List (Nat×Operand)):z7U Tryz.prog fr 101 parts=match z8I fr (z1o Tryz.prog 101) ([(.os 1 0 []),(.os 1 0 [])].map (A.t none)) parts with|some xs=>some (E.ag xs)|none=>none:=z2I zAV fr parts
@[simp] theorem ty109:z3e Tryz.prog 109=some ⟨.slice 5,1,24,(some [(.os 1 0 [])])⟩:=by kernel_rfl
@[simp] theorem ty112:z3e Tryz.prog 112=some ⟨.slice 114,1,24,(some [(.os 4 0 [])])⟩:=by kernel_rfl
noncomputable def zBq:Array Field:=match Tryz.prog.underlying 114 with|some (.struct fs)=>fs|_=> #[]
@[simp] theorem ty114:z3e Tryz.prog 114=some ⟨.struct zBq,4,4,(some [(.sc (.bool false)),(.sc (.bool false)),(.sc (.bool false)),(.sc (.bool false))])⟩:=by kernel_rfl
@[simp] theorem fi114_0:z1o Tryz.prog 114 0=some (0,1,false):=by kernel_rfl
@[simp] theorem fi114_1:z1o Tryz.prog 114 1=some (1,1,false):=by kernel_rfl
@[simp] theorem fi114_2:z1o Tryz.prog 114 2=some (2,1,false):=by kernel_rfl
@[simp] theorem fi114_3:z1o Tryz.prog 114 3=some (3,1,false):=by kernel_rfl
@[simp] theorem zAU:z7k Tryz.prog 114=(some [(.sc (.bool false)),(.sc (.bool false)),(.sc (.bool false)),(.sc (.bool false))]):=by kernel_rfl
@[simp] theorem bs114(fr:Fr)(parts:List (Nat×Operand)):z7U Tryz.prog fr 114 parts=match z8I fr (z1o Tryz.prog 114) ([(.sc (.bool false)),(.sc (.bool false)),(.sc (.bool false)),(.sc (.bool false))].map (A.t none)) parts with|some xs=>some (E.ag xs)|none=>none:=z2I zAU fr parts
noncomputable def zBp:Array Field:=match Tryz.prog.underlying 124 with|some (.struct fs)=>fs|_=> #[]
@[simp] theorem ty124:z3e Tryz.prog 124=some ⟨.struct zBp,3,56,(some [(.sc (.int .i64 0)),(.os 1 0 []),(.os 2 0 [])])⟩:=by kernel_rfl
@[simp] theorem fi124_0:z1o Tryz.prog 124 0=some (0,3,true):=by kernel_rfl
@[simp] theorem zAT:z7k Tryz.prog 124=(some [(.sc (.int .i64 0)),(.os 1 0 []),(.os 2 0 [])]):=by kernel_rfl
@[simp] theorem bs124(fr:Fr)(parts:List (Nat×Operand)):z7U Tryz.prog fr 124 parts=match z8I fr (z1o Tryz.prog 124) ([(.sc (.int .i64 0)),(.os 1 0 []),(.os 2 0 [])].map (A.t none)) parts with|some xs=>some (E.ag xs)|none=>none:=z2I zAT fr parts
@[simp] theorem ty140:z3e Tryz.prog 140=some ⟨.pointer 74,1,8,(some [(.sc (.pointer none))])⟩:=by kernel_rfl
@[simp] theorem ty141:z3e Tryz.prog 141=some ⟨.map 9 4,1,8,(some [(.sc (.map none))])⟩:=by kernel_rfl
@[simp] theorem mt141:zcG Tryz.prog 141=some (none,4):=by kernel_rfl
@[simp] theorem zv141:zlC Tryz.prog 4=some (.bool false):=by kernel_rfl
@[simp] theorem ty145:z3e Tryz.prog 145=some ⟨.map 9 101,1,8,(some [(.sc (.map none))])⟩:=by kernel_rfl
@[simp] theorem mt145:zcG Tryz.prog 145=some (none,101):=by kernel_rfl
@[simp] theorem zv145:zlC Tryz.prog 101=some (.agg #[.slice none 0 0,.slice none 0 0]):=by kernel_rfl
@[simp] theorem ty160:z3e Tryz.prog 160=some ⟨.pointer 114,1,8,(some [(.sc (.pointer none))])⟩:=by kernel_rfl
@[simp] theorem ty161:z3e Tryz.prog 161=some ⟨.array 32 4,32,32,(some [(.sc (.bool false)),(.sc (.bool false)),(.sc (.bool false)),(.sc (.bool false)),(.sc (.bool false)),(.sc (.bool false)),(.sc (.bool false)),(.sc (.bool false)),(.sc (.bool false)),(.sc (.bool false)),(.sc (.bool false)),(.sc (.bool false)),(.sc (.bool false)),(.sc (.bool false)),(.sc (.bool false)),(.sc (.bool false)),(.sc (.bool false)),(.sc (.bool false)),(.sc (.bool false)),(.sc (.bool false)),(.sc (.bool false)),(.sc (.bool false)),(.sc (.bool false)),(.sc (.bool false)),(.sc (.bool false)),(.sc (.bool false)),(.sc (.bool false)),(.sc (.bool false)),(.sc (.bool false)),(.sc (.bool false)),(.sc (.bool false)),(.sc (.bool false))])⟩:=by kernel_rfl
@[simp] theorem ty163:z3e Tryz.prog 163=some ⟨.slice 25,1,24,(some [(.os 1 0 [])])⟩:=by kernel_rfl
noncomputable def zBo:Array Field:=match Tryz.prog.underlying 165 with|some (.struct fs)=>fs|_=> #[]
@[simp] theorem ty165:z3e Tryz.prog 165=some ⟨.struct zBo,3,72,(some [(.os 1 0 []),(.os 1 0 []),(.os 1 0 [])])⟩:=by kernel_rfl
@[simp] theorem fi165_0:z1o Tryz.prog 165 0=some (0,1,false):=by kernel_rfl
@[simp] theorem fi165_1:z1o Tryz.prog 165 1=some (1,1,false):=by kernel_rfl
@[simp] theorem fi165_2:z1o Tryz.prog 165 2=some (2,1,false):=by kernel_rfl
@[simp] theorem zAS:z7k Tryz.prog 165=(some [(.os 1 0 []),(.os 1 0 []),(.os 1 0 [])]):=by kernel_rfl
@[simp] theorem bs165(fr:Fr)(parts:List (Nat×Operand)):z7U Tryz.prog fr 165 parts=match z8I fr (z1o Tryz.prog 165) ([(.os 1 0 []),(.os 1 0 []),(.os 1 0 [])].map (A.t none)) parts with|some xs=>some (E.ag xs)|none=>none:=z2I zAS fr parts
@[simp] theorem ty181:z3e Tryz.prog 181=some ⟨.int .u32,1,4,(some [(.sc (.int .u32 0))])⟩:=by kernel_rfl
@[simp] theorem ty183:z3e Tryz.prog 183=some ⟨.int .u64,1,8,(some [(.sc (.int .u64 0))])⟩:=by kernel_rfl
@[simp] def z4n:Nat->List Nat:=fun _=> []
@[simp] def z0r:FuncId->Nat->Bool:=fun f i=>(f==999999&&(i==0))
@[simp] def z1k:Nat->Option (List Nat):=fun r=>none
@[simp] def zoW:FuncId->Nat->Bool:=fun f i=>(f==28&&(i==0))||(f==999999&&(i==0))
@[simp] def zhQ:Nat->Option (List Nat):=fun r=>if r=4 then some [0,1,12,13] else none
@[simp] def zoV:FuncId->Nat->Bool:=fun f i=>(f==136&&(i==0))||(f==999999&&(i==0))
@[simp] def zAi:Nat->List Nat:=fun r=>if r=7 then [0] else []
@[simp] def zui:FuncId->Nat->Bool:=fun f i=>(f==100&&(i==0))||(f==999999&&(i==0))
@[simp] def znU:Nat->Option (List Nat):=fun r=>if r=3 then some [3,9,10,11] else none
@[simp] def znT:Nat->Option (List Nat):=fun r=>if r=2 then some [0,1,7,8] else none
def cf7:Cfg:= {wio:=fun f i=>(f==28&&(i==0))||(f==13&&(i==0))||(f==14&&(i==0))||(f==22&&(i==0))||(f==32&&(i==0))||(f==33&&(i==0))||(f==31&&(i==0))||(f==999999&&(i==0))||(f==777777&&(i==15||i==16||i==25||i==26)),live:=fun r=>if r=16 then some [1,52,53,54] else none,dr:=fun r=>none}
@[simp] theorem kx7:cf7.wio=(fun f i=>(f==28&&(i==0))||(f==13&&(i==0))||(f==14&&(i==0))||(f==22&&(i==0))||(f==32&&(i==0))||(f==33&&(i==0))||(f==31&&(i==0))||(f==999999&&(i==0))||(f==777777&&(i==15||i==16||i==25||i==26)))/\cf7.live=(fun r=>if r=16 then some [1,52,53,54] else none)/\cf7.wr=z4n:=⟨rfl,rfl,rfl⟩
def cf12:Cfg:= {wio:=z0r,live:=z1k,dr:=fun r=>none}
@[simp] theorem kx12:cf12.wio=z0r/\cf12.live=z1k/\cf12.wr=z4n:=⟨rfl,rfl,rfl⟩
def cf14:Cfg:= {wio:=zoW,live:=z1k,dr:=fun r=>none}
@[simp] theorem kx14:cf14.wio=zoW/\cf14.live=z1k/\cf14.wr=z4n:=⟨rfl,rfl,rfl⟩
def cf15:Cfg:= {wio:=z0r,live:=fun r=>if r=10 then some [1,2,4,6,44,45,46] else if r=21 then some [1,2,4,6,11,12,70,71,72] else none,dr:=fun r=>if r=26 then some [(0,0),(2,0),(3,0),(4,0),(1,1),(5,0),(6,2),(7,0)] else none,fz:=fun r=>if r=7 then some [6] else if r=999998 then some [] else none,dt:=fun r=>if r=25 then some (.op 0 0 (.op 1 0 (.op 2 0 (.op 3 0 (.op 4 0 (.alt (.op 5 1 (.op 6 0 (.op 7 1 (.op 8 2 .nil)))) (.op 7 1 (.op 5 1 (.op 6 0 (.op 8 2 .nil)))))))))) else none}
@[simp] theorem kx15:cf15.wio=z0r/\cf15.live=(fun r=>if r=10 then some [1,2,4,6,44,45,46] else if r=21 then some [1,2,4,6,11,12,70,71,72] else none)/\cf15.wr=z4n:=⟨rfl,rfl,rfl⟩
def cf18:Cfg:= {wio:=fun f i=>(f==999999&&(i==0))||(f==777777&&(i==15||i==16||i==25||i==26)),live:=z1k,dr:=fun r=>none}
@[simp] theorem kx18:cf18.wio=(fun f i=>(f==999999&&(i==0))||(f==777777&&(i==15||i==16||i==25||i==26)))/\cf18.live=z1k/\cf18.wr=z4n:=⟨rfl,rfl,rfl⟩
def cf20:Cfg:= {wio:=z0r,live:=fun r=>if r=5 then some [2,6,23,24,25] else none,dr:=fun r=>none}
@[simp] theorem kx20:cf20.wio=z0r/\cf20.live=(fun r=>if r=5 then some [2,6,23,24,25] else none)/\cf20.wr=z4n:=⟨rfl,rfl,rfl⟩
def cf27:Cfg:= {wio:=z0r,live:=zhQ,dr:=fun r=>if r=6 then some [(0,0),(1,0),(2,0),(3,0),(4,0),(5,0),(6,0),(7,0),(8,0)] else none}
@[simp] theorem kx27:cf27.wio=z0r/\cf27.live=zhQ/\cf27.wr=z4n:=⟨rfl,rfl,rfl⟩
def cf28:Cfg:= {wio:=z0r,live:=z1k,dr:=fun r=>if r=1 then some [(0,0),(1,0),(2,0),(3,0),(4,0),(5,0),(6,0),(7,0),(8,0),(9,0)] else if r=4 then some [(0,0),(1,0),(2,0),(3,0),(4,0),(5,0),(6,0),(7,0),(8,0),(9,0),(10,0),(11,0),(12,1),(13,0)] else none}
@[simp] theorem kx28:cf28.wio=z0r/\cf28.live=z1k/\cf28.wr=z4n:=⟨rfl,rfl,rfl⟩
def cf30:Cfg:= {wio:=z0r,live:=z1k,dr:=fun r=>none}
@[simp] theorem kx30:cf30.wio=z0r/\cf30.live=z1k/\cf30.wr=z4n:=⟨rfl,rfl,rfl⟩
def cf31:Cfg:= {wio:=zoW,live:=fun r=>if r=5 then some [0,1,6,7,8,9] else if r=10 then some [0,1,6,7,8,9,10,11] else none,dr:=fun r=>if r=7 then some [(0,0),(1,0),(2,0),(3,1),(4,0),(5,1),(6,2),(7,0),(8,2)] else none,wr:=zAi}
@[simp] theorem kx31:cf31.wio=zoW/\cf31.live=(fun r=>if r=5 then some [0,1,6,7,8,9] else if r=10 then some [0,1,6,7,8,9,10,11] else none)/\cf31.wr=zAi:=⟨rfl,rfl,rfl⟩
def zjK:SchT:=.nil
def zjL:SchT:=.op 16 2 zjK
def zjM:SchT:=.op 15 0 zjL
def zjN:SchT:=.op 14 2 zjM
def zf9:SchT:=.op 12 2 zjN
def zfa:SchT:=.op 11 1 zf9
def zfb:SchT:=.op 13 3 zf9
def zai:SchT:=.op 6 2 zfb
def zfc:SchT:=.op 8 2 zfb
def zjO:SchT:=.op 10 1 zfa
def zfd:SchT:=.op 13 3 zfa
def zca:SchT:=.op 1 2 zai
def zaj:SchT:=.op 5 1 zai
def zcb:SchT:=.alt (.op 6 2 zfc) (.op 8 2 zai)
def zak:SchT:=.alt (.op 6 2 zfd) (.op 11 1 zai)
def zfe:SchT:=.alt (.op 8 2 zfd) (.op 11 1 zfc)
def zff:SchT:=.op 13 3 zjO
def zcc:SchT:=.alt (.op 1 2 zaj) (.op 5 1 zca)
def zfg:SchT:=.alt (.op 1 2 zcb) (.op 8 2 zca)
def zcd:SchT:=.alt (.op 1 2 zak) (.op 11 1 zca)
def zjP:SchT:=.op 4 0 zaj
def zce:SchT:=.alt (.op 5 1 zcb) (.op 8 2 zaj)
def zal:SchT:=.alt (.op 5 1 zak) (.op 11 1 zaj)
def zcf:SchT:=.alt (.op 6 2 zfe) (.alt (.op 8 2 zak) (.op 11 1 zcb))
def zcg:SchT:=.alt (.op 6 2 zff) (.op 10 1 zak)
def zjQ:SchT:=.alt (.op 8 2 zff) (.op 10 1 zfe)
def zjR:SchT:=.op 4 3 zcc
def zfh:SchT:=.alt (.op 1 2 zce) (.alt (.op 5 1 zfg) (.op 8 2 zcc))
def zch:SchT:=.alt (.op 1 2 zal) (.alt (.op 5 1 zcd) (.op 11 1 zcc))
def zfi:SchT:=.alt (.op 1 2 zcf) (.alt (.op 8 2 zcd) (.op 11 1 zfg))
def zfj:SchT:=.alt (.op 1 2 zcg) (.op 10 1 zcd)
def zci:SchT:=.op 3 1 zjP
def zjS:SchT:=.op 4 3 zce
def zjT:SchT:=.op 4 0 zal
def zcj:SchT:=.alt (.op 5 1 zcf) (.alt (.op 8 2 zal) (.op 11 1 zce))
def zck:SchT:=.alt (.op 5 1 zcg) (.op 10 1 zal)
def zfk:SchT:=.alt (.op 6 2 zjQ) (.alt (.op 8 2 zcg) (.op 10 1 zcf))
def zfl:SchT:=.alt (.op 1 2 zci) (.op 3 1 zjR)
def zjU:SchT:=.op 4 3 zfh
def zjV:SchT:=.op 4 3 zch
def zfm:SchT:=.alt (.op 1 2 zcj) (.alt (.op 5 1 zfi) (.alt (.op 8 2 zch) (.op 11 1 zfh)))
def zfn:SchT:=.alt (.op 1 2 zck) (.alt (.op 5 1 zfj) (.op 10 1 zch))
def zjW:SchT:=.alt (.op 1 2 zfk) (.alt (.op 8 2 zfj) (.op 10 1 zfi))
def zfo:SchT:=.alt (.op 3 1 zjS) (.op 8 2 zci)
def zcl:SchT:=.alt (.op 3 1 zjT) (.op 11 1 zci)
def zjX:SchT:=.op 4 3 zcj
def zjY:SchT:=.op 4 0 zck
def zfp:SchT:=.alt (.op 5 1 zfk) (.alt (.op 8 2 zck) (.op 10 1 zcj))
def zjZ:SchT:=.alt (.op 1 2 zfo) (.alt (.op 3 1 zjU) (.op 8 2 zfl))
def zfq:SchT:=.alt (.op 1 2 zcl) (.alt (.op 3 1 zjV) (.op 11 1 zfl))
def zk0:SchT:=.op 4 3 zfm
def zk1:SchT:=.op 4 3 zfn
def zk2:SchT:=.alt (.op 1 2 zfp) (.alt (.op 5 1 zjW) (.alt (.op 8 2 zfn) (.op 10 1 zfm)))
def zfr:SchT:=.alt (.op 3 1 zjX) (.alt (.op 8 2 zcl) (.op 11 1 zfo))
def zfs:SchT:=.alt (.op 3 1 zjY) (.op 10 1 zcl)
def zn6:SchT:=.op 4 3 zfp
def zn7:SchT:=.alt (.op 1 2 zfr) (.alt (.op 3 1 zk0) (.alt (.op 8 2 zfq) (.op 11 1 zjZ)))
def zn8:SchT:=.alt (.op 1 2 zfs) (.alt (.op 3 1 zk1) (.op 10 1 zfq))
def zn9:SchT:=.op 4 3 zk2
def zna:SchT:=.alt (.op 3 1 zn6) (.alt (.op 8 2 zfs) (.op 10 1 zfr))
def znb:SchT:=.alt (.op 1 2 zna) (.alt (.op 3 1 zn9) (.alt (.op 8 2 zn8) (.op 10 1 zn7)))
def znc:SchT:=.op 9 3 znb
def znd:SchT:=.op 7 3 znc
def zne:SchT:=.op 2 3 znd
def znf:SchT:=.op 0 3 zne
def cf32:Cfg:= {wio:=zoW,live:=fun r=>if r=5 then some [0,1,6,7,8,9] else if r=9 then some [0,1,6,7,8,10] else if r=13 then some [0,1,6,7,8,10,11,12] else if r=17 then some [0,1,6,7,8,10,11,13] else none,dr:=fun r=>if r=20 then some [(0,0),(1,0),(2,0),(3,0),(4,0),(5,0),(6,0),(7,0),(8,0),(9,0),(10,0),(11,2)] else if r=21 then some [(1,0),(2,0),(3,0),(5,3),(6,3),(7,3),(8,3),(0,1),(4,2),(9,2),(10,0)] else none,wr:=zAi,fz:=fun r=>if r=999998 then some [] else none,dt:=fun r=>if r=7 then some (znf) else none}
@[simp] theorem kx32:cf32.wio=zoW/\cf32.live=(fun r=>if r=5 then some [0,1,6,7,8,9] else if r=9 then some [0,1,6,7,8,10] else if r=13 then some [0,1,6,7,8,10,11,12] else if r=17 then some [0,1,6,7,8,10,11,13] else none)/\cf32.wr=zAi:=⟨rfl,rfl,rfl⟩
def cf33:Cfg:= {wio:=fun f i=>(f==31&&(i==0))||(f==999999&&(i==0)),live:=fun r=>if r=3 then some [6,7,17,18] else if r=6 then some [6,7,8,17,18,25,26,27] else none,dr:=fun r=>none,fz:=fun r=>if r=999998 then some [] else none}
@[simp] theorem kx33:cf33.wio=(fun f i=>(f==31&&(i==0))||(f==999999&&(i==0)))/\cf33.live=(fun r=>if r=3 then some [6,7,17,18] else if r=6 then some [6,7,8,17,18,25,26,27] else none)/\cf33.wr=z4n:=⟨rfl,rfl,rfl⟩
def cf34:Cfg:= {wio:=fun f i=>(f==75&&(i==0))||(f==999999&&(i==0)),live:=fun r=>if r=5 then some [1,3,20,21] else if r=10 then some [3,30,31,32] else if r=13 then some [3,6,30,31,32,37,38,39] else if r=20 then some [9,55,56,57] else none,dr:=fun r=>none}
@[simp] theorem kx34:cf34.wio=(fun f i=>(f==75&&(i==0))||(f==999999&&(i==0)))/\cf34.live=(fun r=>if r=5 then some [1,3,20,21] else if r=10 then some [3,30,31,32] else if r=13 then some [3,6,30,31,32,37,38,39] else if r=20 then some [9,55,56,57] else none)/\cf34.wr=z4n:=⟨rfl,rfl,rfl⟩
def cf36:Cfg:= {wio:=z0r,live:=fun r=>if r=6 then some [1,4,6,29,30,31] else if r=13 then some [1,4,6,10,11,48,49,50] else none,dr:=fun r=>none,fz:=fun r=>if r=11 then some [6] else if r=999998 then some [] else none,dt:=fun r=>if r=15 then some (.op 0 0 (.op 1 0 (.op 2 0 (.op 3 0 (.op 4 0 (.op 5 0 (.op 6 0 (.alt (.op 7 1 (.op 8 0 (.op 9 0 (.op 10 3 (.op 11 1 (.op 12 2 (.op 13 0 .nil))))))) (.op 11 1 (.op 7 1 (.op 8 0 (.op 9 0 (.op 10 3 (.op 12 2 (.op 13 0 .nil))))))))))))))) else none}
@[simp] theorem kx36:cf36.wio=z0r/\cf36.live=(fun r=>if r=6 then some [1,4,6,29,30,31] else if r=13 then some [1,4,6,10,11,48,49,50] else none)/\cf36.wr=z4n:=⟨rfl,rfl,rfl⟩
def cf44:Cfg:= {wio:=fun f i=>(f==95&&(i==0))||(f==999999&&(i==0))||(f==777777&&(i==95)),live:=fun r=>if r=8 then some [1,2,4,6,7,8,40,41,42] else if r=15 then some [1,2,4,6,7,8,64,65,66] else if r=19 then some [1,2,4,6,7,8,11,12,13,64,65,66,75,76] else if r=26 then some [1,2,4,6,7,8,11,15,64,65,66,117,118,119] else none,dr:=fun r=>if r=25 then some [(0,0),(1,0),(2,0),(3,0),(4,0),(5,0),(6,0),(7,0),(8,0),(9,0),(10,0),(11,0),(12,0),(13,0)] else if r=28 then some [(0,0),(1,0),(2,0),(3,0),(4,0),(5,0),(6,0),(7,0),(8,0),(9,0),(10,0),(11,0),(12,0),(13,0),(14,1),(15,0),(16,0),(17,2)] else none,fz:=fun r=>if r=999998 then some [] else none,dt:=fun r=>if r=4 then some (.op 0 0 (.op 1 0 (.op 2 0 (.op 3 0 (.op 4 0 (.alt (.op 5 1 (.op 6 0 (.op 7 1 (.op 8 2 .nil)))) (.op 7 1 (.op 5 1 (.op 6 0 (.op 8 2 .nil)))))))))) else none}
@[simp] theorem kx44:cf44.wio=(fun f i=>(f==95&&(i==0))||(f==999999&&(i==0))||(f==777777&&(i==95)))/\cf44.live=(fun r=>if r=8 then some [1,2,4,6,7,8,40,41,42] else if r=15 then some [1,2,4,6,7,8,64,65,66] else if r=19 then some [1,2,4,6,7,8,11,12,13,64,65,66,75,76] else if r=26 then some [1,2,4,6,7,8,11,15,64,65,66,117,118,119] else none)/\cf44.wr=z4n:=⟨rfl,rfl,rfl⟩
def cf45:Cfg:= {wio:=z0r,live:=z1k,dr:=fun r=>none}
@[simp] theorem kx45:cf45.wio=z0r/\cf45.live=z1k/\cf45.wr=z4n:=⟨rfl,rfl,rfl⟩
def cf46:Cfg:= {wio:=z0r,live:=z1k,dr:=fun r=>none}
@[simp] theorem kx46:cf46.wio=z0r/\cf46.live=z1k/\cf46.wr=z4n:=⟨rfl,rfl,rfl⟩
def cf47:Cfg:= {wio:=z0r,live:=fun r=>if r=6 then some [1,5,26,27] else none,dr:=fun r=>none,fz:=fun r=>if r=999998 then some [] else none}
@[simp] theorem kx47:cf47.wio=z0r/\cf47.live=(fun r=>if r=6 then some [1,5,26,27] else none)/\cf47.wr=z4n:=⟨rfl,rfl,rfl⟩
def cf48:Cfg:= {wio:=zui,live:=fun r=>if r=5 then some [0,5,6,7] else if r=8 then some [0,5,6,7,29,30] else none,dr:=fun r=>none,fz:=fun r=>if r=2 then some [4] else if r=11 then some [9] else if r=999998 then some [] else none}
@[simp] theorem kx48:cf48.wio=zui/\cf48.live=(fun r=>if r=5 then some [0,5,6,7] else if r=8 then some [0,5,6,7,29,30] else none)/\cf48.wr=z4n:=⟨rfl,rfl,rfl⟩
def cf49:Cfg:= {wio:=z0r,live:=z1k,dr:=fun r=>if r=2 then some [(0,0),(1,0),(2,0),(3,0),(4,0),(5,0),(6,0),(7,0),(8,0),(9,0),(10,0),(11,0),(12,0),(13,0),(14,1),(15,0)] else none}
@[simp] theorem kx49:cf49.wio=z0r/\cf49.live=z1k/\cf49.wr=z4n:=⟨rfl,rfl,rfl⟩
def cf51:Cfg:= {wio:=z0r,live:=fun r=>if r=4 then some [0,3,4,5,26,27] else none,dr:=fun r=>if r=2 then some [(0,0),(1,0),(2,0),(3,0),(4,0),(5,0),(6,0),(7,0),(8,0),(9,0),(10,0),(11,1),(12,0),(13,0)] else if r=8 then some [(0,0),(1,0),(2,0),(3,0),(4,0),(5,0),(6,0),(7,0),(8,0),(9,0),(10,0),(11,0),(12,0),(13,0)] else none}
@[simp] theorem kx51:cf51.wio=z0r/\cf51.live=(fun r=>if r=4 then some [0,3,4,5,26,27] else none)/\cf51.wr=z4n:=⟨rfl,rfl,rfl⟩
def cf65:Cfg:= {wio:=z0r,live:=zhQ,dr:=fun r=>if r=6 then some [(0,0),(1,0),(2,0),(3,0),(4,0),(5,0),(6,0),(7,0),(8,1),(9,0)] else none}
@[simp] theorem kx65:cf65.wio=z0r/\cf65.live=zhQ/\cf65.wr=z4n:=⟨rfl,rfl,rfl⟩
def cf68:Cfg:= {wio:=z0r,live:=fun r=>if r=8 then some [2,8,10,35,36] else none,dr:=fun r=>if r=10 then some [(0,0),(1,0),(2,0),(3,0),(4,0),(5,0),(6,0),(7,1),(8,0),(9,0),(10,0),(11,0),(12,0)] else none}
@[simp] theorem kx68:cf68.wio=z0r/\cf68.live=(fun r=>if r=8 then some [2,8,10,35,36] else none)/\cf68.wr=z4n:=⟨rfl,rfl,rfl⟩
def cf69:Cfg:= {wio:=z0r,live:=zhQ,dr:=fun r=>if r=6 then some [(0,0),(1,0),(2,0),(3,0),(4,0),(5,0),(6,0),(7,0),(8,0)] else none}
@[simp] theorem kx69:cf69.wio=z0r/\cf69.live=zhQ/\cf69.wr=z4n:=⟨rfl,rfl,rfl⟩
def cf73:Cfg:= {wio:=z0r,live:=fun r=>if r=4 then some [0,5,6,10,11,12] else none,dr:=fun r=>none}
@[simp] theorem kx73:cf73.wio=z0r/\cf73.live=(fun r=>if r=4 then some [0,5,6,10,11,12] else none)/\cf73.wr=z4n:=⟨rfl,rfl,rfl⟩
def cf74:Cfg:= {wio:=z0r,live:=fun r=>if r=6 then some [1,26,27,28] else if r=12 then some [1,40,41,42] else none,dr:=fun r=>if r=14 then some [(0,0),(1,0),(2,1),(3,0),(4,0),(5,0),(6,0),(7,0),(8,0),(9,0),(10,0),(11,0),(12,0),(13,0),(14,0),(15,0),(16,0),(17,1),(18,0),(19,0),(20,0)] else none}
@[simp] theorem kx74:cf74.wio=z0r/\cf74.live=(fun r=>if r=6 then some [1,26,27,28] else if r=12 then some [1,40,41,42] else none)/\cf74.wr=z4n:=⟨rfl,rfl,rfl⟩
def cf75:Cfg:= {wio:=z0r,live:=fun r=>if r=3 then some [0,1,4,5,6,7,10,11,12] else none,dr:=fun r=>none}
@[simp] theorem kx75:cf75.wio=z0r/\cf75.live=(fun r=>if r=3 then some [0,1,4,5,6,7,10,11,12] else none)/\cf75.wr=z4n:=⟨rfl,rfl,rfl⟩
def cf76:Cfg:= {wio:=z0r,live:=z1k,dr:=fun r=>none}
@[simp] theorem kx76:cf76.wio=z0r/\cf76.live=z1k/\cf76.wr=z4n:=⟨rfl,rfl,rfl⟩
def cf77:Cfg:= {wio:=z0r,live:=fun r=>if r=9 then some [1,3,38,39,40] else if r=14 then some [1,3,38,39,40,49,50,51] else none,dr:=fun r=>none}
@[simp] theorem kx77:cf77.wio=z0r/\cf77.live=(fun r=>if r=9 then some [1,3,38,39,40] else if r=14 then some [1,3,38,39,40,49,50,51] else none)/\cf77.wr=z4n:=⟨rfl,rfl,rfl⟩
def zh9:SchT:=.nil
def zda:SchT:=.op 13 2 zh9
def z9h:SchT:=.op 11 0 zda
def zha:SchT:=.op 12 1 zda
def z9i:SchT:=.op 4 1 z9h
def z9j:SchT:=.op 6 1 z9h
def z9k:SchT:=.op 8 1 z9h
def z9l:SchT:=.op 10 1 z9h
def z9m:SchT:=.op 11 0 zha
def zaI:SchT:=.alt (.op 4 1 z9j) (.op 6 1 z9i)
def zaJ:SchT:=.alt (.op 4 1 z9k) (.op 8 1 z9i)
def zaK:SchT:=.alt (.op 4 1 z9l) (.op 10 1 z9i)
def zaL:SchT:=.alt (.op 4 1 z9m) (.op 12 1 z9i)
def zaM:SchT:=.alt (.op 6 1 z9k) (.op 8 1 z9j)
def zaN:SchT:=.alt (.op 6 1 z9l) (.op 10 1 z9j)
def zaO:SchT:=.alt (.op 6 1 z9m) (.op 12 1 z9j)
def zaP:SchT:=.alt (.op 8 1 z9l) (.op 10 1 z9k)
def zaQ:SchT:=.alt (.op 8 1 z9m) (.op 12 1 z9k)
def zaR:SchT:=.alt (.op 10 1 z9m) (.op 12 1 z9l)
def zdb:SchT:=.alt (.op 4 1 zaM) (.alt (.op 6 1 zaJ) (.op 8 1 zaI))
def zdc:SchT:=.alt (.op 4 1 zaN) (.alt (.op 6 1 zaK) (.op 10 1 zaI))
def zdd:SchT:=.alt (.op 4 1 zaO) (.alt (.op 6 1 zaL) (.op 12 1 zaI))
def zde:SchT:=.alt (.op 4 1 zaP) (.alt (.op 8 1 zaK) (.op 10 1 zaJ))
def zdf:SchT:=.alt (.op 4 1 zaQ) (.alt (.op 8 1 zaL) (.op 12 1 zaJ))
def zdg:SchT:=.alt (.op 4 1 zaR) (.alt (.op 10 1 zaL) (.op 12 1 zaK))
def zdh:SchT:=.alt (.op 6 1 zaP) (.alt (.op 8 1 zaN) (.op 10 1 zaM))
def zdi:SchT:=.alt (.op 6 1 zaQ) (.alt (.op 8 1 zaO) (.op 12 1 zaM))
def zdj:SchT:=.alt (.op 6 1 zaR) (.alt (.op 10 1 zaO) (.op 12 1 zaN))
def zdk:SchT:=.alt (.op 8 1 zaR) (.alt (.op 10 1 zaQ) (.op 12 1 zaP))
def zhb:SchT:=.alt (.op 4 1 zdh) (.alt (.op 6 1 zde) (.alt (.op 8 1 zdc) (.op 10 1 zdb)))
def zhc:SchT:=.alt (.op 4 1 zdi) (.alt (.op 6 1 zdf) (.alt (.op 8 1 zdd) (.op 12 1 zdb)))
def zhd:SchT:=.alt (.op 4 1 zdj) (.alt (.op 6 1 zdg) (.alt (.op 10 1 zdd) (.op 12 1 zdc)))
def zjA:SchT:=.alt (.op 4 1 zdk) (.alt (.op 8 1 zdg) (.alt (.op 10 1 zdf) (.op 12 1 zde)))
def zjB:SchT:=.alt (.op 6 1 zdk) (.alt (.op 8 1 zdj) (.alt (.op 10 1 zdi) (.op 12 1 zdh)))
def zjC:SchT:=.alt (.op 4 1 zjB) (.alt (.op 6 1 zjA) (.alt (.op 8 1 zhd) (.alt (.op 10 1 zhc) (.op 12 1 zhb))))
def zjD:SchT:=.op 9 0 zjC
def zjE:SchT:=.op 7 0 zjD
def zjF:SchT:=.op 5 0 zjE
def zjG:SchT:=.op 3 0 zjF
def zjH:SchT:=.op 2 0 zjG
def zjI:SchT:=.op 1 0 zjH
def zjJ:SchT:=.op 0 0 zjI
def cf79:Cfg:= {wio:=z0r,live:=fun r=>if r=12 then some [2,5,7,8,9,10,53,54] else if r=19 then some [2,5,7,8,10,85,86,87] else if r=23 then some [2,5,7,8,10,14,17,85,86,87,99,100] else none,dr:=fun r=>if r=14 then some [(0,0),(1,0),(2,0),(3,0),(4,0),(5,1),(6,0),(7,2)] else if r=16 then some [(0,0),(1,0),(2,0),(3,0),(4,0),(5,0),(6,0),(7,0),(8,0),(9,0),(10,0),(11,0),(12,0),(13,0),(14,2)] else if r=26 then some [(0,0),(1,0),(2,0),(3,0),(4,0),(5,0),(6,0),(7,0),(8,2)] else none,fz:=fun r=>if r=8 then some [5] else if r=10 then some [8] else if r=999998 then some [] else none,dt:=fun r=>if r=10 then some (zjJ) else none}
@[simp] theorem kx79:cf79.wio=z0r/\cf79.live=(fun r=>if r=12 then some [2,5,7,8,9,10,53,54] else if r=19 then some [2,5,7,8,10,85,86,87] else if r=23 then some [2,5,7,8,10,14,17,85,86,87,99,100] else none)/\cf79.wr=z4n:=⟨rfl,rfl,rfl⟩
def cf80:Cfg:= {wio:=zoV,live:=fun r=>if r=3 then some [1,4,11,12,13] else if r=11 then some [1,4,7,36,37,38] else none,dr:=fun r=>if r=13 then some [(0,0),(1,0),(2,0),(3,0),(4,0),(5,0),(6,0),(7,0)] else if r=17 then some [(0,0),(1,0),(2,0),(3,0)] else none,fz:=fun r=>if r=16 then some [1,4] else if r=999998 then some [] else none,dt:=fun r=>if r=7 then some (.op 1 3 (.op 2 0 (.op 3 0 (.op 4 0 (.op 5 0 (.op 6 0 (.alt (.op 0 1 (.op 7 1 (.op 8 2 (.op 9 0 (.op 10 2 .nil))))) (.op 7 1 (.alt (.op 0 1 (.op 8 2 (.op 9 0 (.op 10 2 .nil)))) (.op 8 2 (.op 0 1 (.op 9 0 (.op 10 2 .nil))))))))))))) else none}
@[simp] theorem kx80:cf80.wio=zoV/\cf80.live=(fun r=>if r=3 then some [1,4,11,12,13] else if r=11 then some [1,4,7,36,37,38] else none)/\cf80.wr=z4n:=⟨rfl,rfl,rfl⟩
def cf81:Cfg:= {wio:=z0r,live:=fun r=>if r=4 then some [2,3,4,5,8,10,11,35,36,37] else if r=10 then some [2,4,5,8,10,11,14,53,54,55] else if r=13 then some [2,4,5,8,10,11,14,16,53,54,55,60,61] else none,dr:=fun r=>if r=6 then some [(0,0),(1,0),(2,0),(3,0),(4,0),(5,0),(6,0),(7,1),(8,2),(9,0),(10,2)] else if r=16 then some [(0,0),(1,0),(2,0),(4,0),(5,0),(6,0),(7,0),(8,0),(3,1),(9,1),(10,0),(11,0)] else if r=17 then some [(0,0),(1,0),(2,0),(3,0),(4,0),(5,0),(6,0),(7,0),(8,0),(9,0),(10,0)] else if r=18 then some [(0,0),(1,0),(2,0),(3,0),(4,0),(5,0),(6,0),(7,0),(8,0),(9,0),(10,0),(11,0),(12,0),(13,0)] else if r=19 then some [(0,0),(1,0),(3,0),(4,0),(2,1),(5,1),(6,0)] else none,fz:=fun r=>if r=999998 then some [] else none}
@[simp] theorem kx81:cf81.wio=z0r/\cf81.live=(fun r=>if r=4 then some [2,3,4,5,8,10,11,35,36,37] else if r=10 then some [2,4,5,8,10,11,14,53,54,55] else if r=13 then some [2,4,5,8,10,11,14,16,53,54,55,60,61] else none)/\cf81.wr=z4n:=⟨rfl,rfl,rfl⟩
def cf82:Cfg:= {wio:=z0r,live:=z1k,dr:=fun r=>none}
@[simp] theorem kx82:cf82.wio=z0r/\cf82.live=z1k/\cf82.wr=z4n:=⟨rfl,rfl,rfl⟩
def cf84:Cfg:= {wio:=z0r,live:=fun r=>if r=5 then some [1,2,3,8,33,34,35] else none,dr:=fun r=>if r=7 then some [(0,0),(1,0),(2,0),(3,0),(4,0),(5,0),(6,1),(7,0),(8,0),(9,0),(10,0),(11,0)] else none}
@[simp] theorem kx84:cf84.wio=z0r/\cf84.live=(fun r=>if r=5 then some [1,2,3,8,33,34,35] else none)/\cf84.wr=z4n:=⟨rfl,rfl,rfl⟩
def cf85:Cfg:= {wio:=z0r,live:=znU,dr:=fun r=>none}
@[simp] theorem kx85:cf85.wio=z0r/\cf85.live=znU/\cf85.wr=z4n:=⟨rfl,rfl,rfl⟩
def cf92:Cfg:= {wio:=z0r,live:=fun r=>if r=4 then some [0,1,18,19] else none,dr:=fun r=>none}
@[simp] theorem kx92:cf92.wio=z0r/\cf92.live=(fun r=>if r=4 then some [0,1,18,19] else none)/\cf92.wr=z4n:=⟨rfl,rfl,rfl⟩
def cf94:Cfg:= {wio:=z0r,live:=fun r=>if r=2 then some [1,2,3,12,13] else if r=6 then some [1,2,3,7,8,12,13,17,18,19] else none,dr:=fun r=>none}
@[simp] theorem kx94:cf94.wio=z0r/\cf94.live=(fun r=>if r=2 then some [1,2,3,12,13] else if r=6 then some [1,2,3,7,8,12,13,17,18,19] else none)/\cf94.wr=z4n:=⟨rfl,rfl,rfl⟩
def cf95:Cfg:= {wio:=zoV,live:=fun r=>if r=3 then some [2,3,4,11,12,13] else if r=10 then some [2,3,4,35,36,37] else if r=15 then some [2,4,67,68,69] else none,dr:=fun r=>if r=17 then some [(0,0),(1,0),(2,0),(3,0),(4,0),(5,0),(6,0),(7,1),(8,0),(9,2)] else none,fz:=fun r=>if r=8 then some [3] else none,dt:=fun r=>if r=12 then some (.op 1 0 (.op 2 0 (.op 3 0 (.op 4 0 (.op 5 0 (.op 6 0 (.op 7 0 (.op 8 0 (.op 9 0 (.op 10 0 (.op 11 0 (.op 12 0 (.op 13 0 (.op 14 0 (.op 15 0 (.op 16 0 (.alt (.op 0 1 (.op 17 1 (.op 18 2 (.op 19 0 (.op 20 0 (.op 21 2 .nil)))))) (.op 17 1 (.alt (.op 0 1 (.op 18 2 (.op 19 0 (.op 20 0 (.op 21 2 .nil))))) (.op 18 2 (.op 0 1 (.op 19 0 (.op 20 0 (.op 21 2 .nil)))))))))))))))))))))))) else none}
@[simp] theorem kx95:cf95.wio=zoV/\cf95.live=(fun r=>if r=3 then some [2,3,4,11,12,13] else if r=10 then some [2,3,4,35,36,37] else if r=15 then some [2,4,67,68,69] else none)/\cf95.wr=z4n:=⟨rfl,rfl,rfl⟩
def cf96:Cfg:= {wio:=z0r,live:=znT,dr:=fun r=>none}
@[simp] theorem kx96:cf96.wio=z0r/\cf96.live=znT/\cf96.wr=z4n:=⟨rfl,rfl,rfl⟩
def cf97:Cfg:= {wio:=z0r,live:=fun r=>if r=2 then some [1,10,11,12] else if r=8 then some [1,7,10,11,12,22,23,24] else none,dr:=fun r=>none}
@[simp] theorem kx97:cf97.wio=z0r/\cf97.live=(fun r=>if r=2 then some [1,10,11,12] else if r=8 then some [1,7,10,11,12,22,23,24] else none)/\cf97.wr=z4n:=⟨rfl,rfl,rfl⟩
def cf98:Cfg:= {wio:=zui,live:=fun r=>if r=11 then some [6,7,8,35,36,37] else if r=16 then some [6,7,8,11,35,36,37] else if r=19 then some [6,7,8,11,35,36,37,55,56,57] else none,dr:=fun r=>none,fz:=fun r=>if r=7 then some [5] else if r=22 then some [14] else if r=999998 then some [] else none}
@[simp] theorem kx98:cf98.wio=zui/\cf98.live=(fun r=>if r=11 then some [6,7,8,35,36,37] else if r=16 then some [6,7,8,11,35,36,37] else if r=19 then some [6,7,8,11,35,36,37,55,56,57] else none)/\cf98.wr=z4n:=⟨rfl,rfl,rfl⟩
def cf99:Cfg:= {wio:=z0r,live:=fun r=>if r=5 then some [0,2,8,9,10,11,20,21,22] else none,dr:=fun r=>if r=12 then some [(0,0),(1,0),(2,0),(3,0),(4,0),(5,0),(6,0),(7,0),(8,0),(9,0),(10,0),(11,0),(12,0),(13,0)] else none}
@[simp] theorem kx99:cf99.wio=z0r/\cf99.live=(fun r=>if r=5 then some [0,2,8,9,10,11,20,21,22] else none)/\cf99.wr=z4n:=⟨rfl,rfl,rfl⟩
def cf101:Cfg:= {wio:=z0r,live:=fun r=>if r=2 then some [0,1,9,10,11] else none,dr:=fun r=>none}
@[simp] theorem kx101:cf101.wio=z0r/\cf101.live=(fun r=>if r=2 then some [0,1,9,10,11] else none)/\cf101.wr=z4n:=⟨rfl,rfl,rfl⟩
def cf103:Cfg:= {wio:=z0r,live:=fun r=>if r=3 then some [0,1,5,14,15] else none,dr:=fun r=>none,fz:=fun r=>if r=999998 then some [] else none}
@[simp] theorem kx103:cf103.wio=z0r/\cf103.live=(fun r=>if r=3 then some [0,1,5,14,15] else none)/\cf103.wr=z4n:=⟨rfl,rfl,rfl⟩
def cf107:Cfg:= {wio:=z0r,live:=fun r=>if r=3 then some [3,6,7,8] else none,dr:=fun r=>none}
@[simp] theorem kx107:cf107.wio=z0r/\cf107.live=(fun r=>if r=3 then some [3,6,7,8] else none)/\cf107.wr=z4n:=⟨rfl,rfl,rfl⟩
def cf108:Cfg:= {wio:=z0r,live:=z1k,dr:=fun r=>none}
@[simp] theorem kx108:cf108.wio=z0r/\cf108.live=z1k/\cf108.wr=z4n:=⟨rfl,rfl,rfl⟩
def cf109:Cfg:= {wio:=z0r,live:=znT,dr:=fun r=>none}
@[simp] theorem kx109:cf109.wio=z0r/\cf109.live=znT/\cf109.wr=z4n:=⟨rfl,rfl,rfl⟩
def cf110:Cfg:= {wio:=z0r,live:=z1k,dr:=fun r=>none,fz:=fun r=>if r=1 then some [3,5] else none}
@[simp] theorem kx110:cf110.wio=z0r/\cf110.live=z1k/\cf110.wr=z4n:=⟨rfl,rfl,rfl⟩
def cf121:Cfg:= {wio:=z0r,live:=fun r=>if r=4 then some [0,12,13,14] else none,dr:=fun r=>none}
@[simp] theorem kx121:cf121.wio=z0r/\cf121.live=(fun r=>if r=4 then some [0,12,13,14] else none)/\cf121.wr=z4n:=⟨rfl,rfl,rfl⟩
def cf125:Cfg:= {wio:=z0r,live:=fun r=>if r=5 then some [2,5,37,38,39] else if r=10 then some [2,5,37,38,39,51,52,53] else none,dr:=fun r=>if r=2 then some [(0,0),(1,0),(2,0),(3,0),(4,0),(5,0),(6,0),(7,0),(8,0),(9,0),(10,0),(11,0),(12,1),(13,0),(14,0),(15,0),(16,0),(17,0),(18,0),(19,0),(20,0),(21,0),(22,0)] else none}
@[simp] theorem kx125:cf125.wio=z0r/\cf125.live=(fun r=>if r=5 then some [2,5,37,38,39] else if r=10 then some [2,5,37,38,39,51,52,53] else none)/\cf125.wr=z4n:=⟨rfl,rfl,rfl⟩
def cf126:Cfg:= {wio:=z0r,live:=z1k,dr:=fun r=>none}
@[simp] theorem kx126:cf126.wio=z0r/\cf126.live=z1k/\cf126.wr=z4n:=⟨rfl,rfl,rfl⟩
def cf129:Cfg:= {wio:=z0r,live:=z1k,dr:=fun r=>none}
@[simp] theorem kx129:cf129.wio=z0r/\cf129.live=z1k/\cf129.wr=z4n:=⟨rfl,rfl,rfl⟩
def cf130:Cfg:= {wio:=fun f i=>(f==175&&(i==0))||(f==999999&&(i==0)),live:=fun r=>if r=3 then some [3,18,19] else none,dr:=fun r=>if r=1 then some [(0,0),(1,0),(2,0),(3,0),(4,0),(5,0),(6,1),(7,0),(8,0),(9,0),(10,0),(11,0)] else none}
@[simp] theorem kx130:cf130.wio=(fun f i=>(f==175&&(i==0))||(f==999999&&(i==0)))/\cf130.live=(fun r=>if r=3 then some [3,18,19] else none)/\cf130.wr=z4n:=⟨rfl,rfl,rfl⟩
def cf131:Cfg:= {wio:=z0r,live:=fun r=>if r=3 then some [1,2,4,5,24,25,26] else if r=9 then some [1,2,4,5,8,44,45,46] else if r=13 then some [1,2,4,5,8,9,10,44,45,46,59,60] else if r=20 then some [1,4,8,87,88] else if r=24 then some [1,4,8,12,13,87,88,97,98,99] else if r=27 then some [1,4,8,12,13,15,16,87,88,97,98,99,104,105,106] else none,dr:=fun r=>if r=11 then some [(0,0),(1,0),(2,0),(3,0),(4,0),(5,1),(6,0),(7,2)] else if r=15 then some [(0,0),(1,0),(2,0),(3,0),(4,0),(5,0),(6,0),(7,0),(8,0),(9,0),(10,1),(11,0),(12,0),(13,0),(14,2)] else if r=17 then some [(0,0),(1,0),(2,0),(3,0),(4,0),(5,1),(6,0),(7,2)] else none,dt:=fun r=>if r=7 then some (.op 0 0 (.op 1 0 (.op 2 0 (.op 4 0 (.op 5 0 (.alt (.op 3 1 (.alt (.op 6 1 (.op 7 0 (.op 8 1 (.op 9 2 .nil)))) (.op 8 1 (.op 6 1 (.op 7 0 (.op 9 2 .nil)))))) (.alt (.op 6 1 (.alt (.op 3 1 (.op 7 0 (.op 8 1 (.op 9 2 .nil)))) (.op 8 1 (.op 3 1 (.op 7 0 (.op 9 2 .nil)))))) (.op 8 1 (.alt (.op 3 1 (.op 6 1 (.op 7 0 (.op 9 2 .nil)))) (.op 6 1 (.op 3 1 (.op 7 0 (.op 9 2 .nil))))))))))))) else none}
@[simp] theorem kx131:cf131.wio=z0r/\cf131.live=(fun r=>if r=3 then some [1,2,4,5,24,25,26] else if r=9 then some [1,2,4,5,8,44,45,46] else if r=13 then some [1,2,4,5,8,9,10,44,45,46,59,60] else if r=20 then some [1,4,8,87,88] else if r=24 then some [1,4,8,12,13,87,88,97,98,99] else if r=27 then some [1,4,8,12,13,15,16,87,88,97,98,99,104,105,106] else none)/\cf131.wr=z4n:=⟨rfl,rfl,rfl⟩
def cf132:Cfg:= {wio:=z0r,live:=fun r=>if r=4 then some [1,4,5,15,16] else if r=8 then some [1,4,5,6,15,16,24,25,26] else none,dr:=fun r=>none}
@[simp] theorem kx132:cf132.wio=z0r/\cf132.live=(fun r=>if r=4 then some [1,4,5,15,16] else if r=8 then some [1,4,5,6,15,16,24,25,26] else none)/\cf132.wr=z4n:=⟨rfl,rfl,rfl⟩
def cf133:Cfg:= {wio:=zoV,live:=fun r=>if r=4 then some [1,2,5,6,23,24] else if r=8 then some [1,2,5,6,7,23,24,33,34] else if r=17 then some [1,2,9,60,61,62] else if r=21 then some [1,2,9,11,60,61,62,75,76] else none,dr:=fun r=>if r=23 then some [(0,0),(1,0),(2,0),(3,0),(4,0),(5,0),(6,0),(7,0),(8,0),(9,0),(10,0),(11,0),(12,0),(13,0),(14,0),(15,0),(16,0),(17,0),(18,0)] else if r=24 then some [(0,0),(1,0),(2,0),(3,0),(4,0),(5,0),(6,0),(7,0),(8,0),(9,0),(10,0),(11,0),(12,0),(13,2)] else none,fz:=fun r=>if r=14 then some [5] else none}
@[simp] theorem kx133:cf133.wio=zoV/\cf133.live=(fun r=>if r=4 then some [1,2,5,6,23,24] else if r=8 then some [1,2,5,6,7,23,24,33,34] else if r=17 then some [1,2,9,60,61,62] else if r=21 then some [1,2,9,11,60,61,62,75,76] else none)/\cf133.wr=z4n:=⟨rfl,rfl,rfl⟩
def cf134:Cfg:= {wio:=z0r,live:=fun r=>if r=5 then some [1,2,5,21,22,23] else if r=12 then some [2,5,8,45,46,47] else if r=15 then some [2,5,8,10,45,46,47,51,52,53] else none,dr:=fun r=>if r=17 then some [(0,0),(1,0),(2,0),(3,0),(4,0),(5,0),(6,0),(7,0),(8,0),(9,0),(10,0),(11,0),(12,0),(13,0),(14,1),(15,0)] else none}
@[simp] theorem kx134:cf134.wio=z0r/\cf134.live=(fun r=>if r=5 then some [1,2,5,21,22,23] else if r=12 then some [2,5,8,45,46,47] else if r=15 then some [2,5,8,10,45,46,47,51,52,53] else none)/\cf134.wr=z4n:=⟨rfl,rfl,rfl⟩
def cf135:Cfg:= {wio:=z0r,live:=fun r=>if r=6 then some [2,6,7,8,9] else if r=9 then some [2,6,7,8,9,38,39,40] else none,dr:=fun r=>if r=8 then some [(0,0),(1,0),(2,0),(3,0),(4,0),(5,0),(6,0),(7,0),(8,0),(9,0)] else if r=13 then some [(0,0),(1,0),(2,0),(3,0),(4,0),(5,0),(6,0),(7,0),(8,0),(9,0),(10,0),(11,0),(12,1),(13,0),(14,0),(15,0),(16,2)] else none}
@[simp] theorem kx135:cf135.wio=z0r/\cf135.live=(fun r=>if r=6 then some [2,6,7,8,9] else if r=9 then some [2,6,7,8,9,38,39,40] else none)/\cf135.wr=z4n:=⟨rfl,rfl,rfl⟩
def cf136:Cfg:= {wio:=fun f i=>(f==181&&(i==0))||(f==999999&&(i==0)),live:=z1k,dr:=fun r=>none}
@[simp] theorem kx136:cf136.wio=(fun f i=>(f==181&&(i==0))||(f==999999&&(i==0)))/\cf136.live=z1k/\cf136.wr=z4n:=⟨rfl,rfl,rfl⟩
def cf137:Cfg:= {wio:=z0r,live:=z1k,dr:=fun r=>if r=1 then some [(0,0),(1,0),(2,0),(3,0),(4,0),(5,0),(6,0),(7,0),(8,0),(9,0),(10,0),(11,0),(12,0),(13,0),(14,0),(15,0),(16,0),(17,0),(18,0),(19,0),(20,1),(21,0)] else none}
@[simp] theorem kx137:cf137.wio=z0r/\cf137.live=z1k/\cf137.wr=z4n:=⟨rfl,rfl,rfl⟩
def cf138:Cfg:= {wio:=z0r,live:=fun r=>if r=3 then some [1,5,8,9,10] else none,dr:=fun r=>none}
@[simp] theorem kx138:cf138.wio=z0r/\cf138.live=(fun r=>if r=3 then some [1,5,8,9,10] else none)/\cf138.wr=z4n:=⟨rfl,rfl,rfl⟩
def cf139:Cfg:= {wio:=z0r,live:=fun r=>if r=3 then some [1,2,5,15,16] else if r=8 then some [1,2,5,25,26] else if r=11 then some [1,2,5,7,25,26,29,30,31] else none,dr:=fun r=>if r=13 then some [(0,0),(1,0),(2,0),(3,0),(4,0),(5,0),(6,0),(7,0),(8,0),(9,0),(10,0),(11,0),(12,0),(13,0),(14,2)] else none}
@[simp] theorem kx139:cf139.wio=z0r/\cf139.live=(fun r=>if r=3 then some [1,2,5,15,16] else if r=8 then some [1,2,5,25,26] else if r=11 then some [1,2,5,7,25,26,29,30,31] else none)/\cf139.wr=z4n:=⟨rfl,rfl,rfl⟩
def cf140:Cfg:= {wio:=z0r,live:=fun r=>if r=3 then some [0,1,5,14,15,16] else if r=9 then some [0,5,8,28,29,30] else none,dr:=fun r=>none}
@[simp] theorem kx140:cf140.wio=z0r/\cf140.live=(fun r=>if r=3 then some [0,1,5,14,15,16] else if r=9 then some [0,5,8,28,29,30] else none)/\cf140.wr=z4n:=⟨rfl,rfl,rfl⟩
def cf141:Cfg:= {wio:=z0r,live:=fun r=>if r=2 then some [5,6,7] else none,dr:=fun r=>none}
@[simp] theorem kx141:cf141.wio=z0r/\cf141.live=(fun r=>if r=2 then some [5,6,7] else none)/\cf141.wr=z4n:=⟨rfl,rfl,rfl⟩
def cf142:Cfg:= {wio:=z0r,live:=fun r=>if r=3 then some [3,10,11,12] else none,dr:=fun r=>none}
@[simp] theorem kx142:cf142.wio=z0r/\cf142.live=(fun r=>if r=3 then some [3,10,11,12] else none)/\cf142.wr=z4n:=⟨rfl,rfl,rfl⟩
def cf143:Cfg:= {wio:=z0r,live:=fun r=>if r=3 then some [0,1,2,8,9,10] else none,dr:=fun r=>none}
@[simp] theorem kx143:cf143.wio=z0r/\cf143.live=(fun r=>if r=3 then some [0,1,2,8,9,10] else none)/\cf143.wr=z4n:=⟨rfl,rfl,rfl⟩
def cf144:Cfg:= {wio:=z0r,live:=z1k,dr:=fun r=>none}
@[simp] theorem kx144:cf144.wio=z0r/\cf144.live=z1k/\cf144.wr=z4n:=⟨rfl,rfl,rfl⟩
def cf149:Cfg:= {wio:=z0r,live:=z1k,dr:=fun r=>if r=1 then some [(0,0),(1,0),(2,0),(3,0),(4,0),(5,0),(6,0),(7,0),(8,0),(9,0),(10,0),(11,0),(12,0),(13,0),(14,0),(15,0),(16,0),(17,0),(18,0),(19,0),(20,0),(21,0),(22,1),(23,0)] else none}
@[simp] theorem kx149:cf149.wio=z0r/\cf149.live=z1k/\cf149.wr=z4n:=⟨rfl,rfl,rfl⟩
def cf150:Cfg:= {wio:=z0r,live:=fun r=>if r=2 then some [1,7,8,9] else none,dr:=fun r=>none}
@[simp] theorem kx150:cf150.wio=z0r/\cf150.live=(fun r=>if r=2 then some [1,7,8,9] else none)/\cf150.wr=z4n:=⟨rfl,rfl,rfl⟩
def cf151:Cfg:= {wio:=z0r,live:=fun r=>if r=5 then some [3,14,15] else none,dr:=fun r=>none}
@[simp] theorem kx151:cf151.wio=z0r/\cf151.live=(fun r=>if r=5 then some [3,14,15] else none)/\cf151.wr=z4n:=⟨rfl,rfl,rfl⟩
def cf152:Cfg:= {wio:=z0r,live:=znU,dr:=fun r=>none}
@[simp] theorem kx152:cf152.wio=z0r/\cf152.live=znU/\cf152.wr=z4n:=⟨rfl,rfl,rfl⟩
def cf153:Cfg:= {wio:=z0r,live:=fun r=>if r=3 then some [1,5,11,12,13] else none,dr:=fun r=>none}
@[simp] theorem kx153:cf153.wio=z0r/\cf153.live=(fun r=>if r=3 then some [1,5,11,12,13] else none)/\cf153.wr=z4n:=⟨rfl,rfl,rfl⟩
def cf154:Cfg:= {wio:=z0r,live:=fun r=>if r=4 then some [11,14,38,39] else if r=11 then some [0,3,4,11,87,88,89] else none,dr:=fun r=>if r=13 then some [(0,0),(1,0),(2,0),(3,0),(4,0),(5,0),(6,0),(7,0),(8,0),(9,0),(10,0),(11,0),(12,0),(13,0),(14,0),(15,0),(16,0),(17,0),(18,0),(19,1),(20,0),(21,0),(22,2)] else none}
@[simp] theorem kx154:cf154.wio=z0r/\cf154.live=(fun r=>if r=4 then some [11,14,38,39] else if r=11 then some [0,3,4,11,87,88,89] else none)/\cf154.wr=z4n:=⟨rfl,rfl,rfl⟩
def cf160:Cfg:= {wio:=z0r,live:=z1k,dr:=fun r=>none}
@[simp] theorem kx160:cf160.wio=z0r/\cf160.live=z1k/\cf160.wr=z4n:=⟨rfl,rfl,rfl⟩
def cf161:Cfg:= {wio:=z0r,live:=z1k,dr:=fun r=>if r=1 then some [(0,0),(1,0),(2,0),(3,0),(4,0),(5,0),(6,0),(7,0),(8,0),(9,0),(10,0),(11,0),(12,0),(13,0),(14,0),(15,0),(16,0),(17,0),(18,0)] else none}
@[simp] theorem kx161:cf161.wio=z0r/\cf161.live=z1k/\cf161.wr=z4n:=⟨rfl,rfl,rfl⟩
def cf173:Cfg:= {wio:=z0r,live:=fun r=>if r=5 then some [2,6,7,8,9] else if r=8 then some [2,6,7,8,9,30,31] else none,dr:=fun r=>if r=10 then some [(0,0),(1,0),(2,0),(3,0),(4,0),(5,0),(6,1),(7,0)] else if r=14 then some [(0,0),(1,0),(2,0),(3,0),(4,0),(5,0),(6,0),(7,0),(8,1),(9,0),(10,0),(11,1),(12,2),(13,0)] else none}
@[simp] theorem kx173:cf173.wio=z0r/\cf173.live=(fun r=>if r=5 then some [2,6,7,8,9] else if r=8 then some [2,6,7,8,9,30,31] else none)/\cf173.wr=z4n:=⟨rfl,rfl,rfl⟩
def cf174:Cfg:= {wio:=z0r,live:=z1k,dr:=fun r=>none}
@[simp] theorem kx174:cf174.wio=z0r/\cf174.live=z1k/\cf174.wr=z4n:=⟨rfl,rfl,rfl⟩
def cf176:Cfg:= {wio:=z0r,live:=z1k,dr:=fun r=>none}
@[simp] theorem kx176:cf176.wio=z0r/\cf176.live=z1k/\cf176.wr=z4n:=⟨rfl,rfl,rfl⟩
def cf177:Cfg:= {wio:=z0r,live:=z1k,dr:=fun r=>none}
@[simp] theorem kx177:cf177.wio=z0r/\cf177.live=z1k/\cf177.wr=z4n:=⟨rfl,rfl,rfl⟩
def cf178:Cfg:= {wio:=z0r,live:=fun r=>if r=3 then some [1,2,7,11,12,13] else none,dr:=fun r=>none}
@[simp] theorem kx178:cf178.wio=z0r/\cf178.live=(fun r=>if r=3 then some [1,2,7,11,12,13] else none)/\cf178.wr=z4n:=⟨rfl,rfl,rfl⟩
def cf179:Cfg:= {wio:=z0r,live:=z1k,dr:=fun r=>none}
@[simp] theorem kx179:cf179.wio=z0r/\cf179.live=z1k/\cf179.wr=z4n:=⟨rfl,rfl,rfl⟩
def cf180:Cfg:= {wio:=z0r,live:=z1k,dr:=fun r=>if r=1 then some [(0,0),(1,0),(2,0),(3,0),(4,0),(5,0),(6,0),(7,0),(8,1),(9,0)] else none}
@[simp] theorem kx180:cf180.wio=z0r/\cf180.live=z1k/\cf180.wr=z4n:=⟨rfl,rfl,rfl⟩
def cf181:Cfg:= {wio:=fun f i=>(f==208&&(i==0))||(f==209&&(i==0))||(f==999999&&(i==0)),live:=fun r=>if r=2 then some [0,1,2,6,7,8] else if r=7 then some [0,1,2,6] else if r=9 then some [0,1,2,6,7,8] else none,dr:=fun r=>none}
@[simp] theorem kx181:cf181.wio=(fun f i=>(f==208&&(i==0))||(f==209&&(i==0))||(f==999999&&(i==0)))/\cf181.live=(fun r=>if r=2 then some [0,1,2,6,7,8] else if r=7 then some [0,1,2,6] else if r=9 then some [0,1,2,6,7,8] else none)/\cf181.wr=z4n:=⟨rfl,rfl,rfl⟩
def cf183:Cfg:= {wio:=z0r,live:=z1k,dr:=fun r=>none}
@[simp] theorem kx183:cf183.wio=z0r/\cf183.live=z1k/\cf183.wr=z4n:=⟨rfl,rfl,rfl⟩
def cf207:Cfg:= {wio:=z0r,live:=z1k,dr:=fun r=>none}
@[simp] theorem kx207:cf207.wio=z0r/\cf207.live=z1k/\cf207.wr=z4n:=⟨rfl,rfl,rfl⟩
def cf208:Cfg:= {wio:=z0r,live:=fun r=>if r=1 then some [0,1,2,3,8] else if r=4 then some [0,1,2,3,8,9] else none,dr:=fun r=>if r=4 then some [(0,0),(1,0),(2,0),(3,0),(4,0),(5,0),(6,0),(7,0),(8,0),(9,0),(10,0),(11,0),(12,0),(13,0),(14,1),(15,0),(16,0)] else if r=6 then some [(0,0),(1,0),(2,3),(3,3),(4,3),(5,0),(6,0),(7,0),(8,0),(9,0),(10,0),(11,0),(12,0),(13,0),(14,0),(15,2),(16,0),(17,2)] else none}
@[simp] theorem kx208:cf208.wio=z0r/\cf208.live=(fun r=>if r=1 then some [0,1,2,3,8] else if r=4 then some [0,1,2,3,8,9] else none)/\cf208.wr=z4n:=⟨rfl,rfl,rfl⟩
def cf209:Cfg:= {wio:=fun f i=>(f==229&&(i==0))||(f==209&&(i==0))||(f==999999&&(i==0)),live:=fun r=>if r=3 then some [0,1,4,10,11] else if r=9 then some [0,10,13] else if r=15 then some [0,2,4,14,15] else if r=21 then some [0,14,17] else if r=33 then some [0,1,2,3,4,18,19,20,21,22] else none,dr:=fun r=>if r=5 then some [(0,0),(1,0),(2,0),(3,0),(4,0),(5,0),(6,0),(7,0),(8,0),(9,1),(10,0)] else if r=11 then some [(0,0),(1,0),(2,3),(3,3),(4,3),(5,0),(6,0),(7,0),(8,0),(9,0),(10,0),(11,0),(12,0),(13,0),(14,0),(15,2),(16,0),(17,2)] else if r=17 then some [(0,0),(1,0),(2,0),(3,0),(4,0),(5,0),(6,0),(7,0),(8,0),(9,1),(10,0),(11,0)] else if r=23 then some [(0,0),(1,0),(2,3),(3,3),(4,3),(5,0),(6,0),(7,0),(8,0),(9,0),(10,0),(11,0),(12,0),(13,0),(14,0),(15,2),(16,0),(17,2)] else if r=35 then some [(0,0),(1,0),(2,0),(3,0),(4,0),(5,0),(6,0),(7,0),(8,0),(9,0),(10,0),(11,1),(12,0),(13,0)] else none}
@[simp] theorem kx209:cf209.wio=(fun f i=>(f==229&&(i==0))||(f==209&&(i==0))||(f==999999&&(i==0)))/\cf209.live=(fun r=>if r=3 then some [0,1,4,10,11] else if r=9 then some [0,10,13] else if r=15 then some [0,2,4,14,15] else if r=21 then some [0,14,17] else if r=33 then some [0,1,2,3,4,18,19,20,21,22] else none)/\cf209.wr=z4n:=⟨rfl,rfl,rfl⟩
def cf210:Cfg:= {wio:=z0r,live:=fun r=>if r=4 then some [0,13,14,15] else none,dr:=fun r=>none}
@[simp] theorem kx210:cf210.wio=z0r/\cf210.live=(fun r=>if r=4 then some [0,13,14,15] else none)/\cf210.wr=z4n:=⟨rfl,rfl,rfl⟩
def cf211:Cfg:= {wio:=z0r,live:=z1k,dr:=fun r=>none}
@[simp] theorem kx211:cf211.wio=z0r/\cf211.live=z1k/\cf211.wr=z4n:=⟨rfl,rfl,rfl⟩
def cf227:Cfg:= {wio:=z0r,live:=z1k,dr:=fun r=>if r=1 then some [(0,0),(1,0),(2,0),(3,0),(4,0),(5,0),(6,0),(7,0),(8,0),(9,0),(10,0),(11,0),(12,0),(13,0),(14,0),(15,0),(16,0),(17,0),(18,0)] else none}
@[simp] theorem kx227:cf227.wio=z0r/\cf227.live=z1k/\cf227.wr=z4n:=⟨rfl,rfl,rfl⟩
def cf228:Cfg:= {wio:=z0r,live:=z1k,dr:=fun r=>none}
@[simp] theorem kx228:cf228.wio=z0r/\cf228.live=z1k/\cf228.wr=z4n:=⟨rfl,rfl,rfl⟩
def cf229:Cfg:= {wio:=fun f i=>(f==236&&(i==0))||(f==999999&&(i==0)),live:=fun r=>if r=2 then some [0,2,4,10,11] else none,dr:=fun r=>none}
@[simp] theorem kx229:cf229.wio=(fun f i=>(f==236&&(i==0))||(f==999999&&(i==0)))/\cf229.live=(fun r=>if r=2 then some [0,2,4,10,11] else none)/\cf229.wr=z4n:=⟨rfl,rfl,rfl⟩
def cf230:Cfg:= {wio:=fun f i=>(f==237&&(i==0))||(f==999999&&(i==0))||(f==777777&&(i==238)),live:=z1k,dr:=fun r=>none,fz:=fun r=>if r=999998 then some [] else none}
@[simp] theorem kx230:cf230.wio=(fun f i=>(f==237&&(i==0))||(f==999999&&(i==0))||(f==777777&&(i==238)))/\cf230.live=z1k/\cf230.wr=z4n:=⟨rfl,rfl,rfl⟩
def cf236:Cfg:= {wio:=z0r,live:=fun r=>if r=1 then some [0,1,2,3,10] else none,dr:=fun r=>if r=3 then some [(0,0),(1,0),(2,0),(3,0),(4,3),(5,3),(6,3),(7,3),(8,0),(9,0),(10,0),(11,0),(12,0),(13,0),(14,0),(15,0),(16,0),(17,0),(18,0),(19,0),(20,0),(21,2),(22,0),(23,2)] else none}
@[simp] theorem kx236:cf236.wio=z0r/\cf236.live=(fun r=>if r=1 then some [0,1,2,3,10] else none)/\cf236.wr=z4n:=⟨rfl,rfl,rfl⟩
def cf238:Cfg:= {wio:=z0r,live:=fun r=>if r=4 then some [0,3] else if r=9 then some [0,3,4,5] else none,dr:=fun r=>if r=6 then some [(0,0),(1,0),(2,0),(3,0),(4,0),(5,0),(6,0),(7,0),(8,0),(9,0)] else if r=11 then some [(0,0),(1,0),(2,0),(3,0),(4,0),(5,0),(6,0),(7,0),(8,0),(9,0)] else none}
@[simp] theorem kx238:cf238.wio=z0r/\cf238.live=(fun r=>if r=4 then some [0,3] else if r=9 then some [0,3,4,5] else none)/\cf238.wr=z4n:=⟨rfl,rfl,rfl⟩
def cg0:List (Nat×Cfg):= [(7,cf7),(12,cf12),(14,cf14),(15,cf15),(18,cf18),(20,cf20),(27,cf27),(28,cf28),(30,cf30),(31,cf31)]
def cg1:List (Nat×Cfg):= [(33,cf33),(34,cf34),(36,cf36),(44,cf44),(45,cf45),(46,cf46),(47,cf47),(48,cf48),(49,cf49),(51,cf51)]
def cg2:List (Nat×Cfg):= [(65,cf65),(68,cf68),(69,cf69),(73,cf73),(74,cf74),(75,cf75),(76,cf76),(77,cf77),(80,cf80),(81,cf81)]
def cg3:List (Nat×Cfg):= [(82,cf82),(84,cf84),(85,cf85),(92,cf92),(94,cf94),(95,cf95),(96,cf96),(97,cf97),(98,cf98),(99,cf99)]
def cg4:List (Nat×Cfg):= [(101,cf101),(103,cf103),(107,cf107),(108,cf108),(109,cf109),(110,cf110),(121,cf121),(125,cf125),(126,cf126),(129,cf129)]
def cg5:List (Nat×Cfg):= [(130,cf130),(131,cf131),(132,cf132),(133,cf133),(134,cf134),(135,cf135),(136,cf136),(137,cf137),(138,cf138),(139,cf139)]
def cg6:List (Nat×Cfg):= [(140,cf140),(141,cf141),(142,cf142),(143,cf143),(144,cf144),(149,cf149),(150,cf150),(151,cf151),(152,cf152),(153,cf153)]
def cg7:List (Nat×Cfg):= [(154,cf154),(160,cf160),(161,cf161),(173,cf173),(174,cf174),(176,cf176),(177,cf177),(178,cf178),(179,cf179),(180,cf180)]
def cg8:List (Nat×Cfg):= [(181,cf181),(183,cf183),(207,cf207),(208,cf208),(209,cf209),(210,cf210),(211,cf211),(227,cf227),(228,cf228),(229,cf229)]
def cg9:List (Nat×Cfg):= [(230,cf230),(236,cf236),(238,cf238)]
def cg10:List (Nat×Cfg):= [(32,cf32),(79,cf79)]
def zlh(f:FuncId):Option Cfg:=((cg0++cg1++cg2++cg3++cg4++cg5++cg6++cg7++cg8++cg9++cg10).find? fun x=>x.1==f).map (·.2)
def zoG(fn:Func):Code:=match fn.body with|some c=>c|none=>.skip
theorem bdy(fn:Func)(h:fn.body.isSome=true):fn.body=some (zoG fn):=by
 unfold zoG
 cases hb:fn.body with
 |some c=>rfl
 |none=>rw[hb] at h;cases h
noncomputable def xt:z0e->z0e:=xtF
noncomputable def L:z0e:=Lim Tryz.prog xt zlh
theorem zlx{f:FuncId}{c:Cfg}{fn:Func}{args:List T}{o:T×List T}(hc:zlh f=some c)(hfn:Tryz.prog.funcs[f]? =some fn)(h:zjl Tryz.prog L c LFm fn args=some o):L f args=some o:=zsC hc hfn h
end
section
open Go
variable{cf:Cfg}{c:Code}{fn:Func}{f:FuncId}{args outs:List T}{r:T}
theorem z5l(hc:zlh f=some cf)(hfn:Tryz.prog.funcs[f]? =some fn)(hb:fn.body=some c)(ha:args.length<=fn.ntmps/\(args.filter z6N).length<=1:=by exact⟨of_decide_eq_true rfl,of_decide_eq_true rfl⟩)(hz:cf.fz 999998=none:=by rfl)(g:wpC Tryz.prog L cf LFm c (z6J fn.ntmps args) (zy9 Tryz.prog fn args r outs):=by simp only[z6J,z7b,z6I,z8K,z6N];exact zlH):L f args=some (r,outs):=zlx hc hfn (zik hb ha g hz)
theorem zh6(hc:zlh f=some cf)(hfn:Tryz.prog.funcs[f]? =some fn)(hb:fn.body=some c)(ha:args.length<=fn.ntmps/\(args.filter z6N).length<=1:=by exact⟨of_decide_eq_true rfl,of_decide_eq_true rfl⟩)(hz:(cf.fz 999998).isSome=true:=by rfl)(g:wpC Tryz.prog L cf LFm c (z6J fn.ntmps args) (zti Tryz.prog fn args r outs):=by simp only[z6J,z7b,z6I,z8K,z6N];exact zlH):L f args=some (r,outs):=zlx hc hfn (zew hb ha hz g)
end
section
open Go Go.IntKind
noncomputable section
set_option maxRecDepth 100000
set_option maxHeartbeats 6000000
abbrev z6t(a0:DFA)(w22:Int)(v28:List Int):Int->Option (Int⊕(Int⊕Int))
 |w30=>
 if w30<(v28.length:Int) then
 (atI v28 w30).bind fun v32=>
 if v32<0 then
 z0f<|
 z0f<|
 some 4
 else
 if(a0.final.length:Int)<=v32 then
 z0f<|
 z0f<|
 some 4
 else
 z0d (i64.wrap (w30+1))
 else
 z0f<|
 z0d (i64.wrap (w22+1))
variable{a0:DFA}{a1 a2:Int}
instance{w22:Int}{v28:List Int}:Hd (z6t a0 w22 v28):=⟨fun w30=>([(51,xI w30)],[])⟩
abbrev z5M(a0:DFA):Int->Option (Int⊕Int)
 |w22=>
 if w22<(a0.next.length:Int) then
 (atI a0.next w22).bind fun v28=>
 if(v28.length:Int)=a0.letters then
 z0h (z6t a0 w22 v28) LFm 0
 else
 z0f<|
 some 4
 else
 z0f<|
 some 0
instance:Hd (z5M a0):=⟨fun w22=>([(40,xI w22)],[])⟩
def z7L(a0:DFA):Option (Int):=
 if a0.letters<1 then
 some 1
 else
 if 6<a0.letters then
 some 1
 else
 if 512<(a0.final.length:Int) then
 some 3
 else
 if(a0.next.length:Int)=(a0.final.length:Int) then
 if a0.start<0 then
 some 4
 else
 if(a0.final.length:Int)<=a0.start then
 some 4
 else
 z0h (z5M a0) LFm 0
 else
 some 4
instance dfa_Validate_ok:Ok (z7L a0) (fun r=>L 77 [.agg [.sc (.int .i64 a0.letters),.sc (.int .i64 a0.start),(tB a0.final),(tR a0.next)]]=some (.sc (.int .i64 r),[.dead])):=⟨fun r h=>by have h:=z4s h;unfold z7L at h;exact z5l rfl Tryz.func77 (bdy Tryz.f77 rfl)⟩
def z5G(a0:DFA):Option (Int):=
 (z7L a0).bind fun v2=>
 if v2=0 then
 if 12<(a0.final.length:Int) then
 some 3
 else
 some 0
 else
 some v2
instance images_validate_ok:Ok (z5G a0) (fun r=>L 129 [.agg [.sc (.int .i64 a0.letters),.sc (.int .i64 a0.start),(tB a0.final),(tR a0.next)]]=some (.sc (.int .i64 r),[.dead])):=⟨fun r h=>by have h:=z4s h;unfold z5G at h;exact z5l rfl Tryz.func129 (bdy Tryz.f129 rfl)⟩
abbrev z7A(a0:DFA)(a1:Int)(a2:Int):Int×Int->Option ((Int×Int)⊕Int)
 |(w11,w12)=>
 if w12<(a0.next.length:Int) then
 (atI a0.next w12).bind fun v15=>
 chk (¬w12<0)<|
 if(z3b .i64 (z0w .i64 a1 w12) 1)=1 then
 (atI v15 a2).bind fun v16=>
 chk (¬v16<0)<|
 z0d (orI .i64 w11 (zm0 .i64 1 v16),i64.wrap (w12+1))
 else
 z0d (w11,i64.wrap (w12+1))
 else
 z0f<|
 some w11
instance:Hd (z7A a0 a1 a2):=⟨fun(w11,w12)=>([(7,xI w11),(13,xI w12)],[])⟩
def z7p(a0:DFA)(a1:Int)(a2:Int):Option (Int):=
 z0h (z7A a0 a1 a2) LFm (0,0)
instance images_move_ok:Ok (z7p a0 a1 a2) (fun r=>L 178 [.agg [.sc (.int .i64 a0.letters),.sc (.int .i64 a0.start),(tB a0.final),(tR a0.next)],.sc (.int .i64 a1),.sc (.int .i64 a2)]=some (.sc (.int .i64 r),[.dead,.dead,.dead])):=⟨fun r h=>by have h:=z4s h;unfold z7p at h;exact z5l rfl Tryz.func178 (bdy Tryz.f178 rfl)⟩
def z4f(a0:Int)(a1:Int):Option (Bool):=
 some (decide ((zgO .i64 a1 a0)=0))
instance images_contains_ok{a0:Int}:Ok (z4f a0 a1) (fun r=>L 179 [.sc (.int .i64 a0),.sc (.int .i64 a1)]=some (.sc (.bool r),[.dead,.dead])):=⟨fun r h=>by have h:=z4s h;unfold z4f at h;exact z5l rfl Tryz.func179 (bdy Tryz.f179 rfl)⟩
abbrev z5H(a0:DFA)(w77:Int):Int×List Bool×List Int×List ByteArray->Option ((Int×List Bool×List Int×List ByteArray)⊕((Int×List Bool×List Int×List ByteArray)⊕(List Int×List ByteArray)))
 |(w105,w106,w107,w108)=>
 if w105<a0.letters then
 (atI w107 w77).bind fun v114=>
 (z7p a0 v114 w105).bind fun v115=>
 (atI w106 v115).bind fun v116=>
 if v116=true then
 z0d (i64.wrap (w105+1),w106,w107,w108)
 else
 chk (z1V 8 (w107.length+1))<|
 (atI w108 w77).bind fun v118=>
 chk (zd1 v118 ⟨#[UInt8.ofNat (u8.wrap (i64.wrap (97+w105))).toNat]⟩)<|
 chk (z1V 16 (w108.length+1))<|
 z0d (i64.wrap (w105+1),(w106.set v115.toNat true),w107++ [v115],w108++ [v118++⟨#[UInt8.ofNat (u8.wrap (i64.wrap (97+w105))).toNat]⟩])
 else
 z0f<|
 z0d (i64.wrap (w77+1),w106,w107,w108)
instance{w77:Int}:Hd (z5H a0 w77):=⟨fun(w105,w106,w107,w108)=>([(31,xI w105)],[(6,.os 1 w106.length (w106.map fun x0=>.sc (.bool x0))),(7,(tO w107)),(8,.os 1 w108.length (w108.map fun x0=>.sc (.string x0)))])⟩
abbrev z8D(a0:DFA):Int×List Bool×List Int×List ByteArray->Option ((Int×List Bool×List Int×List ByteArray)⊕(List Int×List ByteArray))
 |(w77,w78,w79,w80)=>
 if w77<(w79.length:Int) then
 z0h (z5H a0 w77) LFm (0,w78,w79,w80)
 else
 z0f<|
 some (w79,w80)
instance:Hd (z8D a0):=⟨fun(w77,w78,w79,w80)=>([(9,xI w77)],[(6,.os 1 w78.length (w78.map fun x0=>.sc (.bool x0))),(7,(tO w79)),(8,.os 1 w80.length (w80.map fun x0=>.sc (.string x0)))])⟩
def z7K(a0:DFA)(a1:Int):Option (List Int×List ByteArray):=
 chk (¬(a0.final.length:Int)<0)<|
 chk (z0Q 1 (zm0 .i64 1 (a0.final.length:Int)))<|
 chk (0<=a1/\a1<(zm0 .i64 1 (a0.final.length:Int)))<|
 z0h (z8D a0) LFm (0,((List.replicate (zm0 .i64 1 (a0.final.length:Int)).toNat (false:Bool)).set a1.toNat true),[a1],[ByteArray.empty])
instance images_reach_ok:Ok (z7K a0 a1) (fun r=>L 173 [.agg [.sc (.int .i64 a0.letters),.sc (.int .i64 a0.start),(tB a0.final),(tR a0.next)],.sc (.int .i64 a1)]=some (.tup [(tO r.1),.os 1 r.2.length (r.2.map fun x0=>.sc (.string x0))],[.dead,.dead])):=⟨fun r h=>by have h:=z4s h;unfold z7K at h;exact z5l rfl Tryz.func173 (bdy Tryz.f173 rfl)⟩
def z3v(a0:Int):Option (Int):=
 chk (¬1<0)<|
 chk (¬2<0)<|
 chk (¬4<0)<|
 chk (¬8<0)<|
 chk (¬16<0)<|
 chk (¬32<0)<|
 some (z3b .i64 (i64.wrap (u64.wrap ((u64.wrap ((u64.wrap ((z3b .u64 (u64.wrap ((z0w .u64 (u64.wrap ((z3b .u64 (z0w .u64 (u64.wrap ((z3b .u64 (z0w .u64 a0 1) 6148914691236517205)+(z3b .u64 a0 6148914691236517205))) 2) 3689348814741910323)+(z3b .u64 (u64.wrap ((z3b .u64 (z0w .u64 a0 1) 6148914691236517205)+(z3b .u64 a0 6148914691236517205))) 3689348814741910323))) 4)+(u64.wrap ((z3b .u64 (z0w .u64 (u64.wrap ((z3b .u64 (z0w .u64 a0 1) 6148914691236517205)+(z3b .u64 a0 6148914691236517205))) 2) 3689348814741910323)+(z3b .u64 (u64.wrap ((z3b .u64 (z0w .u64 a0 1) 6148914691236517205)+(z3b .u64 a0 6148914691236517205))) 3689348814741910323))))) 1085102592571150095)+(z0w .u64 (z3b .u64 (u64.wrap ((z0w .u64 (u64.wrap ((z3b .u64 (z0w .u64 (u64.wrap ((z3b .u64 (z0w .u64 a0 1) 6148914691236517205)+(z3b .u64 a0 6148914691236517205))) 2) 3689348814741910323)+(z3b .u64 (u64.wrap ((z3b .u64 (z0w .u64 a0 1) 6148914691236517205)+(z3b .u64 a0 6148914691236517205))) 3689348814741910323))) 4)+(u64.wrap ((z3b .u64 (z0w .u64 (u64.wrap ((z3b .u64 (z0w .u64 a0 1) 6148914691236517205)+(z3b .u64 a0 6148914691236517205))) 2) 3689348814741910323)+(z3b .u64 (u64.wrap ((z3b .u64 (z0w .u64 a0 1) 6148914691236517205)+(z3b .u64 a0 6148914691236517205))) 3689348814741910323))))) 1085102592571150095) 8)))+(z0w .u64 (u64.wrap ((z3b .u64 (u64.wrap ((z0w .u64 (u64.wrap ((z3b .u64 (z0w .u64 (u64.wrap ((z3b .u64 (z0w .u64 a0 1) 6148914691236517205)+(z3b .u64 a0 6148914691236517205))) 2) 3689348814741910323)+(z3b .u64 (u64.wrap ((z3b .u64 (z0w .u64 a0 1) 6148914691236517205)+(z3b .u64 a0 6148914691236517205))) 3689348814741910323))) 4)+(u64.wrap ((z3b .u64 (z0w .u64 (u64.wrap ((z3b .u64 (z0w .u64 a0 1) 6148914691236517205)+(z3b .u64 a0 6148914691236517205))) 2) 3689348814741910323)+(z3b .u64 (u64.wrap ((z3b .u64 (z0w .u64 a0 1) 6148914691236517205)+(z3b .u64 a0 6148914691236517205))) 3689348814741910323))))) 1085102592571150095)+(z0w .u64 (z3b .u64 (u64.wrap ((z0w .u64 (u64.wrap ((z3b .u64 (z0w .u64 (u64.wrap ((z3b .u64 (z0w .u64 a0 1) 6148914691236517205)+(z3b .u64 a0 6148914691236517205))) 2) 3689348814741910323)+(z3b .u64 (u64.wrap ((z3b .u64 (z0w .u64 a0 1) 6148914691236517205)+(z3b .u64 a0 6148914691236517205))) 3689348814741910323))) 4)+(u64.wrap ((z3b .u64 (z0w .u64 (u64.wrap ((z3b .u64 (z0w .u64 a0 1) 6148914691236517205)+(z3b .u64 a0 6148914691236517205))) 2) 3689348814741910323)+(z3b .u64 (u64.wrap ((z3b .u64 (z0w .u64 a0 1) 6148914691236517205)+(z3b .u64 a0 6148914691236517205))) 3689348814741910323))))) 1085102592571150095) 8))) 16)))+(z0w .u64 (u64.wrap ((u64.wrap ((z3b .u64 (u64.wrap ((z0w .u64 (u64.wrap ((z3b .u64 (z0w .u64 (u64.wrap ((z3b .u64 (z0w .u64 a0 1) 6148914691236517205)+(z3b .u64 a0 6148914691236517205))) 2) 3689348814741910323)+(z3b .u64 (u64.wrap ((z3b .u64 (z0w .u64 a0 1) 6148914691236517205)+(z3b .u64 a0 6148914691236517205))) 3689348814741910323))) 4)+(u64.wrap ((z3b .u64 (z0w .u64 (u64.wrap ((z3b .u64 (z0w .u64 a0 1) 6148914691236517205)+(z3b .u64 a0 6148914691236517205))) 2) 3689348814741910323)+(z3b .u64 (u64.wrap ((z3b .u64 (z0w .u64 a0 1) 6148914691236517205)+(z3b .u64 a0 6148914691236517205))) 3689348814741910323))))) 1085102592571150095)+(z0w .u64 (z3b .u64 (u64.wrap ((z0w .u64 (u64.wrap ((z3b .u64 (z0w .u64 (u64.wrap ((z3b .u64 (z0w .u64 a0 1) 6148914691236517205)+(z3b .u64 a0 6148914691236517205))) 2) 3689348814741910323)+(z3b .u64 (u64.wrap ((z3b .u64 (z0w .u64 a0 1) 6148914691236517205)+(z3b .u64 a0 6148914691236517205))) 3689348814741910323))) 4)+(u64.wrap ((z3b .u64 (z0w .u64 (u64.wrap ((z3b .u64 (z0w .u64 a0 1) 6148914691236517205)+(z3b .u64 a0 6148914691236517205))) 2) 3689348814741910323)+(z3b .u64 (u64.wrap ((z3b .u64 (z0w .u64 a0 1) 6148914691236517205)+(z3b .u64 a0 6148914691236517205))) 3689348814741910323))))) 1085102592571150095) 8)))+(z0w .u64 (u64.wrap ((z3b .u64 (u64.wrap ((z0w .u64 (u64.wrap ((z3b .u64 (z0w .u64 (u64.wrap ((z3b .u64 (z0w .u64 a0 1) 6148914691236517205)+(z3b .u64 a0 6148914691236517205))) 2) 3689348814741910323)+(z3b .u64 (u64.wrap ((z3b .u64 (z0w .u64 a0 1) 6148914691236517205)+(z3b .u64 a0 6148914691236517205))) 3689348814741910323))) 4)+(u64.wrap ((z3b .u64 (z0w .u64 (u64.wrap ((z3b .u64 (z0w .u64 a0 1) 6148914691236517205)+(z3b .u64 a0 6148914691236517205))) 2) 3689348814741910323)+(z3b .u64 (u64.wrap ((z3b .u64 (z0w .u64 a0 1) 6148914691236517205)+(z3b .u64 a0 6148914691236517205))) 3689348814741910323))))) 1085102592571150095)+(z0w .u64 (z3b .u64 (u64.wrap ((z0w .u64 (u64.wrap ((z3b .u64 (z0w .u64 (u64.wrap ((z3b .u64 (z0w .u64 a0 1) 6148914691236517205)+(z3b .u64 a0 6148914691236517205))) 2) 3689348814741910323)+(z3b .u64 (u64.wrap ((z3b .u64 (z0w .u64 a0 1) 6148914691236517205)+(z3b .u64 a0 6148914691236517205))) 3689348814741910323))) 4)+(u64.wrap ((z3b .u64 (z0w .u64 (u64.wrap ((z3b .u64 (z0w .u64 a0 1) 6148914691236517205)+(z3b .u64 a0 6148914691236517205))) 2) 3689348814741910323)+(z3b .u64 (u64.wrap ((z3b .u64 (z0w .u64 a0 1) 6148914691236517205)+(z3b .u64 a0 6148914691236517205))) 3689348814741910323))))) 1085102592571150095) 8))) 16))) 32)))) 127)
instance math_bits_OnesCount64_ok{a0:Int}:Ok (z3v a0) (fun r=>L 228 [.sc (.int .u64 a0)]=some (.sc (.int .i64 r),[.dead])):=⟨fun r h=>by have h:=z4s h;unfold z3v at h;exact z5l rfl Tryz.func228 (bdy Tryz.f228 rfl)⟩
def z5d(a0:Int):Option (Int):=
 (z3v a0).bind fun v2=>
 some v2
instance math_bits_OnesCount_ok{a0:Int}:Ok (z5d a0) (fun r=>L 207 [.sc (.int .u64 a0)]=some (.sc (.int .i64 r),[.dead])):=⟨fun r h=>by have h:=z4s h;unfold z5d at h;exact z5l rfl Tryz.func207 (bdy Tryz.f207 rfl)⟩
def z7o(a0:Int):Option (Int):=
 (z5d (u64.wrap a0)).bind fun v2=>
 some v2
instance images_size_ok{a0:Int}:Ok (z7o a0) (fun r=>L 177 [.sc (.int .i64 a0)]=some (.sc (.int .i64 r),[.dead])):=⟨fun r h=>by have h:=z4s h;unfold z7o at h;exact z5l rfl Tryz.func177 (bdy Tryz.f177 rfl)⟩
end
end
section
open Go Go.IntKind
noncomputable section
set_option maxRecDepth 100000
set_option maxHeartbeats 6000000
variable{a1 a2 a3:Int}{a0 m0 m2 m3:List Int}{rf:List Int->Int->Int->Int->List Int->Option (List Int)}
def cmp_isNaN_int(a0:Int):Option (Bool):=
 some (!decide (a0=a0))
instance cmp_isNaN_int_ok{a0:Int}:Ok (cmp_isNaN_int a0) (fun r=>L 160 [.sc (.int .i64 a0)]=some (.sc (.bool r),[.dead])):=⟨fun r h=>by have h:=z4s h;unfold cmp_isNaN_int at h;exact z5l rfl Tryz.func160 (bdy Tryz.f160 rfl)⟩
def cmp_Compare_int(a0:Int)(a1:Int):Option (Int):=
 (cmp_isNaN_int a0).bind fun v3=>
 (cmp_isNaN_int a1).bind fun v4=>
 if v3=true then
 if v4=true then
 some 0
 else
 some (-1)
 else
 if v4=true then
 some 1
 else
 if a0<a1 then
 some (-1)
 else
 if a1<a0 then
 some 1
 else
 some 0
instance cmp_Compare_int_ok{a0:Int}:Ok (cmp_Compare_int a0 a1) (fun r=>L 108 [.sc (.int .i64 a0),.sc (.int .i64 a1)]=some (.sc (.int .i64 r),[.dead,.dead])):=⟨fun r h=>by have h:=z4s h;unfold cmp_Compare_int at h;exact z5l rfl Tryz.func108 (bdy Tryz.f108 rfl)⟩
def z1d(a0:Int)(a1:Int)(m1:List Int):Option (Int):=
 (atI m1 a0).bind fun v4=>
 (atI m1 a1).bind fun v5=>
 (cmp_Compare_int v4 v5).bind fun v6=>
 some v6
instance images_diagram_heights_1_ok{a0:Int}{m1:List Int}:Ok (z1d a0 a1 m1) (fun r=>L 180 [.sc (.int .i64 a0),.sc (.int .i64 a1),.pr [(tI m1)]]=some (.sc (.int .i64 r),[.dead,.dead,.dead])):=⟨fun r h=>by have h:=z4s h;unfold z1d at h;exact z5l rfl Tryz.func180 (bdy Tryz.f180 rfl)⟩
abbrev z1t(a1:Int)(m3:List Int)(w95:Int):Int×List Int->Option ((Int×List Int)⊕((Int×List Int)⊕List Int))
 |(w127,w128)=>
 if a1<w127 then
 (atI w128 w127).bind fun v136=>
 (atI w128 (i64.wrap (w127-1))).bind fun v137=>
 (z1d v136 v137 m3).bind fun v138=>
 if v138<0 then
 (atI (w128.set w127.toNat v137) (i64.wrap (w127-1))).bind fun v142=>
 z0d (i64.wrap (w127-1),((w128.set w127.toNat v137).set (i64.wrap (w127-1)).toNat v136))
 else
 z0f<|
 z0d (i64.wrap (w95+1),w128)
 else
 z0f<|
 z0d (i64.wrap (w95+1),w128)
instance{w95:Int}:Hd (z1t a1 m3 w95):=⟨fun(w127,w128)=>([(9,xI w127)],[(0,(tO w128))])⟩
abbrev z1u(a1:Int)(a2:Int)(m3:List Int):Int×List Int->Option ((Int×List Int)⊕List Int)
 |(w95,w96)=>
 if w95<a2 then
 z0h (z1t a1 m3 w95) LFm (w95,w96)
 else
 z0f<|
 some w96
instance:Hd (z1u a1 a2 m3):=⟨fun(w95,w96)=>([(8,xI w95)],[(0,(tO w96))])⟩
def z0A(a0:List Int)(a1:Int)(a2:Int)(m3:List Int):Option (List Int):=
 z0h (z1u a1 a2 m3) LFm (i64.wrap (a1+1),a0)
instance slices_insertionSortCmpFunc_int_images_diagram_heights_1_ok:Ok (z0A a0 a1 a2 m3) (fun r=>L 208 [(tO a0),.sc (.int .i64 a1),.sc (.int .i64 a2),.cl 180 [.pr [(tI m3)]]]=some (.tup [],[(tO r),.dead,.dead,.dead])):=⟨fun r h=>by have h:=z4s h;unfold z0A at h;exact z5l rfl Tryz.func208 (bdy Tryz.f208 rfl)⟩
abbrev z1I(a1:Int)(a2:Int)(a3:Int):Int×List Int->Option ((Int×List Int)⊕List Int)
 |(w19,w20)=>
 if w19<a3 then
 (atI w20 (i64.wrap (a2+w19))).bind fun v25=>
 (atI w20 (i64.wrap (a1+w19))).bind fun v26=>
 (atI (w20.set (i64.wrap (a1+w19)).toNat v25) (i64.wrap (a2+w19))).bind fun v28=>
 z0d (i64.wrap (w19+1),((w20.set (i64.wrap (a1+w19)).toNat v25).set (i64.wrap (a2+w19)).toNat v26))
 else
 z0f<|
 some w20
instance:Hd (z1I a1 a2 a3):=⟨fun(w19,w20)=>([(10,xI w19)],[(0,(tO w20))])⟩
def z0s(a0:List Int)(a1:Int)(a2:Int)(a3:Int)(m0:List Int):Option (List Int):=
 z0h (z1I a1 a2 a3) LFm (0,a0)
instance slices_swapRangeCmpFunc_int_images_diagram_heights_1_ok:Ok (z0s a0 a1 a2 a3 m0) (fun r=>L 236 [(tO a0),.sc (.int .i64 a1),.sc (.int .i64 a2),.sc (.int .i64 a3),.cl 180 [.pr [(tI m0)]]]=some (.tup [],[(tO r),.dead,.dead,.dead,.dead])):=⟨fun r h=>by have h:=z4s h;unfold z0s at h;exact z5l rfl Tryz.func236 (bdy Tryz.f236 rfl)⟩
abbrev z1W(a2:Int)(m0:List Int):Int×Int×List Int->Option ((Int×Int×List Int)⊕List Int)
 |(w13,w15,w14)=>
 if w13=w15 then
 z0f<|
 (z0s w14 (i64.wrap (a2-w13)) a2 w13 m0).bind fun v18=>
 some v18
 else
 if w15<w13 then
 (z0s w14 (i64.wrap (a2-w13)) a2 w15 m0).bind fun v19=>
 z0d (i64.wrap (w13-w15),w15,v19)
 else
 (z0s w14 (i64.wrap (a2-w13)) (i64.wrap ((i64.wrap (a2+w15))-w13)) w13 m0).bind fun v20=>
 z0d (w13,i64.wrap (w15-w13),v20)
instance:Hd (z1W a2 m0):=⟨fun(w13,w15,w14)=>([(10,xI w13),(11,xI w15)],[(0,(tO w14))])⟩
def z0T(a0:List Int)(a1:Int)(a2:Int)(a3:Int)(m0:List Int):Option (List Int):=
 z0h (z1W a2 m0) LFm (i64.wrap (a2-a1),i64.wrap (a3-a2),a0)
instance slices_rotateCmpFunc_int_images_diagram_heights_1_ok:Ok (z0T a0 a1 a2 a3 m0) (fun r=>L 229 [(tO a0),.sc (.int .i64 a1),.sc (.int .i64 a2),.sc (.int .i64 a3),.cl 180 [.pr [(tI m0)]]]=some (.tup [],[(tO r),.dead,.dead,.dead,.dead])):=⟨fun r h=>by have h:=z4s h;unfold z0T at h;exact z5l rfl Tryz.func229 (bdy Tryz.f229 rfl)⟩
abbrev z1M(w102:Int):Int×List Int->Option ((Int×List Int)⊕List Int)
 |(w114,w115)=>
 if w114<(i64.wrap (w102-1)) then
 (atI w115 (i64.wrap (w114+1))).bind fun v120=>
 (atI w115 w114).bind fun v121=>
 (atI (w115.set w114.toNat v120) (i64.wrap (w114+1))).bind fun v123=>
 z0d (i64.wrap (w114+1),((w115.set w114.toNat v120).set (i64.wrap (w114+1)).toNat v121))
 else
 z0f<|
 some w115
instance{w102:Int}:Hd (z1M w102):=⟨fun(w114,w115)=>([(13,xI w114)],[(0,(tO w115))])⟩
abbrev z1N(a0:List Int)(a1:Int)(m0:List Int):Int×Int->Option ((Int×Int)⊕List Int)
 |(w102,w103)=>
 if w102<w103 then
 chk (¬1<0)<|
 (atI a0 (md w102 w103)).bind fun v107=>
 (atI a0 a1).bind fun v108=>
 (z1d v107 v108 m0).bind fun v109=>
 if v109<0 then
 z0d (i64.wrap ((md w102 w103)+1),w103)
 else
 z0d (w102,i64.wrap (z0w .u64 (u64.wrap (i64.wrap (w102+w103))) 1))
 else
 z0f<|
 z0h (z1M w102) LFm (a1,a0)
instance:Hd (z1N a0 a1 m0):=⟨fun(w102,w103)=>([(10,xI w102),(11,xI w103)],[])⟩
abbrev z1D(w128:Int):Int×List Int->Option ((Int×List Int)⊕List Int)
 |(w139,w140)=>
 if w128<w139 then
 (atI w140 (i64.wrap (w139-1))).bind fun v145=>
 (atI w140 w139).bind fun v146=>
 (atI (w140.set w139.toNat v145) (i64.wrap (w139-1))).bind fun v148=>
 z0d (i64.wrap (w139-1),((w140.set w139.toNat v145).set (i64.wrap (w139-1)).toNat v146))
 else
 z0f<|
 some w140
instance{w128:Int}:Hd (z1D w128):=⟨fun(w139,w140)=>([(17,xI w139)],[(0,(tO w140))])⟩
abbrev z1E(a0:List Int)(a2:Int)(m0:List Int):Int×Int->Option ((Int×Int)⊕List Int)
 |(w128,w127)=>
 if w128<w127 then
 chk (¬1<0)<|
 (atI a0 a2).bind fun v132=>
 (atI a0 (md w128 w127)).bind fun v133=>
 (z1d v132 v133 m0).bind fun v134=>
 if v134<0 then
 z0d (w128,i64.wrap (z0w .u64 (u64.wrap (i64.wrap (w128+w127))) 1))
 else
 z0d (i64.wrap ((md w128 w127)+1),w127)
 else
 z0f<|
 z0h (z1D w128) LFm (a2,a0)
instance:Hd (z1E a0 a2 m0):=⟨fun(w128,w127)=>([(14,xI w128),(15,xI w127)],[])⟩
abbrev z1C(a0:List Int)(a1:Int)(a2:Int)(a3:Int)(m0:List Int)(rf:List Int->Int->Int->Int->List Int->Option (List Int)):Int×Int->Option ((Int×Int)⊕List Int)
 |(w153,w152)=>
 if w153<w152 then
 chk (¬1<0)<|
 (atI a0 (i64.wrap ((i64.wrap ((i64.wrap ((md a1 a3)+a2))-1))-(md w153 w152)))).bind fun v157=>
 (atI a0 (md w153 w152)).bind fun v158=>
 (z1d v157 v158 m0).bind fun v159=>
 if v159<0 then
 z0d (w153,i64.wrap (z0w .u64 (u64.wrap (i64.wrap (w153+w152))) 1))
 else
 z0d (i64.wrap ((md w153 w152)+1),w152)
 else
 z0f<|
 if w153<a2 then
 if a2<(i64.wrap ((i64.wrap ((md a1 a3)+a2))-w153)) then
 (z0T a0 w153 a2 (i64.wrap ((i64.wrap ((md a1 a3)+a2))-w153)) m0).bind fun v160=>
 if a1<w153 then
 if w153<(md a1 a3) then
 (rf v160 a1 w153 (md a1 a3) m0).bind fun v161=>
 if(md a1 a3)<(i64.wrap ((i64.wrap ((md a1 a3)+a2))-w153)) then
 if(i64.wrap ((i64.wrap ((md a1 a3)+a2))-w153))<a3 then
 (rf v161 (md a1 a3) (i64.wrap ((i64.wrap ((md a1 a3)+a2))-w153)) a3 m0).bind fun v162=>
 some v162
 else
 some v161
 else
 some v161
 else
 if(md a1 a3)<(i64.wrap ((i64.wrap ((md a1 a3)+a2))-w153)) then
 if(i64.wrap ((i64.wrap ((md a1 a3)+a2))-w153))<a3 then
 (rf v160 (md a1 a3) (i64.wrap ((i64.wrap ((md a1 a3)+a2))-w153)) a3 m0).bind fun v163=>
 some v163
 else
 some v160
 else
 some v160
 else
 if(md a1 a3)<(i64.wrap ((i64.wrap ((md a1 a3)+a2))-w153)) then
 if(i64.wrap ((i64.wrap ((md a1 a3)+a2))-w153))<a3 then
 (rf v160 (md a1 a3) (i64.wrap ((i64.wrap ((md a1 a3)+a2))-w153)) a3 m0).bind fun v164=>
 some v164
 else
 some v160
 else
 some v160
 else
 if a1<w153 then
 if w153<(md a1 a3) then
 (rf a0 a1 w153 (md a1 a3) m0).bind fun v165=>
 if(md a1 a3)<(i64.wrap ((i64.wrap ((md a1 a3)+a2))-w153)) then
 if(i64.wrap ((i64.wrap ((md a1 a3)+a2))-w153))<a3 then
 (rf v165 (md a1 a3) (i64.wrap ((i64.wrap ((md a1 a3)+a2))-w153)) a3 m0).bind fun v166=>
 some v166
 else
 some v165
 else
 some v165
 else
 if(md a1 a3)<(i64.wrap ((i64.wrap ((md a1 a3)+a2))-w153)) then
 if(i64.wrap ((i64.wrap ((md a1 a3)+a2))-w153))<a3 then
 (rf a0 (md a1 a3) (i64.wrap ((i64.wrap ((md a1 a3)+a2))-w153)) a3 m0).bind fun v167=>
 some v167
 else
 some a0
 else
 some a0
 else
 if(md a1 a3)<(i64.wrap ((i64.wrap ((md a1 a3)+a2))-w153)) then
 if(i64.wrap ((i64.wrap ((md a1 a3)+a2))-w153))<a3 then
 (rf a0 (md a1 a3) (i64.wrap ((i64.wrap ((md a1 a3)+a2))-w153)) a3 m0).bind fun v168=>
 some v168
 else
 some a0
 else
 some a0
 else
 if a1<w153 then
 if w153<(md a1 a3) then
 (rf a0 a1 w153 (md a1 a3) m0).bind fun v169=>
 if(md a1 a3)<(i64.wrap ((i64.wrap ((md a1 a3)+a2))-w153)) then
 if(i64.wrap ((i64.wrap ((md a1 a3)+a2))-w153))<a3 then
 (rf v169 (md a1 a3) (i64.wrap ((i64.wrap ((md a1 a3)+a2))-w153)) a3 m0).bind fun v170=>
 some v170
 else
 some v169
 else
 some v169
 else
 if(md a1 a3)<(i64.wrap ((i64.wrap ((md a1 a3)+a2))-w153)) then
 if(i64.wrap ((i64.wrap ((md a1 a3)+a2))-w153))<a3 then
 (rf a0 (md a1 a3) (i64.wrap ((i64.wrap ((md a1 a3)+a2))-w153)) a3 m0).bind fun v171=>
 some v171
 else
 some a0
 else
 some a0
 else
 if(md a1 a3)<(i64.wrap ((i64.wrap ((md a1 a3)+a2))-w153)) then
 if(i64.wrap ((i64.wrap ((md a1 a3)+a2))-w153))<a3 then
 (rf a0 (md a1 a3) (i64.wrap ((i64.wrap ((md a1 a3)+a2))-w153)) a3 m0).bind fun v172=>
 some v172
 else
 some a0
 else
 some a0
instance:Hd (z1C a0 a1 a2 a3 m0 rf):=⟨fun(w153,w152)=>([(20,xI w153),(21,xI w152)],[])⟩
abbrev z1z(a0:List Int)(a1:Int)(a2:Int)(a3:Int)(m0:List Int)(rf:List Int->Int->Int->Int->List Int->Option (List Int)):Int×Int->Option ((Int×Int)⊕List Int)
 |(w177,w176)=>
 if w177<w176 then
 chk (¬1<0)<|
 (atI a0 (i64.wrap ((i64.wrap ((i64.wrap ((md a1 a3)+a2))-1))-(md w177 w176)))).bind fun v181=>
 (atI a0 (md w177 w176)).bind fun v182=>
 (z1d v181 v182 m0).bind fun v183=>
 if v183<0 then
 z0d (w177,i64.wrap (z0w .u64 (u64.wrap (i64.wrap (w177+w176))) 1))
 else
 z0d (i64.wrap ((md w177 w176)+1),w176)
 else
 z0f<|
 if w177<a2 then
 if a2<(i64.wrap ((i64.wrap ((md a1 a3)+a2))-w177)) then
 (z0T a0 w177 a2 (i64.wrap ((i64.wrap ((md a1 a3)+a2))-w177)) m0).bind fun v184=>
 if a1<w177 then
 if w177<(md a1 a3) then
 (rf v184 a1 w177 (md a1 a3) m0).bind fun v185=>
 if(md a1 a3)<(i64.wrap ((i64.wrap ((md a1 a3)+a2))-w177)) then
 if(i64.wrap ((i64.wrap ((md a1 a3)+a2))-w177))<a3 then
 (rf v185 (md a1 a3) (i64.wrap ((i64.wrap ((md a1 a3)+a2))-w177)) a3 m0).bind fun v186=>
 some v186
 else
 some v185
 else
 some v185
 else
 if(md a1 a3)<(i64.wrap ((i64.wrap ((md a1 a3)+a2))-w177)) then
 if(i64.wrap ((i64.wrap ((md a1 a3)+a2))-w177))<a3 then
 (rf v184 (md a1 a3) (i64.wrap ((i64.wrap ((md a1 a3)+a2))-w177)) a3 m0).bind fun v187=>
 some v187
 else
 some v184
 else
 some v184
 else
 if(md a1 a3)<(i64.wrap ((i64.wrap ((md a1 a3)+a2))-w177)) then
 if(i64.wrap ((i64.wrap ((md a1 a3)+a2))-w177))<a3 then
 (rf v184 (md a1 a3) (i64.wrap ((i64.wrap ((md a1 a3)+a2))-w177)) a3 m0).bind fun v188=>
 some v188
 else
 some v184
 else
 some v184
 else
 if a1<w177 then
 if w177<(md a1 a3) then
 (rf a0 a1 w177 (md a1 a3) m0).bind fun v189=>
 if(md a1 a3)<(i64.wrap ((i64.wrap ((md a1 a3)+a2))-w177)) then
 if(i64.wrap ((i64.wrap ((md a1 a3)+a2))-w177))<a3 then
 (rf v189 (md a1 a3) (i64.wrap ((i64.wrap ((md a1 a3)+a2))-w177)) a3 m0).bind fun v190=>
 some v190
 else
 some v189
 else
 some v189
 else
 if(md a1 a3)<(i64.wrap ((i64.wrap ((md a1 a3)+a2))-w177)) then
 if(i64.wrap ((i64.wrap ((md a1 a3)+a2))-w177))<a3 then
 (rf a0 (md a1 a3) (i64.wrap ((i64.wrap ((md a1 a3)+a2))-w177)) a3 m0).bind fun v191=>
 some v191
 else
 some a0
 else
 some a0
 else
 if(md a1 a3)<(i64.wrap ((i64.wrap ((md a1 a3)+a2))-w177)) then
 if(i64.wrap ((i64.wrap ((md a1 a3)+a2))-w177))<a3 then
 (rf a0 (md a1 a3) (i64.wrap ((i64.wrap ((md a1 a3)+a2))-w177)) a3 m0).bind fun v192=>
 some v192
 else
 some a0
 else
 some a0
 else
 if a1<w177 then
 if w177<(md a1 a3) then
 (rf a0 a1 w177 (md a1 a3) m0).bind fun v193=>
 if(md a1 a3)<(i64.wrap ((i64.wrap ((md a1 a3)+a2))-w177)) then
 if(i64.wrap ((i64.wrap ((md a1 a3)+a2))-w177))<a3 then
 (rf v193 (md a1 a3) (i64.wrap ((i64.wrap ((md a1 a3)+a2))-w177)) a3 m0).bind fun v194=>
 some v194
 else
 some v193
 else
 some v193
 else
 if(md a1 a3)<(i64.wrap ((i64.wrap ((md a1 a3)+a2))-w177)) then
 if(i64.wrap ((i64.wrap ((md a1 a3)+a2))-w177))<a3 then
 (rf a0 (md a1 a3) (i64.wrap ((i64.wrap ((md a1 a3)+a2))-w177)) a3 m0).bind fun v195=>
 some v195
 else
 some a0
 else
 some a0
 else
 if(md a1 a3)<(i64.wrap ((i64.wrap ((md a1 a3)+a2))-w177)) then
 if(i64.wrap ((i64.wrap ((md a1 a3)+a2))-w177))<a3 then
 (rf a0 (md a1 a3) (i64.wrap ((i64.wrap ((md a1 a3)+a2))-w177)) a3 m0).bind fun v196=>
 some v196
 else
 some a0
 else
 some a0
instance:Hd (z1z a0 a1 a2 a3 m0 rf):=⟨fun(w177,w176)=>([(20,xI w177),(21,xI w176)],[])⟩
def z0G(rf:List Int->Int->Int->Int->List Int->Option (List Int))(a0:List Int)(a1:Int)(a2:Int)(a3:Int)(m0:List Int):Option (List Int):=
 if(i64.wrap (a2-a1))=1 then
 z0h (z1N a0 a1 m0) LFm (a2,a3)
 else
 if(i64.wrap (a3-a2))=1 then
 z0h (z1E a0 a2 m0) LFm (a1,a2)
 else
 chk (¬1<0)<|
 if(md a1 a3)<a2 then
 z0h (z1C a0 a1 a2 a3 m0 rf) LFm (i64.wrap ((i64.wrap ((md a1 a3)+a2))-a3),i64.wrap (z0w .u64 (u64.wrap (i64.wrap (a1+a3))) 1))
 else
 z0h (z1z a0 a1 a2 a3 m0 rf) LFm (a1,a2)
theorem z3J[ih:∀(a0:List Int) (a1:Int) (a2:Int) (a3:Int) (m0:List Int),Ok (rf a0 a1 a2 a3 m0) (fun r=>L 209 [(tO a0),.sc (.int .i64 a1),.sc (.int .i64 a2),.sc (.int .i64 a3),.cl 180 [.pr [(tI m0)]]]=some (.tup [],[(tO r),.dead,.dead,.dead,.dead]))]:Ok (z0G rf a0 a1 a2 a3 m0) (fun r=>L 209 [(tO a0),.sc (.int .i64 a1),.sc (.int .i64 a2),.sc (.int .i64 a3),.cl 180 [.pr [(tI m0)]]]=some (.tup [],[(tO r),.dead,.dead,.dead,.dead])):=⟨fun r h=>by have h:=z4s h;unfold z0G at h;exact z5l rfl Tryz.func209 (bdy Tryz.f209 rfl)⟩
def z0j:Nat->List Int->Int->Int->Int->List Int->Option (List Int)
 |0=>fun _ _ _ _ _=>none
 |k+1=>z0G (z0j k)
instance slices_symMergeCmpFunc_int_images_diagram_heights_1_ok:∀ {k:Nat} {a0:List Int} {a1:Int} {a2:Int} {a3:Int} {m0:List Int},Ok (z0j k a0 a1 a2 a3 m0) (fun r=>L 209 [(tO a0),.sc (.int .i64 a1),.sc (.int .i64 a2),.sc (.int .i64 a3),.cl 180 [.pr [(tI m0)]]]=some (.tup [],[(tO r),.dead,.dead,.dead,.dead])):=by
 intro k
 induction k with
 |zero=>intros;exact⟨fun r h=>by cases h⟩
 |succ k ih=>intros;have ih2:= @ih;exact z3J (rf:=z0j k)
abbrev z0I(a1:Int)(m2:List Int)(w45:Int):Int×Int×List Int->Option ((Int×Int×List Int)⊕((Int×List Int)⊕List Int))
 |(w55,w56,w57)=>
 if w56<=a1 then
 (z0j 5000 w57 w55 (i64.wrap (w55+w45)) w56 m2).bind fun v59=>
 z0d (w56,i64.wrap (w56+(i64.wrap (2*w45))),v59)
 else
 z0f<|
 if(i64.wrap (w55+w45))<a1 then
 (z0j 5000 w57 w55 (i64.wrap (w55+w45)) a1 m2).bind fun v60=>
 z0d (i64.wrap (w45*2),v60)
 else
 z0d (i64.wrap (w45*2),w57)
instance{w45:Int}:Hd (z0I a1 m2 w45):=⟨fun(w55,w56,w57)=>([(7,xI w55),(8,xI w56)],[(0,(tO w57))])⟩
abbrev z0J(a1:Int)(m2:List Int):Int×List Int->Option ((Int×List Int)⊕List Int)
 |(w45,w46)=>
 if w45<a1 then
 z0h (z0I a1 m2 w45) LFm (0,i64.wrap (2*w45),w46)
 else
 z0f<|
 some w46
instance:Hd (z0J a1 m2):=⟨fun(w45,w46)=>([(6,xI w45)],[(0,(tO w46))])⟩
abbrev z0K(a1:Int)(m2:List Int):Int×Int×List Int->Option ((Int×Int×List Int)⊕List Int)
 |(w32,w33,w34)=>
 if w33<=a1 then
 (z0A w34 w32 w33 m2).bind fun v36=>
 z0d (w33,i64.wrap (w33+20),v36)
 else
 z0f<|
 (z0A w34 w32 a1 m2).bind fun v37=>
 z0h (z0J a1 m2) LFm (20,v37)
instance:Hd (z0K a1 m2):=⟨fun(w32,w33,w34)=>([(7,xI w32),(8,xI w33)],[(0,(tO w34))])⟩
def z0R(a0:List Int)(a1:Int)(m2:List Int):Option (List Int):=
 z0h (z0K a1 m2) LFm (0,20,a0)
instance slices_stableCmpFunc_int_images_diagram_heights_1_ok:Ok (z0R a0 a1 m2) (fun r=>L 181 [(tO a0),.sc (.int .i64 a1),.cl 180 [.pr [(tI m2)]]]=some (.tup [],[(tO r),.dead,.dead])):=⟨fun r h=>by have h:=z4s h;unfold z0R at h;exact z5l rfl Tryz.func181 (bdy Tryz.f181 rfl)⟩
def z0l(a0:List Int)(m4:List Int):Option (List Int):=
 (z0R a0 (a0.length:Int) m4).bind fun v2=>
 some v2
instance slices_SortStableFunc_Lint_int_images_diagram_heights_1_ok{m4:List Int}:Ok (z0l a0 m4) (fun r=>L 136 [(tO a0),.cl 180 [.pr [(tI m4)]]]=some (.tup [],[(tO r),.dead])):=⟨fun r h=>by have h:=z4s h;unfold z0l at h;exact z5l rfl Tryz.func136 (bdy Tryz.f136 rfl)⟩
abbrev z2r(a0:Dgm)(w136:Int)(w138:List Int):Int×List Int->Option ((Int×List Int)⊕((Int×List Int×List Int)⊕List Int))
 |(w159,w160)=>
 if w159<(a0.sets.length:Int) then
 (atI a0.below w159).bind fun v165=>
 (atI v165 w136).bind fun v166=>
 if v166=true then
 (atI w160 w136).bind fun v167=>
 z0d (i64.wrap (w159+1),(w160.set w136.toNat (i64.wrap (v167+1))))
 else
 z0d (i64.wrap (w159+1),w160)
 else
 z0f<|
 z0d (i64.wrap (w136+1),w160,(w138.set w136.toNat w136))
instance{a0:Dgm}{w136:Int}{w138:List Int}:Hd (z2r a0 w136 w138):=⟨fun(w159,w160)=>([(34,xI w159)],[(5,.vr [(tO w160)])])⟩
abbrev z2l(a0:Dgm)(a1:List Int)(w193:Int)(v221:Int):Int×List Int->Option ((Int×List Int)⊕((Int×List Int)⊕List Int))
 |(w231,w232)=>
 if w231<(a0.sets.length:Int) then
 (atI a0.below w231).bind fun v240=>
 (atI v240 v221).bind fun v241=>
 if v241=true then
 (atI a1 w231).bind fun v242=>
 (atI a1 v221).bind fun v243=>
 if v242=v243 then
 z0d (i64.wrap (w231+1),w232)
 else
 (atI w232 v221).bind fun v244=>
 (atI w232 w231).bind fun v245=>
 z0d (i64.wrap (w231+1),(w232.set v221.toNat (if v244<(i64.wrap (v245+1)) then(i64.wrap (v245+1)) else v244)))
 else
 z0d (i64.wrap (w231+1),w232)
 else
 z0f<|
 z0d (i64.wrap (w193+1),w232)
instance{a0:Dgm}{a1:List Int}{w193:Int}{v221:Int}:Hd (z2l a0 a1 w193 v221):=⟨fun(w231,w232)=>([(76,xI w231)],[(9,(tO w232))])⟩
abbrev z2R(a0:Dgm)(a1:List Int)(v169:List Int):Int×List Int->Option ((Int×List Int)⊕List Int)
 |(w193,w194)=>
 if w193<(v169.length:Int) then
 (atI v169 w193).bind fun v221=>
 (atI a0.sets v221).bind fun v222=>
 (z7o v222).bind fun v223=>
 if v223=1 then
 z0d (i64.wrap (w193+1),w194)
 else
 z0h (z2l a0 a1 w193 v221) LFm (0,w194)
 else
 z0f<|
 some w194
instance{a0:Dgm}{a1:List Int}{v169:List Int}:Hd (z2R a0 a1 v169):=⟨fun(w193,w194)=>([(62,xI w193)],[(9,(tO w194))])⟩
abbrev z3m(a0:Dgm)(a1:List Int):Int×List Int×List Int->Option ((Int×List Int×List Int)⊕List Int)
 |(w136,w137,w138)=>
 if w136<(a0.sets.length:Int) then
 (atI w138 w136).bind fun v154=>
 z0h (z2r a0 w136 w138) LFm (0,w137)
 else
 z0f<|
 (z0l w138 w137).bind fun v169=>
 chk (z0Q 8 (a0.sets.length:Int))<|
 z0h (z2R a0 a1 v169) LFm (0,List.replicate (a0.sets.length:Int).toNat (0:Int))
instance{a0:Dgm}{a1:List Int}:Hd (z3m a0 a1):=⟨fun(w136,w137,w138)=>([(24,xI w136)],[(5,.vr [(tO w137)]),(6,(tO w138))])⟩
def z2V(a0:Dgm)(a1:List Int):Option (List Int):=
 chk (z0Q 8 (a0.sets.length:Int))<|
 z0h (z3m a0 a1) LFm (0,List.replicate (a0.sets.length:Int).toNat (0:Int),List.replicate (a0.sets.length:Int).toNat (0:Int))
instance images_diagram_heights_ok{a0:Dgm}{a1:List Int}:Ok (z2V a0 a1) (fun r=>L 133 [.agg [(tI a0.sets),(tR a0.next),.sl a0.below.length (a0.below.map fun x0=>(tB x0))],(tI a1)]=some ((tO r),[.dead,.dead])):=⟨fun r h=>by have h:=z4s h;unfold z2V at h;exact z5l rfl Tryz.func133 (bdy Tryz.f133 rfl)⟩
end
end
section
open Go Go.IntKind
noncomputable section
set_option maxRecDepth 100000
set_option maxHeartbeats 6000000
variable{v46:DFA×Tape}{a1 a2:Int}{v32:Int×Tape}{a0:Tape}
def zb7(a0:Int)(a1:Int):Option (Int):=
 if a1<1 then
 some 0
 else
 chk (¬a1=0)<|
 if(Int.tmod a0 a1)<0 then
 some (i64.wrap ((Int.tmod a0 a1)+a1))
 else
 some (Int.tmod a0 a1)
instance made_Mod_ok{a0:Int}:Ok (zb7 a0 a1) (fun r=>L 30 [.sc (.int .i64 a0),.sc (.int .i64 a1)]=some (.sc (.int .i64 r),[.dead,.dead])):=⟨fun r h=>by have h:=z4s h;unfold zb7 at h;exact z5l rfl Tryz.func30 (bdy Tryz.f30 rfl)⟩
def z1L(a0:Tape)(a1:Int):Option (Int×Tape):=
 if(a0.l.length:Int)<=a0.at_ then
 some (0,a0)
 else
 (atI a0.l (i64.wrap ((i64.wrap (a0.at_+1))-1))).bind fun v3=>
 (zb7 v3 a1).bind fun v4=>
 some (v4,(⟨a0.l,i64.wrap (a0.at_+1)⟩:Tape))
instance made_Tape_Next_ok:Ok (z1L a0 a1) (fun r=>L 28 [.vr [(tI a0.l),.sc (.int .i64 a0.at_)],.sc (.int .i64 a1)]=some (.sc (.int .i64 r.1),[.vr [(tI r.2.l),.sc (.int .i64 r.2.at_)],.dead])):=⟨fun r h=>by have h:=z4s h;unfold z1L at h;exact z5l rfl Tryz.func28 (bdy Tryz.f28 rfl)⟩
def zcJ(a0:List Int):Option (Tape):=
 if 80<(a0.length:Int) then
 (z6G a0 0 80).bind fun v2=>
 some (⟨v2,0⟩:Tape)
 else
 some (⟨a0,0⟩:Tape)
instance made_New_ok{a0:List Int}:Ok (zcJ a0) (fun r=>L 12 [(tI a0)]=some (.vr [(tI r.l),.sc (.int .i64 r.at_)],[.dead])):=⟨fun r h=>by have h:=z4s h;unfold zcJ at h;exact z5l rfl Tryz.func12 (bdy Tryz.f12 rfl)⟩
def z4S(a0:Tape):Option (Int×Tape):=
 (z1L a0 8).bind fun v2=>
 some (i64.wrap (2-(zAl .i64 v2.1 7)),v2.2)
instance made_Tape_Letters_ok:Ok (z4S a0) (fun r=>L 14 [.vr [(tI a0.l),.sc (.int .i64 a0.at_)]]=some (.sc (.int .i64 r.1),[.vr [(tI r.2.l),.sc (.int .i64 r.2.at_)]])):=⟨fun r h=>by have h:=z4s h;unfold z4S at h;exact z5l rfl Tryz.func14 (bdy Tryz.f14 rfl)⟩
abbrev z5T(a1:Int)(v32:Int×Tape)(w42:Int)(w45:List Bool)(w46:List (List Int))(v55:Int×Tape):Int×List Int×Int×List Int->Option ((Int×List Int×Int×List Int)⊕((Int×List Int×Int×List Bool×List (List Int))⊕(DFA×Tape)))
 |(w57,w58,w59,w60)=>
 if w57<a1 then
 (z1L (⟨w58,w59⟩:Tape) (i64.wrap (1+v32.1))).bind fun v62=>
 chk (z1V 8 (w60.length+1))<|
 z0d (i64.wrap (w57+1),v62.2.l,v62.2.at_,w60++ [v62.1])
 else
 z0f<|
 chk (z1V 24 (w46.length+1))<|
 z0d (i64.wrap (w42+1),w58,w59,w45++ [decide (v55.1=1)],w46++ [w60])
instance{w42:Int}{w45:List Bool}{w46:List (List Int)}{v55:Int×Tape}:Hd (z5T a1 v32 w42 w45 w46 v55):=⟨fun(w57,w58,w59,w60)=>([(11,xI w57)],[(0,.vr [(tI w58),.sc (.int .i64 w59)]),(10,(tO w60))])⟩
abbrev z6q(a1:Int)(v32:Int×Tape)(v33:Int×Tape):Int×List Int×Int×List Bool×List (List Int)->Option ((Int×List Int×Int×List Bool×List (List Int))⊕(DFA×Tape))
 |(w42,w43,w44,w45,w46)=>
 if w42<(i64.wrap (1+v32.1)) then
 (z1L (⟨w43,w44⟩:Tape) 2).bind fun v55=>
 chk (z1V 1 (w45.length+1))<|
 z0h (z5T a1 v32 w42 w45 w46 v55) LFm (0,v55.2.l,v55.2.at_,[])
 else
 z0f<|
 some ((⟨a1,v33.1,w45,w46⟩:DFA),(⟨w43,w44⟩:Tape))
instance{v33:Int×Tape}:Hd (z6q a1 v32 v33):=⟨fun(w42,w43,w44,w45,w46)=>([(9,xI w42)],[(0,.vr [(tI w43),.sc (.int .i64 w44)]),(7,.vr [.sc (.int .i64 a1),.sc (.int .i64 v33.1),.os 1 w45.length (w45.map fun x0=>.sc (.bool x0)),.os 1 w46.length (w46.map fun x0=>(tO x0))])])⟩
def z5e(a0:Tape)(a1:Int)(a2:Int):Option (DFA×Tape):=
 (z1L a0 a2).bind fun v32=>
 (z1L v32.2 (i64.wrap (1+v32.1))).bind fun v33=>
 z0h (z6q a1 v32 v33) LFm (0,v33.2.l,v33.2.at_,[],[])
instance made_Tape_Dfa_ok:Ok (z5e a0 a1 a2) (fun r=>L 31 [.vr [(tI a0.l),.sc (.int .i64 a0.at_)],.sc (.int .i64 a1),.sc (.int .i64 a2)]=some (.agg [.sc (.int .i64 r.1.letters),.sc (.int .i64 r.1.start),.os 1 r.1.final.length (r.1.final.map fun x0=>.sc (.bool x0)),.os 1 r.1.next.length (r.1.next.map fun x0=>(tO x0))],[.vr [(tI r.2.l),.sc (.int .i64 r.2.at_)],.dead,.dead])):=⟨fun r h=>by have h:=z4s h;unfold z5e at h;exact z5l rfl Tryz.func31 (bdy Tryz.f31 rfl)⟩
abbrev z4G(w61:Int)(v77:List Int)(v46:DFA×Tape):Int×List (List Int)->Option ((Int×List (List Int))⊕((Int×List (List Int))⊕(DFA×Tape)))
 |(w81,w82)=>
 (atI w82 w61).bind fun v87=>
 if w81<(v77.length:Int) then
 (atI v87 w81).bind fun v88=>
 z0d (i64.wrap (w81+1),(w82.set w61.toNat (v87.set w81.toNat (if w61<v88 then v88 else w61))))
 else
 z0f<|
 z0d (i64.wrap (w61+1),w82)
instance{w61:Int}{v77:List Int}:Hd (z4G w61 v77 v46):=⟨fun(w81,w82)=>([(27,xI w81)],[(7,.vr [.sc (.int .i64 v46.1.letters),.sc (.int .i64 v46.1.start),.os 1 v46.1.final.length (v46.1.final.map fun x0=>.sc (.bool x0)),.os 1 w82.length (w82.map fun x0=>(tO x0))])])⟩
abbrev z4H(v46:DFA×Tape):Int×List (List Int)->Option ((Int×List (List Int))⊕(DFA×Tape))
 |(w61,w62)=>
 if w61<(v46.1.next.length:Int) then
 (atI w62 w61).bind fun v77=>
 z0h (z4G w61 v77 v46) LFm (0,w62)
 else
 z0f<|
 some ((⟨v46.1.letters,0,v46.1.final,w62⟩:DFA),v46.2)
instance:Hd (z4H v46):=⟨fun(w61,w62)=>([(18,xI w61)],[(7,.vr [.sc (.int .i64 v46.1.letters),.sc (.int .i64 v46.1.start),.os 1 v46.1.final.length (v46.1.final.map fun x0=>.sc (.bool x0)),.os 1 w62.length (w62.map fun x0=>(tO x0))])])⟩
def z4b(a0:Tape)(a1:Int)(a2:Int):Option (DFA×Tape):=
 (z5e a0 a1 a2).bind fun v46=>
 z0h (z4H v46) LFm (0,v46.1.next)
instance made_Tape_Ordered_ok:Ok (z4b a0 a1 a2) (fun r=>L 33 [.vr [(tI a0.l),.sc (.int .i64 a0.at_)],.sc (.int .i64 a1),.sc (.int .i64 a2)]=some (.agg [.sc (.int .i64 r.1.letters),.sc (.int .i64 r.1.start),(tB r.1.final),(tR r.1.next)],[.vr [(tI r.2.l),.sc (.int .i64 r.2.at_)],.dead,.dead])):=⟨fun r h=>by have h:=z4s h;unfold z4b at h;exact zh6 rfl Tryz.func33 (bdy Tryz.f33 rfl)⟩
def z2P(v90:Int×Tape)(w125:Int):Int×List Int×Int×List (List Int)×List Int->Option ((Int×List Int×Int×List (List Int)×List Int)⊕((Int×List Int×Int×List (List Int))⊕(DFA×Tape)))
 |(w162,w163,w164,w165,w166)=>
 if w162<(i64.wrap (1+v90.1)) then
 (z1L (⟨w163,w164⟩:Tape) (w166.length:Int)).bind fun v173=>
 (atI w165 w162).bind fun v174=>
 (atI w166 v173.1).bind fun v175=>
 (atI v174 w125).bind fun v176=>
 (z6G w166 0 v173.1).bind fun v177=>
 (z6G w166 (i64.wrap (v173.1+1)) (w166.length:Int)).bind fun v178=>
 chk (z1V 8 (v177.length))<|
 chk (z1V 8 (v177.length+v178.length))<|
 z0d (i64.wrap (w162+1),v173.2.l,v173.2.at_,(w165.set w162.toNat (v174.set w125.toNat v175)),v177++v178)
 else
 z0f<|
 z0d (i64.wrap (w125+1),w163,w164,w165)
def z2N(a1:Int)(v90:Int×Tape)(v91:Int×Tape)(w96:List Bool)(w125:Int):Int×List Int×Int×List (List Int)×List Int->Fr
 |(w162,w163,w164,w165,w166)=>⟨90,[(0,.one (.a 0 [] (0))),(1,.one (.t none (.sc (.int .i64 a1)))),(6,.one (.a 6 [] (0))),(7,.one (.a 7 [] (0))),(8,.one (.t none (.sc (.int .i64 (i64.wrap (1+v90.1)))))),(10,.one (.t none (.sc (.int .i64 w125)))),(11,.one (.h 11 [])),(13,.one (.t none (.sc (.int .i64 w162)))),(1090,.one (.a 0 [] (0)))],[(0,.vr [(tI w163),.sc (.int .i64 w164)]),(6,.vr [.sc (.int .i64 0),.sc (.int .i64 0),.os 1 0 [],.os 1 0 []]),(7,.vr [.sc (.int .i64 a1),.sc (.int .i64 v91.1),.os 1 w96.length (w96.map fun x0=>.sc (.bool x0)),.os 1 w165.length (w165.map fun x0=>(tO x0))]),(11,(tO w166))]⟩
def z2Q(v90:Int×Tape)(w125:Int)(w126:List Int)(w127:Int)(w128:List (List Int)):Int×List Int->Option ((Int×List Int)⊕((Int×List Int×Int×List (List Int))⊕(DFA×Tape)))
 |(w154,w155)=>
 if w154<(i64.wrap (1+v90.1)) then
 chk (z1V 8 (w155.length+1))<|
 z0d (i64.wrap (w154+1),w155++ [w154])
 else
 z0f<|
 z0h (z2P v90 w125) LFm (0,w126,w127,w128,w155)
def z2O(a1:Int)(v90:Int×Tape)(v91:Int×Tape)(w96:List Bool)(w125:Int)(w126:List Int)(w127:Int)(w128:List (List Int)):Int×List Int->Fr
 |(w154,w155)=>⟨90,[(0,.one (.a 0 [] (0))),(1,.one (.t none (.sc (.int .i64 a1)))),(6,.one (.a 6 [] (0))),(7,.one (.a 7 [] (0))),(8,.one (.t none (.sc (.int .i64 (i64.wrap (1+v90.1)))))),(10,.one (.t none (.sc (.int .i64 w125)))),(11,.one (.h 11 [])),(12,.one (.t none (.sc (.int .i64 w154)))),(1090,.one (.a 0 [] (0)))],[(0,.vr [(tI w126),.sc (.int .i64 w127)]),(6,.vr [.sc (.int .i64 0),.sc (.int .i64 0),.os 1 0 [],.os 1 0 []]),(7,.vr [.sc (.int .i64 a1),.sc (.int .i64 v91.1),.os 1 w96.length (w96.map fun x0=>.sc (.bool x0)),.os 1 w128.length (w128.map fun x0=>(tO x0))]),(11,(tO w155))]⟩
def z3i(a1:Int)(v90:Int×Tape)(v91:Int×Tape)(w96:List Bool):Int×List Int×Int×List (List Int)->Option ((Int×List Int×Int×List (List Int))⊕(DFA×Tape))
 |(w125,w126,w127,w128)=>
 if w125<a1 then
 z0h (z2Q v90 w125 w126 w127 w128) LFm (0,[])
 else
 z0f<|
 some ((⟨a1,v91.1,w96,w128⟩:DFA),(⟨w126,w127⟩:Tape))
def z3g(a1:Int)(v90:Int×Tape)(v91:Int×Tape)(w96:List Bool):Int×List Int×Int×List (List Int)->Fr
 |(w125,w126,w127,w128)=>⟨90,[(0,.one (.a 0 [] (0))),(1,.one (.t none (.sc (.int .i64 a1)))),(6,.one (.a 6 [] (0))),(7,.one (.a 7 [] (0))),(8,.one (.t none (.sc (.int .i64 (i64.wrap (1+v90.1)))))),(10,.one (.t none (.sc (.int .i64 w125)))),(1090,.one (.a 0 [] (0)))],[(0,.vr [(tI w126),.sc (.int .i64 w127)]),(6,.vr [.sc (.int .i64 0),.sc (.int .i64 0),.os 1 0 [],.os 1 0 []]),(7,.vr [.sc (.int .i64 a1),.sc (.int .i64 v91.1),.os 1 w96.length (w96.map fun x0=>.sc (.bool x0)),.os 1 w128.length (w128.map fun x0=>(tO x0))])]⟩
def z3j(a1:Int)(v90:Int×Tape)(v91:Int×Tape):Int×List Int×Int×List Bool×List (List Int)->Option ((Int×List Int×Int×List Bool×List (List Int))⊕(DFA×Tape))
 |(w93,w94,w95,w96,w97)=>
 if w93<(i64.wrap (1+v90.1)) then
 (z1L (⟨w94,w95⟩:Tape) 2).bind fun v99=>
 chk (z1V 1 (w96.length+1))<|
 chk (z0Q 8 a1)<|
 chk (z1V 24 (w97.length+1))<|
 z0d (i64.wrap (w93+1),v99.2.l,v99.2.at_,w96++ [decide (v99.1=1)],w97++ [List.replicate a1.toNat (0:Int)])
 else
 z0f<|
 z0h (z3i a1 v90 v91 w96) LFm (0,w94,w95,w97)
def z3h(a1:Int)(v90:Int×Tape)(v91:Int×Tape):Int×List Int×Int×List Bool×List (List Int)->Fr
 |(w93,w94,w95,w96,w97)=>⟨90,[(0,.one (.a 0 [] (0))),(1,.one (.t none (.sc (.int .i64 a1)))),(6,.one (.a 6 [] (0))),(7,.one (.a 7 [] (0))),(8,.one (.t none (.sc (.int .i64 (i64.wrap (1+v90.1)))))),(9,.one (.t none (.sc (.int .i64 w93)))),(1090,.one (.a 0 [] (0)))],[(0,.vr [(tI w94),.sc (.int .i64 w95)]),(6,.vr [.sc (.int .i64 0),.sc (.int .i64 0),.os 1 0 [],.os 1 0 []]),(7,.vr [.sc (.int .i64 a1),.sc (.int .i64 v91.1),.os 1 w96.length (w96.map fun x0=>.sc (.bool x0)),.os 1 w97.length (w97.map fun x0=>(tO x0))])]⟩
def z2q(a0:Tape)(a1:Int)(a2:Int):Option (DFA×Tape):=
 (z1L a0 a2).bind fun v90=>
 (z1L v90.2 (i64.wrap (1+v90.1))).bind fun v91=>
 z0h (z3j a1 v90 v91) LFm (0,v91.2.l,v91.2.at_,[],[])
instance made_Tape_Permutations_ok:Ok (z2q a0 a1 a2) (fun r=>L 32 [.vr [(tI a0.l),.sc (.int .i64 a0.at_)],.sc (.int .i64 a1),.sc (.int .i64 a2)]=some (.agg [.sc (.int .i64 r.1.letters),.sc (.int .i64 r.1.start),(tB r.1.final),(tR r.1.next)],[.vr [(tI r.2.l),.sc (.int .i64 r.2.at_)],.dead,.dead])):=⟨fun r h0=>by
 simp only[z2q] at h0
 refine zlx rfl Tryz.func32 (zew (bdy Tryz.f32 rfl) ⟨of_decide_eq_true rfl,of_decide_eq_true rfl⟩ rfl ?_)
 simp only[z6J,z7b,z6I,z8K,z6N]
 refine zp (zs ?_)
 refine z0a (zp (zs ?_))
 refine z0a (zp ?_)
 obtain⟨v90,f115,h1⟩:=z1n h0
 have f115k:=Ok.ok _ f115
 try simp at f115k
 refine zr rfl rfl rfl (by simp[f115k];rfl) ?_
 refine z0a (zp ?_)
 obtain⟨v91,f116,h2⟩:=z1n h1
 have f116k:=Ok.ok _ f116
 try simp at f116k
 refine zr rfl rfl rfl (by simp[f116k];rfl) ?_
 refine z0a (zp (zp (zs ?_)))
 refine z0a (zb rfl (z6x h2 (z3h a1 v90 v91) rfl rfl (by simp[z3h]) fun s o1 h3 hr1=> ?_))
 obtain⟨w93,w94,w95,w96,w97⟩:=s
 simp only[z3j] at h3
 simp only[z3h]
 refine zp (zp (zs ?_))
 refine z0a ?_
 by_cases c125:w93<(i64.wrap (1+v90.1))
 ·rw[if_pos c125] at h3
  refine z7P rfl (by simp[c125]) (z5E rfl (z0a (zp (zb rfl ?_))))
  obtain⟨v99,f126,h4⟩:=z1n h3
  have f126k:=Ok.ok _ f126
  try simp at f126k
  obtain⟨f127,h5⟩:=zBE h4
  obtain⟨f128,h6⟩:=zzD h5
  obtain⟨f129,h7⟩:=zlk h6
  refine zkx rfl rfl rfl rfl ?_
  refine zwf [(0,0,3,1),(1,2,3,2),(2,7,3,3),(3,9,3,4),(4,1,2,5),(4,3,1,6),(4,8,2,7),(4,10,1,8),(5,3,1,9),(5,8,2,10),(5,10,1,11),(6,4,3,12),(7,1,2,10),(7,3,1,13),(7,10,1,15),(8,1,2,11),(8,3,1,14),(8,8,2,15),(8,11,1,16),(9,4,3,17),(10,3,1,18),(10,10,1,20),(11,3,1,19),(11,8,2,20),(11,11,1,21),(12,1,2,17),(12,5,1,22),(12,8,2,23),(12,10,1,24),(13,4,3,23),(14,4,3,24),(15,1,2,20),(15,3,1,25),(15,11,1,27),(16,1,2,21),(16,3,1,26),(16,8,2,27),(17,5,1,28),(17,8,2,29),(17,10,1,30),(18,4,0,29),(19,4,3,30),(20,3,1,31),(20,11,1,33),(21,3,1,32),(21,8,2,33),(22,1,2,28),(22,8,2,34),(22,10,1,35),(23,1,2,29),(23,5,1,34),(23,10,1,36),(24,1,2,30),(24,5,1,35),(24,8,2,36),(24,11,1,37),(25,4,3,36),(26,4,3,37),(27,1,2,33),(27,3,1,38),(28,6,2,39),(28,8,2,40),(28,10,1,41),(29,5,1,40),(29,10,1,42),(30,5,1,41),(30,8,2,42),(30,11,1,43),(31,4,0,42),(32,4,3,43),(33,3,1,44),(34,1,2,40),(34,10,1,45),(35,1,2,41),(35,8,2,45),(35,11,1,46),(36,1,2,42),(36,5,1,45),(36,11,1,47),(37,1,2,43),(37,5,1,46),(37,8,2,47),(38,4,3,47),(39,8,2,48),(39,10,1,49),(40,6,2,48),(40,10,1,50),(41,6,2,49),(41,8,2,50),(41,11,1,51),(42,5,1,50),(42,11,1,52),(43,5,1,51),(43,8,2,52),(44,4,0,52),(45,1,2,50),(45,11,1,53),(46,1,2,51),(46,8,2,53),(47,1,2,52),(47,5,1,53),(48,13,3,55),(49,8,2,54),(49,11,1,56),(50,6,2,54),(50,11,1,57),(51,6,2,56),(51,8,2,57),(52,5,1,57),(53,1,2,57),(54,13,3,59),(55,10,1,59),(56,8,2,58),(57,6,2,58),(58,13,3,60),(59,11,1,60),(60,12,2,61),(61,14,2,62),(62,15,0,63),(63,16,2,64)] 64 (by kernel_rfl) ?_
  iterate 12 (refine z1q rfl rfl rfl rfl (by simp[z0v,z0x,f126k,f127,f128,f129];rfl) ?_)
  refine z1p rfl rfl rfl rfl (by simp[z0v,z0x,f126k,f127,f128,f129]) ?_
  refine z1q rfl rfl rfl rfl (by simp[z0v,z0x,f126k,f127,f128,f129];rfl) ?_
  refine z1q rfl rfl rfl rfl (by simp[z0v,z0x,f126k,f127,f128,f129];rfl) ?_
  refine z1p rfl rfl rfl rfl (by simp[z0v,z0x,f126k,f127,f128,f129]) ?_
  refine z1q rfl rfl rfl rfl (by simp[z0v,z0x,f126k,f127,f128,f129];rfl) ?_
  refine z1p rfl rfl rfl rfl (by simp[z0v,z0x,f126k,f127,f128,f129]) ?_
  iterate 5 (refine z1q rfl rfl rfl rfl (by simp[z0v,z0x,f126k,f127,f128,f129];rfl) ?_)
  refine z1p rfl rfl rfl rfl (by simp[z0v,z0x,f126k,f127,f128,f129]) ?_
  refine z1q rfl rfl rfl rfl (by simp[z0v,z0x,f126k,f127,f128,f129];rfl) ?_
  refine z1p rfl rfl rfl rfl (by simp[z0v,z0x,f126k,f127,f128,f129]) ?_
  iterate 3 (refine z1q rfl rfl rfl rfl (by simp[z0v,z0x,f126k,f127,f128,f129];rfl) ?_)
  iterate 3 (refine z1p rfl rfl rfl rfl (by simp[z0v,z0x,f126k,f127,f128,f129]) ?_)
  refine z1q rfl rfl rfl rfl (by simp[z0v,z0x,f126k,f127,f128,f129];rfl) ?_
  refine z1q rfl rfl rfl rfl (by simp[z0v,z0x,f126k,f127,f128,f129];rfl) ?_
  refine z1p rfl rfl rfl rfl (by simp[z0v,z0x,f126k,f127,f128,f129]) ?_
  refine z1q rfl rfl rfl rfl (by simp[z0v,z0x,f126k,f127,f128,f129];rfl) ?_
  refine z1p rfl rfl rfl rfl (by simp[z0v,z0x,f126k,f127,f128,f129]) ?_
  iterate 3 (refine z1q rfl rfl rfl rfl (by simp[z0v,z0x,f126k,f127,f128,f129];rfl) ?_)
  refine z1p rfl rfl rfl rfl (by simp[z0v,z0x,f126k,f127,f128,f129]) ?_
  refine z1p rfl rfl rfl rfl (by simp[z0v,z0x,f126k,f127,f128,f129]) ?_
  iterate 3 (refine z1q rfl rfl rfl rfl (by simp[z0v,z0x,f126k,f127,f128,f129];rfl) ?_)
  refine z1p rfl rfl rfl rfl (by simp[z0v,z0x,f126k,f127,f128,f129]) ?_
  refine z1p rfl rfl rfl rfl (by simp[z0v,z0x,f126k,f127,f128,f129]) ?_
  refine z1q rfl rfl rfl rfl (by simp[z0v,z0x,f126k,f127,f128,f129];rfl) ?_
  refine z1q rfl rfl rfl rfl (by simp[z0v,z0x,f126k,f127,f128,f129];rfl) ?_
  refine z1p rfl rfl rfl rfl (by simp[z0v,z0x,f126k,f127,f128,f129]) ?_
  refine z1p rfl rfl rfl rfl (by simp[z0v,z0x,f126k,f127,f128,f129]) ?_
  refine z1q rfl rfl rfl rfl (by simp[z0v,z0x,f126k,f127,f128,f129];rfl) ?_
  iterate 3 (refine z1p rfl rfl rfl rfl (by simp[z0v,z0x,f126k,f127,f128,f129]) ?_)
  refine z1q rfl rfl rfl rfl (by simp[z0v,z0x,f126k,f127,f128,f129];rfl) ?_
  iterate 3 (refine z1p rfl rfl rfl rfl (by simp[z0v,z0x,f126k,f127,f128,f129]) ?_)
  iterate 4 (refine z1q rfl rfl rfl rfl (by simp[z0v,z0x,f126k,f127,f128,f129];rfl) ?_)
  refine z1p rfl rfl rfl rfl (by simp[z0v,z0x,f126k,f127,f128,f129]) ?_
  refine z1q rfl rfl rfl rfl (by simp[z0v,z0x,f126k,f127,f128,f129];rfl) ?_
  refine z1p rfl rfl rfl rfl (by simp[z0v,z0x,f126k,f127,f128,f129]) ?_
  refine z1p rfl rfl rfl rfl (by simp[z0v,z0x,f126k,f127,f128,f129]) ?_
  refine z1q rfl rfl rfl rfl (by simp[z0v,z0x,f126k,f127,f128,f129];rfl) ?_
  refine z1p rfl rfl rfl rfl (by simp[z0v,z0x,f126k,f127,f128,f129]) ?_
  refine z1p rfl rfl rfl rfl (by simp[z0v,z0x,f126k,f127,f128,f129]) ?_
  refine z1q rfl rfl rfl rfl (by simp[z0v,z0x,f126k,f127,f128,f129];rfl) ?_
  refine z1p rfl rfl rfl rfl (by simp[z0v,z0x,f126k,f127,f128,f129]) ?_
  refine z1q rfl rfl rfl rfl (by simp[z0v,z0x,f126k,f127,f128,f129];rfl) ?_
  refine z1p rfl rfl rfl rfl (by simp[z0v,z0x,f126k,f127,f128,f129]) ?_
  refine z1p rfl rfl rfl rfl (by simp[z0v,z0x,f126k,f127,f128,f129]) ?_
  refine z1q rfl rfl rfl rfl (by simp[z0v,z0x,f126k,f127,f128,f129];rfl) ?_
  refine z1p rfl rfl rfl rfl (by simp[z0v,z0x,f126k,f127,f128,f129]) ?_
  refine z1p rfl rfl rfl rfl (by simp[z0v,z0x,f126k,f127,f128,f129]) ?_
  refine z1q rfl rfl rfl rfl (by simp[z0v,z0x,f126k,f127,f128,f129];rfl) ?_
  iterate 4 (refine z1p rfl rfl rfl rfl (by simp[z0v,z0x,f126k,f127,f128,f129]) ?_)
  refine z1q rfl rfl rfl rfl (by simp[z0v,z0x,f126k,f127,f128,f129];rfl) ?_
  refine z1q rfl rfl rfl rfl (by simp[z0v,z0x,f126k,f127,f128,f129];rfl) ?_
  refine z1p rfl rfl rfl rfl (by simp[z0v,z0x,f126k,f127,f128,f129]) ?_
  refine z1q rfl rfl rfl rfl (by simp[z0v,z0x,f126k,f127,f128,f129];rfl) ?_
  refine z1p rfl rfl rfl rfl (by simp[z0v,z0x,f126k,f127,f128,f129]) ?_
  refine z1p rfl rfl rfl rfl (by simp[z0v,z0x,f126k,f127,f128,f129]) ?_
  refine z1q rfl rfl rfl rfl (by simp[z0v,z0x,f126k,f127,f128,f129];rfl) ?_
  refine z1p rfl rfl rfl rfl (by simp[z0v,z0x,f126k,f127,f128,f129]) ?_
  refine z1q rfl rfl rfl rfl (by simp[z0v,z0x,f126k,f127,f128,f129];rfl) ?_
  iterate 4 (refine z1p rfl rfl rfl rfl (by simp[z0v,z0x,f126k,f127,f128,f129]) ?_)
  refine z1q rfl rfl rfl rfl (by simp[z0v,z0x,f126k,f127,f128,f129];rfl) ?_
  iterate 4 (refine z1p rfl rfl rfl rfl (by simp[z0v,z0x,f126k,f127,f128,f129]) ?_)
  iterate 3 (refine z1q rfl rfl rfl rfl (by simp[z0v,z0x,f126k,f127,f128,f129];rfl) ?_)
  refine z1p rfl rfl rfl rfl (by simp[z0v,z0x,f126k,f127,f128,f129]) ?_
  refine z1q rfl rfl rfl rfl (by simp[z0v,z0x,f126k,f127,f128,f129];rfl) ?_
  iterate 4 (refine z1p rfl rfl rfl rfl (by simp[z0v,z0x,f126k,f127,f128,f129]) ?_)
  refine z1q rfl rfl rfl rfl (by simp[z0v,z0x,f126k,f127,f128,f129];rfl) ?_
  refine z1p rfl rfl rfl rfl (by simp[z0v,z0x,f126k,f127,f128,f129]) ?_
  refine z1q rfl rfl rfl rfl (by simp[z0v,z0x,f126k,f127,f128,f129];rfl) ?_
  refine z1p rfl rfl rfl rfl (by simp[z0v,z0x,f126k,f127,f128,f129]) ?_
  refine z1q rfl rfl rfl rfl (by simp[z0v,z0x,f126k,f127,f128,f129];rfl) ?_
  refine z1p rfl rfl rfl rfl (by simp[z0v,z0x,f126k,f127,f128,f129]) ?_
  iterate 4 (refine z1q rfl rfl rfl rfl (by simp[z0v,z0x,f126k,f127,f128,f129];rfl) ?_)
  refine zwG rfl ?_
  refine zk3 rfl (by simp[f126k,f127,f128,f129];rfl) ?_
  refine z2f (z0a (zs ?_))
  have ho:=z1K h7
  refine z2t ho ?_
  simp[z3h]
 ·rw[if_neg c125] at h3
  refine z7Q rfl (by simp[c125]) (z7S rfl (z6g ?_))
  obtain⟨rr1,h4,ho1⟩:=z3R h3
  have hs1:=hr1 _ ho1
  subst hs1
  refine z5a ho1 (z2n rfl (z0a (zp (zp (zs ?_)))))
  refine z0a (zb rfl (z6x h4 (z3g a1 v90 v91 w96) rfl rfl (by simp[z3g]) fun s o2 h5 hr2=> ?_))
  obtain⟨w125,w126,w127,w128⟩:=s
  simp only[z3i] at h5
  simp only[z3g]
  refine zp (zp (zs ?_))
  refine z0a ?_
  by_cases c196:w125<a1
  ·rw[if_pos c196] at h5
   refine z7P rfl (by simp[c196]) (z5E rfl (z0a (zp (zb rfl (zp (zs ?_))))))
   refine z0a (zp (zp (zs ?_)))
   refine z0a (zb rfl (z6x h5 (z2O a1 v90 v91 w96 w125 w126 w127 w128) rfl rfl (by simp[z2O]) fun s o3 h6 hr3=> ?_))
   obtain⟨w154,w155⟩:=s
   simp only[z2Q] at h6
   simp only[z2O]
   refine zp (zp (zs ?_))
   refine z0a ?_
   by_cases c200:w154<(i64.wrap (1+v90.1))
   ·rw[if_pos c200] at h6
    refine z7P rfl (by simp[c200]) (z5E rfl (z0a (zp (zb rfl ?_))))
    obtain⟨f201,h7⟩:=zlk h6
    refine zr rfl rfl rfl (by simp[f201];rfl) ?_
    refine z2f (z0a (zs ?_))
    have ho:=z1K h7
    refine z2t ho ?_
    simp[z2O]
   ·rw[if_neg c200] at h6
    refine z7Q rfl (by simp[c200]) (z7S rfl (z6g ?_))
    obtain⟨rr3,h7,ho3⟩:=z3R h6
    have hs3:=hr3 _ ho3
    subst hs3
    refine z5a ho3 (z2n rfl (z0a (zp (zs ?_))))
    refine z0a (zb rfl (z6x h7 (z2N a1 v90 v91 w96 w125) rfl rfl (by simp[z2N]) fun s o4 h8 hr4=> ?_))
    obtain⟨w162,w163,w164,w165,w166⟩:=s
    simp only[z2P] at h8
    simp only[z2N]
    refine zp (zp (zs ?_))
    refine z0a ?_
    by_cases c220:w162<(i64.wrap (1+v90.1))
    ·rw[if_pos c220] at h8
     refine z7P rfl (by simp[c220]) (z5E rfl (z0a (zp (zb rfl (zp ?_)))))
     obtain⟨v173,f221,h9⟩:=z1n h8
     have f221k:=Ok.ok _ f221
     try simp at f221k
     refine zr rfl rfl rfl (by simp[f221k];rfl) ?_
     refine z0a (zp ?_)
     obtain⟨v174,f222,h10⟩:=z6B h9
     obtain⟨v175,f223,h11⟩:=z6B h10
     obtain⟨v176,f224,h12⟩:=z6B h11
     refine z9P rfl rfl rfl rfl ?_;repeat' ((first|refine z5R rfl rfl fun Q' hQ=> ?_|refine z5b rfl fun Q' hQ=> ?_);simp[f222,f223,f224];refine hQ.out _ ?_;clear hQ;clear Q')
     refine z0a ?_
     obtain⟨v177,f225,h13⟩:=z1n h12
     obtain⟨f225a,f225b,f225c,-⟩:=z5F f225
     obtain⟨f225d,f225g⟩:=zcB f225a f225b
     have f225e:=zdH (g:=fun x:Int=>(.sc (.int .i64 x):T)) f225
     try simp at f225e
     have f225f:=zdG f225
     try simp only[Int.reduceToNat,Z2,YN] at f225f
     obtain⟨v178,f226,h14⟩:=z1n h13
     obtain⟨f226a,f226b,f226c,-⟩:=z5F f226
     obtain⟨f226d,f226g⟩:=zcB f226a f226b
     have f226e:=zdH (g:=fun x:Int=>(.sc (.int .i64 x):T)) f226
     try simp at f226e
     have f226f:=zdG f226
     try simp only[Int.reduceToNat,Z2,YN] at f226f
     obtain⟨f227,h15⟩:=zlk h14
     obtain⟨f228,h16⟩:=zlk h15
     refine z9P rfl rfl rfl rfl ?_;repeat' ((first|refine z5R rfl rfl fun Q' hQ=> ?_|refine z5b rfl fun Q' hQ=> ?_);simp[f222,f225a,f225b,f225c,f225d,f225g,f225e,f225f,f226a,f226b,f226c,f226d,f226g,f226e,f226f,f227,f228];refine hQ.out _ ?_;clear hQ;clear Q')
     refine z2f (z0a (zr rfl rfl rfl (by simp[f222];rfl) ?_))
     have ho:=z1K h16
     refine z2t ho ?_
     simp[z2N]
    ·rw[if_neg c220] at h8
     refine z7Q rfl (by simp[c220]) (z7S rfl (z6g ?_))
     obtain⟨rr4,h9,ho4⟩:=z3R h8
     have hs4:=hr4 _ ho4
     subst hs4
     refine z5a ho4 (z2n rfl (z2f (z0a (zs ?_))))
     have ho:=z1K h9
     refine z2t ho ?_
     simp[z3g]
  ·rw[if_neg c196] at h5
   refine z7Q rfl (by simp[c196]) (z7S rfl (z6g ?_))
   obtain⟨rr2,h6,ho2⟩:=z3R h5
   have hs2:=hr2 _ ho2
   subst hs2
   refine z5a ho2 (z2n rfl (z0a (zp (zs ?_))))
   refine z0a (zcx rfl ?_)
   cases h6
   simp⟩
end
end
section
open Go
structure TapeOk(t:Tape):Prop where
 a0:0<=t.at_
 a1:t.at_<=t.l.length
 a2:t.l.length<=80
theorem zg4(x n:Int)(h1:1<=n)(h2:n<4611686018427387904):∃v,zb7 x n=some v/\0<=v/\v<n:=by
 have hx:x.tmod n<n:=Int.tmod_lt_of_pos _ (by omega)
 have hy: -n<x.tmod n:=Int.lt_tmod_of_pos x (by omega)
 unfold zb7
 rw[if_neg (by omega),z0i _ (by omega)]
 split
 · rw[z3f (by omega) (by omega)];exact⟨_,rfl,by omega,by omega⟩
 · exact⟨_,rfl,by omega,by omega⟩
theorem z9Q{t:Tape}(ht:TapeOk t)(n:Int)(h1:1<=n)(h2:n<4611686018427387904):∃v t',z1L t n=some (v,t')/\0<=v/\v<n/\TapeOk t':=by
 obtain⟨a0,a1,a2⟩:=ht
 unfold z1L
 split
 · exact⟨_,_,rfl,by omega,by omega,a0,a1,a2⟩
 · rename_i hlt
   rw[z3f (x:=t.at_+1) (by omega) (by omega),z3f (by omega) (by omega)]
   obtain⟨k,hk⟩:=ZI a0
   have e:t.at_+1-1=(k:Int):=by omega
   rw[e,z0Y (by omega)]
   obtain⟨v,hv,h3,h4⟩:=zg4 t.l[k] n h1 h2
   simp only[Z0,hv]
   exact⟨_,_,rfl,h3,h4,by simp only;omega,by simp only;omega,a2⟩
theorem zzy(l:List Int):∃t,zcJ l=some t/\TapeOk t:=by
 unfold zcJ
 split
 · rename_i h
   have:=zcC (xs:=l) (k:=80) (by omega)
   simp only[Int.cast_ofNat_Int] at this
   rw[this]
   exact⟨_,rfl,by simp,by simp,by simp only[Zo];omega⟩
 · exact⟨_,rfl,by simp,by simp,by simp;omega⟩
end
section
open Go
def z9Y(m n:Nat)(r:List Int):Prop:=r.length=m/\ ∀x∈r,0<=x/\x<n
structure DfaOk(d:DFA)(m n:Nat):Prop where
 lt:d.letters=m
 m1:1<=m
 m6:m<=6
 n1:1<=n
 fin:d.final.length=n
 nl:d.next.length=n
 s0:0<=d.start
 s1:d.start<n
 row:∀r∈d.next,z9Y m n r
theorem ziy{σ τ ρ:Type}{b:σ->Option (σ⊕(τ⊕ρ))}(I:σ->Prop)(m:σ->Nat)(Post:τ->Prop){s:σ}(hI:I s)(hm:m s<LFm)
 (step:∀s,I s->(∃s',b s=some (.inl s')/\I s'/\m s'<m s)∨(∃r,b s=some (.inr (.inl r))/\Post r)):∃r,z0h b LFm s=some (.inl r)/\Post r:=by
 obtain⟨r,h1,r',h2,h3⟩:=z2e I m (fun r=>∃t,r= .inl t/\Post t) (fun s hs=>(step s hs).imp id fun⟨r,h,hp⟩=>⟨_,h,r,rfl,hp⟩) LFm s hI hm
 exact⟨r',by rw[h1,h2],h3⟩
theorem zeB{α:Type}{l:List α}{x y:α}:y∈l++ [x]↔y∈l∨y=x:=by simp
theorem zwH{t:Tape}(ht:TapeOk t)(m most:Nat)(hm:1<=m/\m<=6)(hk:1<=most/\most<=1000):∃d t' n,z5e t m most=some (d,t')/\DfaOk d m n/\n<=most/\TapeOk t':=by
 unfold z5e
 obtain⟨v,t1,e1,v0,v1,ht1⟩:=z9Q ht (most:Int) (by omega) (by omega)
 simp only[e1,Z0]
 obtain⟨k,rfl⟩:=ZI v0
 have hw:IntKind.i64.wrap (1+(k:Int))=((k+1:Nat):Int):=by rw[z3f (by omega) (by omega)];omega
 rw[hw]
 obtain⟨s,t2,e2,s0,s1,ht2⟩:=z9Q ht1 ((k+1:Nat):Int) (by omega) (by omega)
 simp only[e2,Z0]
 refine Exists.elim (z2e (b:=z6q m ((k:Int),t1) (s,t2)) (fun z=>0<=z.1/\z.1<=(k+1:Nat)/\TapeOk ⟨z.2.1,z.2.2.1⟩/\(z.2.2.2.1.length:Int)=z.1/\(z.2.2.2.2.length:Int)=z.1/\ ∀r∈z.2.2.2.2,z9Y m (k+1) r) (fun z=>k+2-z.1.toNat)
  (fun r=>DfaOk r.1 m (k+1)/\TapeOk r.2) ?_ LFm (0,t2.l,t2.at_,[],[]) ⟨by simp,by simp;omega,ht2,by simp,by simp,by simp⟩ (by simp only[LFm];omega)) fun r h=>⟨r.1,r.2,k+1,h.1,h.2.1,by omega,h.2.2⟩
 rintro⟨i,tl,ta,fs,rs⟩ ⟨i0,i1,i2,i3,i4,i5⟩
 simp only at i0 i1 i2 i3 i4 i5⊢
 simp only[z6q,hw]
 by_cases hi:i<((k+1:Nat):Int)
 · left
   rw[if_pos hi]
   obtain⟨u,t3,e3,u0,u1,ht3⟩:=z9Q i2 2 (by omega) (by omega)
   simp only[e3,Z0]
   rw[z0i _ (by unfold z1V;omega)]
   refine Exists.elim (ziy (b:=z5T m ((k:Int),t1) i fs rs (u,t3)) (fun z=>0<=z.1/\z.1<=m/\TapeOk ⟨z.2.1,z.2.2.1⟩/\(z.2.2.2.length:Int)=z.1/\ ∀x∈z.2.2.2,0<=x/\x<(k+1:Nat)) (fun z=>m+1-z.1.toNat)
    (fun z=>z.1=i+1/\TapeOk ⟨z.2.1,z.2.2.1⟩/\(z.2.2.2.1.length:Int)=i+1/\(z.2.2.2.2.length:Int)=i+1/\ ∀r∈z.2.2.2.2,z9Y m (k+1) r) (s:=(0,t3.l,t3.at_,[])) ⟨by simp,by simp,ht3,by simp,by simp⟩ (by simp only[LFm];omega) ?_) fun r h=>⟨_,h.1,⟨by have:=h.2.1;omega,by have:=h.2.1;omega,h.2.2.1,by have:=h.2.1;have:=h.2.2.2.1;omega,by have:=h.2.1;have:=h.2.2.2.2.1;omega,h.2.2.2.2.2⟩,by have:=h.2.1;omega⟩
   rintro⟨j,ul,ua,row⟩ ⟨j0,j1,j2,j3,j4⟩
   simp only at j0 j1 j2 j3 j4⊢
   simp only[z5T,hw]
   by_cases hj:j<(m:Int)
   · left
     rw[if_pos hj]
     obtain⟨x,t4,e4,x0,x1,ht4⟩:=z9Q j2 ((k+1:Nat):Int) (by omega) (by omega)
     simp only[e4,Z0]
     rw[z0i _ (by unfold z1V;omega),z3f (by omega) (by omega)]
     refine⟨_,rfl,⟨by simp only;omega,by simp only;omega,ht4,by simp only[Zb,ZD];omega,fun y hy=> ?_⟩,by simp only;omega⟩
     rcases zeB.1 hy with h|rfl
     · exact j4 y h
     · exact⟨x0,x1⟩
   · right
     rw[if_neg hj,z0i _ (by unfold z1V;omega),z3f (by omega) (by omega)]
     refine⟨_,rfl,by simp only,j2,by simp only[Zb,ZD];omega,by simp only[Zb,ZD];omega,fun y hy=> ?_⟩
     rcases zeB.1 hy with h|rfl
     · exact i5 y h
     · exact⟨by omega,j4⟩
 · right
   rw[if_neg hi]
   exact⟨_,rfl,⟨rfl,hm.1,hm.2,by omega,by simp only;omega,by simp only;omega,s0,s1,i5⟩,i2⟩
theorem zq0{t:Tape}(ht:TapeOk t):∃m t',z4S t=some (((m:Nat):Int),t')/\1<=m/\m<=2/\TapeOk t':=by
 unfold z4S
 obtain⟨v,t1,e1,v0,v1,ht1⟩:=z9Q ht 8 (by omega) (by omega)
 simp only[e1,Z0]
 obtain⟨k,rfl⟩:=ZI v0
 have:zAl .i64 (k:Int) 7=((k/7:Nat):Int):=by
  unfold zAl
  rw[show((k:Int).tdiv 7)=((k/7:Nat):Int) by rfl,z3f (by omega) (by omega)]
 rw[this,z3f (by omega) (by omega)]
 exact⟨2-k/7,t1,by congr 2;omega,by omega,by omega,ht1⟩
end
section
open Go
set_option maxRecDepth 100000
variable{rs:List (List Int)}{xs:List Int}{k m n:Nat}
theorem znz(h:∀r∈rs,z9Y m n r){r':List Int}(hr:z9Y m n r')(i:Nat):∀r∈rs.set i r',z9Y m n r:=fun r hm=>by grind
theorem zrT{r:List Int}(h:z9Y m n r){x:Int}(hx:0<=x/\x<n)(j:Nat):z9Y m n (r.set j x):=⟨by simp[h.1],fun y hy=>by
 rcases Xt hy with h'|rfl
 · exact h.2 y h'
 · exact hx⟩
theorem zrU(h:∀r∈rs,z9Y m n r)(hk:k<rs.length):z9Y m n rs[k]:=h _ (Zp hk)
theorem zuL(m n:Nat)(hn:1<=n):z9Y m n (List.replicate m 0):=⟨by simp,fun x hx=>by rw[(List.mem_replicate.1 hx).2];omega⟩
theorem zxl(h:k<xs.length):z6G xs 0 (k:Int)=some (xs.take k):=zcC (by omega)
theorem zxk(h:k<xs.length):z6G xs ((k:Int)+1) (xs.length:Int)=some (xs.drop (k+1)):=by
 have:=zm9 (xs:=xs) (k:=k+1) (by omega)
 rwa [show((k+1:Nat):Int)=(k:Int)+1 by omega] at this
end
section
open Go
set_option maxRecDepth 100000
variable{d:DFA}{a b m n q s:Nat}
theorem zeu(h:a<2^62):IntKind.i64.wrap (a:Int)=(a:Int):=z3f (by omega) (by omega)
theorem zw6(ha:a<2^62)(hb:b<2^62):z3b .i64 (a:Int) (b:Int)=((a&&&b:Nat):Int):=by
 unfold z3b
 have e:(BitVec.ofInt IntKind.i64.bits (a:Int)&&&BitVec.ofInt IntKind.i64.bits (b:Int)).toNat=a&&&b:=by
  show(BitVec.ofInt 64 (a:Int)&&&BitVec.ofInt 64 (b:Int)).toNat=_
  rw[BitVec.toNat_and,BitVec.toNat_ofInt,BitVec.toNat_ofInt]
  have h1:((a:Int)%((2^64:Nat):Int)).toNat=a:=by omega
  have h2:((b:Int)%((2^64:Nat):Int)).toNat=b:=by omega
  rw[h1,h2]
 rw[e]
 exact zeu (YS Nat.and_le_left ha)
theorem zxt{k:Nat}(ha:a<2^k)(hb:b<2^k):a|||b<2^k:=Nat.or_lt_two_pow ha hb
theorem zmf(ha:a<2^62)(hb:b<2^62):orI .i64 (a:Int) (b:Int)=((a|||b:Nat):Int):=by
 unfold orI
 have e:(BitVec.ofInt IntKind.i64.bits (a:Int)|||BitVec.ofInt IntKind.i64.bits (b:Int)).toNat=a|||b:=by
  show(BitVec.ofInt 64 (a:Int)|||BitVec.ofInt 64 (b:Int)).toNat=_
  rw[BitVec.toNat_or,BitVec.toNat_ofInt,BitVec.toNat_ofInt]
  have h1:((a:Int)%((2^64:Nat):Int)).toNat=a:=by omega
  have h2:((b:Int)%((2^64:Nat):Int)).toNat=b:=by omega
  rw[h1,h2]
 rw[e]
 exact zeu (zxt ha hb)
theorem zgN(ha:a<2^62)(hb:b<2^62):zgO .i64 (a:Int) (b:Int)=0↔a&&&b=a:=by
 unfold zgO
 have e:(BitVec.ofInt IntKind.i64.bits (a:Int)&&& ~~~ BitVec.ofInt IntKind.i64.bits (b:Int)).toNat=(BitVec.ofNat 64 a&&& ~~~ BitVec.ofNat 64 b).toNat:=by
  show(BitVec.ofInt 64 (a:Int)&&& ~~~ BitVec.ofInt 64 (b:Int)).toNat=_
  congr 2
 rw[e]
 have hle:(BitVec.ofNat 64 a&&& ~~~ BitVec.ofNat 64 b).toNat<=a:=by
  rw[BitVec.toNat_and]
  refine ZR Nat.and_le_left ?_
  simp only[BitVec.toNat_ofNat]
  omega
 rw[zeu (by omega)]
 have ta:∀i,(BitVec.ofNat 64 a).toNat.testBit i=a.testBit i:=fun i=>by
  rw[BitVec.toNat_ofNat,YZ (by omega)]
 have tb:∀i,(BitVec.ofNat 64 b).toNat.testBit i=b.testBit i:=fun i=>by
  rw[BitVec.toNat_ofNat,YZ (by omega)]
 have hz:∀i,(BitVec.ofNat 64 a&&& ~~~ BitVec.ofNat 64 b).toNat.testBit i=(a.testBit i&& !(b.testBit i)):=fun i=>by
  rw[BitVec.testBit_toNat,BitVec.getLsbD_and,BitVec.getLsbD_not]
  by_cases hi:i<64
  · simp only[hi,decide_true,YE]
    rw[←BitVec.testBit_toNat,←BitVec.testBit_toNat,ta,tb]
  · have:a.testBit i=false:=YR (Zy ha (Zm (by omega) (by omega)))
    rw[←BitVec.testBit_toNat,ta,this];simp
 constructor
 · intro h
   have h0:(BitVec.ofNat 64 a&&& ~~~ BitVec.ofNat 64 b).toNat=0:=by omega
   apply ZQ
   intro i
   have:=hz i
   rw[h0,Xf] at this
   rw[XK]
   revert this
   cases a.testBit i<;>cases b.testBit i<;>simp
 · intro h
   have:(BitVec.ofNat 64 a&&& ~~~ BitVec.ofNat 64 b).toNat=0:=by
    apply ZQ
    intro i
    have e2:(a&&&b).testBit i=a.testBit i:=by rw[h]
    rw[XK] at e2
    rw[hz,Xf]
    revert e2
    cases a.testBit i<;>cases b.testBit i<;>simp
   omega
theorem znu(hq:q<=64):z0w .i64 (a:Int) (q:Int)=((a>>>q:Nat):Int):=by
 unfold z0w
 have e:min ((q:Int).toNat) IntKind.i64.bits=q:=by
  show min ((q:Int).toNat) 64=q
  omega
 rw[e,Xs,Int.fdiv_eq_ediv_of_nonneg _ (by exact Int.pow_nonneg (by omega))]
 simp
theorem z8U(hq:q<=61):zm0 .i64 1 (q:Int)=((2^q:Nat):Int):=by
 rw[zrB]
 have e:min ((q:Int).toNat) IntKind.i64.bits=q:=by
  show min ((q:Int).toNat) 64=q
  omega
 rw[e,Int.one_mul]
 have:((2:Int)^q)=((2^q:Nat):Int):=by simp
 rw[this]
 exact zeu (Yn (by omega) (by omega))
theorem zgJ(ha:a<2^62)(hq:q<=64):(z3b .i64 (z0w .i64 (a:Int) (q:Int)) 1=1)↔a.testBit q=true:=by
 rw[znu hq,show(1:Int)=((1:Nat):Int) from rfl,zw6 (by rw[Xs];exact YS (Nat.div_le_self _ _) ha) (by decide),Nat.testBit]
 have:(1&&&a>>>q)=(a>>>q)&&&1:=Nat.and_comm ..
 rw[this]
 have h2:=Nat.and_one_is_mod (a>>>q)
 rw[h2]
 simp only[bne_iff_ne,ne_eq]
 omega
theorem zAJ(h:q<2^62):IntKind.u64.wrap (q:Int)=(q:Int):=by rw[XC];omega
def zis(rows:List (List Int))(s a:Nat):Nat->Nat
 |0=>0
 |q+1=>if s.testBit q=true then zis rows s a q|||2^((rows.getD q []).getD a 0).toNat else zis rows s a q
def mvN(d:DFA)(s a:Nat):Nat:=zis d.next s a d.next.length
theorem z9O(hd:DfaOk d m n)(hq:q<n)(ha:a<m):∃h1:q<d.next.length,∃h2:a<d.next[q].length,(d.next.getD q []).getD a 0=d.next[q][a]/\0<=d.next[q][a]/\d.next[q][a]<n:=by
 have h1:q<d.next.length:=by rw[hd.nl];exact hq
 have hr:=hd.row _ (Zp h1)
 have h2:a<d.next[q].length:=by rw[hr.1];exact ha
 exact⟨h1,h2,by simp[List.getD,h1,h2],hr.2 _ (Zp h2)⟩
theorem znJ{d:DFA}{m n:Nat}(hd:DfaOk d m n){s a:Nat}(ha:a<m)(p:Nat):∀q,q<=n->((zis d.next s a q).testBit p=true↔ ∃i,i<q/\s.testBit i=true/\((d.next.getD i []).getD a 0).toNat=p)
 |0,_=>by simp[zis]
 |q+1,hq=>by
  have ih:=znJ hd (s:=s) ha p q (by omega)
  unfold zis
  by_cases hb:s.testBit q=true
  · rw[if_pos hb,YH,Y2,ih,Yi]
    constructor
    · rintro(⟨i,h1,h2,h3⟩|h)
      · exact⟨i,by omega,h2,h3⟩
      · exact⟨q,by omega,hb,by simpa using h⟩
    · rintro⟨i,h1,h2,h3⟩
      by_cases e:i=q
      · subst e;right;simpa using h3
      · left;exact⟨i,by omega,h2,h3⟩
  · rw[if_neg hb,ih]
    constructor
    · rintro⟨i,h1,h2,h3⟩;exact⟨i,by omega,h2,h3⟩
    · rintro⟨i,h1,h2,h3⟩
      by_cases e:i=q
      · subst e;exact absurd h2 hb
      · exact⟨i,by omega,h2,h3⟩
theorem zfY{d:DFA}{m n:Nat}(hd:DfaOk d m n){s a:Nat}(ha:a<m):∀q,q<=n->zis d.next s a q<2^n
 |0,_=>Yp n
 |q+1,hq=>by
  have ih:=zfY hd (s:=s) ha q (by omega)
  unfold zis
  split
  · obtain⟨h1,h2,e,h3,h4⟩:=z9O hd (q:=q) (by omega) ha
    refine zxt ih (Yn (by omega) ?_)
    rw[e];omega
  · exact ih
theorem z9d(hd:DfaOk d m n)(ha:a<m)(p:Nat):(mvN d s a).testBit p=true↔ ∃i,i<n/\s.testBit i=true/\((d.next.getD i []).getD a 0).toNat=p:=by
 unfold mvN;rw[hd.nl];exact znJ hd ha p n (Z8 _)
theorem zbt(hd:DfaOk d m n)(ha:a<m):mvN d s a<2^n:=by
 unfold mvN;rw[hd.nl];exact zfY hd ha n (Z8 _)
theorem zfR(h:n<=12):2^n<=4096:=Zm (n:=2) (by omega) h
theorem zsu(hd:DfaOk d m n)(hn:n<=12)(hs:s<2^n)(ha:a<m):z7p d (s:Int) (a:Int)=some ((mvN d s a:Nat):Int):=by
 have h12:=zfR hn
 unfold z7p mvN
 refine z0q (s:=((0:Int),(0:Int))) n (fun q=>(((zis d.next s a q:Nat):Int),(q:Int))) rfl (by simp only[LFm];omega) (fun q hq=> ?_) ?_
 · have hlt:=zfY hd (s:=s) ha q (by omega)
   obtain⟨h1,h2,e,h3,h4⟩:=z9O hd (q:=q) hq ha
   simp only[z7A]
   rw[if_pos (by omega),z0Y h1]
   simp only[Z0]
   rw[z0i _ (by omega),z0V (by omega)]
   by_cases hb:s.testBit q=true
   · rw[if_pos ((zgJ (by omega) (by omega)).2 hb),z0Y h2]
     simp only[Z0]
     obtain⟨v,hv⟩:=ZI h3
     rw[z0i _ (by omega),hv,z8U (by omega),zmf (by omega) (Yn (by omega) (by omega))]
     simp only[zis]
     rw[if_pos hb,e,hv,Z2]
   · rw[if_neg (fun h=>hb ((zgJ (by omega) (by omega)).1 h))]
     simp only[zis]
     rw[if_neg hb]
 · simp only[z7A]
   rw[if_neg (by rw[hd.nl];omega),hd.nl]
end
section
open Go
set_option maxRecDepth 100000
variable{d:DFA}{k m n:Nat}
def zpD(d:DFA)(r:List Int):Bool:=decide ((r.length:Int)=d.letters)&&r.all fun x=>decide (0<=x/\x<(d.final.length:Int))
def zhC(d:DFA):Bool:=decide (d.next.length=d.final.length)&&decide (0<=d.start/\d.start<(d.final.length:Int))&&d.next.all (zpD d)
def zyu(d:DFA):Int:=if d.letters<1∨6<d.letters then 1 else if 512<d.final.length then 3 else if zhC d=true then 0 else 4
def zAC(d:DFA):Prop:=d.final.length<2^61/\d.next.length<2^61/\ ∀r∈d.next,r.length<2^61
theorem zuj(hc:zAC d):z0h (z5M d) LFm 0=some (if d.next.all (zpD d)=true then 0 else 4):=by
 rw[zg5 (l:=d.next) ([]:List Int) (zpD d) (A:=some 4) (B:=some 0) (by have:=hc.2.1;omega) (fun k hk=> ?_) ?_]
 · split<;>rfl
 · simp only[z5M]
   rw[if_neg (by omega)]
 · simp only[z5M]
   have hkl:=hc.2.1
   have hrl:=hc.2.2 _ (Zp hk)
   rw[if_pos (by omega),z0Y hk]
   simp only[Z0,List.getD,Z1 hk,Z7]
   by_cases hl:(d.next[k].length:Int)=d.letters
   · rw[if_pos hl]
     rw[zg5 (l:=d.next[k]) (0:Int) (fun x=>decide (0<=x/\x<(d.final.length:Int))) (A:=z0f (some 4)) (B:=z0d ((k+1:Nat):Int)) (by omega) (fun j hj=> ?_) ?_]
     · simp only[zpD,hl,decide_true,YE]
     · simp only[z6t]
       rw[if_neg (by omega),z0V (by omega)]
     · simp only[z6t]
       rw[if_pos (by omega),z0Y hj]
       simp only[Z0,List.getD,Z1 hj,Z7]
       by_cases h1:d.next[k][j]<0
       · rw[if_pos h1,if_neg (by simp;omega)]
       · rw[if_neg h1]
         by_cases h2:(d.final.length:Int)<=d.next[k][j]
         · rw[if_pos h2,if_neg (by simp;omega)]
         · rw[if_neg h2,if_pos (by simp;omega),z0V (by omega)]
   · rw[if_neg hl]
     rw[if_neg (by simp[zpD,hl])]
theorem ztq(hc:zAC d):z7L d=some (zyu d):=by
 unfold z7L zyu
 by_cases h1:d.letters<1
 · rw[if_pos h1,if_pos (.inl h1)]
 rw[if_neg h1]
 by_cases h2:6<d.letters
 · rw[if_pos h2,if_pos (.inr h2)]
 have hno:¬(d.letters<1∨6<d.letters):=by omega
 rw[if_neg h2,if_neg hno]
 by_cases h3:512<(d.final.length:Int)
 · have h3':512<d.final.length:=by omega
   rw[if_pos h3,if_pos h3']
 have h3':¬512<d.final.length:=by omega
 rw[if_neg h3,if_neg h3']
 by_cases h4:(d.next.length:Int)=(d.final.length:Int)
 · rw[if_pos h4]
   by_cases h5:d.start<0
   · rw[if_pos h5,if_neg (by simp[zhC];omega)]
   rw[if_neg h5]
   by_cases h6:(d.final.length:Int)<=d.start
   · rw[if_pos h6,if_neg (by simp[zhC];omega)]
   rw[if_neg h6,zuj hc]
   congr 1
   have e1:decide (d.next.length=d.final.length)=true:=by simp;omega
   have e2:decide (0<=d.start/\d.start<(d.final.length:Int))=true:=by simp;omega
   simp only[zhC,e1,e2,YE]
 · rw[if_neg h4,if_neg (by simp[zhC];omega)]
def zAn(d:DFA):Int:=if zyu d=0 then(if 12<d.final.length then 3 else 0) else zyu d
theorem zlL(hc:zAC d):z5G d=some (zAn d):=by
 unfold z5G zAn
 rw[ztq hc]
 simp only[Z0]
 split
 · split
   · rw[if_pos (by omega)]
   · rw[if_neg (by omega)]
 · rfl
theorem zyO(hd:DfaOk d m n)(hn:n<=512):zyu d=0:=by
 have h1:=hd.lt
 have h2:=hd.m1
 have h3:=hd.m6
 have hf:=hd.fin
 have hl:=hd.nl
 unfold zyu
 rw[if_neg (by omega),if_neg (by omega),if_pos]
 have e1:decide (d.next.length=d.final.length)=true:=by simp;omega
 have e2:decide (0<=d.start/\d.start<(d.final.length:Int))=true:=by have:=hd.s0;have:=hd.s1;simp;omega
 simp only[zhC,e1,e2,YE,Zt]
 intro r hr
 obtain⟨a,b⟩:=hd.row r hr
 have e3:decide ((r.length:Int)=d.letters)=true:=by simp;omega
 simp only[zpD,e3,YE,Zt,decide_eq_true_eq]
 intro x hx
 have:=b x hx
 omega
theorem zzH(hd:DfaOk d m n)(hn:n<=12):zAn d=0:=by
 have hf:=hd.fin
 unfold zAn
 rw[zyO hd (by omega),if_pos rfl,if_neg (by omega)]
theorem zA6(hd:DfaOk d m n)(hn:n<=12):zAC d:=⟨by rw[hd.fin];omega,by rw[hd.nl];omega,fun r hr=>by have:=(hd.row r hr).1;have:=hd.m6;omega⟩
theorem zln{w:ByteArray}(h:k<w.size):w[k]=w.data.toList.getD k 0:=by
 have h':k<w.data.toList.length:=by rw[Yk];exact h
 rw[List.getD,Z1 h',Z7,Xm]
 rfl
def zuh(m:Nat)(w:ByteArray):Prop:=w.size<=2048/\ ∀c∈w.data.toList,97<=c.toNat/\c.toNat<97+m
instance(m:Nat)(w:ByteArray):Decidable (zuh m w):=by unfold zuh;exact inferInstance
theorem zbZ{r p:Nat}(hr:r<2^62)(hp:p<2^62):z4f (r:Int) (p:Int)=some (decide (p&&&r=p)):=by
 unfold z4f
 congr 1
 rw[Y9];simp only[decide_eq_true_eq]
 exact zgN hp hr
def z4r(d:DFA):Nat->List UInt8->Nat
 |s,[]=>s
 |s,c::w=>z4r d (mvN d s (c.toNat-97)) w
theorem z7m(d:DFA):∀(s:Nat) (u v:List UInt8),z4r d s (u++v)=z4r d (z4r d s u) v
 |s,[],v=>rfl
 |s,c::u,v=>by simp only[ZM,z4r,z7m]
theorem zfL{d:DFA}{m n:Nat}(hd:DfaOk d m n):∀ {w:List UInt8} {s:Nat},s<2^n->(∀c∈w,97<=c.toNat/\c.toNat<97+m)->z4r d s w<2^n
 | [],s,hs,_=>hs
 |c::w,s,hs,hw=>by
  have hc:=hw c (Zv ..)
  exact zfL (w:=w) (s:=mvN d s (c.toNat-97)) hd (zbt hd (by omega)) fun c' hc'=>hw c' (Zl _ hc')
theorem zk7{α:Type}{l:List α}(h:k<l.length):l.take (k+1)=l.take k++ [l[k]]:=by rw[ZB h]
end
section
open Go
set_option maxRecDepth 100000
def zqK(a:Nat):ByteArray:=⟨#[UInt8.ofNat (97+a)]⟩
abbrev RS:=List Nat×List ByteArray
def zkb(d:DFA)(i a:Nat)(st:RS):RS:=if mvN d (st.1.getD i 0) a∈st.1 then st else(st.1++ [mvN d (st.1.getD i 0) a],st.2++ [st.2.getD i ByteArray.empty++zqK a])
def zaa(d:DFA)(i:Nat)(st:RS):Nat->RS
 |0=>st
 |a+1=>zkb d i a (zaa d i st a)
def z8W(d:DFA)(m s:Nat):Nat->RS
 |0=>([s],[ByteArray.empty])
 |k+1=>if k<(z8W d m s k).1.length then zaa d k (z8W d m s k) m else z8W d m s k
structure RInv(d:DFA)(m n s:Nat)(st:RS):Prop where
 nd:st.1.Nodup
 lt:∀x∈st.1,x<2^n
 len:st.2.length=st.1.length
 f0:st.1[0]? =some s
 w0:st.2[0]? =some ByteArray.empty
 ok:∀i,i<st.1.length->(st.2.getD i ByteArray.empty).size<=i/\(∀c∈(st.2.getD i ByteArray.empty).data.toList,97<=c.toNat/\c.toNat<97+m)/\z4r d s (st.2.getD i ByteArray.empty).data.toList=st.1.getD i 0
variable{d:DFA}{S l:List Nat}{a i m n s x:Nat}{α:Type}
variable{st:RS}
theorem z8X{l r:List α}(d:α)(h:i<l.length):(l++r).getD i d=l.getD i d:=by grind
theorem zaw{l:List α}{x d:α}(h:i=l.length):(l++ [x]).getD i d=x:=by
 subst h;simp[List.getD]
theorem z0g(h:i<l.length):l.getD i 0∈l:=by grind
theorem z7n{α:Type}:∀ {l r:List α},l.Nodup->(∀x∈l,x∈r)->l.length<=r.length
 | [],r,_,_=>by simp
 |x::l,r,hn,hs=>by
  obtain⟨a,b,rfl⟩:=List.append_of_mem (hs x (Zv ..))
  have hn':=YB.1 hn
  have:=z7n (r:=a++b) hn'.2 fun y hy=>by grind
  simp only[Zr,Zb] at*
  omega
theorem z2k{N:Nat}(hn:l.Nodup)(hl:∀x∈l,x<N):l.length<=N:=by
 have:=z7n hn (r:=List.range N) fun x hx=>Zi.2 (hl x hx)
 simpa using this
theorem z8A(a:Nat):(zqK a).data.toList= [UInt8.ofNat (97+a)]:=rfl
theorem zd0(u v:ByteArray):(u++v).data.toList=u.data.toList++v.data.toList:=by simp
theorem zeS(u v:ByteArray):(u++v).size=u.size+v.size:=by simp
theorem z7I(a:Nat):(zqK a).size=1:=rfl
theorem z7Z(h:a<26):(UInt8.ofNat (97+a)).toNat=97+a:=by simp[XY];omega
theorem zuw(hd:DfaOk d m n)(h:RInv d m n s st)(hi:i<st.1.length)(ha:a<m):
 RInv d m n s (zkb d i a st)/\mvN d (st.1.getD i 0) a∈(zkb d i a st).1/\ ∃S W,(zkb d i a st).1=st.1++S/\(zkb d i a st).2=st.2++W:=by
 have hm6:=hd.m6
 unfold zkb
 split
 · rename_i hm
   exact⟨h,hm,[],[],by simp,by simp⟩
 · rename_i hm
   obtain⟨o1,o2,o3⟩:=h.ok i hi
   refine⟨⟨?_,?_,by simp[h.len],?_,?_,?_⟩,by simp,_,_,rfl,rfl⟩
   · refine Ym.2 ⟨h.nd,by simp,fun x hx y hy=> ?_⟩
     obtain rfl:y=_:=by simpa using hy
     exact fun e=>hm (e▸hx)
   · intro x hx
     rcases Zf.1 hx with hx|hx
     · exact h.lt x hx
     · obtain rfl:x=_:=by simpa using hx
       exact zbt hd ha
   · rw[ZN (by omega)];exact h.f0
   · rw[ZN (by rw[h.len];omega)];exact h.w0
   · intro j hj
     simp only[Zb,ZD] at hj
     by_cases e:j=st.1.length
     · rw[zaw e,zaw (by rw[h.len];exact e),zeS,zd0,z8A,z7I,z7m,o3]
       refine⟨by omega,fun c hc=> ?_,?_⟩
       · rcases Zf.1 hc with hc|hc
         · exact o2 c hc
         · obtain rfl:=Zh.1 hc
           rw[z7Z (by omega)];omega
       · simp only[z4r]
         rw[z7Z (by omega),Y1]
     · rw[z8X _ (show j<st.2.length by rw[h.len];omega),z8X _ (show j<st.1.length by omega)]
       exact h.ok j (by omega)
theorem ziI{d:DFA}{m n s:Nat}(hd:DfaOk d m n){st:RS}(h:RInv d m n s st){i:Nat}(hi:i<st.1.length):∀a,a<=m->
 RInv d m n s (zaa d i st a)/\(∀b,b<a->mvN d (st.1.getD i 0) b∈(zaa d i st a).1)/\(∃S W,(zaa d i st a).1=st.1++S/\(zaa d i st a).2=st.2++W)
 |0,_=>⟨h,fun b hb=>by omega,[],[],by simp[zaa],by simp[zaa]⟩
 |a+1,ha=>by
  obtain⟨h1,h2,S,W,h3,h4⟩:=ziI hd h hi a (by omega)
  have hi':i<(zaa d i st a).1.length:=by rw[h3,Zb];omega
  obtain⟨k1,k2,S',W',k3,k4⟩:=zuw hd h1 hi' (show a<m by omega)
  have e:(zaa d i st a).1.getD i 0=st.1.getD i 0:=by rw[h3,z8X _ hi]
  rw[e] at k2
  refine⟨k1,fun b hb=> ?_,S++S',W++W',by rw[zaa,k3,h3,Zu],by rw[zaa,k4,h4,Zu]⟩
  by_cases hb':b=a
  · subst hb';exact k2
  · rw[zaa,k3];exact Zf.2 (.inl (h2 b (by omega)))
theorem zbL{d:DFA}{m n s:Nat}(hd:DfaOk d m n)(hs:s<2^n):∀k,RInv d m n s (z8W d m s k)/\ ∀j,j<k->j<(z8W d m s k).1.length->∀a,a<m->mvN d ((z8W d m s k).1.getD j 0) a∈(z8W d m s k).1
 |0=>⟨⟨by simp[z8W],by simpa[z8W] using hs,rfl,rfl,rfl,fun i hi=>by
   obtain rfl:i=0:=by simpa[z8W] using hi
   exact⟨Z8 _,fun c hc=>by simp[z8W,List.getD] at hc,rfl⟩⟩,fun j hj=>by omega⟩
 |k+1=>by
  obtain⟨h1,h2⟩:=zbL hd hs k
  unfold z8W
  split
  · rename_i hk
    obtain⟨k1,k2,S,W,k3,k4⟩:=ziI hd h1 hk m (Z8 _)
    refine⟨k1,fun j hj hjl a ha=> ?_⟩
    by_cases e:j=k
    · grind
    · have hj':j<(z8W d m s k).1.length:=by omega
      have:=h2 j (by omega) hj' a ha
      rw[show(zaa d k (z8W d m s k) m).1.getD j 0=(z8W d m s k).1.getD j 0 by rw[k3,z8X _ hj'],k3]
      exact Zf.2 (.inl this)
  · grind
theorem zm2(hd:DfaOk d m n)(hs:s<2^n)(k:Nat):(z8W d m s k).1.length<=2^n:=z2k (zbL hd hs k).1.nd (zbL hd hs k).1.lt
theorem zih{d:DFA}{m s:Nat}{k:Nat}(h:¬k<(z8W d m s k).1.length):∀j,k<=j->z8W d m s j=z8W d m s k
 |0,hj=>by grind
 |j+1,hj=>by
  by_cases e:k=j+1
  · rw[e]
  · have ih:=zih h j (by omega)
    rw[z8W,ih,if_neg (by omega)]
def z1y(d:DFA)(m n s:Nat):RS:=z8W d m s (2^n)
theorem zeb(hd:DfaOk d m n)(hs:s<2^n)(hx:x∈(z1y d m n s).1)(ha:a<m):mvN d x a∈(z1y d m n s).1:=by
 obtain⟨i,hi,rfl⟩:=Zq hx
 have hl:=zm2 hd hs (2^n)
 have:=(zbL hd hs (2^n)).2 i (by unfold z1y at hi;omega) hi a ha
 have e:(z8W d m s (2^n)).1.getD i 0=(z1y d m n s).1[i]:=by
  show(z1y d m n s).1.getD i 0=_
  rw[List.getD,Z1 hi,Z7]
 rw[e] at this
 exact this
theorem z6R(hd:DfaOk d m n)(hs:s<2^n):RInv d m n s (z1y d m n s):=(zbL hd hs _).1
def toI(l:List Nat):List Int:=l.map fun x=>((x:Nat):Int)
theorem z0c(l:List Nat):(toI l).length=l.length:=by simp[toI]
theorem z5Q(l:List Nat)(x:Nat):toI (l++ [x])=toI l++ [((x:Nat):Int)]:=by simp[toI]
theorem z1s(h:i<l.length):atI (toI l) (i:Int)=some ((l.getD i 0:Nat):Int):=by
 rw[z0Y (by rw[z0c];exact h)]
 simp[toI,List.getD,h]
theorem zx3{l:List ByteArray}(h:i<l.length):atI l (i:Int)=some (l.getD i ByteArray.empty):=by
 rw[z0Y h,List.getD,Z1 h,Z7]
def zkI(n:Nat)(S:List Nat):List Bool:=(List.range (2^n)).map fun x=>decide (x∈S)
theorem zzF(h:x<2^n):atI (zkI n S) (x:Int)=some (decide (x∈S)):=by
 rw[z0Y (by simpa[zkI] using h)];simp[zkI]
theorem zsv:(zkI n S).set x true=zkI n (S++ [x]):=by
 apply Ze (by simp[zkI])
 intro i h1 h2
 simp only[zkI,Y6,ZF,ZP,Zf,Zh]
 by_cases e:x=i
 · subst e;simp
 · grind
theorem zsw:(List.replicate (2^n) false).set s true=zkI n [s]:=by
 have:List.replicate (2^n) false=zkI n []:=by
  apply Ze (by simp[zkI])
  intro i h1 h2
  simp[zkI]
 rw[this,zsv];rfl
def zBk(S:List Nat):List (Int×Bool):=S.map fun x=>(((x:Nat):Int),true)
theorem map_set{x:Nat}:∀ {S:List Nat},x∉S->z8k ((x:Nat):Int) true (zBk S)=zBk (S++ [x])
 | [],_=>rfl
 |y::S,h=>by
  have ih:=map_set (x:=x) (S:=S) (fun hh=>h (Zl _ hh))
  have hne:y≠x:=fun e=>h (by simp[e])
  simp only[zBk,Zn,z8k,ZM]
  rw[if_neg (by omega)]
  congr 1
theorem ziC(h:a<26):(⟨#[UInt8.ofNat (IntKind.u8.wrap (IntKind.i64.wrap (97+(a:Int)))).toNat]⟩:ByteArray)=zqK a:=by
 rw[z3f (by omega) (by omega),zAK (by omega) (by omega)]
 have:(97+(a:Int)).toNat=97+a:=by omega
 rw[this];rfl
theorem zmw(hd:DfaOk d m n)(hn:n<=12)(h:RInv d m n s st)(hi:i<st.1.length):
 z0h (z5H d i) LFm (0,zkI n st.1,toI st.1,st.2)=z0d (((i+1:Nat):Int),zkI n (zaa d i st m).1,toI (zaa d i st m).1,(zaa d i st m).2):=by
 have h12:=zfR hn
 have hm6:=hd.m6
 have hl:=z2k h.nd h.lt
 refine z0q (s:=((0:Int),zkI n st.1,toI st.1,st.2)) m (fun a=>((a:Int),zkI n (zaa d i st a).1,toI (zaa d i st a).1,(zaa d i st a).2)) rfl (by simp only[LFm];omega) (fun a ha=> ?_) ?_
 · obtain⟨k1,_,S,W,k3,k4⟩:=ziI hd h hi a (by omega)
   have hl2:=z2k k1.nd k1.lt
   have hi':i<(zaa d i st a).1.length:=by rw[k3,Zb];omega
   have hx:(zaa d i st a).1.getD i 0<2^n:=k1.lt _ (z0g hi')
   obtain⟨o1,_,_⟩:=k1.ok i hi'
   simp only[z5H]
   rw[if_pos (by rw[hd.lt];omega),z1s hi']
   simp only[Z0]
   rw[zsu hd hn hx ha]
   simp only[Z0]
   rw[zzF (zbt hd ha)]
   simp only[Z0,decide_eq_true_eq]
   rw[z0V (by omega),zaa]
   unfold zkb
   have hml:=zbt hd (s:=(zaa d i st a).1.getD i 0) ha
   have hlt:=hd.lt
   clear hd h k3 k4
   revert hml
   generalize zaa d i st a=st' at*
   generalize mvN d (st'.1.getD i 0) a=x
   intro hml
   by_cases hm:x∈st'.1
   · rw[if_pos hm,if_pos hm]
   · rw[if_neg hm,if_neg hm,z0i _ (by unfold z1V;rw[z0c];omega),zx3 (by rw[k1.len];exact hi'),Z0]
     rw[ziC (by omega),z0i _ (by unfold zd1;rw[z7I];omega),z0i _ (by unfold z1V;rw[k1.len];omega),Z2,zsv]
     rw[z5Q]
 · simp only[z5H]
   rw[if_neg (by rw[hd.lt];omega),z0V (by omega)]
theorem zuR(hd:DfaOk d m n)(hn:n<=12)(hs:s<2^n):z7K d (s:Int)=some (toI (z1y d m n s).1,(z1y d m n s).2):=by
 have h12:=zfR hn
 have hp:=Yp n
 unfold z7K
 rw[hd.fin,z0i _ (by omega),z8U (by omega),z0i _ (by unfold z0Q;omega),z0i _ (by omega),Z2,Z2,zsw]
 refine ziz (s:=((0:Int),zkI n [s],[(s:Int)],[ByteArray.empty])) (fun z=>∃k:Nat,k<=2^n/\z=((k:Int),zkI n (z8W d m s k).1,toI (z8W d m s k).1,(z8W d m s k).2)) (fun z=>2^n+1-z.1.toNat) ⟨0,by omega,rfl⟩ (by simp only[LFm];omega) ?_
 rintro z ⟨k,hk,rfl⟩
 have hl:=zm2 hd hs k
 simp only[z8D]
 by_cases h:k<(z8W d m s k).1.length
 · left
   rw[if_pos (by rw[z0c];omega),zmw hd hn (zbL hd hs k).1 h]
   refine⟨_,rfl,⟨k+1,by omega,?_⟩,by simp only;omega⟩
   rw[z8W,if_pos h]
 · right
   rw[if_neg (by rw[z0c];omega)]
   unfold z1y
   rw[zih h _ hk]
end
section
open Go
set_option maxRecDepth 100000
theorem ztu(x y:Int):∃c,cmp_Compare_int x y=some c/\(c<0↔x<y):=by
 simp only[cmp_Compare_int,cmp_isNaN_int,decide_true,Xh,Z0,ZZ,if_false]
 by_cases h1:x<y
 · rw[if_pos h1];exact⟨_,rfl,by omega⟩
 · rw[if_neg h1]
   by_cases h2:y<x
   · rw[if_pos h2];exact⟨_,rfl,by omega⟩
   · rw[if_neg h2];exact⟨_,rfl,by omega⟩
def kv(K:List Int)(x:Int):Int:=K.getD x.toNat 0
def zBI(K:List Int)(x:Int):Prop:=0<=x/\x<K.length
abbrev zBU(K:List Int)(l:List Int):Prop:=∀x∈l,zBI K x
abbrev zCG(K:List Int)(l:List Int):Prop:=l.Pairwise fun x y=>kv K x<=kv K y
def zyl(K:List Int):SrtC where
 cmp x y:=z1d x y K
 key x:=kv K x*1048576+x
 ok x:=zBI K x/\x<1048576
 law x y hx hy h:=by
  obtain⟨i,rfl⟩:=ZI hx.1.1
  obtain⟨j,rfl⟩:=ZI hy.1.1
  have hi:i<K.length:=by have:=hx.1.2;omega
  have hj:j<K.length:=by have:=hy.1.2;omega
  obtain⟨c,h1,h2⟩:=ztu K[i] K[j]
  refine⟨c,?_,?_⟩
  · unfold z1d
    rw[z0Y hi,Z0,z0Y hj,Z0,h1];rfl
  · rw[h2]
    have e1:kv K (i:Int)=K[i]:=by simp[kv,List.getD,hi]
    have e2:kv K (j:Int)=K[j]:=by simp[kv,List.getD,hj]
    have:=hx.2
    have:=hy.2
    omega
theorem znk:∀k,z0j k=fun l a m b K=>zvz k l a m b (zyl K)
 |0=>rfl
 |k+1=>by
  show z0G (z0j k)=_
  rw[znk k]
  rfl
theorem zux(l K:List Int):z0l l K=zzX l (zyl K):=by
 have h9:z0I=fun a K w=>zbX a (zyl K) w:=by
  unfold z0I
  rw[znk]
  all_goals rfl
 have h7:z0J=fun a K=>zdO a (zyl K):=by
  unfold z0J
  rw[h9]
  all_goals rfl
 have h2:z0K=fun a K=>zdP a (zyl K):=by
  unfold z0K
  rw[h7]
  all_goals rfl
 unfold z0l z0R
 rw[h2]
 all_goals rfl
theorem ztW(n:Nat):((List.range n).map fun x=>((x:Nat):Int)).Pairwise (·< ·):=Yz _ (fun a b (h:a<b)=>by omega) XE
theorem zrr{K:List Int}{n:Nat}(hv:zBU K (toI (List.range n)))(hn:(toI (List.range n)).length<=5000):∃S,z0l (toI (List.range n)) K=some S/\zCG K S/\S.Perm (toI (List.range n)):=by
 have hok:∀x∈toI (List.range n),(zyl K).ok x:=fun x hx=>⟨hv x hx,by
  rw[z0c,ZC] at hn
  obtain⟨i,hi,rfl⟩:=Zj.1 hx
  have:=Zi.1 hi
  omega⟩
 obtain⟨S,e,h1,h2⟩:=zlX (K:=zyl K) hok (ztW n) hn
 refine⟨S,by rw[zux,e],?_,h2⟩
 refine XA (fun {x y} hx hy h=> ?_) h1
 have o1:=hok x (h2.mem_iff.1 hx)
 have o2:=hok y (h2.mem_iff.1 hy)
 have a1:=o1.1.1
 have a2:=o1.2
 have b1:=o2.1.1
 have b2:=o2.2
 have h3:kv K x*1048576+x<=kv K y*1048576+y:=h
 show kv K x<=kv K y
 omega
end
section
open Go Go.IntKind
noncomputable section
set_option maxRecDepth 100000
set_option maxHeartbeats 6000000
variable{a1 a2 a3:Int}{m5 m8 n3 n6 p0 p3:List (List Int)}{m6 m7 n4 n5 p1 p2:List ByteArray}{a0 m2 m3 m4 n0 n1 n2 n7 n8 n9:List Int}{rf:List Int->Int->Int->Int->List Int->List Int->List Int->List (List Int)->List ByteArray->List ByteArray->List (List Int)->Option (List Int)}
def z1T(a0:Int)(a1:Int)(m0:List Int)(m9:List Int)(p4:List Int)(q2:List (List Int))(q3:List ByteArray)(q4:List ByteArray)(m1:List (List Int)):Option (Int):=
 (atI m1 a1).bind fun v8=>
 (atI v8 0).bind fun v9=>
 (atI p4 v9).bind fun v10=>
 (atI m1 a0).bind fun v11=>
 (atI v11 0).bind fun v12=>
 (atI p4 v12).bind fun v13=>
 (cmp_Compare_int v10 v13).bind fun v14=>
 some v14
instance holonomy_classes_1_ok{a0:Int}{m0:List Int}{m9:List Int}{p4:List Int}{q2:List (List Int)}{q3:List ByteArray}{q4:List ByteArray}{m1:List (List Int)}:Ok (z1T a0 a1 m0 m9 p4 q2 q3 q4 m1) (fun r=>L 137 [.sc (.int .i64 a0),.sc (.int .i64 a1),.pr [.sl m0.length (m0.map fun x0=>.sc (.int .i64 x0)),.sl m9.length (m9.map fun x0=>.sc (.int .i64 x0)),.sl p4.length (p4.map fun x0=>.sc (.int .i64 x0)),.sl q2.length (q2.map fun x0=>.sl x0.length (x0.map fun x1=>.sc (.int .i64 x1))),.sl q3.length (q3.map fun x0=>.sc (.string x0)),.sl q4.length (q4.map fun x0=>.sc (.string x0))],.pr [.sl m1.length (m1.map fun x0=>.sl x0.length (x0.map fun x1=>.sc (.int .i64 x1)))]]=some (.sc (.int .i64 r),[.dead,.dead,.dead,.dead])):=⟨fun r h=>by have h:=z4s h;unfold z1T at h;exact z5l rfl Tryz.func137 (bdy Tryz.f137 rfl)⟩
abbrev z1R(a1:Int)(n7:List Int)(n8:List Int)(n9:List Int)(p0:List (List Int))(p1:List ByteArray)(p2:List ByteArray)(p3:List (List Int))(w95:Int):Int×List Int->Option ((Int×List Int)⊕((Int×List Int)⊕List Int))
 |(w127,w128)=>
 if a1<w127 then
 (atI w128 w127).bind fun v136=>
 (atI w128 (i64.wrap (w127-1))).bind fun v137=>
 (z1T v136 v137 n7 n8 n9 p0 p1 p2 p3).bind fun v138=>
 if v138<0 then
 (atI (w128.set w127.toNat v137) (i64.wrap (w127-1))).bind fun v142=>
 z0d (i64.wrap (w127-1),((w128.set w127.toNat v137).set (i64.wrap (w127-1)).toNat v136))
 else
 z0f<|
 z0d (i64.wrap (w95+1),w128)
 else
 z0f<|
 z0d (i64.wrap (w95+1),w128)
instance{w95:Int}:Hd (z1R a1 n7 n8 n9 p0 p1 p2 p3 w95):=⟨fun(w127,w128)=>([(9,xI w127)],[(0,.os 1 w128.length (w128.map fun x0=>.sc (.int .i64 x0)))])⟩
abbrev z1S(a1:Int)(a2:Int)(n7:List Int)(n8:List Int)(n9:List Int)(p0:List (List Int))(p1:List ByteArray)(p2:List ByteArray)(p3:List (List Int)):Int×List Int->Option ((Int×List Int)⊕List Int)
 |(w95,w96)=>
 if w95<a2 then
 z0h (z1R a1 n7 n8 n9 p0 p1 p2 p3 w95) LFm (w95,w96)
 else
 z0f<|
 some w96
instance:Hd (z1S a1 a2 n7 n8 n9 p0 p1 p2 p3):=⟨fun(w95,w96)=>([(8,xI w95)],[(0,.os 1 w96.length (w96.map fun x0=>.sc (.int .i64 x0)))])⟩
def z0P(a0:List Int)(a1:Int)(a2:Int)(n7:List Int)(n8:List Int)(n9:List Int)(p0:List (List Int))(p1:List ByteArray)(p2:List ByteArray)(p3:List (List Int)):Option (List Int):=
 z0h (z1S a1 a2 n7 n8 n9 p0 p1 p2 p3) LFm (i64.wrap (a1+1),a0)
instance slices_insertionSortCmpFunc_int_holonomy_classes_1_ok:Ok (z0P a0 a1 a2 n7 n8 n9 p0 p1 p2 p3) (fun r=>L 208 [.os 1 a0.length (a0.map fun x0=>.sc (.int .i64 x0)),.sc (.int .i64 a1),.sc (.int .i64 a2),.cl 137 [.pr [.sl n7.length (n7.map fun x0=>.sc (.int .i64 x0)),.sl n8.length (n8.map fun x0=>.sc (.int .i64 x0)),.sl n9.length (n9.map fun x0=>.sc (.int .i64 x0)),.sl p0.length (p0.map fun x0=>.sl x0.length (x0.map fun x1=>.sc (.int .i64 x1))),.sl p1.length (p1.map fun x0=>.sc (.string x0)),.sl p2.length (p2.map fun x0=>.sc (.string x0))],.pr [.sl p3.length (p3.map fun x0=>.sl x0.length (x0.map fun x1=>.sc (.int .i64 x1)))]]]=some (.tup [],[.os 1 r.length (r.map fun x0=>.sc (.int .i64 x0)),.dead,.dead,.dead])):=⟨fun r h=>by have h:=z4s h;unfold z0P at h;exact z5l rfl Tryz.func208 (bdy Tryz.f208 rfl)⟩
abbrev z2j(a1:Int)(a2:Int)(a3:Int):Int×List Int->Option ((Int×List Int)⊕List Int)
 |(w19,w20)=>
 if w19<a3 then
 (atI w20 (i64.wrap (a2+w19))).bind fun v25=>
 (atI w20 (i64.wrap (a1+w19))).bind fun v26=>
 (atI (w20.set (i64.wrap (a1+w19)).toNat v25) (i64.wrap (a2+w19))).bind fun v28=>
 z0d (i64.wrap (w19+1),((w20.set (i64.wrap (a1+w19)).toNat v25).set (i64.wrap (a2+w19)).toNat v26))
 else
 z0f<|
 some w20
instance:Hd (z2j a1 a2 a3):=⟨fun(w19,w20)=>([(10,xI w19)],[(0,.os 1 w20.length (w20.map fun x0=>.sc (.int .i64 x0)))])⟩
def z0F(a0:List Int)(a1:Int)(a2:Int)(a3:Int)(m2:List Int)(m3:List Int)(m4:List Int)(m5:List (List Int))(m6:List ByteArray)(m7:List ByteArray)(m8:List (List Int)):Option (List Int):=
 z0h (z2j a1 a2 a3) LFm (0,a0)
instance slices_swapRangeCmpFunc_int_holonomy_classes_1_ok:Ok (z0F a0 a1 a2 a3 m2 m3 m4 m5 m6 m7 m8) (fun r=>L 236 [.os 1 a0.length (a0.map fun x0=>.sc (.int .i64 x0)),.sc (.int .i64 a1),.sc (.int .i64 a2),.sc (.int .i64 a3),.cl 137 [.pr [.sl m2.length (m2.map fun x0=>.sc (.int .i64 x0)),.sl m3.length (m3.map fun x0=>.sc (.int .i64 x0)),.sl m4.length (m4.map fun x0=>.sc (.int .i64 x0)),.sl m5.length (m5.map fun x0=>.sl x0.length (x0.map fun x1=>.sc (.int .i64 x1))),.sl m6.length (m6.map fun x0=>.sc (.string x0)),.sl m7.length (m7.map fun x0=>.sc (.string x0))],.pr [.sl m8.length (m8.map fun x0=>.sl x0.length (x0.map fun x1=>.sc (.int .i64 x1)))]]]=some (.tup [],[.os 1 r.length (r.map fun x0=>.sc (.int .i64 x0)),.dead,.dead,.dead,.dead])):=⟨fun r h=>by have h:=z4s h;unfold z0F at h;exact z5l rfl Tryz.func236 (bdy Tryz.f236 rfl)⟩
abbrev z2v(a2:Int)(m2:List Int)(m3:List Int)(m4:List Int)(m5:List (List Int))(m6:List ByteArray)(m7:List ByteArray)(m8:List (List Int)):Int×Int×List Int->Option ((Int×Int×List Int)⊕List Int)
 |(w13,w15,w14)=>
 if w13=w15 then
 z0f<|
 (z0F w14 (i64.wrap (a2-w13)) a2 w13 m2 m3 m4 m5 m6 m7 m8).bind fun v18=>
 some v18
 else
 if w15<w13 then
 (z0F w14 (i64.wrap (a2-w13)) a2 w15 m2 m3 m4 m5 m6 m7 m8).bind fun v19=>
 z0d (i64.wrap (w13-w15),w15,v19)
 else
 (z0F w14 (i64.wrap (a2-w13)) (i64.wrap ((i64.wrap (a2+w15))-w13)) w13 m2 m3 m4 m5 m6 m7 m8).bind fun v20=>
 z0d (w13,i64.wrap (w15-w13),v20)
instance:Hd (z2v a2 m2 m3 m4 m5 m6 m7 m8):=⟨fun(w13,w15,w14)=>([(10,xI w13),(11,xI w15)],[(0,.os 1 w14.length (w14.map fun x0=>.sc (.int .i64 x0)))])⟩
def z1h(a0:List Int)(a1:Int)(a2:Int)(a3:Int)(m2:List Int)(m3:List Int)(m4:List Int)(m5:List (List Int))(m6:List ByteArray)(m7:List ByteArray)(m8:List (List Int)):Option (List Int):=
 z0h (z2v a2 m2 m3 m4 m5 m6 m7 m8) LFm (i64.wrap (a2-a1),i64.wrap (a3-a2),a0)
instance slices_rotateCmpFunc_int_holonomy_classes_1_ok:Ok (z1h a0 a1 a2 a3 m2 m3 m4 m5 m6 m7 m8) (fun r=>L 229 [.os 1 a0.length (a0.map fun x0=>.sc (.int .i64 x0)),.sc (.int .i64 a1),.sc (.int .i64 a2),.sc (.int .i64 a3),.cl 137 [.pr [.sl m2.length (m2.map fun x0=>.sc (.int .i64 x0)),.sl m3.length (m3.map fun x0=>.sc (.int .i64 x0)),.sl m4.length (m4.map fun x0=>.sc (.int .i64 x0)),.sl m5.length (m5.map fun x0=>.sl x0.length (x0.map fun x1=>.sc (.int .i64 x1))),.sl m6.length (m6.map fun x0=>.sc (.string x0)),.sl m7.length (m7.map fun x0=>.sc (.string x0))],.pr [.sl m8.length (m8.map fun x0=>.sl x0.length (x0.map fun x1=>.sc (.int .i64 x1)))]]]=some (.tup [],[.os 1 r.length (r.map fun x0=>.sc (.int .i64 x0)),.dead,.dead,.dead,.dead])):=⟨fun r h=>by have h:=z4s h;unfold z1h at h;exact z5l rfl Tryz.func229 (bdy Tryz.f229 rfl)⟩
abbrev z2o(w102:Int):Int×List Int->Option ((Int×List Int)⊕List Int)
 |(w114,w115)=>
 if w114<(i64.wrap (w102-1)) then
 (atI w115 (i64.wrap (w114+1))).bind fun v120=>
 (atI w115 w114).bind fun v121=>
 (atI (w115.set w114.toNat v120) (i64.wrap (w114+1))).bind fun v123=>
 z0d (i64.wrap (w114+1),((w115.set w114.toNat v120).set (i64.wrap (w114+1)).toNat v121))
 else
 z0f<|
 some w115
instance{w102:Int}:Hd (z2o w102):=⟨fun(w114,w115)=>([(13,xI w114)],[(0,.os 1 w115.length (w115.map fun x0=>.sc (.int .i64 x0)))])⟩
abbrev z2p(a0:List Int)(a1:Int)(m2:List Int)(m3:List Int)(m4:List Int)(m5:List (List Int))(m6:List ByteArray)(m7:List ByteArray)(m8:List (List Int)):Int×Int->Option ((Int×Int)⊕List Int)
 |(w102,w103)=>
 if w102<w103 then
 chk (¬1<0)<|
 (atI a0 (i64.wrap (z0w .u64 (u64.wrap (i64.wrap (w102+w103))) 1))).bind fun v107=>
 (atI a0 a1).bind fun v108=>
 (z1T v107 v108 m2 m3 m4 m5 m6 m7 m8).bind fun v109=>
 if v109<0 then
 z0d (i64.wrap ((i64.wrap (z0w .u64 (u64.wrap (i64.wrap (w102+w103))) 1))+1),w103)
 else
 z0d (w102,i64.wrap (z0w .u64 (u64.wrap (i64.wrap (w102+w103))) 1))
 else
 z0f<|
 z0h (z2o w102) LFm (a1,a0)
instance:Hd (z2p a0 a1 m2 m3 m4 m5 m6 m7 m8):=⟨fun(w102,w103)=>([(10,xI w102),(11,xI w103)],[])⟩
abbrev z2h(w128:Int):Int×List Int->Option ((Int×List Int)⊕List Int)
 |(w139,w140)=>
 if w128<w139 then
 (atI w140 (i64.wrap (w139-1))).bind fun v145=>
 (atI w140 w139).bind fun v146=>
 (atI (w140.set w139.toNat v145) (i64.wrap (w139-1))).bind fun v148=>
 z0d (i64.wrap (w139-1),((w140.set w139.toNat v145).set (i64.wrap (w139-1)).toNat v146))
 else
 z0f<|
 some w140
instance{w128:Int}:Hd (z2h w128):=⟨fun(w139,w140)=>([(17,xI w139)],[(0,.os 1 w140.length (w140.map fun x0=>.sc (.int .i64 x0)))])⟩
abbrev z2i(a0:List Int)(a2:Int)(m2:List Int)(m3:List Int)(m4:List Int)(m5:List (List Int))(m6:List ByteArray)(m7:List ByteArray)(m8:List (List Int)):Int×Int->Option ((Int×Int)⊕List Int)
 |(w128,w127)=>
 if w128<w127 then
 chk (¬1<0)<|
 (atI a0 a2).bind fun v132=>
 (atI a0 (i64.wrap (z0w .u64 (u64.wrap (i64.wrap (w128+w127))) 1))).bind fun v133=>
 (z1T v132 v133 m2 m3 m4 m5 m6 m7 m8).bind fun v134=>
 if v134<0 then
 z0d (w128,i64.wrap (z0w .u64 (u64.wrap (i64.wrap (w128+w127))) 1))
 else
 z0d (i64.wrap ((i64.wrap (z0w .u64 (u64.wrap (i64.wrap (w128+w127))) 1))+1),w127)
 else
 z0f<|
 z0h (z2h w128) LFm (a2,a0)
instance:Hd (z2i a0 a2 m2 m3 m4 m5 m6 m7 m8):=⟨fun(w128,w127)=>([(14,xI w128),(15,xI w127)],[])⟩
abbrev z2g(a0:List Int)(a1:Int)(a2:Int)(a3:Int)(m2:List Int)(m3:List Int)(m4:List Int)(m5:List (List Int))(m6:List ByteArray)(m7:List ByteArray)(m8:List (List Int))(rf:List Int->Int->Int->Int->List Int->List Int->List Int->List (List Int)->List ByteArray->List ByteArray->List (List Int)->Option (List Int)):Int×Int->Option ((Int×Int)⊕List Int)
 |(w153,w152)=>
 if w153<w152 then
 chk (¬1<0)<|
 (atI a0 (i64.wrap ((i64.wrap ((i64.wrap ((i64.wrap (z0w .u64 (u64.wrap (i64.wrap (a1+a3))) 1))+a2))-1))-(i64.wrap (z0w .u64 (u64.wrap (i64.wrap (w153+w152))) 1))))).bind fun v157=>
 (atI a0 (i64.wrap (z0w .u64 (u64.wrap (i64.wrap (w153+w152))) 1))).bind fun v158=>
 (z1T v157 v158 m2 m3 m4 m5 m6 m7 m8).bind fun v159=>
 if v159<0 then
 z0d (w153,i64.wrap (z0w .u64 (u64.wrap (i64.wrap (w153+w152))) 1))
 else
 z0d (i64.wrap ((i64.wrap (z0w .u64 (u64.wrap (i64.wrap (w153+w152))) 1))+1),w152)
 else
 z0f<|
 if w153<a2 then
 if a2<(i64.wrap ((i64.wrap ((i64.wrap (z0w .u64 (u64.wrap (i64.wrap (a1+a3))) 1))+a2))-w153)) then
 (z1h a0 w153 a2 (i64.wrap ((i64.wrap ((i64.wrap (z0w .u64 (u64.wrap (i64.wrap (a1+a3))) 1))+a2))-w153)) m2 m3 m4 m5 m6 m7 m8).bind fun v160=>
 if a1<w153 then
 if w153<(i64.wrap (z0w .u64 (u64.wrap (i64.wrap (a1+a3))) 1)) then
 (rf v160 a1 w153 (i64.wrap (z0w .u64 (u64.wrap (i64.wrap (a1+a3))) 1)) m2 m3 m4 m5 m6 m7 m8).bind fun v161=>
 if(i64.wrap (z0w .u64 (u64.wrap (i64.wrap (a1+a3))) 1))<(i64.wrap ((i64.wrap ((i64.wrap (z0w .u64 (u64.wrap (i64.wrap (a1+a3))) 1))+a2))-w153)) then
 if(i64.wrap ((i64.wrap ((i64.wrap (z0w .u64 (u64.wrap (i64.wrap (a1+a3))) 1))+a2))-w153))<a3 then
 (rf v161 (i64.wrap (z0w .u64 (u64.wrap (i64.wrap (a1+a3))) 1)) (i64.wrap ((i64.wrap ((i64.wrap (z0w .u64 (u64.wrap (i64.wrap (a1+a3))) 1))+a2))-w153)) a3 m2 m3 m4 m5 m6 m7 m8).bind fun v162=>
 some v162
 else
 some v161
 else
 some v161
 else
 if(i64.wrap (z0w .u64 (u64.wrap (i64.wrap (a1+a3))) 1))<(i64.wrap ((i64.wrap ((i64.wrap (z0w .u64 (u64.wrap (i64.wrap (a1+a3))) 1))+a2))-w153)) then
 if(i64.wrap ((i64.wrap ((i64.wrap (z0w .u64 (u64.wrap (i64.wrap (a1+a3))) 1))+a2))-w153))<a3 then
 (rf v160 (i64.wrap (z0w .u64 (u64.wrap (i64.wrap (a1+a3))) 1)) (i64.wrap ((i64.wrap ((i64.wrap (z0w .u64 (u64.wrap (i64.wrap (a1+a3))) 1))+a2))-w153)) a3 m2 m3 m4 m5 m6 m7 m8).bind fun v163=>
 some v163
 else
 some v160
 else
 some v160
 else
 if(i64.wrap (z0w .u64 (u64.wrap (i64.wrap (a1+a3))) 1))<(i64.wrap ((i64.wrap ((i64.wrap (z0w .u64 (u64.wrap (i64.wrap (a1+a3))) 1))+a2))-w153)) then
 if(i64.wrap ((i64.wrap ((i64.wrap (z0w .u64 (u64.wrap (i64.wrap (a1+a3))) 1))+a2))-w153))<a3 then
 (rf v160 (i64.wrap (z0w .u64 (u64.wrap (i64.wrap (a1+a3))) 1)) (i64.wrap ((i64.wrap ((i64.wrap (z0w .u64 (u64.wrap (i64.wrap (a1+a3))) 1))+a2))-w153)) a3 m2 m3 m4 m5 m6 m7 m8).bind fun v164=>
 some v164
 else
 some v160
 else
 some v160
 else
 if a1<w153 then
 if w153<(i64.wrap (z0w .u64 (u64.wrap (i64.wrap (a1+a3))) 1)) then
 (rf a0 a1 w153 (i64.wrap (z0w .u64 (u64.wrap (i64.wrap (a1+a3))) 1)) m2 m3 m4 m5 m6 m7 m8).bind fun v165=>
 if(i64.wrap (z0w .u64 (u64.wrap (i64.wrap (a1+a3))) 1))<(i64.wrap ((i64.wrap ((i64.wrap (z0w .u64 (u64.wrap (i64.wrap (a1+a3))) 1))+a2))-w153)) then
 if(i64.wrap ((i64.wrap ((i64.wrap (z0w .u64 (u64.wrap (i64.wrap (a1+a3))) 1))+a2))-w153))<a3 then
 (rf v165 (i64.wrap (z0w .u64 (u64.wrap (i64.wrap (a1+a3))) 1)) (i64.wrap ((i64.wrap ((i64.wrap (z0w .u64 (u64.wrap (i64.wrap (a1+a3))) 1))+a2))-w153)) a3 m2 m3 m4 m5 m6 m7 m8).bind fun v166=>
 some v166
 else
 some v165
 else
 some v165
 else
 if(i64.wrap (z0w .u64 (u64.wrap (i64.wrap (a1+a3))) 1))<(i64.wrap ((i64.wrap ((i64.wrap (z0w .u64 (u64.wrap (i64.wrap (a1+a3))) 1))+a2))-w153)) then
 if(i64.wrap ((i64.wrap ((i64.wrap (z0w .u64 (u64.wrap (i64.wrap (a1+a3))) 1))+a2))-w153))<a3 then
 (rf a0 (i64.wrap (z0w .u64 (u64.wrap (i64.wrap (a1+a3))) 1)) (i64.wrap ((i64.wrap ((i64.wrap (z0w .u64 (u64.wrap (i64.wrap (a1+a3))) 1))+a2))-w153)) a3 m2 m3 m4 m5 m6 m7 m8).bind fun v167=>
 some v167
 else
 some a0
 else
 some a0
 else
 if(i64.wrap (z0w .u64 (u64.wrap (i64.wrap (a1+a3))) 1))<(i64.wrap ((i64.wrap ((i64.wrap (z0w .u64 (u64.wrap (i64.wrap (a1+a3))) 1))+a2))-w153)) then
 if(i64.wrap ((i64.wrap ((i64.wrap (z0w .u64 (u64.wrap (i64.wrap (a1+a3))) 1))+a2))-w153))<a3 then
 (rf a0 (i64.wrap (z0w .u64 (u64.wrap (i64.wrap (a1+a3))) 1)) (i64.wrap ((i64.wrap ((i64.wrap (z0w .u64 (u64.wrap (i64.wrap (a1+a3))) 1))+a2))-w153)) a3 m2 m3 m4 m5 m6 m7 m8).bind fun v168=>
 some v168
 else
 some a0
 else
 some a0
 else
 if a1<w153 then
 if w153<(i64.wrap (z0w .u64 (u64.wrap (i64.wrap (a1+a3))) 1)) then
 (rf a0 a1 w153 (i64.wrap (z0w .u64 (u64.wrap (i64.wrap (a1+a3))) 1)) m2 m3 m4 m5 m6 m7 m8).bind fun v169=>
 if(i64.wrap (z0w .u64 (u64.wrap (i64.wrap (a1+a3))) 1))<(i64.wrap ((i64.wrap ((i64.wrap (z0w .u64 (u64.wrap (i64.wrap (a1+a3))) 1))+a2))-w153)) then
 if(i64.wrap ((i64.wrap ((i64.wrap (z0w .u64 (u64.wrap (i64.wrap (a1+a3))) 1))+a2))-w153))<a3 then
 (rf v169 (i64.wrap (z0w .u64 (u64.wrap (i64.wrap (a1+a3))) 1)) (i64.wrap ((i64.wrap ((i64.wrap (z0w .u64 (u64.wrap (i64.wrap (a1+a3))) 1))+a2))-w153)) a3 m2 m3 m4 m5 m6 m7 m8).bind fun v170=>
 some v170
 else
 some v169
 else
 some v169
 else
 if(i64.wrap (z0w .u64 (u64.wrap (i64.wrap (a1+a3))) 1))<(i64.wrap ((i64.wrap ((i64.wrap (z0w .u64 (u64.wrap (i64.wrap (a1+a3))) 1))+a2))-w153)) then
 if(i64.wrap ((i64.wrap ((i64.wrap (z0w .u64 (u64.wrap (i64.wrap (a1+a3))) 1))+a2))-w153))<a3 then
 (rf a0 (i64.wrap (z0w .u64 (u64.wrap (i64.wrap (a1+a3))) 1)) (i64.wrap ((i64.wrap ((i64.wrap (z0w .u64 (u64.wrap (i64.wrap (a1+a3))) 1))+a2))-w153)) a3 m2 m3 m4 m5 m6 m7 m8).bind fun v171=>
 some v171
 else
 some a0
 else
 some a0
 else
 if(i64.wrap (z0w .u64 (u64.wrap (i64.wrap (a1+a3))) 1))<(i64.wrap ((i64.wrap ((i64.wrap (z0w .u64 (u64.wrap (i64.wrap (a1+a3))) 1))+a2))-w153)) then
 if(i64.wrap ((i64.wrap ((i64.wrap (z0w .u64 (u64.wrap (i64.wrap (a1+a3))) 1))+a2))-w153))<a3 then
 (rf a0 (i64.wrap (z0w .u64 (u64.wrap (i64.wrap (a1+a3))) 1)) (i64.wrap ((i64.wrap ((i64.wrap (z0w .u64 (u64.wrap (i64.wrap (a1+a3))) 1))+a2))-w153)) a3 m2 m3 m4 m5 m6 m7 m8).bind fun v172=>
 some v172
 else
 some a0
 else
 some a0
instance:Hd (z2g a0 a1 a2 a3 m2 m3 m4 m5 m6 m7 m8 rf):=⟨fun(w153,w152)=>([(20,xI w153),(21,xI w152)],[])⟩
abbrev z2c(a0:List Int)(a1:Int)(a2:Int)(a3:Int)(m2:List Int)(m3:List Int)(m4:List Int)(m5:List (List Int))(m6:List ByteArray)(m7:List ByteArray)(m8:List (List Int))(rf:List Int->Int->Int->Int->List Int->List Int->List Int->List (List Int)->List ByteArray->List ByteArray->List (List Int)->Option (List Int)):Int×Int->Option ((Int×Int)⊕List Int)
 |(w177,w176)=>
 if w177<w176 then
 chk (¬1<0)<|
 (atI a0 (i64.wrap ((i64.wrap ((i64.wrap ((i64.wrap (z0w .u64 (u64.wrap (i64.wrap (a1+a3))) 1))+a2))-1))-(i64.wrap (z0w .u64 (u64.wrap (i64.wrap (w177+w176))) 1))))).bind fun v181=>
 (atI a0 (i64.wrap (z0w .u64 (u64.wrap (i64.wrap (w177+w176))) 1))).bind fun v182=>
 (z1T v181 v182 m2 m3 m4 m5 m6 m7 m8).bind fun v183=>
 if v183<0 then
 z0d (w177,i64.wrap (z0w .u64 (u64.wrap (i64.wrap (w177+w176))) 1))
 else
 z0d (i64.wrap ((i64.wrap (z0w .u64 (u64.wrap (i64.wrap (w177+w176))) 1))+1),w176)
 else
 z0f<|
 if w177<a2 then
 if a2<(i64.wrap ((i64.wrap ((i64.wrap (z0w .u64 (u64.wrap (i64.wrap (a1+a3))) 1))+a2))-w177)) then
 (z1h a0 w177 a2 (i64.wrap ((i64.wrap ((i64.wrap (z0w .u64 (u64.wrap (i64.wrap (a1+a3))) 1))+a2))-w177)) m2 m3 m4 m5 m6 m7 m8).bind fun v184=>
 if a1<w177 then
 if w177<(i64.wrap (z0w .u64 (u64.wrap (i64.wrap (a1+a3))) 1)) then
 (rf v184 a1 w177 (i64.wrap (z0w .u64 (u64.wrap (i64.wrap (a1+a3))) 1)) m2 m3 m4 m5 m6 m7 m8).bind fun v185=>
 if(i64.wrap (z0w .u64 (u64.wrap (i64.wrap (a1+a3))) 1))<(i64.wrap ((i64.wrap ((i64.wrap (z0w .u64 (u64.wrap (i64.wrap (a1+a3))) 1))+a2))-w177)) then
 if(i64.wrap ((i64.wrap ((i64.wrap (z0w .u64 (u64.wrap (i64.wrap (a1+a3))) 1))+a2))-w177))<a3 then
 (rf v185 (i64.wrap (z0w .u64 (u64.wrap (i64.wrap (a1+a3))) 1)) (i64.wrap ((i64.wrap ((i64.wrap (z0w .u64 (u64.wrap (i64.wrap (a1+a3))) 1))+a2))-w177)) a3 m2 m3 m4 m5 m6 m7 m8).bind fun v186=>
 some v186
 else
 some v185
 else
 some v185
 else
 if(i64.wrap (z0w .u64 (u64.wrap (i64.wrap (a1+a3))) 1))<(i64.wrap ((i64.wrap ((i64.wrap (z0w .u64 (u64.wrap (i64.wrap (a1+a3))) 1))+a2))-w177)) then
 if(i64.wrap ((i64.wrap ((i64.wrap (z0w .u64 (u64.wrap (i64.wrap (a1+a3))) 1))+a2))-w177))<a3 then
 (rf v184 (i64.wrap (z0w .u64 (u64.wrap (i64.wrap (a1+a3))) 1)) (i64.wrap ((i64.wrap ((i64.wrap (z0w .u64 (u64.wrap (i64.wrap (a1+a3))) 1))+a2))-w177)) a3 m2 m3 m4 m5 m6 m7 m8).bind fun v187=>
 some v187
 else
 some v184
 else
 some v184
 else
 if(i64.wrap (z0w .u64 (u64.wrap (i64.wrap (a1+a3))) 1))<(i64.wrap ((i64.wrap ((i64.wrap (z0w .u64 (u64.wrap (i64.wrap (a1+a3))) 1))+a2))-w177)) then
 if(i64.wrap ((i64.wrap ((i64.wrap (z0w .u64 (u64.wrap (i64.wrap (a1+a3))) 1))+a2))-w177))<a3 then
 (rf v184 (i64.wrap (z0w .u64 (u64.wrap (i64.wrap (a1+a3))) 1)) (i64.wrap ((i64.wrap ((i64.wrap (z0w .u64 (u64.wrap (i64.wrap (a1+a3))) 1))+a2))-w177)) a3 m2 m3 m4 m5 m6 m7 m8).bind fun v188=>
 some v188
 else
 some v184
 else
 some v184
 else
 if a1<w177 then
 if w177<(i64.wrap (z0w .u64 (u64.wrap (i64.wrap (a1+a3))) 1)) then
 (rf a0 a1 w177 (i64.wrap (z0w .u64 (u64.wrap (i64.wrap (a1+a3))) 1)) m2 m3 m4 m5 m6 m7 m8).bind fun v189=>
 if(i64.wrap (z0w .u64 (u64.wrap (i64.wrap (a1+a3))) 1))<(i64.wrap ((i64.wrap ((i64.wrap (z0w .u64 (u64.wrap (i64.wrap (a1+a3))) 1))+a2))-w177)) then
 if(i64.wrap ((i64.wrap ((i64.wrap (z0w .u64 (u64.wrap (i64.wrap (a1+a3))) 1))+a2))-w177))<a3 then
 (rf v189 (i64.wrap (z0w .u64 (u64.wrap (i64.wrap (a1+a3))) 1)) (i64.wrap ((i64.wrap ((i64.wrap (z0w .u64 (u64.wrap (i64.wrap (a1+a3))) 1))+a2))-w177)) a3 m2 m3 m4 m5 m6 m7 m8).bind fun v190=>
 some v190
 else
 some v189
 else
 some v189
 else
 if(i64.wrap (z0w .u64 (u64.wrap (i64.wrap (a1+a3))) 1))<(i64.wrap ((i64.wrap ((i64.wrap (z0w .u64 (u64.wrap (i64.wrap (a1+a3))) 1))+a2))-w177)) then
 if(i64.wrap ((i64.wrap ((i64.wrap (z0w .u64 (u64.wrap (i64.wrap (a1+a3))) 1))+a2))-w177))<a3 then
 (rf a0 (i64.wrap (z0w .u64 (u64.wrap (i64.wrap (a1+a3))) 1)) (i64.wrap ((i64.wrap ((i64.wrap (z0w .u64 (u64.wrap (i64.wrap (a1+a3))) 1))+a2))-w177)) a3 m2 m3 m4 m5 m6 m7 m8).bind fun v191=>
 some v191
 else
 some a0
 else
 some a0
 else
 if(i64.wrap (z0w .u64 (u64.wrap (i64.wrap (a1+a3))) 1))<(i64.wrap ((i64.wrap ((i64.wrap (z0w .u64 (u64.wrap (i64.wrap (a1+a3))) 1))+a2))-w177)) then
 if(i64.wrap ((i64.wrap ((i64.wrap (z0w .u64 (u64.wrap (i64.wrap (a1+a3))) 1))+a2))-w177))<a3 then
 (rf a0 (i64.wrap (z0w .u64 (u64.wrap (i64.wrap (a1+a3))) 1)) (i64.wrap ((i64.wrap ((i64.wrap (z0w .u64 (u64.wrap (i64.wrap (a1+a3))) 1))+a2))-w177)) a3 m2 m3 m4 m5 m6 m7 m8).bind fun v192=>
 some v192
 else
 some a0
 else
 some a0
 else
 if a1<w177 then
 if w177<(i64.wrap (z0w .u64 (u64.wrap (i64.wrap (a1+a3))) 1)) then
 (rf a0 a1 w177 (i64.wrap (z0w .u64 (u64.wrap (i64.wrap (a1+a3))) 1)) m2 m3 m4 m5 m6 m7 m8).bind fun v193=>
 if(i64.wrap (z0w .u64 (u64.wrap (i64.wrap (a1+a3))) 1))<(i64.wrap ((i64.wrap ((i64.wrap (z0w .u64 (u64.wrap (i64.wrap (a1+a3))) 1))+a2))-w177)) then
 if(i64.wrap ((i64.wrap ((i64.wrap (z0w .u64 (u64.wrap (i64.wrap (a1+a3))) 1))+a2))-w177))<a3 then
 (rf v193 (i64.wrap (z0w .u64 (u64.wrap (i64.wrap (a1+a3))) 1)) (i64.wrap ((i64.wrap ((i64.wrap (z0w .u64 (u64.wrap (i64.wrap (a1+a3))) 1))+a2))-w177)) a3 m2 m3 m4 m5 m6 m7 m8).bind fun v194=>
 some v194
 else
 some v193
 else
 some v193
 else
 if(i64.wrap (z0w .u64 (u64.wrap (i64.wrap (a1+a3))) 1))<(i64.wrap ((i64.wrap ((i64.wrap (z0w .u64 (u64.wrap (i64.wrap (a1+a3))) 1))+a2))-w177)) then
 if(i64.wrap ((i64.wrap ((i64.wrap (z0w .u64 (u64.wrap (i64.wrap (a1+a3))) 1))+a2))-w177))<a3 then
 (rf a0 (i64.wrap (z0w .u64 (u64.wrap (i64.wrap (a1+a3))) 1)) (i64.wrap ((i64.wrap ((i64.wrap (z0w .u64 (u64.wrap (i64.wrap (a1+a3))) 1))+a2))-w177)) a3 m2 m3 m4 m5 m6 m7 m8).bind fun v195=>
 some v195
 else
 some a0
 else
 some a0
 else
 if(i64.wrap (z0w .u64 (u64.wrap (i64.wrap (a1+a3))) 1))<(i64.wrap ((i64.wrap ((i64.wrap (z0w .u64 (u64.wrap (i64.wrap (a1+a3))) 1))+a2))-w177)) then
 if(i64.wrap ((i64.wrap ((i64.wrap (z0w .u64 (u64.wrap (i64.wrap (a1+a3))) 1))+a2))-w177))<a3 then
 (rf a0 (i64.wrap (z0w .u64 (u64.wrap (i64.wrap (a1+a3))) 1)) (i64.wrap ((i64.wrap ((i64.wrap (z0w .u64 (u64.wrap (i64.wrap (a1+a3))) 1))+a2))-w177)) a3 m2 m3 m4 m5 m6 m7 m8).bind fun v196=>
 some v196
 else
 some a0
 else
 some a0
instance:Hd (z2c a0 a1 a2 a3 m2 m3 m4 m5 m6 m7 m8 rf):=⟨fun(w177,w176)=>([(20,xI w177),(21,xI w176)],[])⟩
def z0X(rf:List Int->Int->Int->Int->List Int->List Int->List Int->List (List Int)->List ByteArray->List ByteArray->List (List Int)->Option (List Int))(a0:List Int)(a1:Int)(a2:Int)(a3:Int)(m2:List Int)(m3:List Int)(m4:List Int)(m5:List (List Int))(m6:List ByteArray)(m7:List ByteArray)(m8:List (List Int)):Option (List Int):=
 if(i64.wrap (a2-a1))=1 then
 z0h (z2p a0 a1 m2 m3 m4 m5 m6 m7 m8) LFm (a2,a3)
 else
 if(i64.wrap (a3-a2))=1 then
 z0h (z2i a0 a2 m2 m3 m4 m5 m6 m7 m8) LFm (a1,a2)
 else
 chk (¬1<0)<|
 if(i64.wrap (z0w .u64 (u64.wrap (i64.wrap (a1+a3))) 1))<a2 then
 z0h (z2g a0 a1 a2 a3 m2 m3 m4 m5 m6 m7 m8 rf) LFm (i64.wrap ((i64.wrap ((i64.wrap (z0w .u64 (u64.wrap (i64.wrap (a1+a3))) 1))+a2))-a3),i64.wrap (z0w .u64 (u64.wrap (i64.wrap (a1+a3))) 1))
 else
 z0h (z2c a0 a1 a2 a3 m2 m3 m4 m5 m6 m7 m8 rf) LFm (a1,a2)
theorem z4o[ih:∀(a0:List Int) (a1:Int) (a2:Int) (a3:Int) (m2:List Int) (m3:List Int) (m4:List Int) (m5:List (List Int)) (m6:List ByteArray) (m7:List ByteArray) (m8:List (List Int)),Ok (rf a0 a1 a2 a3 m2 m3 m4 m5 m6 m7 m8) (fun r=>L 209 [.os 1 a0.length (a0.map fun x0=>.sc (.int .i64 x0)),.sc (.int .i64 a1),.sc (.int .i64 a2),.sc (.int .i64 a3),.cl 137 [.pr [.sl m2.length (m2.map fun x0=>.sc (.int .i64 x0)),.sl m3.length (m3.map fun x0=>.sc (.int .i64 x0)),.sl m4.length (m4.map fun x0=>.sc (.int .i64 x0)),.sl m5.length (m5.map fun x0=>.sl x0.length (x0.map fun x1=>.sc (.int .i64 x1))),.sl m6.length (m6.map fun x0=>.sc (.string x0)),.sl m7.length (m7.map fun x0=>.sc (.string x0))],.pr [.sl m8.length (m8.map fun x0=>.sl x0.length (x0.map fun x1=>.sc (.int .i64 x1)))]]]=some (.tup [],[.os 1 r.length (r.map fun x0=>.sc (.int .i64 x0)),.dead,.dead,.dead,.dead]))]:Ok (z0X rf a0 a1 a2 a3 m2 m3 m4 m5 m6 m7 m8) (fun r=>L 209 [.os 1 a0.length (a0.map fun x0=>.sc (.int .i64 x0)),.sc (.int .i64 a1),.sc (.int .i64 a2),.sc (.int .i64 a3),.cl 137 [.pr [.sl m2.length (m2.map fun x0=>.sc (.int .i64 x0)),.sl m3.length (m3.map fun x0=>.sc (.int .i64 x0)),.sl m4.length (m4.map fun x0=>.sc (.int .i64 x0)),.sl m5.length (m5.map fun x0=>.sl x0.length (x0.map fun x1=>.sc (.int .i64 x1))),.sl m6.length (m6.map fun x0=>.sc (.string x0)),.sl m7.length (m7.map fun x0=>.sc (.string x0))],.pr [.sl m8.length (m8.map fun x0=>.sl x0.length (x0.map fun x1=>.sc (.int .i64 x1)))]]]=some (.tup [],[.os 1 r.length (r.map fun x0=>.sc (.int .i64 x0)),.dead,.dead,.dead,.dead])):=⟨fun r h=>by have h:=z4s h;unfold z0X at h;exact z5l rfl Tryz.func209 (bdy Tryz.f209 rfl)⟩
def z0m:Nat->List Int->Int->Int->Int->List Int->List Int->List Int->List (List Int)->List ByteArray->List ByteArray->List (List Int)->Option (List Int)
 |0=>fun _ _ _ _ _ _ _ _ _ _ _=>none
 |k+1=>z0X (z0m k)
instance slices_symMergeCmpFunc_int_holonomy_classes_1_ok:∀ {k:Nat} {a0:List Int} {a1:Int} {a2:Int} {a3:Int} {m2:List Int} {m3:List Int} {m4:List Int} {m5:List (List Int)} {m6:List ByteArray} {m7:List ByteArray} {m8:List (List Int)},Ok (z0m k a0 a1 a2 a3 m2 m3 m4 m5 m6 m7 m8) (fun r=>L 209 [.os 1 a0.length (a0.map fun x0=>.sc (.int .i64 x0)),.sc (.int .i64 a1),.sc (.int .i64 a2),.sc (.int .i64 a3),.cl 137 [.pr [.sl m2.length (m2.map fun x0=>.sc (.int .i64 x0)),.sl m3.length (m3.map fun x0=>.sc (.int .i64 x0)),.sl m4.length (m4.map fun x0=>.sc (.int .i64 x0)),.sl m5.length (m5.map fun x0=>.sl x0.length (x0.map fun x1=>.sc (.int .i64 x1))),.sl m6.length (m6.map fun x0=>.sc (.string x0)),.sl m7.length (m7.map fun x0=>.sc (.string x0))],.pr [.sl m8.length (m8.map fun x0=>.sl x0.length (x0.map fun x1=>.sc (.int .i64 x1)))]]]=some (.tup [],[.os 1 r.length (r.map fun x0=>.sc (.int .i64 x0)),.dead,.dead,.dead,.dead])):=by
 intro k
 induction k with
 |zero=>intros;exact⟨fun r h=>by cases h⟩
 |succ k ih=>intros;have ih2:= @ih;exact z4o (rf:=z0m k)
abbrev z0Z(a1:Int)(n0:List Int)(n1:List Int)(n2:List Int)(n3:List (List Int))(n4:List ByteArray)(n5:List ByteArray)(n6:List (List Int))(w45:Int):Int×Int×List Int->Option ((Int×Int×List Int)⊕((Int×List Int)⊕List Int))
 |(w55,w56,w57)=>
 if w56<=a1 then
 (z0m 5000 w57 w55 (i64.wrap (w55+w45)) w56 n0 n1 n2 n3 n4 n5 n6).bind fun v59=>
 z0d (w56,i64.wrap (w56+(i64.wrap (2*w45))),v59)
 else
 z0f<|
 if(i64.wrap (w55+w45))<a1 then
 (z0m 5000 w57 w55 (i64.wrap (w55+w45)) a1 n0 n1 n2 n3 n4 n5 n6).bind fun v60=>
 z0d (i64.wrap (w45*2),v60)
 else
 z0d (i64.wrap (w45*2),w57)
instance{w45:Int}:Hd (z0Z a1 n0 n1 n2 n3 n4 n5 n6 w45):=⟨fun(w55,w56,w57)=>([(7,xI w55),(8,xI w56)],[(0,.os 1 w57.length (w57.map fun x0=>.sc (.int .i64 x0)))])⟩
abbrev z1a(a1:Int)(n0:List Int)(n1:List Int)(n2:List Int)(n3:List (List Int))(n4:List ByteArray)(n5:List ByteArray)(n6:List (List Int)):Int×List Int->Option ((Int×List Int)⊕List Int)
 |(w45,w46)=>
 if w45<a1 then
 z0h (z0Z a1 n0 n1 n2 n3 n4 n5 n6 w45) LFm (0,i64.wrap (2*w45),w46)
 else
 z0f<|
 some w46
instance:Hd (z1a a1 n0 n1 n2 n3 n4 n5 n6):=⟨fun(w45,w46)=>([(6,xI w45)],[(0,.os 1 w46.length (w46.map fun x0=>.sc (.int .i64 x0)))])⟩
abbrev z1b(a1:Int)(n0:List Int)(n1:List Int)(n2:List Int)(n3:List (List Int))(n4:List ByteArray)(n5:List ByteArray)(n6:List (List Int)):Int×Int×List Int->Option ((Int×Int×List Int)⊕List Int)
 |(w32,w33,w34)=>
 if w33<=a1 then
 (z0P w34 w32 w33 n0 n1 n2 n3 n4 n5 n6).bind fun v36=>
 z0d (w33,i64.wrap (w33+20),v36)
 else
 z0f<|
 (z0P w34 w32 a1 n0 n1 n2 n3 n4 n5 n6).bind fun v37=>
 z0h (z1a a1 n0 n1 n2 n3 n4 n5 n6) LFm (20,v37)
instance:Hd (z1b a1 n0 n1 n2 n3 n4 n5 n6):=⟨fun(w32,w33,w34)=>([(7,xI w32),(8,xI w33)],[(0,.os 1 w34.length (w34.map fun x0=>.sc (.int .i64 x0)))])⟩
def z1g(a0:List Int)(a1:Int)(n0:List Int)(n1:List Int)(n2:List Int)(n3:List (List Int))(n4:List ByteArray)(n5:List ByteArray)(n6:List (List Int)):Option (List Int):=
 z0h (z1b a1 n0 n1 n2 n3 n4 n5 n6) LFm (0,20,a0)
instance slices_stableCmpFunc_int_holonomy_classes_1_ok:Ok (z1g a0 a1 n0 n1 n2 n3 n4 n5 n6) (fun r=>L 181 [.os 1 a0.length (a0.map fun x0=>.sc (.int .i64 x0)),.sc (.int .i64 a1),.cl 137 [.pr [.sl n0.length (n0.map fun x0=>.sc (.int .i64 x0)),.sl n1.length (n1.map fun x0=>.sc (.int .i64 x0)),.sl n2.length (n2.map fun x0=>.sc (.int .i64 x0)),.sl n3.length (n3.map fun x0=>.sl x0.length (x0.map fun x1=>.sc (.int .i64 x1))),.sl n4.length (n4.map fun x0=>.sc (.string x0)),.sl n5.length (n5.map fun x0=>.sc (.string x0))],.pr [.sl n6.length (n6.map fun x0=>.sl x0.length (x0.map fun x1=>.sc (.int .i64 x1)))]]]=some (.tup [],[.os 1 r.length (r.map fun x0=>.sc (.int .i64 x0)),.dead,.dead])):=⟨fun r h=>by have h:=z4s h;unfold z1g at h;exact z5l rfl Tryz.func181 (bdy Tryz.f181 rfl)⟩
def z0y(a0:List Int)(p5:List Int)(p6:List Int)(p7:List Int)(p8:List (List Int))(p9:List ByteArray)(q0:List ByteArray)(q1:List (List Int)):Option (List Int):=
 (z1g a0 (a0.length:Int) p5 p6 p7 p8 p9 q0 q1).bind fun v2=>
 some v2
instance slices_SortStableFunc_Lint_int_holonomy_classes_1_ok{p5:List Int}{p6:List Int}{p7:List Int}{p8:List (List Int)}{p9:List ByteArray}{q0:List ByteArray}{q1:List (List Int)}:Ok (z0y a0 p5 p6 p7 p8 p9 q0 q1) (fun r=>L 136 [.os 1 a0.length (a0.map fun x0=>.sc (.int .i64 x0)),.cl 137 [.pr [.sl p5.length (p5.map fun x0=>.sc (.int .i64 x0)),.sl p6.length (p6.map fun x0=>.sc (.int .i64 x0)),.sl p7.length (p7.map fun x0=>.sc (.int .i64 x0)),.sl p8.length (p8.map fun x0=>.sl x0.length (x0.map fun x1=>.sc (.int .i64 x1))),.sl p9.length (p9.map fun x0=>.sc (.string x0)),.sl q0.length (q0.map fun x0=>.sc (.string x0))],.pr [.sl q1.length (q1.map fun x0=>.sl x0.length (x0.map fun x1=>.sc (.int .i64 x1)))]]]=some (.tup [],[.os 1 r.length (r.map fun x0=>.sc (.int .i64 x0)),.dead])):=⟨fun r h=>by have h:=z4s h;unfold z0y at h;exact z5l rfl Tryz.func136 (bdy Tryz.f136 rfl)⟩
def z4L(a0:Imgs)(w36:List (List Int)):Int×List Int->Option ((Int×List Int)⊕(List Int×List (List Int)))
 |(w50,w51)=>
 if w50<(w36.length:Int) then
 (atI w36 w50).bind fun v55=>
 (atI v55 0).bind fun v56=>
 (atI a0.height v56).bind fun v57=>
 if 1<=v57 then
 chk (z1V 8 (w51.length+1))<|
 z0d (i64.wrap (w50+1),w51++ [w50])
 else
 z0d (i64.wrap (w50+1),w51)
 else
 z0f<|
 (z0y w51 a0.sets a0.class_ a0.height a0.tiles a0.words a0.back w36).bind fun v58=>
 some (v58,w36)
def z3Q(a0:Imgs)(w36:List (List Int)):Int×List Int->Fr
 |(w50,w51)=>⟨61,[(1,.one (.a 1 [] (0))),(4,.one (.a 4 [] (0))),(7,.one (.h 7 [])),(36,.one (.h 4 [0])),(37,.one (.t none (.sc (.int .i64 (w36.length:Int))))),(38,.one (.t none (.sc (.int .i64 w50))))],[(1,.vr [.sl a0.sets.length (a0.sets.map fun x0=>.sc (.int .i64 x0)),.sl a0.class_.length (a0.class_.map fun x0=>.sc (.int .i64 x0)),.sl a0.height.length (a0.height.map fun x0=>.sc (.int .i64 x0)),.sl a0.tiles.length (a0.tiles.map fun x0=>.sl x0.length (x0.map fun x1=>.sc (.int .i64 x1))),.sl a0.words.length (a0.words.map fun x0=>.sc (.string x0)),.sl a0.back.length (a0.back.map fun x0=>.sc (.string x0))]),(4,.vr [.os 1 w36.length (w36.map fun x0=>.os 1 x0.length (x0.map fun x1=>.sc (.int .i64 x1)))]),(7,.os 1 w51.length (w51.map fun x0=>.sc (.int .i64 x0)))]⟩
def z4h(a0:Imgs):Int×List (List Int)->Option ((Int×List (List Int))⊕(List Int×List (List Int)))
 |(w35,w36)=>
 if w35<(a0.class_.length:Int) then
 (atI a0.class_ w35).bind fun v42=>
 if v42=(w36.length:Int) then
 chk (z1V 24 (w36.length+1))<|
 (atI (w36++ [[]]) v42).bind fun v43=>
 chk (z1V 8 (v43.length+1))<|
 z0d (i64.wrap (w35+1),((w36++ [[]]).set v42.toNat (v43++ [w35])))
 else
 (atI w36 v42).bind fun v45=>
 chk (z1V 8 (v45.length+1))<|
 z0d (i64.wrap (w35+1),(w36.set v42.toNat (v45++ [w35])))
 else
 z0f<|
 z0h (z4L a0 w36) LFm (0,[])
def z4g(a0:Imgs):Int×List (List Int)->Fr
 |(w35,w36)=>⟨61,[(1,.one (.a 1 [] (0))),(4,.one (.a 4 [] (0))),(11,.one (.t none (.sl a0.class_.length (a0.class_.map fun x0=>.sc (.int .i64 x0))))),(12,.one (.t none (.sc (.int .i64 (a0.class_.length:Int))))),(13,.one (.t none (.sc (.int .i64 w35))))],[(1,.vr [.sl a0.sets.length (a0.sets.map fun x0=>.sc (.int .i64 x0)),.sl a0.class_.length (a0.class_.map fun x0=>.sc (.int .i64 x0)),.sl a0.height.length (a0.height.map fun x0=>.sc (.int .i64 x0)),.sl a0.tiles.length (a0.tiles.map fun x0=>.sl x0.length (x0.map fun x1=>.sc (.int .i64 x1))),.sl a0.words.length (a0.words.map fun x0=>.sc (.string x0)),.sl a0.back.length (a0.back.map fun x0=>.sc (.string x0))]),(4,.vr [.os 1 w36.length (w36.map fun x0=>.os 1 x0.length (x0.map fun x1=>.sc (.int .i64 x1)))])]⟩
def z5p(a0:Imgs):Option (List Int×List (List Int)):=
 z0h (z4h a0) LFm (0,[])
instance holonomy_classes_ok{a0:Imgs}:Ok (z5p a0) (fun r=>L 80 [.agg [.sl a0.sets.length (a0.sets.map fun x0=>.sc (.int .i64 x0)),.sl a0.class_.length (a0.class_.map fun x0=>.sc (.int .i64 x0)),.sl a0.height.length (a0.height.map fun x0=>.sc (.int .i64 x0)),.sl a0.tiles.length (a0.tiles.map fun x0=>.sl x0.length (x0.map fun x1=>.sc (.int .i64 x1))),.sl a0.words.length (a0.words.map fun x0=>.sc (.string x0)),.sl a0.back.length (a0.back.map fun x0=>.sc (.string x0))]]=some (.tup [.sl r.1.length (r.1.map fun x0=>.sc (.int .i64 x0)),.sl r.2.length (r.2.map fun x0=>.sl x0.length (x0.map fun x1=>.sc (.int .i64 x1)))],[.dead])):=⟨fun r h0=>by
 simp only[z5p] at h0
 refine zlx rfl Tryz.func80 (zew (bdy Tryz.f80 rfl) ⟨of_decide_eq_true rfl,of_decide_eq_true rfl⟩ rfl ?_)
 simp only[z6J,z7b,z6I,z8K,z6N]
 refine zp (zs ?_)
 refine z0a (zp (zs ?_))
 refine z0a (zp (zp (zs ?_)))
 refine z0a (zb rfl (z6x h0 (z4g a0) rfl rfl (by simp[z4g]) fun s o1 h1 hr1=> ?_))
 obtain⟨w35,w36⟩:=s
 simp only[z4h] at h1
 simp only[z4g]
 refine zp (zs ?_)
 refine z0a (zp ?_)
 by_cases c57:w35<(a0.class_.length:Int)
 ·rw[if_pos c57] at h1
  refine z7P rfl (by simp[c57]) (z5E rfl (z0a (zp (zb rfl (zp ?_)))))
  obtain⟨v42,f58,h2⟩:=z6B h1
  refine zr rfl rfl rfl (by simp[f58];rfl) ?_
  refine z0a (zp (zp (zs ?_)))
  refine z0a ?_
  by_cases c59:v42=(w36.length:Int)
  ·rw[if_pos c59] at h2
   have c59e:=eq_true c59
   refine z7P rfl (by simp[c59e]) ?_
   obtain⟨f60,h3⟩:=zlk h2
   refine zr rfl rfl rfl (by simp[f60];rfl) ?_
   refine z0a ?_
   obtain⟨v43,f61,h4⟩:=z1n h3
   obtain⟨f61a,f61b,f61c,f61d,f61e⟩:=z7E f61
   try simp at f61b f61c
   have f61s:∀hh,((w36++ [[]]).map (fun x0:List Int=>(.os 1 x0.length (x0.map fun x1=>.sc (.int .i64 x1)):T)))[v42.toNat]'hh=(fun x0:List Int=>(.os 1 x0.length (x0.map fun x1=>.sc (.int .i64 x1)):T)) v43:=fun hh=>by rw[ZF];exact congrArg (fun x0:List Int=>(.os 1 x0.length (x0.map fun x1=>.sc (.int .i64 x1)):T)) (f61e _)
   try simp only[List.map_set,Y3,Zn,Yy,Yg] at f61s
   obtain⟨f62,h5⟩:=zlk h4
   refine zkx rfl rfl rfl rfl ?_
   iterate 6 (refine zdx rfl rfl (by simp[z0v,z0x,f61a,f61b,f61c,f61d,f61e,f61s,f62];rfl) ?_)
   refine zfu ?_
   iterate 5 (refine zdx rfl rfl (by simp[z0v,z0x,f61a,f61b,f61c,f61d,f61e,f61s,f62];rfl) ?_)
   refine zft ?_
   refine⟨?_,?_⟩
   ·refine zdx rfl rfl (by simp[z0v,z0x,f61a,f61b,f61c,f61d,f61e,f61s,f62];rfl) ?_
    refine zfu ?_
    iterate 4 (refine zdx rfl rfl (by simp[z0v,z0x,f61a,f61b,f61c,f61d,f61e,f61s,f62];rfl) ?_)
    refine zft ?_
    refine⟨?_,?_⟩
    ·refine zdx rfl rfl (by simp[z0v,z0x,f61a,f61b,f61c,f61d,f61e,f61s,f62];rfl) ?_
     iterate 3 (refine zdx rfl rfl (by simp[z0v,z0x,f61a,f61b,f61c,f61d,f61e,f61s,f62];rfl) ?_)
     refine zft ?_
     simp[zbl,f61a,f61b,f61c,f61d,f61e,f61s,f62]
    simp[zbl,f61a,f61b,f61c,f61d,f61e,f61s,f62]
   refine zk3 rfl (by simp[f61a,f61b,f61c,f61d,f61e,f61s,f62];rfl) ?_
   refine z2f (z0a (zs ?_))
   have ho:=z1K h5
   refine z2t ho ?_
   simp[z4g]
  ·rw[if_neg c59] at h2
   have c59e:=eq_false c59
   refine z7Q rfl (by simp[c59e]) (z5E rfl (z0a ?_))
   obtain⟨v45,f63,h3⟩:=z6B h2
   obtain⟨f64,h4⟩:=zlk h3
   refine zkx rfl rfl rfl rfl ?_
   iterate 6 (refine zdx rfl rfl (by simp[z0v,z0x,f63,f64];rfl) ?_)
   refine zfu ?_
   iterate 5 (refine zdx rfl rfl (by simp[z0v,z0x,f63,f64];rfl) ?_)
   refine zft ?_
   refine⟨?_,?_⟩
   ·refine zdx rfl rfl (by simp[z0v,z0x,f63,f64];rfl) ?_
    refine zfu ?_
    iterate 4 (refine zdx rfl rfl (by simp[z0v,z0x,f63,f64];rfl) ?_)
    refine zft ?_
    refine⟨?_,?_⟩
    ·refine zdx rfl rfl (by simp[z0v,z0x,f63,f64];rfl) ?_
     iterate 3 (refine zdx rfl rfl (by simp[z0v,z0x,f63,f64];rfl) ?_)
     refine zft ?_
     simp[zbl,f63,f64]
    simp[zbl,f63,f64]
   refine zk3 rfl (by simp[f63,f64];rfl) ?_
   refine z2f (z0a (zs ?_))
   have ho:=z1K h4
   refine z2t ho ?_
   simp[z4g]
 ·rw[if_neg c57] at h1
  refine z7Q rfl (by simp[c57]) (z7S rfl (z6g ?_))
  obtain⟨rr1,h2,ho1⟩:=z3R h1
  have hs1:=hr1 _ ho1
  subst hs1
  refine z5a ho1 (z2n rfl (z0a (zp (zs ?_))))
  refine z0a (zp (zp (zs ?_)))
  refine z0a (zb rfl (z6x h2 (z3Q a0 w36) rfl rfl (by simp[z3Q]) fun s o2 h3 hr2=> ?_))
  obtain⟨w50,w51⟩:=s
  simp only[z4L] at h3
  simp only[z3Q]
  refine zp (zs ?_)
  refine z0a (zp ?_)
  by_cases c76:w50<(w36.length:Int)
  ·rw[if_pos c76] at h3
   refine z7P rfl (by simp[c76]) (z5E rfl (z0a (zp (zb rfl (zp ?_)))))
   obtain⟨v55,f77,h4⟩:=z6B h3
   refine zr rfl rfl rfl (by simp[f77];rfl) ?_
   refine z0a (zp ?_)
   obtain⟨v56,f78,h5⟩:=z1n h4
   obtain⟨f78a,f78b,f78c,f78d,f78e⟩:=z7E f78
   simp only[Int.reduceToNat,Z2] at f78c f78d f78e
   have f78j:v55≠ []:=by intro hh;rw[hh] at f78c;simp at f78c
   have f78l:0<v55.length:=by omega
   obtain⟨v57,f79,h6⟩:=z6B h5
   refine z9P rfl rfl rfl rfl ?_;repeat' ((first|refine z5R rfl rfl fun Q' hQ=> ?_|refine z5b rfl fun Q' hQ=> ?_);simp[f77,f78a,f78b,f78c,f78d,f78e,f78j,f78l,f79];refine hQ.out _ ?_;clear hQ;clear Q')
   refine z0a ?_
   by_cases c80:1<=v57
   ·rw[if_pos c80] at h6
    refine z7P rfl (by simp[c80]) ?_
    obtain⟨f81,h7⟩:=zlk h6
    refine zr rfl rfl rfl (by simp[f77,f81];rfl) ?_
    refine z2f (z0a (zr rfl rfl rfl (by simp[f77];rfl) ?_))
    have ho:=z1K h7
    refine z2t ho ?_
    simp[z3Q]
   ·rw[if_neg c80] at h6
    refine z7Q rfl (by simp[c80]) (z5E rfl (z2f (z0a (zr rfl rfl rfl (by simp[f77];rfl) ?_))))
    have ho:=z1K h6
    refine z2t ho ?_
    simp[z3Q]
  ·rw[if_neg c76] at h3
   refine z7Q rfl (by simp[c76]) (z7S rfl (z6g ?_))
   obtain⟨rr2,h4,ho2⟩:=z3R h3
   have hs2:=hr2 _ ho2
   subst hs2
   refine z5a ho2 (z2n rfl (z0a (zp (zs6 rfl rfl (by simp;rfl) ?_))))
   obtain⟨v58,f82,h5⟩:=z1n h4
   have f82k:=Ok.ok _ f82
   try simp at f82k
   refine zr rfl rfl rfl (by simp[f82k];rfl) ?_
   refine z0a (zp ?_)
   refine z9P rfl rfl rfl rfl ?_;repeat' ((first|refine z5R rfl rfl fun Q' hQ=> ?_|refine z5b rfl fun Q' hQ=> ?_);simp;refine hQ.out _ ?_;clear hQ;clear Q')
   refine z0a (zcx rfl ?_)
   cases h5
   simp⟩
end
end
section
open Go
set_option maxRecDepth 100000
def zxT(M:List (List Int))(H:List Int)(x:Int):Option Int:=(atI M x).bind fun m=>(atI m 0).bind fun r=>atI H r
def zyF(s c h:List Int)(t:List (List Int))(w b:List ByteArray)(M:List (List Int)):SrtC where
 cmp x y:=z1T x y s c h t w b M
 key x:=x-(zxT M h x).getD 0*1048576
 ok x:=0<=x/\x<1048576/\(zxT M h x).isSome
 law x y hx hy hl:=by
  obtain⟨x0,x1,x2⟩:=hx
  obtain⟨y0,y1,y2⟩:=hy
  obtain⟨u,hu⟩:=ZY.1 x2
  obtain⟨v,hv⟩:=ZY.1 y2
  have hu':=hu
  have hv':=hv
  unfold zxT at hu hv
  cases h1:atI M x with
  |none=>rw[h1] at hu;cases hu
  |some p=>
   cases h2:atI M y with
   |none=>rw[h2] at hv;cases hv
   |some q=>
    rw[h1,Z0] at hu
    rw[h2,Z0] at hv
    cases h3:atI p 0 with
    |none=>rw[h3] at hu;cases hu
    |some p0=>
     cases h4:atI q 0 with
     |none=>rw[h4] at hv;cases hv
     |some q0=>
      rw[h3,Z0] at hu
      rw[h4,Z0] at hv
      obtain⟨z,e1,e2⟩:=ztu v u
      refine⟨z,?_,?_⟩
      · unfold z1T
        rw[h2,Z0,h4,Z0,hv,Z0,h1,Z0,h3,Z0,hu,Z0,e1];rfl
      · rw[e2,hu',hv',Z7,Z7]
        omega
theorem zk9:∀k,z0m k=fun l a m b s c h t w x M=>zvz k l a m b (zyF s c h t w x M)
 |0=>rfl
 |k+1=>by
  show z0X (z0m k)=_
  rw[zk9 k]
  rfl
theorem zrp(l s c h:List Int)(t:List (List Int))(w b:List ByteArray)(M:List (List Int)):z0y l s c h t w b M=zzX l (zyF s c h t w b M):=by
 have h9:z0Z=fun a s c h t w b M k=>zbX a (zyF s c h t w b M) k:=by
  unfold z0Z
  rw[zk9]
  all_goals rfl
 have h7:z1a=fun a s c h t w b M=>zdO a (zyF s c h t w b M):=by
  unfold z1a
  rw[h9]
  all_goals rfl
 have h2:z1b=fun a s c h t w b M=>zdP a (zyF s c h t w b M):=by
  unfold z1b
  rw[h7]
  all_goals rfl
 unfold z0y z1g
 rw[h2]
 all_goals rfl
end
section
open Go
set_option maxRecDepth 100000
variable{d:DFA}{m n p q r:Nat}
def z7N(p r:Nat):Prop:=p&&&r=p
theorem z1Z:z7N p r↔ ∀q,p.testBit q=true->r.testBit q=true:=by
 unfold z7N
 constructor
 · intro h q hq
   have:(p&&&r).testBit q=true:=by rw[h];exact hq
   rw[XK,Z5] at this
   exact this.2
 · intro h
   apply ZQ
   intro q
   rw[XK]
   cases hp:p.testBit q with
   |false=>rfl
   |true=>rw[h q hp];rfl
theorem zaW(p:Nat):z7N p p:=Nat.and_self p
theorem zka(h1:z7N p q)(h2:z7N q r):z7N p r:=z1Z.2 fun i hi=>z1Z.1 h2 i (z1Z.1 h1 i hi)
theorem zam(h1:z7N p q)(h2:z7N q p):p=q:=ZQ fun i=>by
 have a:=z1Z.1 h1 i
 have b:=z1Z.1 h2 i
 cases hp:p.testBit i<;>cases hq:q.testBit i<;>simp_all
theorem zss(hd:DfaOk d m n){a:Nat}(ha:a<m)(h:z7N p r):z7N (mvN d p a) (mvN d r a):=z1Z.2 fun q hq=>by
 obtain⟨i,h1,h2,h3⟩:=(z9d hd ha q).1 hq
 exact(z9d hd ha q).2 ⟨i,h1,z1Z.1 h i h2,h3⟩
theorem zii{d:DFA}{m n:Nat}(hd:DfaOk d m n):∀ {w:List UInt8} {p r:Nat},(∀c∈w,97<=c.toNat/\c.toNat<97+m)->z7N p r->z7N (z4r d p w) (z4r d r w)
 | [],p,r,_,h=>h
 |c::w,p,r,hw,h=>zii (w:=w) (p:=mvN d p (c.toNat-97)) (r:=mvN d r (c.toNat-97)) hd (fun c' hc'=>hw c' (Zl _ hc')) (zss hd (by have:=hw c (Zv ..);omega) h)
theorem zfP{d:DFA}{m n s:Nat}(hd:DfaOk d m n)(hs:s<2^n):∀ {w:List UInt8} {x:Nat},(∀c∈w,97<=c.toNat/\c.toNat<97+m)->x∈(z1y d m n s).1->z4r d x w∈(z1y d m n s).1
 | [],x,_,h=>h
 |c::w,x,hw,h=>zfP (w:=w) (x:=mvN d x (c.toNat-97)) hd hs (fun c' hc'=>hw c' (Zl _ hc')) (zeb hd hs h (by have:=hw c (Zv ..);omega))
theorem zb1{s:Nat}(hd:DfaOk d m n)(hs:s<2^n):s∈(z1y d m n s).1:=by
 have:=(z6R hd hs).f0
 exact ZT this
def zqN(d:DFA)(m:Nat)(p r:Nat):Prop:=∃w:List UInt8,(∀c∈w,97<=c.toNat/\c.toNat<97+m)/\z7N p (z4r d r w)
theorem ztQ(hd:DfaOk d m n)(hr:r<2^n):zqN d m p r↔ ∃x∈(z1y d m n r).1,z7N p x:=by
 constructor
 · rintro⟨w,h1,h2⟩
   exact⟨_,zfP hd hr h1 (zb1 hd hr),h2⟩
 · rintro⟨x,hx,hs⟩
   obtain⟨i,hi,rfl⟩:=Zq hx
   obtain⟨_,o2,o3⟩:=(z6R hd hr).ok i hi
   refine⟨_,o2,?_⟩
   rw[o3,List.getD,Z1 hi,Z7]
   exact hs
theorem zd6(d:DFA)(m p:Nat):zqN d m p p:=⟨[],fun c hc=>by simp at hc,zaW p⟩
theorem zd5(hd:DfaOk d m n)(h1:zqN d m p q)(h2:zqN d m q r):zqN d m p r:=by
 obtain⟨u,u1,u2⟩:=h1
 obtain⟨v,v1,v2⟩:=h2
 refine⟨v++u,fun c hc=> ?_,?_⟩
 · rcases Zf.1 hc with h|h
   · exact v1 c h
   · exact u1 c h
 · rw[z7m]
   exact zka u2 (zii hd u1 v2)
end
section
open Go
variable{a0 r:List Int}
theorem zul(h:zlM a0=some r):L 175 [.os 1 a0.length (a0.map fun x0=>.sc (.int .i64 x0)),.sc (.func (.func 176) #[] #[])]=some (.tup [],[.os 1 r.length (r.map fun x0=>.sc (.int .i64 x0)),.dead]):=by
 refine zg6 rfl fun C=> ?_
 have e:(List.map (fun x0=>T.sc (Value.int IntKind.i64 x0)) a0)=a0.map fun x=>.sc (.int .i64 x):=rfl
 simp only[xt,xtF,xtC,Nat.reduceEqDiff,if_true,if_false,zud,XX,and_self,z8B,h,ZO]
instance:Ok (zlM a0) (fun r=>L 175 [.os 1 a0.length (a0.map fun x0=>.sc (.int .i64 x0)),.sc (.func (.func 176) #[] #[])]=some (.tup [],[.os 1 r.length (r.map fun x0=>.sc (.int .i64 x0)),.dead])):=⟨fun _ h=>zul h⟩
theorem zum{a0:List (List Int)}{r:List (List Int)}(h:zjz a0=some r):L 100 [.os 1 a0.length (a0.map fun x0=>.sl x0.length (x0.map fun x1=>.sc (.int .i64 x1))),.sc (.func (.func 101) #[] #[])]=some (.tup [],[.os 1 r.length (r.map fun x0=>.sl x0.length (x0.map fun x1=>.sc (.int .i64 x1))),.dead]):=by
 refine zg6 rfl fun C=> ?_
 have e:∀l:List (List Int),(l.map fun x0=>T.sl x0.length (x0.map fun x1=>T.sc (Value.int IntKind.i64 x1)))=l.map zeo:=fun _=>rfl
 simp only[xt,xtF,xtC,Nat.reduceEqDiff,if_true,if_false,zue,XX,and_self,e,zkn,h,ZO]
instance{a0:List (List Int)}:Ok (zjz a0) (fun r=>L 100 [.os 1 a0.length (a0.map fun x0=>.sl x0.length (x0.map fun x1=>.sc (.int .i64 x1))),.sc (.func (.func 101) #[] #[])]=some (.tup [],[.os 1 r.length (r.map fun x0=>.sl x0.length (x0.map fun x1=>.sc (.int .i64 x1))),.dead])):=⟨fun _ h=>zum h⟩
theorem z8x(h:z9Z a0=some r):L 237 [.os 1 a0.length (a0.map fun x0=>.sc (.int .i64 x0))]=some (.tup [],[.os 1 r.length (r.map fun x0=>.sc (.int .i64 x0))]):=by
 refine zg6 rfl fun C=> ?_
 simp only[xt,xtF,xtC,Nat.reduceEqDiff,if_true,if_false,zn1,z8B,h,ZO]
instance:Ok (z9Z a0) (fun r=>L 237 [.os 1 a0.length (a0.map fun x0=>.sc (.int .i64 x0))]=some (.tup [],[.os 1 r.length (r.map fun x0=>.sc (.int .i64 x0))])):=⟨fun _ h=>z8x h⟩
theorem zqY(h:zbq a0=some r):L 104 [.sl a0.length (a0.map fun x0=>.sc (.int .i64 x0))]=some (.os 1 r.length (r.map fun x0=>.sc (.int .i64 x0)),[.dead]):=by
 refine zg6 rfl fun C=> ?_
 simp only[xt,xtF,xtC,Nat.reduceEqDiff,if_true,if_false,zn3,z8B,h,ZO]
instance:Ok (zbq a0) (fun r=>L 104 [.sl a0.length (a0.map fun x0=>.sc (.int .i64 x0))]=some (.os 1 r.length (r.map fun x0=>.sc (.int .i64 x0)),[.dead])):=⟨fun _ h=>zqY h⟩
theorem zyP{a0:Int}{r:Int}(h:vTz a0=some r):L 102 [.sc (.int .u64 a0)]=some (.sc (.int .i64 r),[.dead]):=by
 refine zg6 rfl fun C=> ?_
 simp only[xt,xtF,xtC,Nat.reduceEqDiff,if_true,if_false,xTz,h,ZO]
instance{a0:Int}:Ok (vTz a0) (fun r=>L 102 [.sc (.int .u64 a0)]=some (.sc (.int .i64 r),[.dead])):=⟨fun _ h=>zyP h⟩
end
end Go.Proofs.YtiobkcdgggbljaaGreatDoor
