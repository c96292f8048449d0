/- Proved here: a part of the proof of the law at hand, in one text: no condition. -/
import Derived.Test.YtianakjpgmmflaaGreatDoorMTC3
set_option linter.unusedVariables false
set_option linter.unusedSimpArgs false
set_option linter.unusedSectionVars false
set_option maxRecDepth 100000
set_option maxHeartbeats 6000000
namespace Go.Proofs.YtianakjpgmmflaaGreatDoor
section
open Go Go.IntKind
noncomputable section
variable{a1 a2 a3:Int}{m5 m8 n3 n6 p0 p3:List (List Int)}{m6 m7 n4 n5 p1 p2:List ByteArray}{a0 m2 m3 m4 n0 n1 n2 n7 n8 n9:List Int}{rf:List Int->Int->Int->Int->List Int->List Int->List Int->List (List Int)->List ByteArray->List ByteArray->List (List Int)->Option (List Int)}
def z1Y(a0:Int)(a1:Int)(m0:List Int)(m9:List Int)(p4:List Int)(q2:List (List Int))(q3:List ByteArray)(q4:List ByteArray)(m1:List (List Int)):Option (Int):=
 (atI m1 a1).bind fun v8=>
 (atI v8 0).bind fun v9=>
 (atI p4 v9).bind fun v10=>
 (atI m1 a0).bind fun v11=>
 (atI v11 0).bind fun v12=>
 (atI p4 v12).bind fun v13=>
 (cmp_Compare_int v10 v13).bind fun v14=>
 some v14
instance{a0:Int}{m0:List Int}{m9:List Int}{p4:List Int}{q2:List (List Int)}{q3:List ByteArray}{q4:List ByteArray}{m1:List (List Int)}:Ok (z1Y a0 a1 m0 m9 p4 q2 q3 q4 m1) (fun r=>L 60 [.sc (.int .i64 a0),.sc (.int .i64 a1),.pr [.sl m0.length (m0.map fun x0=>.sc (.int .i64 x0)),.sl m9.length (m9.map fun x0=>.sc (.int .i64 x0)),.sl p4.length (p4.map fun x0=>.sc (.int .i64 x0)),.sl q2.length (q2.map fun x0=>.sl x0.length (x0.map fun x1=>.sc (.int .i64 x1))),.sl q3.length (q3.map fun x0=>.sc (.string x0)),.sl q4.length (q4.map fun x0=>.sc (.string x0))],.pr [.sl m1.length (m1.map fun x0=>.sl x0.length (x0.map fun x1=>.sc (.int .i64 x1)))]]=some (.sc (.int .i64 r),[.dead,.dead,.dead,.dead])):=⟨fun r h=>by have h:=z4u h;unfold z1Y at h;exact z5i rfl Tryz.func60 (bdy Tryz.f60 rfl)⟩
abbrev z1W(a1:Int)(n7:List Int)(n8:List Int)(n9:List Int)(p0:List (List Int))(p1:List ByteArray)(p2:List ByteArray)(p3:List (List Int))(w95:Int):Int×List Int->Option ((Int×List Int)⊕((Int×List Int)⊕List Int))
 |(w127,w128)=>
 if a1<w127 then
 (atI w128 w127).bind fun v136=>
 (atI w128 (i64.wrap (w127-1))).bind fun v137=>
 (z1Y v136 v137 n7 n8 n9 p0 p1 p2 p3).bind fun v138=>
 if v138<0 then
 (atI (w128.set w127.toNat v137) (i64.wrap (w127-1))).bind fun v142=>
 z0c (i64.wrap (w127-1),((w128.set w127.toNat v137).set (i64.wrap (w127-1)).toNat v136))
 else
 z0i<|
 z0c (i64.wrap (w95+1),w128)
 else
 z0i<|
 z0c (i64.wrap (w95+1),w128)
instance{w95:Int}:Hd (z1W a1 n7 n8 n9 p0 p1 p2 p3 w95):=⟨fun(w127,w128)=>([(9,xI w127)],[(0,.os 1 w128.length (w128.map fun x0=>.sc (.int .i64 x0)))])⟩
abbrev z1X(a1:Int)(a2:Int)(n7:List Int)(n8:List Int)(n9:List Int)(p0:List (List Int))(p1:List ByteArray)(p2:List ByteArray)(p3:List (List Int)):Int×List Int->Option ((Int×List Int)⊕List Int)
 |(w95,w96)=>
 if w95<a2 then
 z0k (z1W a1 n7 n8 n9 p0 p1 p2 p3 w95) LFm (w95,w96)
 else
 z0i<|
 some w96
instance:Hd (z1X a1 a2 n7 n8 n9 p0 p1 p2 p3):=⟨fun(w95,w96)=>([(8,xI w95)],[(0,.os 1 w96.length (w96.map fun x0=>.sc (.int .i64 x0)))])⟩
def z0Q(a0:List Int)(a1:Int)(a2:Int)(n7:List Int)(n8:List Int)(n9:List Int)(p0:List (List Int))(p1:List ByteArray)(p2:List ByteArray)(p3:List (List Int)):Option (List Int):=
 z0k (z1X a1 a2 n7 n8 n9 p0 p1 p2 p3) LFm (i64.wrap (a1+1),a0)
instance:Ok (z0Q a0 a1 a2 n7 n8 n9 p0 p1 p2 p3) (fun r=>L 140 [.os 1 a0.length (a0.map fun x0=>.sc (.int .i64 x0)),.sc (.int .i64 a1),.sc (.int .i64 a2),.cl 60 [.pr [.sl n7.length (n7.map fun x0=>.sc (.int .i64 x0)),.sl n8.length (n8.map fun x0=>.sc (.int .i64 x0)),.sl n9.length (n9.map fun x0=>.sc (.int .i64 x0)),.sl p0.length (p0.map fun x0=>.sl x0.length (x0.map fun x1=>.sc (.int .i64 x1))),.sl p1.length (p1.map fun x0=>.sc (.string x0)),.sl p2.length (p2.map fun x0=>.sc (.string x0))],.pr [.sl p3.length (p3.map fun x0=>.sl x0.length (x0.map fun x1=>.sc (.int .i64 x1)))]]]=some (.tup [],[.os 1 r.length (r.map fun x0=>.sc (.int .i64 x0)),.dead,.dead,.dead])):=⟨fun r h=>by have h:=z4u h;unfold z0Q at h;exact z5i rfl Tryz.func140 (bdy Tryz.f140 rfl)⟩
abbrev z2m(a1:Int)(a2:Int)(a3:Int):Int×List Int->Option ((Int×List Int)⊕List Int)
 |(w19,w20)=>
 if w19<a3 then
 (atI w20 (i64.wrap (a2+w19))).bind fun v25=>
 (atI w20 (i64.wrap (a1+w19))).bind fun v26=>
 (atI (w20.set (i64.wrap (a1+w19)).toNat v25) (i64.wrap (a2+w19))).bind fun v28=>
 z0c (i64.wrap (w19+1),((w20.set (i64.wrap (a1+w19)).toNat v25).set (i64.wrap (a2+w19)).toNat v26))
 else
 z0i<|
 some w20
instance:Hd (z2m a1 a2 a3):=⟨fun(w19,w20)=>([(10,xI w19)],[(0,.os 1 w20.length (w20.map fun x0=>.sc (.int .i64 x0)))])⟩
def z0F(a0:List Int)(a1:Int)(a2:Int)(a3:Int)(m2:List Int)(m3:List Int)(m4:List Int)(m5:List (List Int))(m6:List ByteArray)(m7:List ByteArray)(m8:List (List Int)):Option (List Int):=
 z0k (z2m a1 a2 a3) LFm (0,a0)
instance:Ok (z0F a0 a1 a2 a3 m2 m3 m4 m5 m6 m7 m8) (fun r=>L 198 [.os 1 a0.length (a0.map fun x0=>.sc (.int .i64 x0)),.sc (.int .i64 a1),.sc (.int .i64 a2),.sc (.int .i64 a3),.cl 60 [.pr [.sl m2.length (m2.map fun x0=>.sc (.int .i64 x0)),.sl m3.length (m3.map fun x0=>.sc (.int .i64 x0)),.sl m4.length (m4.map fun x0=>.sc (.int .i64 x0)),.sl m5.length (m5.map fun x0=>.sl x0.length (x0.map fun x1=>.sc (.int .i64 x1))),.sl m6.length (m6.map fun x0=>.sc (.string x0)),.sl m7.length (m7.map fun x0=>.sc (.string x0))],.pr [.sl m8.length (m8.map fun x0=>.sl x0.length (x0.map fun x1=>.sc (.int .i64 x1)))]]]=some (.tup [],[.os 1 r.length (r.map fun x0=>.sc (.int .i64 x0)),.dead,.dead,.dead,.dead])):=⟨fun r h=>by have h:=z4u h;unfold z0F at h;exact z5i rfl Tryz.func198 (bdy Tryz.f198 rfl)⟩
abbrev z2v(a2:Int)(m2:List Int)(m3:List Int)(m4:List Int)(m5:List (List Int))(m6:List ByteArray)(m7:List ByteArray)(m8:List (List Int)):Int×Int×List Int->Option ((Int×Int×List Int)⊕List Int)
 |(w13,w15,w14)=>
 if w13=w15 then
 z0i<|
 (z0F w14 (i64.wrap (a2-w13)) a2 w13 m2 m3 m4 m5 m6 m7 m8).bind fun v18=>
 some v18
 else
 if w15<w13 then
 (z0F w14 (i64.wrap (a2-w13)) a2 w15 m2 m3 m4 m5 m6 m7 m8).bind fun v19=>
 z0c (i64.wrap (w13-w15),w15,v19)
 else
 (z0F w14 (i64.wrap (a2-w13)) (i64.wrap ((i64.wrap (a2+w15))-w13)) w13 m2 m3 m4 m5 m6 m7 m8).bind fun v20=>
 z0c (w13,i64.wrap (w15-w13),v20)
instance:Hd (z2v a2 m2 m3 m4 m5 m6 m7 m8):=⟨fun(w13,w15,w14)=>([(10,xI w13),(11,xI w15)],[(0,.os 1 w14.length (w14.map fun x0=>.sc (.int .i64 x0)))])⟩
def z1i(a0:List Int)(a1:Int)(a2:Int)(a3:Int)(m2:List Int)(m3:List Int)(m4:List Int)(m5:List (List Int))(m6:List ByteArray)(m7:List ByteArray)(m8:List (List Int)):Option (List Int):=
 z0k (z2v a2 m2 m3 m4 m5 m6 m7 m8) LFm (i64.wrap (a2-a1),i64.wrap (a3-a2),a0)
instance:Ok (z1i a0 a1 a2 a3 m2 m3 m4 m5 m6 m7 m8) (fun r=>L 180 [.os 1 a0.length (a0.map fun x0=>.sc (.int .i64 x0)),.sc (.int .i64 a1),.sc (.int .i64 a2),.sc (.int .i64 a3),.cl 60 [.pr [.sl m2.length (m2.map fun x0=>.sc (.int .i64 x0)),.sl m3.length (m3.map fun x0=>.sc (.int .i64 x0)),.sl m4.length (m4.map fun x0=>.sc (.int .i64 x0)),.sl m5.length (m5.map fun x0=>.sl x0.length (x0.map fun x1=>.sc (.int .i64 x1))),.sl m6.length (m6.map fun x0=>.sc (.string x0)),.sl m7.length (m7.map fun x0=>.sc (.string x0))],.pr [.sl m8.length (m8.map fun x0=>.sl x0.length (x0.map fun x1=>.sc (.int .i64 x1)))]]]=some (.tup [],[.os 1 r.length (r.map fun x0=>.sc (.int .i64 x0)),.dead,.dead,.dead,.dead])):=⟨fun r h=>by have h:=z4u h;unfold z1i at h;exact z5i rfl Tryz.func180 (bdy Tryz.f180 rfl)⟩
abbrev z2q(w102:Int):Int×List Int->Option ((Int×List Int)⊕List Int)
 |(w114,w115)=>
 if w114<(i64.wrap (w102-1)) then
 (atI w115 (i64.wrap (w114+1))).bind fun v120=>
 (atI w115 w114).bind fun v121=>
 (atI (w115.set w114.toNat v120) (i64.wrap (w114+1))).bind fun v123=>
 z0c (i64.wrap (w114+1),((w115.set w114.toNat v120).set (i64.wrap (w114+1)).toNat v121))
 else
 z0i<|
 some w115
instance{w102:Int}:Hd (z2q w102):=⟨fun(w114,w115)=>([(13,xI w114)],[(0,.os 1 w115.length (w115.map fun x0=>.sc (.int .i64 x0)))])⟩
abbrev z2r(a0:List Int)(a1:Int)(m2:List Int)(m3:List Int)(m4:List Int)(m5:List (List Int))(m6:List ByteArray)(m7:List ByteArray)(m8:List (List Int)):Int×Int->Option ((Int×Int)⊕List Int)
 |(w102,w103)=>
 if w102<w103 then
 chk (¬1<0)<|
 (atI a0 (i64.wrap (z0w .u64 (u64.wrap (i64.wrap (w102+w103))) 1))).bind fun v107=>
 (atI a0 a1).bind fun v108=>
 (z1Y v107 v108 m2 m3 m4 m5 m6 m7 m8).bind fun v109=>
 if v109<0 then
 z0c (i64.wrap ((i64.wrap (z0w .u64 (u64.wrap (i64.wrap (w102+w103))) 1))+1),w103)
 else
 z0c (w102,i64.wrap (z0w .u64 (u64.wrap (i64.wrap (w102+w103))) 1))
 else
 z0i<|
 z0k (z2q w102) LFm (a1,a0)
instance:Hd (z2r a0 a1 m2 m3 m4 m5 m6 m7 m8):=⟨fun(w102,w103)=>([(10,xI w102),(11,xI w103)],[])⟩
abbrev z2k(w128:Int):Int×List Int->Option ((Int×List Int)⊕List Int)
 |(w139,w140)=>
 if w128<w139 then
 (atI w140 (i64.wrap (w139-1))).bind fun v145=>
 (atI w140 w139).bind fun v146=>
 (atI (w140.set w139.toNat v145) (i64.wrap (w139-1))).bind fun v148=>
 z0c (i64.wrap (w139-1),((w140.set w139.toNat v145).set (i64.wrap (w139-1)).toNat v146))
 else
 z0i<|
 some w140
instance{w128:Int}:Hd (z2k w128):=⟨fun(w139,w140)=>([(17,xI w139)],[(0,.os 1 w140.length (w140.map fun x0=>.sc (.int .i64 x0)))])⟩
abbrev z2l(a0:List Int)(a2:Int)(m2:List Int)(m3:List Int)(m4:List Int)(m5:List (List Int))(m6:List ByteArray)(m7:List ByteArray)(m8:List (List Int)):Int×Int->Option ((Int×Int)⊕List Int)
 |(w128,w127)=>
 if w128<w127 then
 chk (¬1<0)<|
 (atI a0 a2).bind fun v132=>
 (atI a0 (i64.wrap (z0w .u64 (u64.wrap (i64.wrap (w128+w127))) 1))).bind fun v133=>
 (z1Y v132 v133 m2 m3 m4 m5 m6 m7 m8).bind fun v134=>
 if v134<0 then
 z0c (w128,i64.wrap (z0w .u64 (u64.wrap (i64.wrap (w128+w127))) 1))
 else
 z0c (i64.wrap ((i64.wrap (z0w .u64 (u64.wrap (i64.wrap (w128+w127))) 1))+1),w127)
 else
 z0i<|
 z0k (z2k w128) LFm (a2,a0)
instance:Hd (z2l a0 a2 m2 m3 m4 m5 m6 m7 m8):=⟨fun(w128,w127)=>([(14,xI w128),(15,xI w127)],[])⟩
abbrev z2j(a0:List Int)(a1:Int)(a2:Int)(a3:Int)(m2:List Int)(m3:List Int)(m4:List Int)(m5:List (List Int))(m6:List ByteArray)(m7:List ByteArray)(m8:List (List Int))(rf:List Int->Int->Int->Int->List Int->List Int->List Int->List (List Int)->List ByteArray->List ByteArray->List (List Int)->Option (List Int)):Int×Int->Option ((Int×Int)⊕List Int)
 |(w153,w152)=>
 if w153<w152 then
 chk (¬1<0)<|
 (atI a0 (i64.wrap ((i64.wrap ((i64.wrap ((i64.wrap (z0w .u64 (u64.wrap (i64.wrap (a1+a3))) 1))+a2))-1))-(i64.wrap (z0w .u64 (u64.wrap (i64.wrap (w153+w152))) 1))))).bind fun v157=>
 (atI a0 (i64.wrap (z0w .u64 (u64.wrap (i64.wrap (w153+w152))) 1))).bind fun v158=>
 (z1Y v157 v158 m2 m3 m4 m5 m6 m7 m8).bind fun v159=>
 if v159<0 then
 z0c (w153,i64.wrap (z0w .u64 (u64.wrap (i64.wrap (w153+w152))) 1))
 else
 z0c (i64.wrap ((i64.wrap (z0w .u64 (u64.wrap (i64.wrap (w153+w152))) 1))+1),w152)
 else
 z0i<|
 if w153<a2 then
 if a2<(i64.wrap ((i64.wrap ((i64.wrap (z0w .u64 (u64.wrap (i64.wrap (a1+a3))) 1))+a2))-w153)) then
 (z1i a0 w153 a2 (i64.wrap ((i64.wrap ((i64.wrap (z0w .u64 (u64.wrap (i64.wrap (a1+a3))) 1))+a2))-w153)) m2 m3 m4 m5 m6 m7 m8).bind fun v160=>
 if a1<w153 then
 if w153<(i64.wrap (z0w .u64 (u64.wrap (i64.wrap (a1+a3))) 1)) then
 (rf v160 a1 w153 (i64.wrap (z0w .u64 (u64.wrap (i64.wrap (a1+a3))) 1)) m2 m3 m4 m5 m6 m7 m8).bind fun v161=>
 if(i64.wrap (z0w .u64 (u64.wrap (i64.wrap (a1+a3))) 1))<(i64.wrap ((i64.wrap ((i64.wrap (z0w .u64 (u64.wrap (i64.wrap (a1+a3))) 1))+a2))-w153)) then
 if(i64.wrap ((i64.wrap ((i64.wrap (z0w .u64 (u64.wrap (i64.wrap (a1+a3))) 1))+a2))-w153))<a3 then
 (rf v161 (i64.wrap (z0w .u64 (u64.wrap (i64.wrap (a1+a3))) 1)) (i64.wrap ((i64.wrap ((i64.wrap (z0w .u64 (u64.wrap (i64.wrap (a1+a3))) 1))+a2))-w153)) a3 m2 m3 m4 m5 m6 m7 m8).bind fun v162=>
 some v162
 else
 some v161
 else
 some v161
 else
 if(i64.wrap (z0w .u64 (u64.wrap (i64.wrap (a1+a3))) 1))<(i64.wrap ((i64.wrap ((i64.wrap (z0w .u64 (u64.wrap (i64.wrap (a1+a3))) 1))+a2))-w153)) then
 if(i64.wrap ((i64.wrap ((i64.wrap (z0w .u64 (u64.wrap (i64.wrap (a1+a3))) 1))+a2))-w153))<a3 then
 (rf v160 (i64.wrap (z0w .u64 (u64.wrap (i64.wrap (a1+a3))) 1)) (i64.wrap ((i64.wrap ((i64.wrap (z0w .u64 (u64.wrap (i64.wrap (a1+a3))) 1))+a2))-w153)) a3 m2 m3 m4 m5 m6 m7 m8).bind fun v163=>
 some v163
 else
 some v160
 else
 some v160
 else
 if(i64.wrap (z0w .u64 (u64.wrap (i64.wrap (a1+a3))) 1))<(i64.wrap ((i64.wrap ((i64.wrap (z0w .u64 (u64.wrap (i64.wrap (a1+a3))) 1))+a2))-w153)) then
 if(i64.wrap ((i64.wrap ((i64.wrap (z0w .u64 (u64.wrap (i64.wrap (a1+a3))) 1))+a2))-w153))<a3 then
 (rf v160 (i64.wrap (z0w .u64 (u64.wrap (i64.wrap (a1+a3))) 1)) (i64.wrap ((i64.wrap ((i64.wrap (z0w .u64 (u64.wrap (i64.wrap (a1+a3))) 1))+a2))-w153)) a3 m2 m3 m4 m5 m6 m7 m8).bind fun v164=>
 some v164
 else
 some v160
 else
 some v160
 else
 if a1<w153 then
 if w153<(i64.wrap (z0w .u64 (u64.wrap (i64.wrap (a1+a3))) 1)) then
 (rf a0 a1 w153 (i64.wrap (z0w .u64 (u64.wrap (i64.wrap (a1+a3))) 1)) m2 m3 m4 m5 m6 m7 m8).bind fun v165=>
 if(i64.wrap (z0w .u64 (u64.wrap (i64.wrap (a1+a3))) 1))<(i64.wrap ((i64.wrap ((i64.wrap (z0w .u64 (u64.wrap (i64.wrap (a1+a3))) 1))+a2))-w153)) then
 if(i64.wrap ((i64.wrap ((i64.wrap (z0w .u64 (u64.wrap (i64.wrap (a1+a3))) 1))+a2))-w153))<a3 then
 (rf v165 (i64.wrap (z0w .u64 (u64.wrap (i64.wrap (a1+a3))) 1)) (i64.wrap ((i64.wrap ((i64.wrap (z0w .u64 (u64.wrap (i64.wrap (a1+a3))) 1))+a2))-w153)) a3 m2 m3 m4 m5 m6 m7 m8).bind fun v166=>
 some v166
 else
 some v165
 else
 some v165
 else
 if(i64.wrap (z0w .u64 (u64.wrap (i64.wrap (a1+a3))) 1))<(i64.wrap ((i64.wrap ((i64.wrap (z0w .u64 (u64.wrap (i64.wrap (a1+a3))) 1))+a2))-w153)) then
 if(i64.wrap ((i64.wrap ((i64.wrap (z0w .u64 (u64.wrap (i64.wrap (a1+a3))) 1))+a2))-w153))<a3 then
 (rf a0 (i64.wrap (z0w .u64 (u64.wrap (i64.wrap (a1+a3))) 1)) (i64.wrap ((i64.wrap ((i64.wrap (z0w .u64 (u64.wrap (i64.wrap (a1+a3))) 1))+a2))-w153)) a3 m2 m3 m4 m5 m6 m7 m8).bind fun v167=>
 some v167
 else
 some a0
 else
 some a0
 else
 if(i64.wrap (z0w .u64 (u64.wrap (i64.wrap (a1+a3))) 1))<(i64.wrap ((i64.wrap ((i64.wrap (z0w .u64 (u64.wrap (i64.wrap (a1+a3))) 1))+a2))-w153)) then
 if(i64.wrap ((i64.wrap ((i64.wrap (z0w .u64 (u64.wrap (i64.wrap (a1+a3))) 1))+a2))-w153))<a3 then
 (rf a0 (i64.wrap (z0w .u64 (u64.wrap (i64.wrap (a1+a3))) 1)) (i64.wrap ((i64.wrap ((i64.wrap (z0w .u64 (u64.wrap (i64.wrap (a1+a3))) 1))+a2))-w153)) a3 m2 m3 m4 m5 m6 m7 m8).bind fun v168=>
 some v168
 else
 some a0
 else
 some a0
 else
 if a1<w153 then
 if w153<(i64.wrap (z0w .u64 (u64.wrap (i64.wrap (a1+a3))) 1)) then
 (rf a0 a1 w153 (i64.wrap (z0w .u64 (u64.wrap (i64.wrap (a1+a3))) 1)) m2 m3 m4 m5 m6 m7 m8).bind fun v169=>
 if(i64.wrap (z0w .u64 (u64.wrap (i64.wrap (a1+a3))) 1))<(i64.wrap ((i64.wrap ((i64.wrap (z0w .u64 (u64.wrap (i64.wrap (a1+a3))) 1))+a2))-w153)) then
 if(i64.wrap ((i64.wrap ((i64.wrap (z0w .u64 (u64.wrap (i64.wrap (a1+a3))) 1))+a2))-w153))<a3 then
 (rf v169 (i64.wrap (z0w .u64 (u64.wrap (i64.wrap (a1+a3))) 1)) (i64.wrap ((i64.wrap ((i64.wrap (z0w .u64 (u64.wrap (i64.wrap (a1+a3))) 1))+a2))-w153)) a3 m2 m3 m4 m5 m6 m7 m8).bind fun v170=>
 some v170
 else
 some v169
 else
 some v169
 else
 if(i64.wrap (z0w .u64 (u64.wrap (i64.wrap (a1+a3))) 1))<(i64.wrap ((i64.wrap ((i64.wrap (z0w .u64 (u64.wrap (i64.wrap (a1+a3))) 1))+a2))-w153)) then
 if(i64.wrap ((i64.wrap ((i64.wrap (z0w .u64 (u64.wrap (i64.wrap (a1+a3))) 1))+a2))-w153))<a3 then
 (rf a0 (i64.wrap (z0w .u64 (u64.wrap (i64.wrap (a1+a3))) 1)) (i64.wrap ((i64.wrap ((i64.wrap (z0w .u64 (u64.wrap (i64.wrap (a1+a3))) 1))+a2))-w153)) a3 m2 m3 m4 m5 m6 m7 m8).bind fun v171=>
 some v171
 else
 some a0
 else
 some a0
 else
 if(i64.wrap (z0w .u64 (u64.wrap (i64.wrap (a1+a3))) 1))<(i64.wrap ((i64.wrap ((i64.wrap (z0w .u64 (u64.wrap (i64.wrap (a1+a3))) 1))+a2))-w153)) then
 if(i64.wrap ((i64.wrap ((i64.wrap (z0w .u64 (u64.wrap (i64.wrap (a1+a3))) 1))+a2))-w153))<a3 then
 (rf a0 (i64.wrap (z0w .u64 (u64.wrap (i64.wrap (a1+a3))) 1)) (i64.wrap ((i64.wrap ((i64.wrap (z0w .u64 (u64.wrap (i64.wrap (a1+a3))) 1))+a2))-w153)) a3 m2 m3 m4 m5 m6 m7 m8).bind fun v172=>
 some v172
 else
 some a0
 else
 some a0
instance:Hd (z2j a0 a1 a2 a3 m2 m3 m4 m5 m6 m7 m8 rf):=⟨fun(w153,w152)=>([(20,xI w153),(21,xI w152)],[])⟩
abbrev z2h(a0:List Int)(a1:Int)(a2:Int)(a3:Int)(m2:List Int)(m3:List Int)(m4:List Int)(m5:List (List Int))(m6:List ByteArray)(m7:List ByteArray)(m8:List (List Int))(rf:List Int->Int->Int->Int->List Int->List Int->List Int->List (List Int)->List ByteArray->List ByteArray->List (List Int)->Option (List Int)):Int×Int->Option ((Int×Int)⊕List Int)
 |(w177,w176)=>
 if w177<w176 then
 chk (¬1<0)<|
 (atI a0 (i64.wrap ((i64.wrap ((i64.wrap ((i64.wrap (z0w .u64 (u64.wrap (i64.wrap (a1+a3))) 1))+a2))-1))-(i64.wrap (z0w .u64 (u64.wrap (i64.wrap (w177+w176))) 1))))).bind fun v181=>
 (atI a0 (i64.wrap (z0w .u64 (u64.wrap (i64.wrap (w177+w176))) 1))).bind fun v182=>
 (z1Y v181 v182 m2 m3 m4 m5 m6 m7 m8).bind fun v183=>
 if v183<0 then
 z0c (w177,i64.wrap (z0w .u64 (u64.wrap (i64.wrap (w177+w176))) 1))
 else
 z0c (i64.wrap ((i64.wrap (z0w .u64 (u64.wrap (i64.wrap (w177+w176))) 1))+1),w176)
 else
 z0i<|
 if w177<a2 then
 if a2<(i64.wrap ((i64.wrap ((i64.wrap (z0w .u64 (u64.wrap (i64.wrap (a1+a3))) 1))+a2))-w177)) then
 (z1i a0 w177 a2 (i64.wrap ((i64.wrap ((i64.wrap (z0w .u64 (u64.wrap (i64.wrap (a1+a3))) 1))+a2))-w177)) m2 m3 m4 m5 m6 m7 m8).bind fun v184=>
 if a1<w177 then
 if w177<(i64.wrap (z0w .u64 (u64.wrap (i64.wrap (a1+a3))) 1)) then
 (rf v184 a1 w177 (i64.wrap (z0w .u64 (u64.wrap (i64.wrap (a1+a3))) 1)) m2 m3 m4 m5 m6 m7 m8).bind fun v185=>
 if(i64.wrap (z0w .u64 (u64.wrap (i64.wrap (a1+a3))) 1))<(i64.wrap ((i64.wrap ((i64.wrap (z0w .u64 (u64.wrap (i64.wrap (a1+a3))) 1))+a2))-w177)) then
 if(i64.wrap ((i64.wrap ((i64.wrap (z0w .u64 (u64.wrap (i64.wrap (a1+a3))) 1))+a2))-w177))<a3 then
 (rf v185 (i64.wrap (z0w .u64 (u64.wrap (i64.wrap (a1+a3))) 1)) (i64.wrap ((i64.wrap ((i64.wrap (z0w .u64 (u64.wrap (i64.wrap (a1+a3))) 1))+a2))-w177)) a3 m2 m3 m4 m5 m6 m7 m8).bind fun v186=>
 some v186
 else
 some v185
 else
 some v185
 else
 if(i64.wrap (z0w .u64 (u64.wrap (i64.wrap (a1+a3))) 1))<(i64.wrap ((i64.wrap ((i64.wrap (z0w .u64 (u64.wrap (i64.wrap (a1+a3))) 1))+a2))-w177)) then
 if(i64.wrap ((i64.wrap ((i64.wrap (z0w .u64 (u64.wrap (i64.wrap (a1+a3))) 1))+a2))-w177))<a3 then
 (rf v184 (i64.wrap (z0w .u64 (u64.wrap (i64.wrap (a1+a3))) 1)) (i64.wrap ((i64.wrap ((i64.wrap (z0w .u64 (u64.wrap (i64.wrap (a1+a3))) 1))+a2))-w177)) a3 m2 m3 m4 m5 m6 m7 m8).bind fun v187=>
 some v187
 else
 some v184
 else
 some v184
 else
 if(i64.wrap (z0w .u64 (u64.wrap (i64.wrap (a1+a3))) 1))<(i64.wrap ((i64.wrap ((i64.wrap (z0w .u64 (u64.wrap (i64.wrap (a1+a3))) 1))+a2))-w177)) then
 if(i64.wrap ((i64.wrap ((i64.wrap (z0w .u64 (u64.wrap (i64.wrap (a1+a3))) 1))+a2))-w177))<a3 then
 (rf v184 (i64.wrap (z0w .u64 (u64.wrap (i64.wrap (a1+a3))) 1)) (i64.wrap ((i64.wrap ((i64.wrap (z0w .u64 (u64.wrap (i64.wrap (a1+a3))) 1))+a2))-w177)) a3 m2 m3 m4 m5 m6 m7 m8).bind fun v188=>
 some v188
 else
 some v184
 else
 some v184
 else
 if a1<w177 then
 if w177<(i64.wrap (z0w .u64 (u64.wrap (i64.wrap (a1+a3))) 1)) then
 (rf a0 a1 w177 (i64.wrap (z0w .u64 (u64.wrap (i64.wrap (a1+a3))) 1)) m2 m3 m4 m5 m6 m7 m8).bind fun v189=>
 if(i64.wrap (z0w .u64 (u64.wrap (i64.wrap (a1+a3))) 1))<(i64.wrap ((i64.wrap ((i64.wrap (z0w .u64 (u64.wrap (i64.wrap (a1+a3))) 1))+a2))-w177)) then
 if(i64.wrap ((i64.wrap ((i64.wrap (z0w .u64 (u64.wrap (i64.wrap (a1+a3))) 1))+a2))-w177))<a3 then
 (rf v189 (i64.wrap (z0w .u64 (u64.wrap (i64.wrap (a1+a3))) 1)) (i64.wrap ((i64.wrap ((i64.wrap (z0w .u64 (u64.wrap (i64.wrap (a1+a3))) 1))+a2))-w177)) a3 m2 m3 m4 m5 m6 m7 m8).bind fun v190=>
 some v190
 else
 some v189
 else
 some v189
 else
 if(i64.wrap (z0w .u64 (u64.wrap (i64.wrap (a1+a3))) 1))<(i64.wrap ((i64.wrap ((i64.wrap (z0w .u64 (u64.wrap (i64.wrap (a1+a3))) 1))+a2))-w177)) then
 if(i64.wrap ((i64.wrap ((i64.wrap (z0w .u64 (u64.wrap (i64.wrap (a1+a3))) 1))+a2))-w177))<a3 then
 (rf a0 (i64.wrap (z0w .u64 (u64.wrap (i64.wrap (a1+a3))) 1)) (i64.wrap ((i64.wrap ((i64.wrap (z0w .u64 (u64.wrap (i64.wrap (a1+a3))) 1))+a2))-w177)) a3 m2 m3 m4 m5 m6 m7 m8).bind fun v191=>
 some v191
 else
 some a0
 else
 some a0
 else
 if(i64.wrap (z0w .u64 (u64.wrap (i64.wrap (a1+a3))) 1))<(i64.wrap ((i64.wrap ((i64.wrap (z0w .u64 (u64.wrap (i64.wrap (a1+a3))) 1))+a2))-w177)) then
 if(i64.wrap ((i64.wrap ((i64.wrap (z0w .u64 (u64.wrap (i64.wrap (a1+a3))) 1))+a2))-w177))<a3 then
 (rf a0 (i64.wrap (z0w .u64 (u64.wrap (i64.wrap (a1+a3))) 1)) (i64.wrap ((i64.wrap ((i64.wrap (z0w .u64 (u64.wrap (i64.wrap (a1+a3))) 1))+a2))-w177)) a3 m2 m3 m4 m5 m6 m7 m8).bind fun v192=>
 some v192
 else
 some a0
 else
 some a0
 else
 if a1<w177 then
 if w177<(i64.wrap (z0w .u64 (u64.wrap (i64.wrap (a1+a3))) 1)) then
 (rf a0 a1 w177 (i64.wrap (z0w .u64 (u64.wrap (i64.wrap (a1+a3))) 1)) m2 m3 m4 m5 m6 m7 m8).bind fun v193=>
 if(i64.wrap (z0w .u64 (u64.wrap (i64.wrap (a1+a3))) 1))<(i64.wrap ((i64.wrap ((i64.wrap (z0w .u64 (u64.wrap (i64.wrap (a1+a3))) 1))+a2))-w177)) then
 if(i64.wrap ((i64.wrap ((i64.wrap (z0w .u64 (u64.wrap (i64.wrap (a1+a3))) 1))+a2))-w177))<a3 then
 (rf v193 (i64.wrap (z0w .u64 (u64.wrap (i64.wrap (a1+a3))) 1)) (i64.wrap ((i64.wrap ((i64.wrap (z0w .u64 (u64.wrap (i64.wrap (a1+a3))) 1))+a2))-w177)) a3 m2 m3 m4 m5 m6 m7 m8).bind fun v194=>
 some v194
 else
 some v193
 else
 some v193
 else
 if(i64.wrap (z0w .u64 (u64.wrap (i64.wrap (a1+a3))) 1))<(i64.wrap ((i64.wrap ((i64.wrap (z0w .u64 (u64.wrap (i64.wrap (a1+a3))) 1))+a2))-w177)) then
 if(i64.wrap ((i64.wrap ((i64.wrap (z0w .u64 (u64.wrap (i64.wrap (a1+a3))) 1))+a2))-w177))<a3 then
 (rf a0 (i64.wrap (z0w .u64 (u64.wrap (i64.wrap (a1+a3))) 1)) (i64.wrap ((i64.wrap ((i64.wrap (z0w .u64 (u64.wrap (i64.wrap (a1+a3))) 1))+a2))-w177)) a3 m2 m3 m4 m5 m6 m7 m8).bind fun v195=>
 some v195
 else
 some a0
 else
 some a0
 else
 if(i64.wrap (z0w .u64 (u64.wrap (i64.wrap (a1+a3))) 1))<(i64.wrap ((i64.wrap ((i64.wrap (z0w .u64 (u64.wrap (i64.wrap (a1+a3))) 1))+a2))-w177)) then
 if(i64.wrap ((i64.wrap ((i64.wrap (z0w .u64 (u64.wrap (i64.wrap (a1+a3))) 1))+a2))-w177))<a3 then
 (rf a0 (i64.wrap (z0w .u64 (u64.wrap (i64.wrap (a1+a3))) 1)) (i64.wrap ((i64.wrap ((i64.wrap (z0w .u64 (u64.wrap (i64.wrap (a1+a3))) 1))+a2))-w177)) a3 m2 m3 m4 m5 m6 m7 m8).bind fun v196=>
 some v196
 else
 some a0
 else
 some a0
instance:Hd (z2h a0 a1 a2 a3 m2 m3 m4 m5 m6 m7 m8 rf):=⟨fun(w177,w176)=>([(20,xI w177),(21,xI w176)],[])⟩
def z0W(rf:List Int->Int->Int->Int->List Int->List Int->List Int->List (List Int)->List ByteArray->List ByteArray->List (List Int)->Option (List Int))(a0:List Int)(a1:Int)(a2:Int)(a3:Int)(m2:List Int)(m3:List Int)(m4:List Int)(m5:List (List Int))(m6:List ByteArray)(m7:List ByteArray)(m8:List (List Int)):Option (List Int):=
 if(i64.wrap (a2-a1))=1 then
 z0k (z2r a0 a1 m2 m3 m4 m5 m6 m7 m8) LFm (a2,a3)
 else
 if(i64.wrap (a3-a2))=1 then
 z0k (z2l a0 a2 m2 m3 m4 m5 m6 m7 m8) LFm (a1,a2)
 else
 chk (¬1<0)<|
 if(i64.wrap (z0w .u64 (u64.wrap (i64.wrap (a1+a3))) 1))<a2 then
 z0k (z2j a0 a1 a2 a3 m2 m3 m4 m5 m6 m7 m8 rf) LFm (i64.wrap ((i64.wrap ((i64.wrap (z0w .u64 (u64.wrap (i64.wrap (a1+a3))) 1))+a2))-a3),i64.wrap (z0w .u64 (u64.wrap (i64.wrap (a1+a3))) 1))
 else
 z0k (z2h a0 a1 a2 a3 m2 m3 m4 m5 m6 m7 m8 rf) LFm (a1,a2)
theorem z4g[ih:∀(a0:List Int) (a1:Int) (a2:Int) (a3:Int) (m2:List Int) (m3:List Int) (m4:List Int) (m5:List (List Int)) (m6:List ByteArray) (m7:List ByteArray) (m8:List (List Int)),Ok (rf a0 a1 a2 a3 m2 m3 m4 m5 m6 m7 m8) (fun r=>L 141 [.os 1 a0.length (a0.map fun x0=>.sc (.int .i64 x0)),.sc (.int .i64 a1),.sc (.int .i64 a2),.sc (.int .i64 a3),.cl 60 [.pr [.sl m2.length (m2.map fun x0=>.sc (.int .i64 x0)),.sl m3.length (m3.map fun x0=>.sc (.int .i64 x0)),.sl m4.length (m4.map fun x0=>.sc (.int .i64 x0)),.sl m5.length (m5.map fun x0=>.sl x0.length (x0.map fun x1=>.sc (.int .i64 x1))),.sl m6.length (m6.map fun x0=>.sc (.string x0)),.sl m7.length (m7.map fun x0=>.sc (.string x0))],.pr [.sl m8.length (m8.map fun x0=>.sl x0.length (x0.map fun x1=>.sc (.int .i64 x1)))]]]=some (.tup [],[.os 1 r.length (r.map fun x0=>.sc (.int .i64 x0)),.dead,.dead,.dead,.dead]))]:Ok (z0W rf a0 a1 a2 a3 m2 m3 m4 m5 m6 m7 m8) (fun r=>L 141 [.os 1 a0.length (a0.map fun x0=>.sc (.int .i64 x0)),.sc (.int .i64 a1),.sc (.int .i64 a2),.sc (.int .i64 a3),.cl 60 [.pr [.sl m2.length (m2.map fun x0=>.sc (.int .i64 x0)),.sl m3.length (m3.map fun x0=>.sc (.int .i64 x0)),.sl m4.length (m4.map fun x0=>.sc (.int .i64 x0)),.sl m5.length (m5.map fun x0=>.sl x0.length (x0.map fun x1=>.sc (.int .i64 x1))),.sl m6.length (m6.map fun x0=>.sc (.string x0)),.sl m7.length (m7.map fun x0=>.sc (.string x0))],.pr [.sl m8.length (m8.map fun x0=>.sl x0.length (x0.map fun x1=>.sc (.int .i64 x1)))]]]=some (.tup [],[.os 1 r.length (r.map fun x0=>.sc (.int .i64 x0)),.dead,.dead,.dead,.dead])):=⟨fun r h=>by have h:=z4u h;unfold z0W at h;exact z5i rfl Tryz.func141 (bdy Tryz.f141 rfl)⟩
def z0p:Nat->List Int->Int->Int->Int->List Int->List Int->List Int->List (List Int)->List ByteArray->List ByteArray->List (List Int)->Option (List Int)
 |0=>fun _ _ _ _ _ _ _ _ _ _ _=>none
 |k+1=>z0W (z0p k)
instance:∀ {k:Nat} {a0:List Int} {a1:Int} {a2:Int} {a3:Int} {m2:List Int} {m3:List Int} {m4:List Int} {m5:List (List Int)} {m6:List ByteArray} {m7:List ByteArray} {m8:List (List Int)},Ok (z0p k a0 a1 a2 a3 m2 m3 m4 m5 m6 m7 m8) (fun r=>L 141 [.os 1 a0.length (a0.map fun x0=>.sc (.int .i64 x0)),.sc (.int .i64 a1),.sc (.int .i64 a2),.sc (.int .i64 a3),.cl 60 [.pr [.sl m2.length (m2.map fun x0=>.sc (.int .i64 x0)),.sl m3.length (m3.map fun x0=>.sc (.int .i64 x0)),.sl m4.length (m4.map fun x0=>.sc (.int .i64 x0)),.sl m5.length (m5.map fun x0=>.sl x0.length (x0.map fun x1=>.sc (.int .i64 x1))),.sl m6.length (m6.map fun x0=>.sc (.string x0)),.sl m7.length (m7.map fun x0=>.sc (.string x0))],.pr [.sl m8.length (m8.map fun x0=>.sl x0.length (x0.map fun x1=>.sc (.int .i64 x1)))]]]=some (.tup [],[.os 1 r.length (r.map fun x0=>.sc (.int .i64 x0)),.dead,.dead,.dead,.dead])):=by
 intro k
 induction k with
 |zero=>intros;exact⟨fun r h=>by cases h⟩
 |succ k ih=>intros;have ih2:= @ih;exact z4g (rf:=z0p k)
abbrev z0Z(a1:Int)(n0:List Int)(n1:List Int)(n2:List Int)(n3:List (List Int))(n4:List ByteArray)(n5:List ByteArray)(n6:List (List Int))(w45:Int):Int×Int×List Int->Option ((Int×Int×List Int)⊕((Int×List Int)⊕List Int))
 |(w55,w56,w57)=>
 if w56<=a1 then
 (z0p 5000 w57 w55 (i64.wrap (w55+w45)) w56 n0 n1 n2 n3 n4 n5 n6).bind fun v59=>
 z0c (w56,i64.wrap (w56+(i64.wrap (2*w45))),v59)
 else
 z0i<|
 if(i64.wrap (w55+w45))<a1 then
 (z0p 5000 w57 w55 (i64.wrap (w55+w45)) a1 n0 n1 n2 n3 n4 n5 n6).bind fun v60=>
 z0c (i64.wrap (w45*2),v60)
 else
 z0c (i64.wrap (w45*2),w57)
instance{w45:Int}:Hd (z0Z a1 n0 n1 n2 n3 n4 n5 n6 w45):=⟨fun(w55,w56,w57)=>([(7,xI w55),(8,xI w56)],[(0,.os 1 w57.length (w57.map fun x0=>.sc (.int .i64 x0)))])⟩
abbrev z1a(a1:Int)(n0:List Int)(n1:List Int)(n2:List Int)(n3:List (List Int))(n4:List ByteArray)(n5:List ByteArray)(n6:List (List Int)):Int×List Int->Option ((Int×List Int)⊕List Int)
 |(w45,w46)=>
 if w45<a1 then
 z0k (z0Z a1 n0 n1 n2 n3 n4 n5 n6 w45) LFm (0,i64.wrap (2*w45),w46)
 else
 z0i<|
 some w46
instance:Hd (z1a a1 n0 n1 n2 n3 n4 n5 n6):=⟨fun(w45,w46)=>([(6,xI w45)],[(0,.os 1 w46.length (w46.map fun x0=>.sc (.int .i64 x0)))])⟩
abbrev z1b(a1:Int)(n0:List Int)(n1:List Int)(n2:List Int)(n3:List (List Int))(n4:List ByteArray)(n5:List ByteArray)(n6:List (List Int)):Int×Int×List Int->Option ((Int×Int×List Int)⊕List Int)
 |(w32,w33,w34)=>
 if w33<=a1 then
 (z0Q w34 w32 w33 n0 n1 n2 n3 n4 n5 n6).bind fun v36=>
 z0c (w33,i64.wrap (w33+20),v36)
 else
 z0i<|
 (z0Q w34 w32 a1 n0 n1 n2 n3 n4 n5 n6).bind fun v37=>
 z0k (z1a a1 n0 n1 n2 n3 n4 n5 n6) LFm (20,v37)
instance:Hd (z1b a1 n0 n1 n2 n3 n4 n5 n6):=⟨fun(w32,w33,w34)=>([(7,xI w32),(8,xI w33)],[(0,.os 1 w34.length (w34.map fun x0=>.sc (.int .i64 x0)))])⟩
def z1h(a0:List Int)(a1:Int)(n0:List Int)(n1:List Int)(n2:List Int)(n3:List (List Int))(n4:List ByteArray)(n5:List ByteArray)(n6:List (List Int)):Option (List Int):=
 z0k (z1b a1 n0 n1 n2 n3 n4 n5 n6) LFm (0,20,a0)
instance:Ok (z1h a0 a1 n0 n1 n2 n3 n4 n5 n6) (fun r=>L 103 [.os 1 a0.length (a0.map fun x0=>.sc (.int .i64 x0)),.sc (.int .i64 a1),.cl 60 [.pr [.sl n0.length (n0.map fun x0=>.sc (.int .i64 x0)),.sl n1.length (n1.map fun x0=>.sc (.int .i64 x0)),.sl n2.length (n2.map fun x0=>.sc (.int .i64 x0)),.sl n3.length (n3.map fun x0=>.sl x0.length (x0.map fun x1=>.sc (.int .i64 x1))),.sl n4.length (n4.map fun x0=>.sc (.string x0)),.sl n5.length (n5.map fun x0=>.sc (.string x0))],.pr [.sl n6.length (n6.map fun x0=>.sl x0.length (x0.map fun x1=>.sc (.int .i64 x1)))]]]=some (.tup [],[.os 1 r.length (r.map fun x0=>.sc (.int .i64 x0)),.dead,.dead])):=⟨fun r h=>by have h:=z4u h;unfold z1h at h;exact z5i rfl Tryz.func103 (bdy Tryz.f103 rfl)⟩
def z0z(a0:List Int)(p5:List Int)(p6:List Int)(p7:List Int)(p8:List (List Int))(p9:List ByteArray)(q0:List ByteArray)(q1:List (List Int)):Option (List Int):=
 (z1h a0 (a0.length:Int) p5 p6 p7 p8 p9 q0 q1).bind fun v2=>
 some v2
instance{p5:List Int}{p6:List Int}{p7:List Int}{p8:List (List Int)}{p9:List ByteArray}{q0:List ByteArray}{q1:List (List Int)}:Ok (z0z a0 p5 p6 p7 p8 p9 q0 q1) (fun r=>L 59 [.os 1 a0.length (a0.map fun x0=>.sc (.int .i64 x0)),.cl 60 [.pr [.sl p5.length (p5.map fun x0=>.sc (.int .i64 x0)),.sl p6.length (p6.map fun x0=>.sc (.int .i64 x0)),.sl p7.length (p7.map fun x0=>.sc (.int .i64 x0)),.sl p8.length (p8.map fun x0=>.sl x0.length (x0.map fun x1=>.sc (.int .i64 x1))),.sl p9.length (p9.map fun x0=>.sc (.string x0)),.sl q0.length (q0.map fun x0=>.sc (.string x0))],.pr [.sl q1.length (q1.map fun x0=>.sl x0.length (x0.map fun x1=>.sc (.int .i64 x1)))]]]=some (.tup [],[.os 1 r.length (r.map fun x0=>.sc (.int .i64 x0)),.dead])):=⟨fun r h=>by have h:=z4u h;unfold z0z at h;exact z5i rfl Tryz.func59 (bdy Tryz.f59 rfl)⟩
def z4F(a0:Imgs)(w36:List (List Int)):Int×List Int->Option ((Int×List Int)⊕(List Int×List (List Int)))
 |(w50,w51)=>
 if w50<(w36.length:Int) then
 (atI w36 w50).bind fun v55=>
 (atI v55 0).bind fun v56=>
 (atI a0.height v56).bind fun v57=>
 if 1<=v57 then
 chk (z1B 8 (w51.length+1))<|
 z0c (i64.wrap (w50+1),w51++ [w50])
 else
 z0c (i64.wrap (w50+1),w51)
 else
 z0i<|
 (z0z w51 a0.sets a0.class_ a0.height a0.tiles a0.words a0.back w36).bind fun v58=>
 some (v58,w36)
def z3J(a0:Imgs)(w36:List (List Int)):Int×List Int->Fr
 |(w50,w51)=>⟨61,[(1,.one (.a 1 [] (0))),(4,.one (.a 4 [] (0))),(7,.one (.h 7 [])),(36,.one (.h 4 [0])),(37,.one (.t none (.sc (.int .i64 (w36.length:Int))))),(38,.one (.t none (.sc (.int .i64 w50))))],[(1,.vr [.sl a0.sets.length (a0.sets.map fun x0=>.sc (.int .i64 x0)),.sl a0.class_.length (a0.class_.map fun x0=>.sc (.int .i64 x0)),.sl a0.height.length (a0.height.map fun x0=>.sc (.int .i64 x0)),.sl a0.tiles.length (a0.tiles.map fun x0=>.sl x0.length (x0.map fun x1=>.sc (.int .i64 x1))),.sl a0.words.length (a0.words.map fun x0=>.sc (.string x0)),.sl a0.back.length (a0.back.map fun x0=>.sc (.string x0))]),(4,.vr [.os 1 w36.length (w36.map fun x0=>.os 1 x0.length (x0.map fun x1=>.sc (.int .i64 x1)))]),(7,.os 1 w51.length (w51.map fun x0=>.sc (.int .i64 x0)))]⟩
def z3Y(a0:Imgs):Int×List (List Int)->Option ((Int×List (List Int))⊕(List Int×List (List Int)))
 |(w35,w36)=>
 if w35<(a0.class_.length:Int) then
 (atI a0.class_ w35).bind fun v42=>
 if v42=(w36.length:Int) then
 chk (z1B 24 (w36.length+1))<|
 (atI (w36++ [[]]) v42).bind fun v43=>
 chk (z1B 8 (v43.length+1))<|
 z0c (i64.wrap (w35+1),((w36++ [[]]).set v42.toNat (v43++ [w35])))
 else
 (atI w36 v42).bind fun v45=>
 chk (z1B 8 (v45.length+1))<|
 z0c (i64.wrap (w35+1),(w36.set v42.toNat (v45++ [w35])))
 else
 z0i<|
 z0k (z4F a0 w36) LFm (0,[])
def z3X(a0:Imgs):Int×List (List Int)->Fr
 |(w35,w36)=>⟨61,[(1,.one (.a 1 [] (0))),(4,.one (.a 4 [] (0))),(11,.one (.t none (.sl a0.class_.length (a0.class_.map fun x0=>.sc (.int .i64 x0))))),(12,.one (.t none (.sc (.int .i64 (a0.class_.length:Int))))),(13,.one (.t none (.sc (.int .i64 w35))))],[(1,.vr [.sl a0.sets.length (a0.sets.map fun x0=>.sc (.int .i64 x0)),.sl a0.class_.length (a0.class_.map fun x0=>.sc (.int .i64 x0)),.sl a0.height.length (a0.height.map fun x0=>.sc (.int .i64 x0)),.sl a0.tiles.length (a0.tiles.map fun x0=>.sl x0.length (x0.map fun x1=>.sc (.int .i64 x1))),.sl a0.words.length (a0.words.map fun x0=>.sc (.string x0)),.sl a0.back.length (a0.back.map fun x0=>.sc (.string x0))]),(4,.vr [.os 1 w36.length (w36.map fun x0=>.os 1 x0.length (x0.map fun x1=>.sc (.int .i64 x1)))])]⟩
def z5b(a0:Imgs):Option (List Int×List (List Int)):=
 z0k (z3Y a0) LFm (0,[])
instance{a0:Imgs}:Ok (z5b a0) (fun r=>L 21 [.agg [.sl a0.sets.length (a0.sets.map fun x0=>.sc (.int .i64 x0)),.sl a0.class_.length (a0.class_.map fun x0=>.sc (.int .i64 x0)),.sl a0.height.length (a0.height.map fun x0=>.sc (.int .i64 x0)),.sl a0.tiles.length (a0.tiles.map fun x0=>.sl x0.length (x0.map fun x1=>.sc (.int .i64 x1))),.sl a0.words.length (a0.words.map fun x0=>.sc (.string x0)),.sl a0.back.length (a0.back.map fun x0=>.sc (.string x0))]]=some (.tup [.sl r.1.length (r.1.map fun x0=>.sc (.int .i64 x0)),.sl r.2.length (r.2.map fun x0=>.sl x0.length (x0.map fun x1=>.sc (.int .i64 x1)))],[.dead])):=⟨fun r h0=>by
 simp only[z5b] at h0
 refine zrf rfl Tryz.func21 (zew (bdy Tryz.f21 rfl) ⟨of_decide_eq_true rfl,of_decide_eq_true rfl⟩ rfl ?_)
 simp only[z6H,z7u,z6N,z8Z,z6i]
 refine zp (zs ?_)
 refine z0d (zp (zs ?_))
 refine z0d (zp (zp (zs ?_)))
 refine z0d (zb rfl (z8a h0 (z3X a0) rfl rfl (by simp[z3X]) fun s o1 h1 hr1=> ?_))
 obtain⟨w35,w36⟩:=s
 simp only[z3Y] at h1
 simp only[z3X]
 refine zp (zs ?_)
 refine z0d (zp ?_)
 by_cases c57:w35<(a0.class_.length:Int)
 ·rw[if_pos c57] at h1
  refine z7H rfl (by simp[c57]) (z6v rfl (z0d (zp (zb rfl (zp ?_)))))
  obtain⟨v42,f58,h2⟩:=z8G h1
  refine zr rfl rfl rfl (by simp[f58];rfl) ?_
  refine z0d (zp (zp (zs ?_)))
  refine z0d ?_
  by_cases c59:v42=(w36.length:Int)
  ·rw[if_pos c59] at h2
   have c59e:=eq_true c59
   refine z7H rfl (by simp[c59e]) ?_
   obtain⟨f60,h3⟩:=zlD h2
   refine zr rfl rfl rfl (by simp[f60];rfl) ?_
   refine z0d ?_
   obtain⟨v43,f61,h4⟩:=z1t h3
   obtain⟨f61a,f61b,f61c,f61d,f61e⟩:=zaY f61
   try simp at f61b f61c
   have f61s:∀hh,((w36++ [[]]).map (fun x0:List Int=>(.os 1 x0.length (x0.map fun x1=>.sc (.int .i64 x1)):T)))[v42.toNat]'hh=(fun x0:List Int=>(.os 1 x0.length (x0.map fun x1=>.sc (.int .i64 x1)):T)) v43:=fun hh=>by rw[ZG];exact congrArg (fun x0:List Int=>(.os 1 x0.length (x0.map fun x1=>.sc (.int .i64 x1)):T)) (f61e _)
   try simp only[List.map_set,ZY,Zs,Ys,Ye] at f61s
   obtain⟨f62,h5⟩:=zlD h4
   refine zkV rfl rfl rfl rfl ?_
   iterate 6 (refine zds rfl rfl (by simp[z0v,z0y,f61a,f61b,f61c,f61d,f61e,f61s,f62];rfl) ?_)
   refine zfD ?_
   iterate 5 (refine zds rfl rfl (by simp[z0v,z0y,f61a,f61b,f61c,f61d,f61e,f61s,f62];rfl) ?_)
   refine zfC ?_
   refine⟨?_,?_⟩
   ·refine zds rfl rfl (by simp[z0v,z0y,f61a,f61b,f61c,f61d,f61e,f61s,f62];rfl) ?_
    refine zfD ?_
    iterate 4 (refine zds rfl rfl (by simp[z0v,z0y,f61a,f61b,f61c,f61d,f61e,f61s,f62];rfl) ?_)
    refine zfC ?_
    refine⟨?_,?_⟩
    ·refine zds rfl rfl (by simp[z0v,z0y,f61a,f61b,f61c,f61d,f61e,f61s,f62];rfl) ?_
     iterate 3 (refine zds rfl rfl (by simp[z0v,z0y,f61a,f61b,f61c,f61d,f61e,f61s,f62];rfl) ?_)
     refine zfC ?_
     simp[zb3,f61a,f61b,f61c,f61d,f61e,f61s,f62]
    simp[zb3,f61a,f61b,f61c,f61d,f61e,f61s,f62]
   refine zks rfl (by simp[f61a,f61b,f61c,f61d,f61e,f61s,f62];rfl) ?_
   refine z4X (z0d (zs ?_))
   have ho:=z4j h5
   refine z5j ho ?_
   simp[z3X]
  ·rw[if_neg c59] at h2
   have c59e:=eq_false c59
   refine z9J rfl (by simp[c59e]) (z6v rfl (z0d ?_))
   obtain⟨v45,f63,h3⟩:=z8G h2
   obtain⟨f64,h4⟩:=zlD h3
   refine zkV rfl rfl rfl rfl ?_
   iterate 6 (refine zds rfl rfl (by simp[z0v,z0y,f63,f64];rfl) ?_)
   refine zfD ?_
   iterate 5 (refine zds rfl rfl (by simp[z0v,z0y,f63,f64];rfl) ?_)
   refine zfC ?_
   refine⟨?_,?_⟩
   ·refine zds rfl rfl (by simp[z0v,z0y,f63,f64];rfl) ?_
    refine zfD ?_
    iterate 4 (refine zds rfl rfl (by simp[z0v,z0y,f63,f64];rfl) ?_)
    refine zfC ?_
    refine⟨?_,?_⟩
    ·refine zds rfl rfl (by simp[z0v,z0y,f63,f64];rfl) ?_
     iterate 3 (refine zds rfl rfl (by simp[z0v,z0y,f63,f64];rfl) ?_)
     refine zfC ?_
     simp[zb3,f63,f64]
    simp[zb3,f63,f64]
   refine zks rfl (by simp[f63,f64];rfl) ?_
   refine z4X (z0d (zs ?_))
   have ho:=z4j h4
   refine z5j ho ?_
   simp[z3X]
 ·rw[if_neg c57] at h1
  refine z9J rfl (by simp[c57]) (z9C rfl (z7x ?_))
  obtain⟨rr1,h2,ho1⟩:=z3K h1
  have hs1:=hr1 _ ho1
  subst hs1
  refine z6t ho1 (z3D rfl (z0d (zp (zs ?_))))
  refine z0d (zp (zp (zs ?_)))
  refine z0d (zb rfl (z8a h2 (z3J a0 w36) rfl rfl (by simp[z3J]) fun s o2 h3 hr2=> ?_))
  obtain⟨w50,w51⟩:=s
  simp only[z4F] at h3
  simp only[z3J]
  refine zp (zs ?_)
  refine z0d (zp ?_)
  by_cases c76:w50<(w36.length:Int)
  ·rw[if_pos c76] at h3
   refine z7H rfl (by simp[c76]) (z6v rfl (z0d (zp (zb rfl (zp ?_)))))
   obtain⟨v55,f77,h4⟩:=z8G h3
   refine zr rfl rfl rfl (by simp[f77];rfl) ?_
   refine z0d (zp ?_)
   obtain⟨v56,f78,h5⟩:=z1t h4
   obtain⟨f78a,f78b,f78c,f78d,f78e⟩:=zaY f78
   simp only[Int.reduceToNat,Z3] at f78c f78d f78e
   have f78j:v55≠ []:=by intro hh;rw[hh] at f78c;simp at f78c
   have f78l:0<v55.length:=by omega
   obtain⟨v57,f79,h6⟩:=z8G h5
   refine z6U rfl rfl rfl rfl ?_;repeat' ((first|refine z3T rfl rfl fun Q' hQ=> ?_|refine z2Z rfl fun Q' hQ=> ?_);simp[f77,f78a,f78b,f78c,f78d,f78e,f78j,f78l,f79];refine hQ.out _ ?_;clear hQ;clear Q')
   refine z0d ?_
   by_cases c80:1<=v57
   ·rw[if_pos c80] at h6
    refine z7H rfl (by simp[c80]) ?_
    obtain⟨f81,h7⟩:=zlD h6
    refine zr rfl rfl rfl (by simp[f77,f81];rfl) ?_
    refine z4X (z0d (zr rfl rfl rfl (by simp[f77];rfl) ?_))
    have ho:=z4j h7
    refine z5j ho ?_
    simp[z3J]
   ·rw[if_neg c80] at h6
    refine z9J rfl (by simp[c80]) (z6v rfl (z4X (z0d (zr rfl rfl rfl (by simp[f77];rfl) ?_))))
    have ho:=z4j h6
    refine z5j ho ?_
    simp[z3J]
  ·rw[if_neg c76] at h3
   refine z9J rfl (by simp[c76]) (z9C rfl (z7x ?_))
   obtain⟨rr2,h4,ho2⟩:=z3K h3
   have hs2:=hr2 _ ho2
   subst hs2
   refine z6t ho2 (z3D rfl (z0d (zp (zsD rfl rfl (by simp;rfl) ?_))))
   obtain⟨v58,f82,h5⟩:=z1t h4
   have f82k:=Ok.ok _ f82
   try simp at f82k
   refine zr rfl rfl rfl (by simp[f82k];rfl) ?_
   refine z0d (zp ?_)
   refine z6U rfl rfl rfl rfl ?_;repeat' ((first|refine z3T rfl rfl fun Q' hQ=> ?_|refine z2Z rfl fun Q' hQ=> ?_);simp;refine hQ.out _ ?_;clear hQ;clear Q')
   refine z0d (za4 rfl ?_)
   cases h5
   simp⟩
end
end
section
open Go
def zzv(M:List (List Int))(H:List Int)(x:Int):Option Int:=(atI M x).bind fun m=>(atI m 0).bind fun r=>atI H r
def zAp(s c h:List Int)(t:List (List Int))(w b:List ByteArray)(M:List (List Int)):SrtC where
 cmp x y:=z1Y x y s c h t w b M
 key x:=x-(zzv M h x).getD 0*1048576
 ok x:=0<=x/\x<1048576/\(zzv M h x).isSome
 law x y hx hy hl:=by
  obtain⟨x0,x1,x2⟩:=hx
  obtain⟨y0,y1,y2⟩:=hy
  obtain⟨u,hu⟩:=ZX.1 x2
  obtain⟨v,hv⟩:=ZX.1 y2
  have hu':=hu
  have hv':=hv
  unfold zzv at hu hv
  cases h1:atI M x with
  |none=>rw[h1] at hu;cases hu
  |some p=>
   cases h2:atI M y with
   |none=>rw[h2] at hv;cases hv
   |some q=>
    rw[h1,Z0] at hu
    rw[h2,Z0] at hv
    cases h3:atI p 0 with
    |none=>rw[h3] at hu;cases hu
    |some p0=>
     cases h4:atI q 0 with
     |none=>rw[h4] at hv;cases hv
     |some q0=>
      rw[h3,Z0] at hu
      rw[h4,Z0] at hv
      obtain⟨z,e1,e2⟩:=zuN v u
      refine⟨z,?_,?_⟩
      · unfold z1Y
        rw[h2,Z0,h4,Z0,hv,Z0,h1,Z0,h3,Z0,hu,Z0,e1];rfl
      · rw[e2,hu',hv',Zb,Zb]
        omega
theorem zkw:∀k,z0p k=fun l a m b s c h t w x M=>zwP k l a m b (zAp s c h t w x M)
 |0=>rfl
 |k+1=>by
  show z0W (z0p k)=_
  rw[zkw k]
  rfl
theorem zs0(l s c h:List Int)(t:List (List Int))(w b:List ByteArray)(M:List (List Int)):z0z l s c h t w b M=zBG l (zAp s c h t w b M):=by
 have h9:z0Z=fun a s c h t w b M k=>zbR a (zAp s c h t w b M) k:=by
  unfold z0Z
  rw[zkw]
  all_goals rfl
 have h7:z1a=fun a s c h t w b M=>zdL a (zAp s c h t w b M):=by
  unfold z1a
  rw[h9]
  all_goals rfl
 have h2:z1b=fun a s c h t w b M=>zdM a (zAp s c h t w b M):=by
  unfold z1b
  rw[h7]
  all_goals rfl
 unfold z0z z1h
 rw[h2]
 all_goals rfl
end
section
open Go
variable{d:DFA}{m n p q r:Nat}
def z7D(p r:Nat):Prop:=p&&&r=p
theorem z2i:z7D p r↔ ∀q,p.testBit q=true->r.testBit q=true:=by
 unfold z7D
 constructor
 · intro h q hq
   have:(p&&&r).testBit q=true:=by rw[h];exact hq
   rw[XG,Z6] at this
   exact this.2
 · intro h
   apply ZS
   intro q
   rw[XG]
   cases hp:p.testBit q with
   |false=>rfl
   |true=>rw[h q hp];rfl
theorem zcg(p:Nat):z7D p p:=Nat.and_self p
theorem zkx(h1:z7D p q)(h2:z7D q r):z7D p r:=z2i.2 fun i hi=>z2i.1 h2 i (z2i.1 h1 i hi)
theorem z9Y(h1:z7D p q)(h2:z7D q p):p=q:=ZS fun i=>by
 have a:=z2i.1 h1 i
 have b:=z2i.1 h2 i
 cases hp:p.testBit i<;>cases hq:q.testBit i<;>simp_all
theorem zsU(hd:DfaOk d m n){a:Nat}(ha:a<m)(h:z7D p r):z7D (mvN d p a) (mvN d r a):=z2i.2 fun q hq=>by
 obtain⟨i,h1,h2,h3⟩:=(z9t hd ha q).1 hq
 exact(z9t hd ha q).2 ⟨i,h1,z2i.1 h i h2,h3⟩
theorem ziy{d:DFA}{m n:Nat}(hd:DfaOk d m n):∀ {w:List UInt8} {p r:Nat},(∀c∈w,97<=c.toNat/\c.toNat<97+m)->z7D p r->z7D (z4y d p w) (z4y d r w)
 | [],p,r,_,h=>h
 |c::w,p,r,hw,h=>ziy (w:=w) (p:=mvN d p (c.toNat-97)) (r:=mvN d r (c.toNat-97)) hd (fun c' hc'=>hw c' (Zl _ hc')) (zsU hd (by have:=hw c (Zy ..);omega) h)
theorem zfT{d:DFA}{m n s:Nat}(hd:DfaOk d m n)(hs:s<2^n):∀ {w:List UInt8} {x:Nat},(∀c∈w,97<=c.toNat/\c.toNat<97+m)->x∈(z1C d m n s).1->z4y d x w∈(z1C d m n s).1
 | [],x,_,h=>h
 |c::w,x,hw,h=>zfT (w:=w) (x:=mvN d x (c.toNat-97)) hd hs (fun c' hc'=>hw c' (Zl _ hc')) (zeb hd hs h (by have:=hw c (Zy ..);omega))
theorem zaH{s:Nat}(hd:DfaOk d m n)(hs:s<2^n):s∈(z1C d m n s).1:=by
 have:=(z6u hd hs).f0
 exact ZM this
def zrj(d:DFA)(m:Nat)(p r:Nat):Prop:=∃w:List UInt8,(∀c∈w,97<=c.toNat/\c.toNat<97+m)/\z7D p (z4y d r w)
theorem zv9(hd:DfaOk d m n)(hr:r<2^n):zrj d m p r↔ ∃x∈(z1C d m n r).1,z7D p x:=by
 constructor
 · rintro⟨w,h1,h2⟩
   exact⟨_,zfT hd hr h1 (zaH hd hr),h2⟩
 · rintro⟨x,hx,hs⟩
   obtain⟨i,hi,rfl⟩:=Zt hx
   obtain⟨_,o2,o3⟩:=(z6u hd hr).ok i hi
   refine⟨_,o2,?_⟩
   rw[o3,List.getD,Z1 hi,Zb]
   exact hs
theorem zd2(d:DFA)(m p:Nat):zrj d m p p:=⟨[],fun c hc=>by simp at hc,zcg p⟩
theorem zd1(hd:DfaOk d m n)(h1:zrj d m p q)(h2:zrj d m q r):zrj d m p r:=by
 obtain⟨u,u1,u2⟩:=h1
 obtain⟨v,v1,v2⟩:=h2
 refine⟨v++u,fun c hc=> ?_,?_⟩
 · rcases Ze.1 hc with h|h
   · exact v1 c h
   · exact u1 c h
 · rw[z6T]
   exact zkx u2 (ziy hd u1 v2)
end
section
open Go
variable{a0 r:List Int}
theorem zvF(h:zm7 a0=some r):L 97 [.os 1 a0.length (a0.map fun x0=>.sc (.int .i64 x0)),.sc (.func (.func 98) #[] #[])]=some (.tup [],[.os 1 r.length (r.map fun x0=>.sc (.int .i64 x0)),.dead]):=by
 refine zg9 rfl fun C=> ?_
 have e:(List.map (fun x0=>T.sc (Value.int IntKind.i64 x0)) a0)=a0.map fun x=>.sc (.int .i64 x):=rfl
 simp only[xt,xtF,xtC,Nat.reduceEqDiff,if_true,if_false,zvy,XO,and_self,z8d,h,ZP]
instance:Ok (zm7 a0) (fun r=>L 97 [.os 1 a0.length (a0.map fun x0=>.sc (.int .i64 x0)),.sc (.func (.func 98) #[] #[])]=some (.tup [],[.os 1 r.length (r.map fun x0=>.sc (.int .i64 x0)),.dead])):=⟨fun _ h=>zvF h⟩
theorem zvG{a0:List (List Int)}{r:List (List Int)}(h:zjP a0=some r):L 40 [.os 1 a0.length (a0.map fun x0=>.sl x0.length (x0.map fun x1=>.sc (.int .i64 x1))),.sc (.func (.func 41) #[] #[])]=some (.tup [],[.os 1 r.length (r.map fun x0=>.sl x0.length (x0.map fun x1=>.sc (.int .i64 x1))),.dead]):=by
 refine zg9 rfl fun C=> ?_
 have e:∀l:List (List Int),(l.map fun x0=>T.sl x0.length (x0.map fun x1=>T.sc (Value.int IntKind.i64 x1)))=l.map zen:=fun _=>rfl
 simp only[xt,xtF,xtC,Nat.reduceEqDiff,if_true,if_false,zvz,XO,and_self,e,zkM,h,ZP]
instance{a0:List (List Int)}:Ok (zjP a0) (fun r=>L 40 [.os 1 a0.length (a0.map fun x0=>.sl x0.length (x0.map fun x1=>.sc (.int .i64 x1))),.sc (.func (.func 41) #[] #[])]=some (.tup [],[.os 1 r.length (r.map fun x0=>.sl x0.length (x0.map fun x1=>.sc (.int .i64 x1))),.dead])):=⟨fun _ h=>zvG h⟩
theorem zru(h:zha a0=some r):L 210 [.os 1 a0.length (a0.map fun x0=>.sc (.int .i64 x0))]=some (.tup [],[.os 1 r.length (r.map fun x0=>.sc (.int .i64 x0))]):=by
 refine zg9 rfl fun C=> ?_
 simp only[xt,xtF,xtC,Nat.reduceEqDiff,if_true,if_false,znB,z8d,h,ZP]
instance:Ok (zha a0) (fun r=>L 210 [.os 1 a0.length (a0.map fun x0=>.sc (.int .i64 x0))]=some (.tup [],[.os 1 r.length (r.map fun x0=>.sc (.int .i64 x0))])):=⟨fun _ h=>zru h⟩
theorem zrv(h:zba a0=some r):L 45 [.sl a0.length (a0.map fun x0=>.sc (.int .i64 x0))]=some (.os 1 r.length (r.map fun x0=>.sc (.int .i64 x0)),[.dead]):=by
 refine zg9 rfl fun C=> ?_
 simp only[xt,xtF,xtC,Nat.reduceEqDiff,if_true,if_false,znC,z8d,h,ZP]
instance:Ok (zba a0) (fun r=>L 45 [.sl a0.length (a0.map fun x0=>.sc (.int .i64 x0))]=some (.os 1 r.length (r.map fun x0=>.sc (.int .i64 x0)),[.dead])):=⟨fun _ h=>zrv h⟩
theorem zAA{a0:Int}{r:Int}(h:vTz a0=some r):L 43 [.sc (.int .u64 a0)]=some (.sc (.int .i64 r),[.dead]):=by
 refine zg9 rfl fun C=> ?_
 simp only[xt,xtF,xtC,Nat.reduceEqDiff,if_true,if_false,xTz,h,ZP]
instance{a0:Int}:Ok (vTz a0) (fun r=>L 43 [.sc (.int .u64 a0)]=some (.sc (.int .i64 r),[.dead])):=⟨fun _ h=>zAA h⟩
end
section
open Go Go.IntKind
noncomputable section
abbrev z2z(w93:Int)(v122:List Int):Int×List Bool×List ByteArray×List Int->Option ((Int×List Bool×List ByteArray×List Int)⊕((Int×List Bool×List ByteArray×List Int)⊕(List Int×List ByteArray)))
 |(w129,w130,w131,w132)=>
 if w129<(v122.length:Int) then
 (atI v122 w129).bind fun v139=>
 (atI w130 v139).bind fun v140=>
 if v140=true then
 z0c (i64.wrap (w129+1),w130,w131,w132)
 else
 (atI w132 w93).bind fun v142=>
 (atI w131 v142).bind fun v143=>
 chk (z9O v143 ⟨#[UInt8.ofNat (u8.wrap (i64.wrap (97+w129))).toNat]⟩)<|
 (atI w131 v139).bind fun v144=>
 chk (z1B 8 (w132.length+1))<|
 z0c (i64.wrap (w129+1),(w130.set v139.toNat true),(w131.set v139.toNat (v143++⟨#[UInt8.ofNat (u8.wrap (i64.wrap (97+w129))).toNat]⟩)),w132++ [v139])
 else
 z0i<|
 z0c (i64.wrap (w93+1),w130,w131,w132)
variable{a0:Dgm}{w333:Int}{w245:List (List Int)}{a1 w224 w64:List Int}{v389:List Int×List ByteArray}
instance{w93:Int}{v122:List Int}:Hd (z2z w93 v122):=⟨fun(w129,w130,w131,w132)=>([(40,xI w129)],[(6,.os 1 w130.length (w130.map fun x0=>.sc (.bool x0))),(7,.os 1 w131.length (w131.map fun x0=>.sc (.string x0))),(8,(tO w132))])⟩
abbrev z4L(a0:Dgm):Int×List Bool×List ByteArray×List Int->Option ((Int×List Bool×List ByteArray×List Int)⊕(List Int×List ByteArray))
 |(w93,w94,w95,w96)=>
 if w93<(w96.length:Int) then
 (atI w96 w93).bind fun v121=>
 (atI a0.next v121).bind fun v122=>
 z0k (z2z w93 v122) LFm (0,w94,w95,w96)
 else
 z0i<|
 some (w96,w95)
instance:Hd (z4L a0):=⟨fun(w93,w94,w95,w96)=>([(9,xI w93)],[(6,.os 1 w94.length (w94.map fun x0=>.sc (.bool x0))),(7,.os 1 w95.length (w95.map fun x0=>.sc (.string x0))),(8,(tO w96))])⟩
def z2e(a0:Dgm)(a1:Int):Option (List Int×List ByteArray):=
 chk (z0X 1 (a0.sets.length:Int))<|
 chk (z0X 16 (a0.sets.length:Int))<|
 chk (0<=a1/\a1<(a0.sets.length:Int))<|
 z0k (z4L a0) LFm (0,((List.replicate (a0.sets.length:Int).toNat (false:Bool)).set a1.toNat true),List.replicate (a0.sets.length:Int).toNat (ByteArray.empty:ByteArray),[a1])
instance{a1:Int}:Ok (z2e a0 a1) (fun r=>L 58 [.agg [(tI a0.sets),(tR a0.next),.sl a0.below.length (a0.below.map fun x0=>(tB x0))],.sc (.int .i64 a1)]=some (.tup [(tO r.1),.os 1 r.2.length (r.2.map fun x0=>.sc (.string x0))],[.dead,.dead])):=⟨fun r h=>by have h:=z4u h;unfold z2e at h;exact z5i rfl Tryz.func58 (bdy Tryz.f58 rfl)⟩
abbrev z3q(a0:DFA)(a1:List Int)(w224:List Int)(w244:Int)(w246:List (List Bool))(v263:Int):Int×List (List Int)->Option ((Int×List (List Int))⊕((Int×List (List Int)×List (List Bool))⊕Dgm))
 |(w268,w269)=>
 if w268<a0.letters then
 (atI w269 w244).bind fun v274=>
 (z6X a0 v263 w268).bind fun v275=>
 (atI w224 v275).bind fun v276=>
 (atI v274 w268).bind fun v277=>
 z0c (i64.wrap (w268+1),(w269.set w244.toNat (v274.set w268.toNat v276)))
 else
 z0i<|
 chk (z0X 1 (a1.length:Int))<|
 (atI w246 w244).bind fun v278=>
 z0c (i64.wrap (w244+1),w269,(w246.set w244.toNat (List.replicate (a1.length:Int).toNat (false:Bool))))
instance{a0:DFA}{w244:Int}{w246:List (List Bool)}{v263:Int}:Hd (z3q a0 a1 w224 w244 w246 v263):=⟨fun(w268,w269)=>([(60,xI w268)],[(8,.vr [(tI a1),.os 1 w269.length (w269.map fun x0=>(tO x0)),.os 1 w246.length (w246.map fun x0=>.os 1 x0.length (x0.map fun x1=>.sc (.bool x1)))])])⟩
abbrev z3p(a1:List Int)(w333:Int)(v389:List Int×List ByteArray)(w407:Int)(w408:List (List Bool))(v426:Int):Int->Option (Int⊕((Int×List (List Bool))⊕((Int×List (List Bool))⊕Dgm)))
 |w432=>
 if w432<(v389.1.length:Int) then
 (atI v389.1 w432).bind fun v438=>
 (atI a1 v438).bind fun v439=>
 (z3W v439 v426).bind fun v440=>
 if v440=true then
 (atI w408 w407).bind fun v441=>
 (atI v441 w333).bind fun v442=>
 z0i<|
 z0c (i64.wrap (w407+1),(w408.set w407.toNat (v441.set w333.toNat true)))
 else
 z0c (i64.wrap (w432+1))
 else
 z0i<|
 z0c (i64.wrap (w407+1),w408)
instance{w407:Int}{w408:List (List Bool)}{v426:Int}:Hd (z3p a1 w333 v389 w407 w408 v426):=⟨fun w432=>([(106,xI w432)],[])⟩
abbrev z4m(a1:List Int)(w333:Int)(v389:List Int×List ByteArray)(w245:List (List Int)):Int×List (List Bool)->Option ((Int×List (List Bool))⊕((Int×List (List Bool))⊕Dgm))
 |(w407,w408)=>
 if w407<(a1.length:Int) then
 (atI a1 w407).bind fun v426=>
 z0k (z3p a1 w333 v389 w407 w408 v426) LFm 0
 else
 z0i<|
 z0c (i64.wrap (w333+1),w408)
instance:Hd (z4m a1 w333 v389 w245):=⟨fun(w407,w408)=>([(99,xI w407)],[(8,.vr [(tI a1),.os 1 w245.length (w245.map fun x0=>(tO x0)),.os 1 w408.length (w408.map fun x0=>.os 1 x0.length (x0.map fun x1=>.sc (.bool x1)))])])⟩
abbrev z4n(a1:List Int)(w245:List (List Int)):Int×List (List Bool)->Option ((Int×List (List Bool))⊕Dgm)
 |(w333,w334)=>
 if w333<(a1.length:Int) then
 (z2e (⟨a1,w245,w334⟩:Dgm) w333).bind fun v389=>
 z0k (z4m a1 w333 v389 w245) LFm (0,w334)
 else
 z0i<|
 some (⟨a1,w245,w334⟩:Dgm)
instance:Hd (z4n a1 w245):=⟨fun(w333,w334)=>([(88,xI w333)],[(8,.vr [(tI a1),.os 1 w245.length (w245.map fun x0=>(tO x0)),.os 1 w334.length (w334.map fun x0=>.os 1 x0.length (x0.map fun x1=>.sc (.bool x1)))])])⟩
abbrev z4C(a0:DFA)(a1:List Int)(w224:List Int):Int×List (List Int)×List (List Bool)->Option ((Int×List (List Int)×List (List Bool))⊕Dgm)
 |(w244,w245,w246)=>
 if w244<(a1.length:Int) then
 (atI a1 w244).bind fun v263=>
 chk (z0X 8 a0.letters)<|
 (atI w245 w244).bind fun v264=>
 z0k (z3q a0 a1 w224 w244 w246 v263) LFm (0,(w245.set w244.toNat (List.replicate a0.letters.toNat (0:Int))))
 else
 z0i<|
 z0k (z4n a1 w245) LFm (0,w246)
instance{a0:DFA}:Hd (z4C a0 a1 w224):=⟨fun(w244,w245,w246)=>([(46,xI w244)],[(8,.vr [(tI a1),.os 1 w245.length (w245.map fun x0=>(tO x0)),.os 1 w246.length (w246.map fun x0=>.os 1 x0.length (x0.map fun x1=>.sc (.bool x1)))])])⟩
abbrev z4D(a0:DFA)(a1:List Int):Int×List Int->Option ((Int×List Int)⊕Dgm)
 |(w223,w224)=>
 if w223<(a1.length:Int) then
 (atI a1 w223).bind fun v227=>
 (atI w224 v227).bind fun v228=>
 z0c (i64.wrap (w223+1),(w224.set v227.toNat w223))
 else
 z0i<|
 chk (z0X 24 (a1.length:Int))<|
 z0k (z4C a0 a1 w224) LFm (0,List.replicate (a1.length:Int).toNat ([]:List Int),List.replicate (a1.length:Int).toNat ([]:List Bool))
instance{a0:DFA}:Hd (z4D a0 a1):=⟨fun(w223,w224)=>([(26,xI w223)],[(5,(tO w224))])⟩
def z4K(a0:DFA)(a1:List Int):Option (Dgm):=
 chk (¬(a0.final.length:Int)<0)<|
 chk (z0X 8 (zmx .i64 1 (a0.final.length:Int)))<|
 z0k (z4D a0 a1) LFm (0,List.replicate (zmx .i64 1 (a0.final.length:Int)).toNat (0:Int))
instance{a0:DFA}:Ok (z4K a0 a1) (fun r=>L 54 [.agg [.sc (.int .i64 a0.letters),.sc (.int .i64 a0.start),(tB a0.final),(tR a0.next)],(tI a1)]=some (.agg [(tI r.sets),.os 1 r.next.length (r.next.map fun x0=>(tO x0)),.os 1 r.below.length (r.below.map fun x0=>.os 1 x0.length (x0.map fun x1=>.sc (.bool x1)))],[.dead,.dead])):=⟨fun r h=>by have h:=z4u h;unfold z4K at h;exact z5i rfl Tryz.func54 (bdy Tryz.f54 rfl)⟩
abbrev z3h(a0:Dgm)(w48:Int)(w50:List Int):Int×List Int->Option ((Int×List Int)⊕((Int×List Int×List Int)⊕(List Int×List Int)))
 |(w78,w79)=>
 if w78<(w50.length:Int) then
 (atI w50 w78).bind fun v86=>
 (atI a0.below w48).bind fun v87=>
 (atI v87 v86).bind fun v88=>
 if v88=true then
 (atI a0.below v86).bind fun v89=>
 (atI v89 w48).bind fun v90=>
 if v90=true then
 (atI w79 w48).bind fun v91=>
 z0c (i64.wrap (w78+1),(w79.set w48.toNat w78))
 else
 z0c (i64.wrap (w78+1),w79)
 else
 z0c (i64.wrap (w78+1),w79)
 else
 z0i<|
 (atI w79 w48).bind fun v92=>
 if v92=(w50.length:Int) then
 chk (z1B 8 (w50.length+1))<|
 z0c (i64.wrap (w48+1),w79,w50++ [w48])
 else
 z0c (i64.wrap (w48+1),w79,w50)
instance{w48:Int}{w50:List Int}:Hd (z3h a0 w48 w50):=⟨fun(w78,w79)=>([(26,xI w78)],[(4,(tO w79))])⟩
abbrev z3i(a0:Dgm):Int×List Int×List Int->Option ((Int×List Int×List Int)⊕(List Int×List Int))
 |(w48,w49,w50)=>
 if w48<(a0.sets.length:Int) then
 (atI w49 w48).bind fun v72=>
 z0k (z3h a0 w48 w50) LFm (0,(w49.set w48.toNat (w50.length:Int)))
 else
 z0i<|
 some (w49,w50)
instance:Hd (z3i a0):=⟨fun(w48,w49,w50)=>([(16,xI w48)],[(4,(tO w49)),(5,(tO w50))])⟩
def z2V(a0:Dgm):Option (List Int×List Int):=
 chk (z0X 8 (a0.sets.length:Int))<|
 z0k (z3i a0) LFm (0,List.replicate (a0.sets.length:Int).toNat (0:Int),[])
instance:Ok (z2V a0) (fun r=>L 55 [.agg [(tI a0.sets),(tR a0.next),.sl a0.below.length (a0.below.map fun x0=>(tB x0))]]=some (.tup [(tO r.1),(tO r.2)],[.dead])):=⟨fun r h=>by have h:=z4u h;unfold z2V at h;exact z5i rfl Tryz.func55 (bdy Tryz.f55 rfl)⟩
abbrev z3u(a0:Dgm)(w64:List Int)(w85:Int)(w86:List Int)(v101:Int):Int->Option (Int⊕((Int×List Int)⊕List Int))
 |w106=>
 if w106<(w64.length:Int) then
 (atI w64 w106).bind fun v111=>
 if v111=v101 then
 z0c (i64.wrap (w106+1))
 else
 (atI a0.sets v111).bind fun v112=>
 (atI a0.sets v101).bind fun v113=>
 (z3W v112 v113).bind fun v114=>
 if v114=true then
 z0i<|
 z0c (i64.wrap (w85+1),w86)
 else
 z0c (i64.wrap (w106+1))
 else
 z0i<|
 chk (z1B 8 (w86.length+1))<|
 z0c (i64.wrap (w85+1),w86++ [v101])
instance{w85:Int}{w86:List Int}{v101:Int}:Hd (z3u a0 w64 w85 w86 v101):=⟨fun w106=>([(53,xI w106)],[])⟩
abbrev z2y(a0:Dgm)(w64:List Int):Int×List Int->Option ((Int×List Int)⊕List Int)
 |(w85,w86)=>
 if w85<(w64.length:Int) then
 (atI w64 w85).bind fun v101=>
 z0k (z3u a0 w64 w85 w86 v101) LFm 0
 else
 z0i<|
 some w86
instance:Hd (z2y a0 w64):=⟨fun(w85,w86)=>([(47,xI w85)],[(8,(tO w86))])⟩
abbrev z3M(a0:Dgm)(a1:Int):Int×List Int->Option ((Int×List Int)⊕List Int)
 |(w63,w64)=>
 if w63<(a0.sets.length:Int) then
 (atI a0.sets w63).bind fun v68=>
 if w63=a1 then
 z0c (i64.wrap (w63+1),w64)
 else
 (atI a0.sets a1).bind fun v69=>
 (z3W v69 v68).bind fun v70=>
 if v70=true then
 chk (z1B 8 (w64.length+1))<|
 z0c (i64.wrap (w63+1),w64++ [w63])
 else
 z0c (i64.wrap (w63+1),w64)
 else
 z0i<|
 z0k (z2y a0 w64) LFm (0,[])
instance{a1:Int}:Hd (z3M a0 a1):=⟨fun(w63,w64)=>([(23,xI w63)],[(5,(tO w64))])⟩
def z3H(a0:Dgm)(a1:Int):Option (List Int):=
 (atI a0.sets a1).bind fun v58=>
 (z6W v58).bind fun v59=>
 if v59=1 then
 some []
 else
 z0k (z3M a0 a1) LFm (0,[])
instance{a1:Int}:Ok (z3H a0 a1) (fun r=>L 57 [.agg [(tI a0.sets),(tR a0.next),.sl a0.below.length (a0.below.map fun x0=>(tB x0))],.sc (.int .i64 a1)]=some ((tO r),[.dead,.dead])):=⟨fun r h=>by have h:=z4u h;unfold z3H at h;exact z5i rfl Tryz.func57 (bdy Tryz.f57 rfl)⟩
abbrev z2b(a0:List Int)(a1:Int):Int->Option (Int⊕Int)
 |w6=>
 if w6<(a0.length:Int) then
 (atI a0 w6).bind fun v8=>
 if a1=v8 then
 z0i<|
 some w6
 else
 z0c (i64.wrap (w6+1))
 else
 z0i<|
 some (-1)
instance{a0:List Int}{a1:Int}:Hd (z2b a0 a1):=⟨fun w6=>([(8,xI w6)],[])⟩
def z1n(a0:List Int)(a1:Int):Option (Int):=
 z0k (z2b a0 a1) LFm 0
instance{a0:List Int}{a1:Int}:Ok (z1n a0 a1) (fun r=>L 50 [(tI a0),.sc (.int .i64 a1)]=some (.sc (.int .i64 r),[.dead,.dead])):=⟨fun r h=>by have h:=z4u h;unfold z1n at h;exact z5i rfl Tryz.func50 (bdy Tryz.f50 rfl)⟩
def z2x(a0:List Int)(a1:Int):Option (Bool):=
 (z1n a0 a1).bind fun v2=>
 some (decide (0<=v2))
instance{a0:List Int}{a1:Int}:Ok (z2x a0 a1) (fun r=>L 96 [(tI a0),.sc (.int .i64 a1)]=some (.sc (.bool r),[.dead,.dead])):=⟨fun r h=>by have h:=z4u h;unfold z2x at h;exact z5i rfl Tryz.func96 (bdy Tryz.f96 rfl)⟩
abbrev z7i(a0:DFA):Int×List Int->Option ((Int×List Int)⊕List Int)
 |(w10,w11)=>
 if w10<(a0.final.length:Int) then
 chk (¬w10<0)<|
 (z2x w11 (zmx .i64 1 w10)).bind fun v13=>
 if v13=true then
 z0c (i64.wrap (w10+1),w11)
 else
 chk (z1B 8 (w11.length+1))<|
 z0c (i64.wrap (w10+1),w11++ [zmx .i64 1 w10])
 else
 z0i<|
 (zm7 w11).bind fun v14=>
 some v14
instance{a0:DFA}:Hd (z7i a0):=⟨fun(w10,w11)=>([(19,xI w10)],[(3,(tO w11))])⟩
def z8g(a0:DFA):Option (List Int):=
 chk (¬(a0.final.length:Int)<0)<|
 (z7t a0 (i64.wrap ((zmx .i64 1 (a0.final.length:Int))-1))).bind fun v8=>
 z0k (z7i a0) LFm (0,v8.1)
instance{a0:DFA}:Ok (z8g a0) (fun r=>L 53 [.agg [.sc (.int .i64 a0.letters),.sc (.int .i64 a0.start),(tB a0.final),(tR a0.next)]]=some ((tO r),[.dead])):=⟨fun r h=>by have h:=z4u h;unfold z8g at h;exact z5i rfl Tryz.func53 (bdy Tryz.f53 rfl)⟩
def z6C(v69:List Int)(v71:List Int×List Int)(w107:Int)(v123:List Int×List ByteArray):Int×List ByteArray->Option ((Int×List ByteArray)⊕((Int×List ByteArray)⊕(Imgs×Int)))
 |(w127,w128)=>
 if w127<(v69.length:Int) then
 (atI v71.1 w127).bind fun v132=>
 if v132=w107 then
 (atI v123.2 w127).bind fun v133=>
 (atI w128 w127).bind fun v134=>
 z0c (i64.wrap (w127+1),(w128.set w127.toNat v133))
 else
 z0c (i64.wrap (w127+1),w128)
 else
 z0i<|
 z0c (i64.wrap (w107+1),w128)
def z6B(v69:List Int)(v70:Dgm)(v71:List Int×List Int)(v72:List Int)(w79:List (List Int))(w80:List ByteArray)(w107:Int)(v123:List Int×List ByteArray):Int×List ByteArray->Fr
 |(w127,w128)=>⟨120,[(2,.one (.a 2 [] (0))),(5,.one (.t none ((tI v69)))),(7,.one (.a 7 [] (0))),(8,.one (.t none ((tI v71.1)))),(10,.one (.a 10 [] (0))),(14,.one (.t none (.sc (.int .i64 w107)))),(17,.one (.h 17 [])),(85,.one (.h 9 [])),(86,.one (.t none (.sc (.int .i64 (v71.2.length:Int))))),(87,.one (.t none (.sc (.int .i64 w107)))),(99,.one (.t none (.sc (.int .i64 (v69.length:Int))))),(100,.one (.t none (.sc (.int .i64 w127))))],[(2,.vr [.os 1 0 [],.os 1 0 [],.os 1 0 [],.os 1 0 [],.os 1 0 [],.os 1 0 []]),(7,.vr [(tI v70.sets),.os 1 v70.next.length (v70.next.map fun x0=>(tO x0)),.os 1 v70.below.length (v70.below.map fun x0=>.os 1 x0.length (x0.map fun x1=>.sc (.bool x1)))]),(10,.vr [(tI v69),(tI v71.1),(tO v72),.os 1 w79.length (w79.map fun x0=>(tO x0)),.os 1 w128.length (w128.map fun x0=>.sc (.string x0)),.os 1 w80.length (w80.map fun x0=>.sc (.string x0))]),(17,.os 1 v123.2.length (v123.2.map fun x0=>.sc (.string x0))),(9,(tO v71.2))]⟩
def z7K(v69:List Int)(v70:Dgm)(v71:List Int×List Int)(v72:List Int)(w79:List (List Int))(w80:List ByteArray):Int×List ByteArray->Option ((Int×List ByteArray)⊕(Imgs×Int))
 |(w107,w108)=>
 if w107<(v71.2.length:Int) then
 (atI v71.2 w107).bind fun v122=>
 (z2e v70 v122).bind fun v123=>
 z0k (z6C v69 v71 w107 v123) LFm (0,w108)
 else
 z0i<|
 some ((⟨v69,v71.1,v72,w79,w108,w80⟩:Imgs),0)
def z7I(v69:List Int)(v70:Dgm)(v71:List Int×List Int)(v72:List Int)(w79:List (List Int))(w80:List ByteArray):Int×List ByteArray->Fr
 |(w107,w108)=>⟨120,[(2,.one (.a 2 [] (0))),(5,.one (.t none ((tI v69)))),(7,.one (.a 7 [] (0))),(8,.one (.t none ((tI v71.1)))),(10,.one (.a 10 [] (0))),(85,.one (.h 9 [])),(86,.one (.t none (.sc (.int .i64 (v71.2.length:Int))))),(87,.one (.t none (.sc (.int .i64 w107))))],[(2,.vr [.os 1 0 [],.os 1 0 [],.os 1 0 [],.os 1 0 [],.os 1 0 [],.os 1 0 []]),(7,.vr [(tI v70.sets),.os 1 v70.next.length (v70.next.map fun x0=>(tO x0)),.os 1 v70.below.length (v70.below.map fun x0=>.os 1 x0.length (x0.map fun x1=>.sc (.bool x1)))]),(10,.vr [(tI v69),(tI v71.1),(tO v72),.os 1 w79.length (w79.map fun x0=>(tO x0)),.os 1 w108.length (w108.map fun x0=>.sc (.string x0)),.os 1 w80.length (w80.map fun x0=>.sc (.string x0))]),(9,(tO v71.2))]⟩
def z7L(v69:List Int)(v70:Dgm)(v71:List Int×List Int)(v72:List Int):Int×List (List Int)×List ByteArray->Option ((Int×List (List Int)×List ByteArray)⊕(Imgs×Int))
 |(w78,w79,w80)=>
 if w78<(v69.length:Int) then
 (z3H v70 w78).bind fun v88=>
 (atI w79 w78).bind fun v89=>
 (z2e v70 w78).bind fun v90=>
 (atI v71.1 w78).bind fun v91=>
 (atI v71.2 v91).bind fun v92=>
 (atI v90.2 v92).bind fun v93=>
 (atI w80 w78).bind fun v94=>
 z0c (i64.wrap (w78+1),(w79.set w78.toNat v88),(w80.set w78.toNat v93))
 else
 z0i<|
 z0k (z7K v69 v70 v71 v72 w79 w80) LFm (0,List.replicate (v69.length:Int).toNat (ByteArray.empty:ByteArray))
def z7J(v69:List Int)(v70:Dgm)(v71:List Int×List Int)(v72:List Int):Int×List (List Int)×List ByteArray->Fr
 |(w78,w79,w80)=>⟨120,[(2,.one (.a 2 [] (0))),(5,.one (.t none ((tI v69)))),(7,.one (.a 7 [] (0))),(8,.one (.t none ((tI v71.1)))),(9,.one (.h 9 [])),(10,.one (.a 10 [] (0))),(53,.one (.t none (.sc (.int .i64 (v69.length:Int))))),(54,.one (.t none (.sc (.int .i64 w78))))],[(2,.vr [.os 1 0 [],.os 1 0 [],.os 1 0 [],.os 1 0 [],.os 1 0 [],.os 1 0 []]),(7,.vr [(tI v70.sets),.os 1 v70.next.length (v70.next.map fun x0=>(tO x0)),.os 1 v70.below.length (v70.below.map fun x0=>.os 1 x0.length (x0.map fun x1=>.sc (.bool x1)))]),(9,(tO v71.2)),(10,.vr [(tI v69),(tI v71.1),(tO v72),.os 1 w79.length (w79.map fun x0=>(tO x0)),.os 1 (List.replicate (v69.length:Int).toNat (ByteArray.empty:ByteArray)).length ((List.replicate (v69.length:Int).toNat (ByteArray.empty:ByteArray)).map fun x0=>.sc (.string x0)),.os 1 w80.length (w80.map fun x0=>.sc (.string x0))])]⟩
def z8h(a0:DFA):Option (Imgs×Int):=
 (z5s a0).bind fun v68=>
 if v68=0 then
 (z8g a0).bind fun v69=>
 if 400<(v69.length:Int) then
 some ((⟨[],[],[],[],[],[]⟩:Imgs),3)
 else
 (z4K a0 v69).bind fun v70=>
 (z2V v70).bind fun v71=>
 (z2U v70 v71.1).bind fun v72=>
 chk (z0X 24 (v69.length:Int))<|
 chk (z0X 16 (v69.length:Int))<|
 z0k (z7L v69 v70 v71 v72) LFm (0,List.replicate (v69.length:Int).toNat ([]:List Int),List.replicate (v69.length:Int).toNat (ByteArray.empty:ByteArray))
 else
 some ((⟨[],[],[],[],[],[]⟩:Imgs),v68)
instance{a0:DFA}:Ok (z8h a0) (fun r=>L 20 [.agg [.sc (.int .i64 a0.letters),.sc (.int .i64 a0.start),(tB a0.final),(tR a0.next)]]=some (.tup [.agg [(tI r.1.sets),(tI r.1.class_),(tI r.1.height),(tR r.1.tiles),(tS r.1.words),(tS r.1.back)],.sc (.int .i64 r.2)],[.dead])):=⟨fun r h0=>by
 simp only[z8h] at h0
 refine zrf rfl Tryz.func20 (zew (bdy Tryz.f20 rfl) ⟨of_decide_eq_true rfl,of_decide_eq_true rfl⟩ rfl ?_)
 simp only[z6H,z7u,z6N,z8Z,z6i]
 refine zp (zs ?_)
 refine z0d (zp (zp ?_))
 obtain⟨v68,f87,h1⟩:=z1t h0
 have f87k:=Ok.ok _ f87
 try simp at f87k
 refine zr rfl rfl rfl (by simp[f87k];rfl) ?_
 refine z0d (zp (zs ?_))
 refine z0d ?_
 by_cases c88:v68=0
 ·rw[if_pos c88] at h1
  have c88e:=eq_true c88
  refine z9J rfl (by simp[c88e]) (z6v rfl (z0d (zp ?_)))
  obtain⟨v69,f89,h2⟩:=z1t h1
  have f89k:=Ok.ok _ f89
  try simp at f89k
  refine zr rfl rfl rfl (by simp[f89k];rfl) ?_
  refine z0d (zp (zs ?_))
  refine z0d (zp (zp (zs ?_)))
  refine z0d ?_
  by_cases c90:400<(v69.length:Int)
  ·rw[if_pos c90] at h2
   refine z7H rfl (by simp[c90]) (zp (zs ?_))
   refine z0d (za4 rfl (z5O ?_))
   cases h2
   simp
  ·rw[if_neg c90] at h2
   refine z9J rfl (by simp[c90]) (z6v rfl (z0d (zp (zsD rfl rfl (by simp;rfl) ?_))))
   obtain⟨v70,f91,h3⟩:=z1t h2
   have f91k:=Ok.ok _ f91
   try simp at f91k
   refine zr rfl rfl rfl (by simp[f91k];rfl) ?_
   refine z0d (zp ?_)
   obtain⟨v71,f92,h4⟩:=z1t h3
   have f92k:=Ok.ok _ f92
   try simp at f92k
   refine zr rfl rfl rfl (by simp[f92k];rfl) ?_
   refine z0d (zp (zsD rfl rfl (by simp;rfl) ?_))
   obtain⟨v72,f93,h5⟩:=z1t h4
   have f93k:=Ok.ok _ f93
   try simp at f93k
   obtain⟨f94,h6⟩:=zEk h5
   obtain⟨f95,h7⟩:=zEk h6
   refine zkV rfl rfl rfl rfl ?_
   refine zxP [(0,0,0,1),(1,1,0,2),(2,2,0,3),(3,3,0,4),(4,5,0,5),(5,7,0,6),(6,9,0,7),(7,4,1,8),(7,6,1,9),(7,8,1,10),(7,10,1,11),(7,12,1,12),(8,6,1,13),(8,8,1,14),(8,10,1,15),(8,12,1,16),(9,4,1,13),(9,8,1,17),(9,10,1,18),(9,12,1,19),(10,4,1,14),(10,6,1,17),(10,10,1,20),(10,12,1,21),(11,4,1,15),(11,6,1,18),(11,8,1,20),(11,12,1,22),(12,4,1,16),(12,6,1,19),(12,8,1,21),(12,10,1,22),(13,8,1,23),(13,10,1,24),(13,12,1,25),(14,6,1,23),(14,10,1,26),(14,12,1,27),(15,6,1,24),(15,8,1,26),(15,12,1,28),(16,6,1,25),(16,8,1,27),(16,10,1,28),(17,4,1,23),(17,10,1,29),(17,12,1,30),(18,4,1,24),(18,8,1,29),(18,12,1,31),(19,4,1,25),(19,8,1,30),(19,10,1,31),(20,4,1,26),(20,6,1,29),(20,12,1,32),(21,4,1,27),(21,6,1,30),(21,10,1,32),(22,4,1,28),(22,6,1,31),(22,8,1,32),(23,10,1,33),(23,12,1,34),(24,8,1,33),(24,12,1,35),(25,8,1,34),(25,10,1,35),(26,6,1,33),(26,12,1,36),(27,6,1,34),(27,10,1,36),(28,6,1,35),(28,8,1,36),(29,4,1,33),(29,12,1,37),(30,4,1,34),(30,10,1,37),(31,4,1,35),(31,8,1,37),(32,4,1,36),(32,6,1,37),(33,11,0,38),(34,10,1,39),(35,8,1,39),(36,6,1,39),(37,4,1,39),(38,12,1,40),(39,11,0,40),(40,13,2,41)] 41 (by kernel_rfl) ?_
   iterate 16 (refine z1r rfl rfl rfl rfl (by simp[z0v,z0y,f93k,f94,f95];rfl) ?_)
   refine z1q rfl rfl rfl rfl (by simp[z0v,z0y,f93k,f94,f95]) ?_
   iterate 3 (refine z1r rfl rfl rfl rfl (by simp[z0v,z0y,f93k,f94,f95];rfl) ?_)
   refine z1q rfl rfl rfl rfl (by simp[z0v,z0y,f93k,f94,f95]) ?_
   refine z1q rfl rfl rfl rfl (by simp[z0v,z0y,f93k,f94,f95]) ?_
   refine z1r rfl rfl rfl rfl (by simp[z0v,z0y,f93k,f94,f95];rfl) ?_
   refine z1r rfl rfl rfl rfl (by simp[z0v,z0y,f93k,f94,f95];rfl) ?_
   iterate 3 (refine z1q rfl rfl rfl rfl (by simp[z0v,z0y,f93k,f94,f95]) ?_)
   refine z1r rfl rfl rfl rfl (by simp[z0v,z0y,f93k,f94,f95];rfl) ?_
   iterate 4 (refine z1q rfl rfl rfl rfl (by simp[z0v,z0y,f93k,f94,f95]) ?_)
   iterate 3 (refine z1r rfl rfl rfl rfl (by simp[z0v,z0y,f93k,f94,f95];rfl) ?_)
   refine z1q rfl rfl rfl rfl (by simp[z0v,z0y,f93k,f94,f95]) ?_
   refine z1r rfl rfl rfl rfl (by simp[z0v,z0y,f93k,f94,f95];rfl) ?_
   refine z1r rfl rfl rfl rfl (by simp[z0v,z0y,f93k,f94,f95];rfl) ?_
   refine z1q rfl rfl rfl rfl (by simp[z0v,z0y,f93k,f94,f95]) ?_
   refine z1q rfl rfl rfl rfl (by simp[z0v,z0y,f93k,f94,f95]) ?_
   refine z1r rfl rfl rfl rfl (by simp[z0v,z0y,f93k,f94,f95];rfl) ?_
   iterate 4 (refine z1q rfl rfl rfl rfl (by simp[z0v,z0y,f93k,f94,f95]) ?_)
   refine z1r rfl rfl rfl rfl (by simp[z0v,z0y,f93k,f94,f95];rfl) ?_
   refine z1r rfl rfl rfl rfl (by simp[z0v,z0y,f93k,f94,f95];rfl) ?_
   refine z1q rfl rfl rfl rfl (by simp[z0v,z0y,f93k,f94,f95]) ?_
   refine z1q rfl rfl rfl rfl (by simp[z0v,z0y,f93k,f94,f95]) ?_
   refine z1r rfl rfl rfl rfl (by simp[z0v,z0y,f93k,f94,f95];rfl) ?_
   iterate 5 (refine z1q rfl rfl rfl rfl (by simp[z0v,z0y,f93k,f94,f95]) ?_)
   refine z1r rfl rfl rfl rfl (by simp[z0v,z0y,f93k,f94,f95];rfl) ?_
   iterate 6 (refine z1q rfl rfl rfl rfl (by simp[z0v,z0y,f93k,f94,f95]) ?_)
   refine z1r rfl rfl rfl rfl (by simp[z0v,z0y,f93k,f94,f95];rfl) ?_
   refine z1r rfl rfl rfl rfl (by simp[z0v,z0y,f93k,f94,f95];rfl) ?_
   refine z1q rfl rfl rfl rfl (by simp[z0v,z0y,f93k,f94,f95]) ?_
   refine z1r rfl rfl rfl rfl (by simp[z0v,z0y,f93k,f94,f95];rfl) ?_
   iterate 3 (refine z1q rfl rfl rfl rfl (by simp[z0v,z0y,f93k,f94,f95]) ?_)
   refine z1r rfl rfl rfl rfl (by simp[z0v,z0y,f93k,f94,f95];rfl) ?_
   iterate 5 (refine z1q rfl rfl rfl rfl (by simp[z0v,z0y,f93k,f94,f95]) ?_)
   refine z1r rfl rfl rfl rfl (by simp[z0v,z0y,f93k,f94,f95];rfl) ?_
   iterate 6 (refine z1q rfl rfl rfl rfl (by simp[z0v,z0y,f93k,f94,f95]) ?_)
   refine z1r rfl rfl rfl rfl (by simp[z0v,z0y,f93k,f94,f95];rfl) ?_
   refine z1r rfl rfl rfl rfl (by simp[z0v,z0y,f93k,f94,f95];rfl) ?_
   iterate 3 (refine z1q rfl rfl rfl rfl (by simp[z0v,z0y,f93k,f94,f95]) ?_)
   refine z1r rfl rfl rfl rfl (by simp[z0v,z0y,f93k,f94,f95];rfl) ?_
   refine z1q rfl rfl rfl rfl (by simp[z0v,z0y,f93k,f94,f95]) ?_
   refine z1r rfl rfl rfl rfl (by simp[z0v,z0y,f93k,f94,f95];rfl) ?_
   refine zyc rfl ?_
   refine zks rfl (by simp[f93k,f94,f95];rfl) ?_
   refine z0d (zp (zp (zs ?_)))
   refine z0d (zb rfl (z8a h7 (z7J v69 v70 v71 v72) rfl rfl (by simp[z7J]) fun s o1 h8 hr1=> ?_))
   obtain⟨w78,w79,w80⟩:=s
   simp only[z7L] at h8
   simp only[z7J]
   refine zp (zs ?_)
   refine z0d (zp ?_)
   by_cases c111:w78<(v69.length:Int)
   ·rw[if_pos c111] at h8
    refine z7H rfl (by simp[c111]) (z6v rfl (z0d (zp (zb rfl (zp (zs ?_))))))
    refine z0d (zp ?_)
    obtain⟨v88,f112,h9⟩:=z1t h8
    have f112k:=Ok.ok _ f112
    try simp at f112k
    obtain⟨v89,f113,h10⟩:=z8G h9
    refine z6U rfl rfl rfl rfl ?_;repeat' ((first|refine z3T rfl rfl fun Q' hQ=> ?_|refine z2Z rfl fun Q' hQ=> ?_);simp[f112k,f113];refine hQ.out _ ?_;clear hQ;clear Q')
    refine z0d (zp ?_)
    obtain⟨v90,f114,h11⟩:=z1t h10
    have f114k:=Ok.ok _ f114
    try simp at f114k
    refine zr rfl rfl rfl (by simp[f114k];rfl) ?_
    refine z0d ?_
    obtain⟨v91,f115,h12⟩:=z8G h11
    obtain⟨v92,f116,h13⟩:=z8G h12
    obtain⟨v93,f117,h14⟩:=z8G h13
    obtain⟨v94,f118,h15⟩:=z8G h14
    refine z6U rfl rfl rfl rfl ?_;repeat' ((first|refine z3T rfl rfl fun Q' hQ=> ?_|refine z2Z rfl fun Q' hQ=> ?_);simp[f115,f116,f117,f118];refine hQ.out _ ?_;clear hQ;clear Q')
    refine z4X (z0d (zs ?_))
    have ho:=z4j h15
    refine z5j ho ?_
    simp[z7J]
   ·rw[if_neg c111] at h8
    refine z9J rfl (by simp[c111]) (z9C rfl (z7x ?_))
    obtain⟨rr1,h9,ho1⟩:=z3K h8
    have hs1:=hr1 _ ho1
    subst hs1
    refine z6t ho1 (z3D rfl (z0d (zp (zp (zs ?_)))))
    refine z0d (zb rfl (z8a h9 (z7I v69 v70 v71 v72 w79 w80) rfl rfl (by simp[z7I]) fun s o2 h10 hr2=> ?_))
    obtain⟨w107,w108⟩:=s
    simp only[z7K] at h10
    simp only[z7I]
    refine zp (zs ?_)
    refine z0d (zp ?_)
    by_cases c155:w107<(v71.2.length:Int)
    ·rw[if_pos c155] at h10
     refine z7H rfl (by simp[c155]) (z6v rfl (z0d (zp (zb rfl (zp ?_)))))
     obtain⟨v122,f156,h11⟩:=z8G h10
     refine zr rfl rfl rfl (by simp[f156];rfl) ?_
     refine z0d (zp ?_)
     obtain⟨v123,f157,h12⟩:=z1t h11
     have f157k:=Ok.ok _ f157
     try simp at f157k
     refine zr rfl rfl rfl (by simp[f157k];rfl) ?_
     refine z0d (zp (zs ?_))
     refine z0d (zb rfl (z8a h12 (z6B v69 v70 v71 v72 w79 w80 w107 v123) rfl rfl (by simp[z6B]) fun s o3 h13 hr3=> ?_))
     obtain⟨w127,w128⟩:=s
     simp only[z6C] at h13
     simp only[z6B]
     refine zp (zs ?_)
     refine z0d (zp ?_)
     by_cases c168:w127<(v69.length:Int)
     ·rw[if_pos c168] at h13
      refine z7H rfl (by simp[c168]) (z6v rfl (z0d (zp (zb rfl (zp (zs ?_))))))
      refine z0d (zp ?_)
      obtain⟨v132,f169,h14⟩:=z8G h13
      refine zr rfl rfl rfl (by simp[f169];rfl) ?_
      refine z0d ?_
      by_cases c170:v132=w107
      ·rw[if_pos c170] at h14
       have c170e:=eq_true c170
       refine z7H rfl (by simp[c170e]) ?_
       obtain⟨v133,f171,h15⟩:=z8G h14
       obtain⟨v134,f172,h16⟩:=z8G h15
       refine z6U rfl rfl rfl rfl ?_;repeat' ((first|refine z3T rfl rfl fun Q' hQ=> ?_|refine z2Z rfl fun Q' hQ=> ?_);simp[f171,f172];refine hQ.out _ ?_;clear hQ;clear Q')
       refine z4X (z0d (zs ?_))
       have ho:=z4j h16
       refine z5j ho ?_
       simp[z6B]
      ·rw[if_neg c170] at h14
       have c170e:=eq_false c170
       refine z9J rfl (by simp[c170e]) (z6v rfl (z4X (z0d (zs ?_))))
       have ho:=z4j h14
       refine z5j ho ?_
       simp[z6B]
     ·rw[if_neg c168] at h13
      refine z9J rfl (by simp[c168]) (z9C rfl (z7x ?_))
      obtain⟨rr3,h14,ho3⟩:=z3K h13
      have hs3:=hr3 _ ho3
      subst hs3
      refine z6t ho3 (z3D rfl (z4X (z0d (zs ?_))))
      have ho:=z4j h14
      refine z5j ho ?_
      simp[z7I]
    ·rw[if_neg c155] at h10
     refine z9J rfl (by simp[c155]) (z9C rfl (z7x ?_))
     obtain⟨rr2,h11,ho2⟩:=z3K h10
     have hs2:=hr2 _ ho2
     subst hs2
     refine z6t ho2 (z3D rfl (z0d (zp (zs ?_))))
     refine z0d (za4 rfl ?_)
     cases h11
     simp
 ·rw[if_neg c88] at h1
  have c88e:=eq_false c88
  refine z7H rfl (by simp[c88e]) (zp (zs ?_))
  refine z0d (za4 rfl (z5O ?_))
  cases h1
  simp⟩
end
end
section
open Go
theorem zjt(a b:Nat):zyj a b=true↔(szN b<szN a∨(szN a=szN b/\a<=b)):=by unfold zyj;simp
def zwG(x:Nat):List Nat->List Nat
 | []=> [x]
 |y::l=>if zyj x y=true then x::y::l else y::zwG x l
def ziv:List Nat->List Nat
 | []=> []
 |x::l=>zwG x (ziv l)
abbrev zCY(l:List Nat):Prop:=l.Pairwise fun a b=>zyj a b=true
theorem zoz(x:Nat):∀l:List Nat,zwH (x:Int) (toI l)=toI (zwG x l)
 | []=>rfl
 |y::l=>by
  have ih:=zoz x l
  have e:leI (x:Int) (y:Int)=zyj x y:=by simp[leI]
  simp only[toI,Zs,zwH,zwG] at ih⊢
  rw[e]
  by_cases h:zyj x y=true
  · rw[if_pos h,if_pos h];rfl
  · rw[if_neg h,if_neg h,ih];rfl
theorem zkA:∀l:List Nat,zcj (toI l)=toI (ziv l)
 | []=>rfl
 |x::l=>by
  have ih:=zkA l
  simp only[toI,Zs,zcj,ziv] at ih⊢
  rw[ih];exact zoz x (ziv l)
theorem zgh(x:Nat):∀l:List Nat,(zwG x l).Perm (x::l)
 | []=>.refl _
 |y::l=>by
  unfold zwG
  split
  · exact .refl _
  · exact((zgh x l).cons y).trans (.swap x y l)
theorem z8R:∀l:List Nat,(ziv l).Perm l
 | []=>.refl _
 |x::l=>(zgh x (ziv l)).trans ((z8R l).cons x)
theorem zgg(x:Nat):∀l:List Nat,zCY l->zCY (zwG x l)
 | [],_=>by simp[zwG]
 |y::l,h=>by
  unfold zwG
  rw[zCY,Zz] at h
  split
  · rename_i hxy
    refine Zz.2 ⟨fun z hz=> ?_,Zz.2 h⟩
    rcases Zu.1 hz with rfl|hz
    · exact hxy
    · have:=h.1 z hz
      rw[zjt] at*
      omega
  · rename_i hxy
    refine Zz.2 ⟨fun z hz=> ?_,zgg x l h.2⟩
    rcases Zu.1 ((zgh x l).mem_iff.1 hz) with rfl|hz
    · rw[zjt] at*
      omega
    · exact h.1 z hz
theorem ze8:∀l:List Nat,zCY (ziv l)
 | []=>by simp[ziv]
 |x::l=>zgg x _ (ze8 l)
def zb9(S:List Nat):Nat->List Nat
 |0=>S
 |q+1=>if 2^q∈zb9 S q then zb9 S q else zb9 S q++ [2^q]
theorem z7c{S:List Nat}(hS:S.Nodup):∀q,(zb9 S q).Nodup/\(∀x,x∈zb9 S q↔x∈S∨ ∃i,i<q/\x=2^i)/\(zb9 S q).length<=S.length+q
 |0=>⟨hS,fun x=>by simp[zb9],by simp[zb9]⟩
 |q+1=>by
  obtain⟨h1,h2,h3⟩:=z7c hS q
  unfold zb9
  split
  · rename_i h
    refine⟨h1,fun x=> ?_,by omega⟩
    rw[h2]
    constructor
    · rintro(h|⟨i,h,e⟩)
      · exact .inl h
      · exact .inr ⟨i,by omega,e⟩
    · rintro(h'|⟨i,h',e⟩)
      · exact .inl h'
      · by_cases ei:i=q
        · subst ei;rw[e];exact(h2 _).1 h
        · exact .inr ⟨i,by omega,e⟩
  · rename_i h
    refine⟨Yu.2 ⟨h1,by simp,fun a ha b hb e=> ?_⟩,fun x=> ?_,by rw[Za,ZE];omega⟩
    · obtain rfl:=Zj.1 hb
      exact h (e▸ha)
    · rw[Ze,h2,Zj]
      constructor
      · rintro((h'|⟨i,h',e⟩)|e)
        · exact .inl h'
        · exact .inr ⟨i,by omega,e⟩
        · exact .inr ⟨q,by omega,e⟩
      · rintro(h'|⟨i,h',e⟩)
        · exact .inl (.inl h')
        · by_cases ei:i=q
          · subst ei;exact .inr e
          · exact .inl (.inr ⟨i,by omega,e⟩)
def z1A(d:DFA)(m n:Nat):List Nat:=ziv (zb9 (z1C d m n (2^n-1)).1 n)
structure SetsP(d:DFA)(m n:Nat)(S:List Nat):Prop where
 nd:S.Nodup
 lt:∀x∈S,x<2^n
 cl:∀x∈S,∀a,a<m->mvN d x a∈S
 one:∀q,q<n->2^q∈S
 srt:zCY S
variable{d:DFA}{m n:Nat}
theorem zBl(hd:DfaOk d m n){q a:Nat}(hq:q<n)(ha:a<m):∃p,p<n/\mvN d (2^q) a=2^p:=by
 obtain⟨h1,h2,e,h3,h4⟩:=zbG hd hq ha
 refine⟨((d.next.getD q []).getD a 0).toNat,by rw[e];omega,ZS fun i=> ?_⟩
 rw[Yf,z9t hd ha,Yh,decide_eq_true_iff]
 constructor
 · rintro⟨j,j1,j2,j3⟩
   rw[Yh,decide_eq_true_iff] at j2
   subst j2;exact j3
 · intro h
   exact⟨q,hq,by rw[Yh];simp,h⟩
theorem z7y(hd:DfaOk d m n):SetsP d m n (z1A d m n):=by
 have hp:=Yv n
 have hf:2^n-1<2^n:=by omega
 have hi:=z6u hd hf
 obtain⟨h1,h2,h3⟩:=z7c hi.nd n
 have hpm:=z8R (zb9 (z1C d m n (2^n-1)).1 n)
 have hm:∀x,x∈z1A d m n↔x∈(z1C d m n (2^n-1)).1∨ ∃i,i<n/\x=2^i:=fun x=>hpm.mem_iff.trans (h2 x)
 refine⟨hpm.nodup_iff.2 h1,fun x hx=> ?_,fun x hx a ha=> ?_,fun q hq=>(hm _).2 (.inr ⟨q,hq,rfl⟩),ze8 _⟩
 · rcases(hm x).1 hx with h|⟨i,hi',rfl⟩
   · exact hi.lt x h
   · exact Yn (by omega) hi'
 · rcases(hm x).1 hx with h|⟨i,hi',rfl⟩
   · exact(hm _).2 (.inl (zeb hd hf h ha))
   · obtain⟨p,hp1,hp2⟩:=zBl hd hi' ha
     exact(hm _).2 (.inr ⟨p,hp1,hp2⟩)
theorem znA{S:List Nat}(hl:S.length<4611686018427387904)(x:Nat):z2x (toI S) (x:Int)=some (decide (x∈S)):=by
 unfold z2x z1n
 rw[z7p (s:=(0:Int)) S.length (fun k=>(k:Int)) (fun k=>decide (x=S.getD k 0)) (fun k=>some (k:Int)) (x:=some (-1)) rfl (by simp only[LFm];omega)]
 · cases h:(List.range S.length).find? (fun k=>decide (x=S.getD k 0)) with
   |none=>
    have:=zlo.1 h
    rw[Z0]
    congr 1
    have hn:¬x∈S:=fun hx=>by
     obtain⟨i,hi,rfl⟩:=Zt hx
     have:=this i hi
     simp[List.getD,hi] at this
    simp[hn]
   |some k=>
    obtain⟨k1,k2,_⟩:=zln.1 h
    rw[Z0]
    congr 1
    have hx:x∈S:=by
     have:x=S.getD k 0:=by simpa using k2
     rw[this];exact z0f k1
    simp[hx]
 · intro k hk
   simp only[z2b]
   rw[if_pos (by rw[z0b];omega),z1u hk,Z0]
   by_cases h:x=S.getD k 0
   · rw[if_pos (by omega),if_pos (by simpa using h)]
   · rw[if_neg (by omega),if_neg (by simpa using h),z1g (by omega)]
 · simp only[z2b]
   rw[if_neg (by rw[z0b];omega)]
theorem zzr(hd:DfaOk d m n)(hn:n<=7):z8g d=some (toI (z1A d m n)):=by
 have hp:=Yv n
 have h128:2^n<=128:=Zi (n:=2) (by omega) hn
 have hf:2^n-1<2^n:=by omega
 have hi:=z6u hd hf
 have hl:=z2n hi.nd hi.lt
 obtain⟨h1,h2,h3⟩:=z7c hi.nd n
 unfold z8g
 have ew:IntKind.i64.wrap (((2^n:Nat):Int)-1)=((2^n-1:Nat):Int):=by rw[z2Y (by omega) (by omega)];omega
 rw[hd.fin,z0j _ (by omega),z8t (by omega),ew,zw9 hd (by omega) hf,Z0]
 refine z0x (s:=((0:Int),toI (z1C d m n (2^n-1)).1)) n (fun q=>((q:Int),toI (zb9 (z1C d m n (2^n-1)).1 q))) rfl (by simp only[LFm];omega) (fun q hq=> ?_) ?_
 · have h3':=(z7c hi.nd q).2.2
   simp only[z7i]
   rw[if_pos (by rw[hd.fin];omega),z0j _ (by omega),z8t (by omega),znA (by omega),Z0,z1g (by omega),zb9]
   by_cases h:2^q∈zb9 (z1C d m n (2^n-1)).1 q
   · rw[if_pos (by simpa using h),if_pos h]
   · rw[if_neg (by simpa using h),if_neg h,z0j _ (by unfold z1B;rw[z0b];omega),z5B]
 · simp only[z7i]
   rw[if_neg (by rw[hd.fin];omega)]
   have hv:zm7 (toI (zb9 (z1C d m n (2^n-1)).1 n))=some (toI (z1A d m n)):=by
    unfold zm7
    rw[if_pos,zkA];rfl
    refine⟨fun h=> ?_,by rw[z0b];omega,?_⟩
    · have hm:=(h2 (2^n-1)).2 (.inl (zaH hd hf))
      have:=congrArg List.length h
      rw[z0b] at this
      have h0:=YT hm
      simp at this
      rw[this] at h0;simp at h0
    · rw[Zn]
      intro x hx
      simp only[toI,Zm] at hx
      obtain⟨y,hy,rfl⟩:=hx
      have:y<2^n:=by
       rcases(h2 y).1 hy with h|⟨i,hi',rfl⟩
       · exact hi.lt y h
       · exact Yn (by omega) hi'
      simp;omega
   rw[hv,Z0]
end
section
open Go
variable{d:DFA}{S:List Nat}{N i j k m n x:Nat}{st:RS}{α:Type}{f:Nat->α}{z:α}
def z3b{α:Type}(N:Nat)(f:Nat->α)(z:α)(k:Nat):List α:=(List.range N).map fun i=>if i<k then f i else z
theorem zeL(N:Nat)(f:Nat->α)(z:α)(k:Nat):(z3b N f z k).length=N:=by simp[z3b]
theorem zcR(N:Nat)(f:Nat->α)(z:α):z3b N f z 0=List.replicate N z:=by
 apply Zf (by simp[z3b]);intro i h1 h2;simp[z3b]
theorem zcQ(N:Nat)(f:Nat->α)(z:α):z3b N f z N=(List.range N).map f:=by
 apply Zf (by simp[z3b]);intro i h1 h2
 have:i<N:=by simpa[z3b] using h1
 simp[z3b,this]
theorem zae(h:i<N):atI (z3b N f z k) (i:Int)=some (if i<k then f i else z):=by
 rw[z1k (by rw[zeL];exact h)];simp[z3b]
theorem z7O(h:k<N):(z3b N f z k).set k (f k)=z3b N f z (k+1):=by
 apply Zf (by simp[z3b]);intro i h1 h2
 simp only[z3b,Y9,ZG,ZQ]
 by_cases e:k=i
 · subst e;rw[if_pos rfl,if_pos (by omega)]
 · rw[if_neg e]
   by_cases e2:i<k
   · rw[if_pos e2,if_pos (by omega)]
   · rw[if_neg e2,if_neg (by omega)]
theorem zux(h:f k=z):z3b N f z k=z3b N f z (k+1):=by
 apply Zf (by simp[z3b]);intro i h1 h2
 simp only[z3b,ZG,ZQ]
 by_cases e:k=i
 · subst e;rw[if_neg (by omega),if_pos (by omega),h]
 · by_cases e2:i<k
   · rw[if_pos e2,if_pos (by omega)]
   · rw[if_neg e2,if_neg (by omega)]
theorem z2E(h:i<N):atI ((List.range N).map f) (i:Int)=some (f i):=by
 rw[z1k (by simpa using h)];simp
theorem zo5{l:List α}{x:α}(h:i<l.length):atI (l.set i x) (i:Int)=some x:=by
 rw[z1k (by simpa using h)];simp
theorem zmy(l:List α)(i:Nat)(x y:α):(l.set i x).set i y=l.set i y:=by simp
theorem zbQ(hS:S.Nodup)(h:i<S.length):S.idxOf (S.getD i 0)=i:=by
 rw[List.getD,Z1 h,Zb]
 have hm:S[i]∈S:=Zw h
 have h1:=Xo hm
 have h2:S[S.idxOf S[i]]=S[i]:=XR h1
 exact(List.getElem_inj hS).1 h2
theorem z4i(h:x∈S):S.getD (S.idxOf x) 0=x:=by
 have:=Xo h
 rw[List.getD,Z1 this,Zb,XR]
theorem z6j(h:x∈S):S.idxOf x<S.length:=Xo h
theorem z6G(hS:S.Nodup)(hi:i<S.length)(hj:j<S.length)(h:S.getD i 0=S.getD j 0):i=j:=by
 rw[←zbQ hS hi,h,zbQ hS hj]
def z7X(st:RS)(x:Nat):ByteArray:=st.2.getD (st.1.idxOf x) ByteArray.empty
theorem zm5(hl:st.2.length=st.1.length)(hx:x∉st.1)(w:ByteArray)(y:Nat):z7X (st.1++ [x],st.2++ [w]) y=if y=x then w else z7X st y:=by
 unfold z7X
 simp only
 by_cases hy:y∈st.1
 · have hne:y≠x:=fun e=>hx (e▸hy)
   rw[if_neg hne,List.idxOf_append,if_pos hy,z8x _ (by rw[hl];exact z6j hy)]
 · rw[List.idxOf_append,if_neg hy]
   by_cases e:y=x
   · subst e
     rw[if_pos rfl,show List.idxOf y [y]=0 by simp,Zp,zaa hl.symm]
   · rw[if_neg e]
     have h1:List.idxOf y [x]=1:=by
      rw[List.idxOf_cons]
      have:(x==y)=false:=by simpa using fun h=>e h.symm
      simp[this]
     have h2:st.1.idxOf y=st.1.length:=List.idxOf_eq_length hy
     rw[h1,h2,List.getD,List.getD,X6 (by simp[hl];omega),X6 (by omega)]
theorem zkK{d:DFA}{m n:Nat}{S:List Nat}(hS:SetsP d m n S):∀ {w:List UInt8} {s:Nat},(∀c∈w,97<=c.toNat/\c.toNat<97+m)->s∈S->z4y d s w∈S
 | [],s,_,h=>h
 |c::w,s,hw,h=>zkK (w:=w) (s:=mvN d s (c.toNat-97)) hS (fun c' hc'=>hw c' (Zl _ hc')) (hS.cl s h _ (by have:=hw c (Zy ..);omega))
theorem zu7{s:Nat}(hS:SetsP d m n S)(hs:s∈S)(h:RInv d m n s st)(hx:x∈st.1):x∈S:=by
 obtain⟨i,hi,rfl⟩:=Zt hx
 obtain⟨_,o2,o3⟩:=h.ok i hi
 rw[List.getD,List.getD,Z1 hi,Zb] at o3
 rw[←o3]
 exact zkK hS o2 hs
def zoh(d:DFA)(m:Nat)(S:List Nat)(i:Nat):List Int:=(List.range m).map fun a=>((S.idxOf (mvN d (S.getD i 0) a):Nat):Int)
def zAm(d:DFA)(m:Nat)(S:List Nat):List (List Int):=(List.range S.length).map (zoh d m S)
def zsZ(S:List Nat)(st:RS):List Bool:=(List.range S.length).map fun i=>decide (S.getD i 0∈st.1)
def zjJ(S:List Nat)(st:RS):List ByteArray:=(List.range S.length).map fun i=>z7X st (S.getD i 0)
def zh0(S:List Nat)(st:RS):List Int:=toI (st.1.map S.idxOf)
theorem zsA(h:k<st.1.length):atI (zh0 S st) (k:Int)=some ((S.idxOf (st.1.getD k 0):Nat):Int):=by
 unfold zh0
 rw[z1u (by simpa using h)]
 simp[List.getD,h]
theorem zkH{s:Nat}(hd:DfaOk d m n)(hn:n<=12)(hS:SetsP d m n S)(hs:s∈S)(h:RInv d m n s st)(hk:k<st.1.length):
 z0k (z2z (k:Int) (zoh d m S (S.idxOf (st.1.getD k 0)))) LFm (0,zsZ S st,zjJ S st,zh0 S st)=z0c (((k+1:Nat):Int),zsZ S (z9M d k st m),zjJ S (z9M d k st m),zh0 S (z9M d k st m)):=by
 have h12:=zfV hn
 have hm6:=hd.m6
 have hSl:=z2n hS.nd hS.lt
 refine z0x (s:=((0:Int),zsZ S st,zjJ S st,zh0 S st)) m (fun a=>((a:Int),zsZ S (z9M d k st a),zjJ S (z9M d k st a),zh0 S (z9M d k st a))) rfl (by simp only[LFm];omega) (fun a ha=> ?_) ?_
 · obtain⟨k1,_,X,W,k3,k4⟩:=ziZ hd h hk a (by omega)
   have hk':k<(z9M d k st a).1.length:=by rw[k3,Za];omega
   have hl:=z2n k1.nd k1.lt
   have eg:(z9M d k st a).1.getD k 0=st.1.getD k 0:=by rw[k3,z8x _ hk]
   have hkS:st.1.getD k 0∈S:=zu7 hS hs h (z0f hk)
   have hxS:mvN d (st.1.getD k 0) a∈S:=hS.cl _ hkS a ha
   obtain⟨o1,_,_⟩:=k1.ok k hk'
   have hwk:z7X (z9M d k st a) (st.1.getD k 0)=(z9M d k st a).2.getD k ByteArray.empty:=by
    unfold z7X;rw[←eg,zbQ k1.nd hk']
   simp only[z2z]
   rw[if_pos (by simp[zoh];omega),zoh,z2E ha,Z0,z4i hkS,zsZ,z2E (z6j hxS),Z0,z4i hxS,z1g (by omega),z9M]
   unfold zky
   rw[eg]
   simp only[decide_eq_true_eq]
   by_cases hm:mvN d (st.1.getD k 0) a∈(z9M d k st a).1
   · rw[if_pos hm,if_pos hm];rfl
   · rw[if_neg hm,if_neg hm,zsA hk',Z0,eg,zjJ,z2E (z6j hkS),Z0,z4i hkS,hwk,ziT (by omega),z0j _ (by unfold z9O;rw[z7q];omega),z2E (z6j hxS),Z0,z0j _ (by unfold z1B zh0;rw[z0b,Zh];omega),Z3]
     congr 1
     refine XK rfl (XK ?_ (XK ?_ ?_))
     · simp only[zsZ]
       apply Zf (by simp)
       intro i i1 i2
       have hi:i<S.length:=by simpa using i2
       simp only[Y9,ZG,ZQ,Ze,Zj]
       by_cases e:S.idxOf (mvN d (st.1.getD k 0) a)=i
       · subst e;rw[if_pos rfl,z4i hxS];simp
       · rw[if_neg e]
         have:S.getD i 0≠mvN d (st.1.getD k 0) a:=fun hh=>e (by rw[←hh,zbQ hS.nd hi])
         simp only[this,or_false]
     · simp only[zjJ]
       apply Zf (by simp)
       intro i i1 i2
       have hi:i<S.length:=by simpa using i2
       simp only[Y9,ZG,ZQ]
       rw[zm5 k1.len hm]
       by_cases e:S.idxOf (mvN d (st.1.getD k 0) a)=i
       · subst e;rw[if_pos rfl,z4i hxS,if_pos rfl]
       · have:S.getD i 0≠mvN d (st.1.getD k 0) a:=fun hh=>e (by rw[←hh,zbQ hS.nd hi])
         rw[if_neg e,if_neg this]
     · simp only[zh0,ZY,Zs,Ys]
       rw[z5B]
 · simp only[z2z]
   have:=z2n h.nd h.lt
   rw[if_neg (by simp[zoh]),z1g (by omega)]
theorem zfM(hd:DfaOk d m n)(hn:n<=12)(hS:SetsP d m n S)(bl:List (List Bool))(hj:j<S.length):
 z2e ⟨toI S,zAm d m S,bl⟩ (j:Int)=some (zh0 S (z1C d m n (S.getD j 0)),zjJ S (z1C d m n (S.getD j 0))):=by
 have h12:=zfV hn
 have hp:=Yv n
 have hSl:=z2n hS.nd hS.lt
 have hs:S.getD j 0∈S:=z0f hj
 have hs2:S.getD j 0<2^n:=hS.lt _ hs
 unfold z2e
 simp only
 rw[z0b,z0j _ (by unfold z0X;omega),z0j _ (by unfold z0X;omega),z0j _ (by omega),Z3,Z3]
 have e1:(List.replicate S.length false).set j true=zsZ S (z8v d m (S.getD j 0) 0):=by
  apply Zf (by simp[zsZ])
  intro i i1 i2
  have hi:i<S.length:=by simpa using i1
  simp only[zsZ,z8v,Y9,ZG,ZQ,List.getElem_replicate,Zj]
  by_cases e:j=i
  · subst e;simp
  · rw[if_neg e]
    have:S.getD i 0≠S.getD j 0:=fun hh=>e (z6G hS.nd hi hj hh).symm
    symm;simpa using this
 have e2:List.replicate S.length (ByteArray.empty:ByteArray)=zjJ S (z8v d m (S.getD j 0) 0):=by
  apply Zf (by simp[zjJ])
  intro i i1 i2
  simp only[zjJ,z8v,ZG,ZQ,List.getElem_replicate,z7X]
  generalize List.idxOf (S.getD i 0) [S.getD j 0]=q
  cases q<;>rfl
 have e3: [(j:Int)]=zh0 S (z8v d m (S.getD j 0) 0):=by
  simp only[zh0,z8v,Zs,Ys,zbQ hS.nd hj];rfl
 rw[e1,e2,e3]
 refine ziO (s:=((0:Int),zsZ S (z8v d m (S.getD j 0) 0),zjJ S (z8v d m (S.getD j 0) 0),zh0 S (z8v d m (S.getD j 0) 0))) (fun z=>∃k:Nat,k<=2^n/\z=((k:Int),zsZ S (z8v d m (S.getD j 0) k),zjJ S (z8v d m (S.getD j 0) k),zh0 S (z8v d m (S.getD j 0) k))) (fun z=>2^n+1-z.1.toNat) ⟨0,by omega,rfl⟩ (by simp only[LFm];omega) ?_
 rintro z ⟨k,hk,rfl⟩
 have hl:=zmz hd hs2 k
 have hqs:(zh0 S (z8v d m (S.getD j 0) k)).length=(z8v d m (S.getD j 0) k).1.length:=by simp[zh0,toI]
 simp only[z4L]
 by_cases h:k<(z8v d m (S.getD j 0) k).1.length
 · left
   have hinv:=(zbD hd hs2 k).1
   have hkS:(z8v d m (S.getD j 0) k).1.getD k 0∈S:=zu7 hS hs hinv (z0f h)
   rw[if_pos (by rw[hqs];omega),zsA h,Z0,zAm,z2E (z6j hkS),Z0,zkH hd hn hS hs hinv h]
   refine⟨_,rfl,⟨k+1,by omega,?_⟩,by simp only;omega⟩
   rw[z8v,if_pos h]
 · right
   rw[if_neg (by rw[hqs];omega)]
   unfold z1C
   rw[zix h _ hk]
end
section
open Go
variable{d:DFA}{S:List Nat}{i j k m n:Nat}
def z7w(d:DFA)(m n:Nat)(S:List Nat)(i j:Nat):Bool:=(z1C d m n (S.getD j 0)).1.any fun x=>decide (S.getD i 0&&&x=S.getD i 0)
def zxl(d:DFA)(m n:Nat)(S:List Nat):List (List Bool):=(List.range S.length).map fun i=>(List.range S.length).map (z7w d m n S i)
def dgm(d:DFA)(m n:Nat)(S:List Nat):Dgm:=⟨toI S,zAm d m S,zxl d m n S⟩
theorem z4f(hd:DfaOk d m n)(hS:SetsP d m n S)(hj:j<S.length):z7w d m n S i j=true↔zrj d m (S.getD i 0) (S.getD j 0):=by
 rw[zv9 hd (hS.lt _ (z0f hj))]
 unfold z7w z7D
 simp
def zrh(n:Nat)(S:List Nat)(k:Nat):List Int:=(List.range (2^n)).map fun x=>if x∈S.take k then((S.idxOf x:Nat):Int) else 0
theorem zwJ(hS:S.Nodup)(hk:k<S.length):(zrh n S k).set (S.getD k 0) (k:Int)=zrh n S (k+1):=by
 have hg:S.getD k 0=S[k]:=by rw[List.getD,Z1 hk,Zb]
 apply Zf (by simp[zrh])
 intro i h1 h2
 simp only[zrh,Y9,ZG,ZQ]
 rw[ZA hk]
 simp only[Ze,Zj]
 by_cases e:S.getD k 0=i
 · rw[if_pos e,if_pos (.inr (by rw[←hg];exact e.symm)),←e,zbQ hS hk]
 · rw[if_neg e]
   have:¬i=S[k]:=fun h=>e (by rw[hg];exact h.symm)
   simp[this]
theorem zy8{x:Nat}(h:x<2^n):atI (zrh n S k) (x:Int)=some (if x∈S.take k then((S.idxOf x:Nat):Int) else 0):=by
 unfold zrh;rw[z2E h]
theorem zqp(hd:DfaOk d m n)(hn:n<=12)(hS:SetsP d m n S)(hi:i<S.length):
 z0k (z3q d (toI S) (zrh n S S.length) (i:Int) (z3b S.length (fun _=>List.replicate S.length false) [] i) ((S.getD i 0:Nat):Int)) LFm (0,(z3b S.length (zoh d m S) [] i).set i (List.replicate m 0))=
  z0c (((i+1:Nat):Int),z3b S.length (zoh d m S) [] (i+1),z3b S.length (fun _=>List.replicate S.length false) [] (i+1)):=by
 have h12:=zfV hn
 have hm6:=hd.m6
 have hSl:=z2n hS.nd hS.lt
 have hx:S.getD i 0∈S:=z0f hi
 refine z0x (s:=((0:Int),(z3b S.length (zoh d m S) [] i).set i (List.replicate m 0))) m (fun a=>((a:Int),(z3b S.length (zoh d m S) [] i).set i (z3b m (fun a=>((S.idxOf (mvN d (S.getD i 0) a):Nat):Int)) 0 a))) (by rw[zcR];rfl) (by simp only[LFm];omega) (fun a ha=> ?_) ?_
 · have hmv:mvN d (S.getD i 0) a∈S:=hS.cl _ hx a ha
   simp only[z3q]
   rw[if_pos (by rw[hd.lt];omega),zo5 (by rw[zeL];exact hi),Z0,zsW hd hn (hS.lt _ hx) ha,Z0,zy8 (hS.lt _ hmv),Z0,Yr,if_pos hmv,zae ha,Z0,z1g (by omega),Z3,Z3,zmy]
   rw[z7O (f:=fun a=>((S.idxOf (mvN d (S.getD i 0) a):Nat):Int)) (z:=0) ha]
 · simp only[z3q]
   rw[if_neg (by rw[hd.lt];omega),z0b,z0j _ (by unfold z0X;omega),zae hi,Z0,z1g (by omega),Z3,Z3,zcQ]
   have e1:=z7O (f:=zoh d m S) (z:= []) hi
   have e2:=z7O (f:=fun _=>List.replicate S.length false) (z:= []) hi
   rw[show((List.range m).map fun a=>((S.idxOf (mvN d (S.getD i 0) a):Nat):Int))=zoh d m S i from rfl,e1,e2]
def zeR(d:DFA)(m n:Nat)(S:List Nat)(j i:Nat):List (List Bool):=(List.range S.length).map fun i'=>z3b S.length (z7w d m n S i') false (if i'<i then j+1 else j)
theorem zEH:zeR d m n S j S.length=zeR d m n S (j+1) 0:=by
 unfold zeR
 refine ZB fun i hi=> ?_
 rw[if_pos (Zk.1 hi),if_neg (by omega)]
theorem zxp{α:Type}(p:α->Bool)(l:List α)(d:α):((List.range l.length).find? fun k=>p (l.getD k d)).isSome=l.any p:=by
 rw[Yf,Yg]
 rw[List.find?_isSome]
 constructor
 · rintro⟨k,hk,h⟩
   have hk:=Zk.1 hk
   exact⟨_,by rw[List.getD,Z1 hk,Zb];exact Zw hk,h⟩
 · rintro⟨x,hx,h⟩
   obtain⟨i,hi,rfl⟩:=Zt hx
   exact⟨i,Zk.2 hi,by rw[List.getD,Z1 hi,Zb];exact h⟩
theorem zv8(hd:DfaOk d m n)(hn:n<=12)(hS:SetsP d m n S)(hi:i<S.length)(hj:j<S.length)(w:List ByteArray):
 z0k (z3p (toI S) (j:Int) (zh0 S (z1C d m n (S.getD j 0)),w) (i:Int) (zeR d m n S j i) ((S.getD i 0:Nat):Int)) LFm 0=z0c (((i+1:Nat):Int),zeR d m n S j (i+1)):=by
 have h12:=zfV hn
 have hSl:=z2n hS.nd hS.lt
 have hjS:=z0f hj
 have hinv:=z6u hd (hS.lt _ hjS)
 have hl:=z2n hinv.nd hinv.lt
 have hx62:S.getD i 0<2^n:=hS.lt _ (z0f hi)
 have hcol:z7w d m n S i j=true->(zeR d m n S j i).set i ((z3b S.length (z7w d m n S i) false j).set j true)=zeR d m n S j (i+1):=fun hb=>by
  have e:=z7O (f:=z7w d m n S i) (z:=false) hj
  rw[hb] at e
  rw[e]
  apply Zf (by simp[zeR])
  intro k h1 h2
  simp only[zeR,Y9,ZG,ZQ]
  by_cases ek:i=k
  · subst ek;rw[if_pos rfl,if_pos (by omega)]
  · rw[if_neg ek]
    by_cases e2:k<i
    · rw[if_pos e2,if_pos (by omega)]
    · rw[if_neg e2,if_neg (by omega)]
 have hcol0:z7w d m n S i j=false->zeR d m n S j i=zeR d m n S j (i+1):=fun hb=>by
  unfold zeR
  refine ZB fun k hk=> ?_
  by_cases ek:k=i
  · subst ek;rw[if_neg (by omega),if_pos (by omega)];exact zux hb
  · by_cases e2:k<i
    · rw[if_pos e2,if_pos (by omega)]
    · rw[if_neg e2,if_neg (by omega)]
 rw[z7p (s:=(0:Int)) (z1C d m n (S.getD j 0)).1.length (fun k=>(k:Int)) (fun k=>decide (S.getD i 0&&&(z1C d m n (S.getD j 0)).1.getD k 0=S.getD i 0)) (fun _=>z0c (((i+1:Nat):Int),(zeR d m n S j i).set i ((z3b S.length (z7w d m n S i) false j).set j true))) (x:=z0c (((i+1:Nat):Int),zeR d m n S j i)) rfl (by simp only[LFm];omega)]
 · have ha:((List.range (z1C d m n (S.getD j 0)).1.length).find? fun k=>decide (S.getD i 0&&&(z1C d m n (S.getD j 0)).1.getD k 0=S.getD i 0)).isSome=z7w d m n S i j:=zxp (fun x=>decide (S.getD i 0&&&x=S.getD i 0)) (z1C d m n (S.getD j 0)).1 0
   revert ha
   cases(List.range (z1C d m n (S.getD j 0)).1.length).find? fun k=>decide (S.getD i 0&&&(z1C d m n (S.getD j 0)).1.getD k 0=S.getD i 0) with
   |none=>intro ha;simp only;rw[hcol0 (by simpa using ha.symm)]
   |some k=>intro ha;simp only;rw[hcol (by simpa using ha.symm)]
 · intro k hk
   have hkS:(z1C d m n (S.getD j 0)).1.getD k 0∈S:=zu7 hS hjS hinv (z0f hk)
   have hqs:(zh0 S (z1C d m n (S.getD j 0))).length=(z1C d m n (S.getD j 0)).1.length:=by simp[zh0,toI]
   have h62:=hS.lt _ hkS
   simp only[z3p]
   rw[if_pos (by rw[hqs];omega),zsA hk,Z0,z1u (z6j hkS),z4i hkS,Z0,zbU (by omega) (by omega),Z0]
   simp only[decide_eq_true_eq]
   split
   · rw[zeR,z2E hi,Z0,zae hj,Z0,z1g (by omega),if_neg (by omega:¬i<i),Z3,Z3]
   · rw[z1g (by omega)]
 · have hqs:(zh0 S (z1C d m n (S.getD j 0))).length=(z1C d m n (S.getD j 0)).1.length:=by simp[zh0,toI]
   simp only[z3p]
   rw[if_neg (by rw[hqs];omega),z1g (by omega)]
theorem zr1(hd:DfaOk d m n)(hn:n<=12)(hS:SetsP d m n S):z4K d (toI S)=some (dgm d m n S):=by
 have h12:=zfV hn
 have hm6:=hd.m6
 have hp:=Yv n
 have hSl:=z2n hS.nd hS.lt
 unfold z4K
 rw[hd.fin,z0j _ (by omega),z8t (by omega),z0j _ (by unfold z0X;omega),Z3]
 have e0:List.replicate (2^n) (0:Int)=zrh n S 0:=by
  apply Zf (by simp[zrh]);intro i h1 h2;simp[zrh]
 rw[e0]
 refine z0x (s:=((0:Int),zrh n S 0)) S.length (fun k=>((k:Int),zrh n S k)) rfl (by simp only[LFm];omega) (fun k hk=> ?_) ?_
 · simp only[z4D]
   rw[if_pos (by rw[z0b];omega),z1u hk,Z0,zy8 (hS.lt _ (z0f hk)),Z0,z1g (by omega),Z3,zwJ hS.nd hk]
 · simp only[z4D]
   rw[if_neg (by rw[z0b];omega),z0b,z0j _ (by unfold z0X;omega),Z3]
   congr 1
   have f1:List.replicate S.length ([]:List Int)=z3b S.length (zoh d m S) [] 0:=(zcR _ _ _).symm
   have f2:List.replicate S.length ([]:List Bool)=z3b S.length (fun _=>List.replicate S.length false) [] 0:=(zcR _ _ _).symm
   rw[f1,f2]
   refine z0x (s:=((0:Int),z3b S.length (zoh d m S) [] 0,z3b S.length (fun _=>List.replicate S.length false) [] 0)) S.length (fun k=>((k:Int),z3b S.length (zoh d m S) [] k,z3b S.length (fun _=>List.replicate S.length false) [] k)) rfl (by simp only[LFm];omega) (fun k hk=> ?_) ?_
   · simp only[z4C]
     rw[if_pos (by rw[z0b];omega),z1u hk,Z0,hd.lt,z0j _ (by unfold z0X;omega),zae hk,Z0,Z3,Z3,zqp hd hn hS hk]
   · simp only[z4C]
     rw[if_neg (by rw[z0b];omega),zcQ,zcQ]
     congr 1
     have f3:((List.range S.length).map fun _=>List.replicate S.length false)=zeR d m n S 0 0:=by
      unfold zeR
      refine ZB fun i hi=> ?_
      rw[if_neg (by omega),zcR]
     rw[f3]
     refine z0x (s:=((0:Int),zeR d m n S 0 0)) S.length (fun j=>((j:Int),zeR d m n S j 0)) rfl (by simp only[LFm];omega) (fun j hj=> ?_) ?_
     · simp only[z4n]
       rw[if_pos (by rw[z0b];omega)]
       have es:=zfM hd hn hS (zeR d m n S j 0) hj
       unfold zAm at es
       rw[es,Z0]
       refine z0x (s:=((0:Int),zeR d m n S j 0)) S.length (fun i=>((i:Int),zeR d m n S j i)) rfl (by simp only[LFm];omega) (fun i hi=> ?_) ?_
       · simp only[z4m]
         rw[if_pos (by rw[z0b];omega),z1u hi,Z0,zv8 hd hn hS hi hj]
       · simp only[z4m]
         rw[if_neg (by rw[z0b];omega),z1g (by omega),zEH]
     · simp only[z4n]
       rw[if_neg (by rw[z0b];omega)]
       have f4:zeR d m n S S.length 0=zxl d m n S:=by
        unfold zeR zxl
        refine ZB fun i hi=> ?_
        rw[if_neg (by omega),zcQ]
       rw[f4];rfl
end
section
open Go
structure EqvN(N:Nat)(e:Nat->Nat->Bool):Prop where
 refl:∀i,i<N->e i i=true
 symm:∀i j,i<N->j<N->e i j=true->e j i=true
 trans:∀i j k,i<N->j<N->k<N->e i j=true->e j k=true->e i k=true
variable{d:DFA}{S:List Nat}{N i m n:Nat}{e:Nat->Nat->Bool}
def z1e(e:Nat->Nat->Bool):Nat->List Nat
 |0=> []
 |i+1=>if(z1e e i).any (e i)=true then z1e e i else z1e e i++ [i]
def z9c(e:Nat->Nat->Bool)(N i:Nat):Nat:=(z1e e N).findIdx (e i)
theorem zdN(e:Nat->Nat->Bool){i:Nat}:∀j,i<=j->∃R,z1e e j=z1e e i++R
 |0,h=>by
  obtain rfl:i=0:=by omega
  exact⟨[],by simp⟩
 |j+1,h=>by
  by_cases e0:i=j+1
  · subst e0;exact⟨[],by simp⟩
  · obtain⟨R,hR⟩:=zdN e (i:=i) j (by omega)
    rw[show z1e e (j+1)=if(z1e e j).any (e j)=true then z1e e j else z1e e j++ [j] from rfl]
    split
    · exact⟨R,hR⟩
    · exact⟨R++ [j],by rw[hR,Zo]⟩
theorem zbf(e:Nat->Nat->Bool):∀i,∀f∈z1e e i,f<i
 |0,f,h=>by simp[z1e] at h
 |i+1,f,h=>by
  unfold z1e at h
  split at h
  · have:=zbf e i f h;omega
  · rcases Ze.1 h with h|h
    · have:=zbf e i f h;omega
    · have:=Zj.1 h;omega
theorem z5w(e:Nat->Nat->Bool):∀i,(z1e e i).length<=i
 |0=>by simp[z1e]
 |i+1=>by
  have:=z5w e i
  unfold z1e
  split
  · omega
  · rw[Za,ZE];omega
theorem zab{N:Nat}{e:Nat->Nat->Bool}(he:EqvN N e):∀i,i<=N->(z1e e i).Pairwise fun f g=>e f g=false/\e g f=false
 |0,_=>by simp[z1e]
 |i+1,hi=>by
  have ih:=zab he i (by omega)
  unfold z1e
  split
  · exact ih
  · rename_i h
    refine YB.2 ⟨ih,by simp,fun a ha b hb=> ?_⟩
    obtain rfl:=Zj.1 hb
    have hlt:=zbf e b a ha
    have h1:e b a=false:=by
     cases hh:e b a with
     |false=>rfl
     |true=>exact absurd (Yg.2 ⟨a,ha,hh⟩) h
    refine⟨?_,h1⟩
    cases hh:e a b with
    |false=>rfl
    |true=>rw[he.symm a b (by omega) (by omega) hh] at h1;cases h1
theorem zjb(he:EqvN N e){c c':Nat}{l:List Nat}(hl:l.Pairwise fun f g=>e f g=false/\e g f=false)(hlt:∀f∈l,f<N)(hi:i<N)(hc:c<l.length)(hc':c'<l.length)(h:e i (l.getD c 0)=true)(h':e i (l.getD c' 0)=true):c=c':=by
 have m1:l.getD c 0<N:=hlt _ (z0f hc)
 have m2:l.getD c' 0<N:=hlt _ (z0f hc')
 have hcc:=he.trans _ _ _ m1 hi m2 (he.symm _ _ hi m1 h) h'
 rcases Xu c c' with hlt'|rfl|hlt'
 · have:=(ZK.1 hl c c' hc hc' hlt').1
   rw[List.getD,List.getD,Z1 hc,Z1 hc',Zb,Zb,this] at hcc
   cases hcc
 · rfl
 · have:=(ZK.1 hl c' c hc' hc hlt').2
   rw[List.getD,List.getD,Z1 hc,Z1 hc',Zb,Zb,this] at hcc
   cases hcc
theorem zyf(he:EqvN N e)(hi:i<N):(z1e e i).findIdx (e i)=z9c e N i:=by
 unfold z9c
 obtain⟨R,hR⟩:=zdN e (i:=i+1) N (by omega)
 rw[hR]
 by_cases h:(z1e e i).any (e i)=true
 · have:z1e e (i+1)=z1e e i:=by rw[z1e,if_pos h]
   rw[this,List.findIdx_append,if_pos]
   obtain⟨x,hx,hp⟩:=Yg.1 h
   exact YL ⟨x,hx,hp⟩
 · have e1:z1e e (i+1)=z1e e i++ [i]:=by rw[z1e,if_neg h]
   have e2:(z1e e i).findIdx (e i)=(z1e e i).length:=List.findIdx_eq_length.2 fun x hx=>by
    cases hh:e i x with
    |false=>rfl
    |true=>exact absurd (Yg.2 ⟨x,hx,hh⟩) h
   rw[e1,Zo,List.findIdx_append,if_neg (by rw[e2];omega),XI,List.findIdx_cons,he.refl i hi,e2]
   simp
theorem zbV(he:EqvN N e)(hi:i<N):z9c e N i<(z1e e N).length/\e i ((z1e e N).getD (z9c e N i) 0)=true:=by
 have hex:∃x∈z1e e N,e i x=true:=by
  obtain⟨R,hR⟩:=zdN e (i:=i+1) N (by omega)
  by_cases h:(z1e e i).any (e i)=true
  · obtain⟨x,hx,hp⟩:=Yg.1 h
    refine⟨x,?_,hp⟩
    rw[hR,z1e,if_pos h]
    exact Ze.2 (.inl hx)
  · refine⟨i,?_,he.refl i hi⟩
    rw[hR,z1e,if_neg h];simp
 have hlt:z9c e N i<(z1e e N).length:=YL hex
 refine⟨hlt,?_⟩
 rw[List.getD,Z1 hlt,Zb]
 exact Xh (w:=hlt)
theorem zA2(he:EqvN N e){j:Nat}(hi:i<N)(hj:j<N):z9c e N i=z9c e N j↔e i j=true:=by
 obtain⟨a1,a2⟩:=zbV he hi
 obtain⟨b1,b2⟩:=zbV he hj
 have hF:=zbf e N
 have m1:=hF _ (z0f a1)
 constructor
 · intro h
   rw[←h] at b2
   exact he.trans _ _ _ hi m1 hj a2 (he.symm _ _ hj m1 b2)
 · intro h
   exact zjb he (zab he N (Z5 _)) hF hj a1 b1 (he.trans _ _ _ hj hi m1 (he.symm _ _ hi hj h) a2) b2
def z2u(d:DFA)(m n:Nat)(S:List Nat)(i j:Nat):Bool:=z7w d m n S i j&&z7w d m n S j i
theorem z8Y(hd:DfaOk d m n)(hS:SetsP d m n S):EqvN S.length (z2u d m n S) where
 refl i hi:=by
  have:=(z4f hd hS hi (i:=i)).2 (zd2 d m _)
  simp[z2u,this]
 symm i j hi hj h:=by
  simp only[z2u,Z6] at h⊢
  exact⟨h.2,h.1⟩
 trans i j k hi hj hk h1 h2:=by
  simp only[z2u,Z6] at h1 h2⊢
  exact⟨(z4f hd hS hk).2 (zd1 hd ((z4f hd hS hj).1 h1.1) ((z4f hd hS hk).1 h2.1)),(z4f hd hS hi).2 (zd1 hd ((z4f hd hS hj).1 h2.2) ((z4f hd hS hi).1 h1.2))⟩
theorem zpa(hi:i<S.length):atI (zxl d m n S) (i:Int)=some ((List.range S.length).map (z7w d m n S i)):=z2E hi
def zuR(d:DFA)(m n:Nat)(S:List Nat):List Int:=(List.range S.length).map fun i=>((z9c (z2u d m n S) S.length i:Nat):Int)
def z6n(d:DFA)(m n:Nat)(S:List Nat):List Nat:=z1e (z2u d m n S) S.length
theorem zr7(hd:DfaOk d m n)(hn:n<=12)(hS:SetsP d m n S):z2V (dgm d m n S)=some (zuR d m n S,toI (z6n d m n S)):=by
 have h12:=zfV hn
 have hSl:=z2n hS.nd hS.lt
 have he:=z8Y hd hS
 unfold z2V
 have ed:(dgm d m n S).sets=toI S:=rfl
 have eb:(dgm d m n S).below=zxl d m n S:=rfl
 rw[ed,z0b,z0j _ (by unfold z0X;omega),Z3]
 have f1:List.replicate S.length (0:Int)=z3b S.length (fun i=>((z9c (z2u d m n S) S.length i:Nat):Int)) 0 0:=(zcR _ _ _).symm
 rw[f1]
 refine z0x (s:=((0:Int),z3b S.length (fun i=>((z9c (z2u d m n S) S.length i:Nat):Int)) 0 0,([]:List Int))) S.length (fun k=>((k:Int),z3b S.length (fun i=>((z9c (z2u d m n S) S.length i:Nat):Int)) 0 k,toI (z1e (z2u d m n S) k))) rfl (by simp only[LFm];omega) (fun i hi=> ?_) ?_
 · have hF:=z5w (z2u d m n S) i
   have hFl:=zbf (z2u d m n S) i
   have hap:=zab he i (by omega)
   have hcl:=zyf he hi
   simp only[z3i]
   rw[ed,if_pos (by rw[z0b];omega),zae hi,Z0,z0b,Z3]
   generalize hL:z3b S.length (fun i=>((z9c (z2u d m n S) S.length i:Nat):Int)) 0 i=L at*
   have hLl:L.length=S.length:=by rw[←hL,zeL]
   have hstep:∀c,c<(z1e (z2u d m n S) i).length->(z2u d m n S i ((z1e (z2u d m n S) i).getD c 0)=true↔(z1e (z2u d m n S) i).findIdx (z2u d m n S i)=c):=fun c hc=>by
    constructor
    · intro h
      have hex:(z1e (z2u d m n S) i).findIdx (z2u d m n S i)<(z1e (z2u d m n S) i).length:=YL ⟨_,z0f hc,h⟩
      have hp:z2u d m n S i ((z1e (z2u d m n S) i).getD ((z1e (z2u d m n S) i).findIdx (z2u d m n S i)) 0)=true:=by
       rw[List.getD,Z1 hex,Zb]
       exact Xh (w:=hex)
      exact zjb he hap (fun f hf=>by have:=hFl f hf;omega) hi hex hc hp h
    · intro h
      have hex:(z1e (z2u d m n S) i).findIdx (z2u d m n S i)<(z1e (z2u d m n S) i).length:=by omega
      have hp:z2u d m n S i ((z1e (z2u d m n S) i)[(z1e (z2u d m n S) i).findIdx (z2u d m n S i)])=true:=Xh (w:=hex)
      rw[←h,List.getD,Z1 hex,Zb]
      exact hp
   refine z0x (s:=((0:Int),L.set i (((z1e (z2u d m n S) i).length:Nat):Int))) (z1e (z2u d m n S) i).length (fun c=>((c:Int),L.set i (((if(z1e (z2u d m n S) i).findIdx (z2u d m n S i)<c then(z1e (z2u d m n S) i).findIdx (z2u d m n S i) else(z1e (z2u d m n S) i).length:Nat)):Int))) (by simp) (by simp only[LFm];omega) (fun c hc=> ?_) ?_
   · have hf:=hFl _ (z0f hc)
     simp only[z3h]
     rw[eb,if_pos (by rw[z0b];omega),z1u hc,Z0,zpa hi,Z0,z2E (by omega),Z0,z1g (by omega)]
     by_cases h1:z7w d m n S i ((z1e (z2u d m n S) i).getD c 0)=true
     · rw[if_pos h1,zpa (by omega),Z0,z2E hi,Z0]
       by_cases h2:z7w d m n S ((z1e (z2u d m n S) i).getD c 0) i=true
       · have:=(hstep c hc).1 ((Z6 _ _).mpr ⟨h1,h2⟩)
         rw[if_pos h2,zo5 (by omega),Z0,Z3,zmy,this,if_pos (by omega)]
       · have:¬(z1e (z2u d m n S) i).findIdx (z2u d m n S i)=c:=fun h=>by
          have:=(hstep c hc).2 h
          simp only[z2u,Z6] at this
          exact h2 this.2
         rw[if_neg h2]
         congr 3
         by_cases h3:(z1e (z2u d m n S) i).findIdx (z2u d m n S i)<c
         · rw[if_pos h3,if_pos (by omega)]
         · rw[if_neg h3,if_neg (by omega)]
     · have:¬(z1e (z2u d m n S) i).findIdx (z2u d m n S i)=c:=fun h=>by
        have:=(hstep c hc).2 h
        simp only[z2u,Z6] at this
        exact h1 this.1
       rw[if_neg h1]
       congr 3
       by_cases h3:(z1e (z2u d m n S) i).findIdx (z2u d m n S i)<c
       · rw[if_pos h3,if_pos (by omega)]
       · rw[if_neg h3,if_neg (by omega)]
   · have hle:(z1e (z2u d m n S) i).findIdx (z2u d m n S i)<=(z1e (z2u d m n S) i).length:=List.findIdx_le_length
     have hv:(if(z1e (z2u d m n S) i).findIdx (z2u d m n S i)<(z1e (z2u d m n S) i).length then(z1e (z2u d m n S) i).findIdx (z2u d m n S i) else(z1e (z2u d m n S) i).length)=(z1e (z2u d m n S) i).findIdx (z2u d m n S i):=by split<;>omega
     have hset:L.set i ((z9c (z2u d m n S) S.length i:Nat):Int)=z3b S.length (fun i=>((z9c (z2u d m n S) S.length i:Nat):Int)) 0 (i+1):=by
      rw[←hL];exact z7O (f:=fun i=>((z9c (z2u d m n S) S.length i:Nat):Int)) (z:=0) hi
     simp only[z3h]
     rw[if_neg (by rw[z0b];omega),hv,zo5 (by omega),Z0,hcl,hset,z1g (by omega),z0b,z1e]
     by_cases h:(z1e (z2u d m n S) i).any (z2u d m n S i)=true
     · obtain⟨x,hx,hpx⟩:=Yg.1 h
       have:=YL ⟨x,hx,hpx⟩
       rw[if_pos h,if_neg (by omega)]
     · have e2:(z1e (z2u d m n S) i).findIdx (z2u d m n S i)=(z1e (z2u d m n S) i).length:=List.findIdx_eq_length.2 fun x hx=>by
        cases hh:z2u d m n S i x with
        |false=>rfl
        |true=>exact absurd (Yg.2 ⟨x,hx,hh⟩) h
       rw[if_neg h,if_pos (by omega),z0j _ (by unfold z1B;omega),z5B]
 · simp only[z3i]
   rw[ed,if_neg (by rw[z0b];omega),zcQ]
   rfl
end
section
open Go
def z8q(g:Nat->Nat):Nat->Nat
 |0=>0
 |k+1=>max (z8q g k) (g k)
theorem zon{g:Nat->Nat}{k j:Nat}(h:j<k):g j<=z8q g k:=by
 induction k with
 |zero=>omega
 |succ k ih=>
  simp only[z8q]
  by_cases e:j=k
  · subst e;omega
  · have:=ih (by omega);omega
theorem zbJ{g:Nat->Nat}{k b:Nat}(h:∀j,j<k->g j<=b):z8q g k<=b:=by
 induction k with
 |zero=>simp[z8q]
 |succ k ih=>
  have:=ih fun j hj=>h j (by omega)
  have:=h k (by omega)
  simp only[z8q];omega
theorem zmR{g g':Nat->Nat}{k:Nat}(h:∀j,j<k->g j=g' j):z8q g k=z8q g' k:=by
 induction k with
 |zero=>rfl
 |succ k ih=>simp only[z8q];rw[ih fun j hj=>h j (by omega),h k (by omega)]
def z5W(p:Nat->Bool):Nat->Nat
 |0=>0
 |k+1=>z5W p k+(if p k=true then 1 else 0)
theorem zoW(p:Nat->Bool)(k:Nat):z5W p k<=k:=by
 induction k with
 |zero=>simp[z5W]
 |succ k ih=>simp only[z5W];split<;>omega
theorem zoV{p q:Nat->Bool}{k:Nat}(h:∀j,j<k->p j=true->q j=true):z5W p k<=z5W q k:=by
 induction k with
 |zero=>simp[z5W]
 |succ k ih=>
  have:=ih fun j hj=>h j (by omega)
  have:=h k (by omega)
  simp only[z5W]
  by_cases h1:p k=true
  · grind
  · rw[if_neg h1];split<;>omega
theorem zif{p q:Nat->Bool}{k i:Nat}(h:∀j,j<k->p j=true->q j=true)(hi:i<k)(hp:p i=false)(hq:q i=true):z5W p k<z5W q k:=by
 induction k with
 |zero=>omega
 |succ k ih=>
  simp only[z5W]
  by_cases e:i=k
  · subst e
    have:=zoV (p:=p) (q:=q) (k:=i) fun j hj=>h j (by omega)
    rw[hp,hq];simp;omega
  · grind
structure BelN(N:Nat)(b:Nat->Nat->Bool):Prop where
 refl:∀i,i<N->b i i=true
 trans:∀i j k,i<N->j<N->k<N->b i j=true->b j k=true->b i k=true
variable{d:DFA}{S:List Nat}{N i m n:Nat}{b:Nat->Nat->Bool}
def ziU(N:Nat)(b:Nat->Nat->Bool)(i:Nat):Nat:=z5W (fun j=>b j i) N
def sbN(b:Nat->Nat->Bool)(j i:Nat):Bool:=b j i&& !b i j
theorem ztX(hb:BelN N b){j:Nat}(hi:i<N)(hj:j<N)(h:sbN b j i=true):ziU N b j<ziU N b i:=by
 simp only[sbN,Z6,Yb] at h
 exact zif (fun k hk hkj=>hb.trans k j i hk hj hi hkj h.1) hi h.2 (hb.refl i hi)
def zF0(N:Nat)(b:Nat->Nat->Bool)(z:Nat->Bool)(h:Nat->Nat):Prop:=∀i,i<N->h i=if z i=true then 0 else z8q (fun j=>if sbN b j i=true then h j+1 else 0) N
def zwN(N:Nat)(b:Nat->Nat->Bool)(z:Nat->Bool):Nat->Nat->Nat
 |0,_=>0
 |f+1,i=>if z i=true then 0 else z8q (fun j=>if sbN b j i=true then zwN N b z f j+1 else 0) N
def zoF(N:Nat)(b:Nat->Nat->Bool)(z:Nat->Bool)(i:Nat):Nat:=zwN N b z N i
theorem zi7{N:Nat}{b:Nat->Nat->Bool}(hb:BelN N b)(z:Nat->Bool):∀f i,i<N->ziU N b i<=f->∀g,ziU N b i<=g->zwN N b z f i=zwN N b z g i
 |0,i,hi,hl,g,hg=>by
  exfalso
  have:=zif (p:=fun _=>false) (q:=fun j=>b j i) (k:=N) (i:=i) (fun j _ hf=>by simp at hf) hi rfl (hb.refl i hi)
  unfold ziU at hl;omega
 |f+1,i,hi,hl,0,hg=>by
  exfalso
  have:=zif (p:=fun _=>false) (q:=fun j=>b j i) (k:=N) (i:=i) (fun j _ hf=>by simp at hf) hi rfl (hb.refl i hi)
  unfold ziU at hg;omega
 |f+1,i,hi,hl,g+1,hg=>by
  simp only[zwN]
  split
  · rfl
  · refine zmR fun j hj=> ?_
    by_cases hs:sbN b j i=true
    · have:=ztX hb hi hj hs
      rw[if_pos hs,if_pos hs,zi7 hb z f j hj (by omega) g (by omega)]
    · rw[if_neg hs,if_neg hs]
theorem zi8(hb:BelN N b)(z:Nat->Bool):zF0 N b z (zoF N b z):=fun i hi=>by
 have hl:ziU N b i<=N:=zoW _ _
 unfold zoF
 rw[zi7 hb z N i hi hl (N+1) (by omega)]
 rfl
theorem zy9(hb:BelN N b)(z:Nat->Bool)(hi:i<N):zoF N b z i<=N:=by
 have:∀L i,i<N->ziU N b i<=L->zoF N b z i<=L:=by
  intro L
  induction L with
  |zero=>
   intro i hi hl
   exfalso
   have:=zif (p:=fun _=>false) (q:=fun j=>b j i) (k:=N) (i:=i) (fun j _ hf=>by simp at hf) hi rfl (hb.refl i hi)
   unfold ziU at hl;omega
  |succ L ih=>
   intro i hi hl
   rw[zi8 hb z i hi]
   split
   · omega
   · refine zbJ fun j hj=> ?_
     by_cases hs:sbN b j i=true
     · have:=ztX hb hi hj hs
       have:=ih j hj (by omega)
       rw[if_pos hs];omega
     · rw[if_neg hs];omega
 exact this N i hi (zoW _ _)
theorem zlM(hd:DfaOk d m n)(hS:SetsP d m n S):BelN S.length (z7w d m n S) where
 refl i hi:=(z4f hd hS hi).2 (zd2 d m _)
 trans i j k hi hj hk h1 h2:=(z4f hd hS hk).2 (zd1 hd ((z4f hd hS hj).1 h1) ((z4f hd hS hk).1 h2))
theorem zs8{s:Nat}(h:s<128):z6W (s:Int)=some ((szN s:Nat):Int):=by
 unfold z6W z4T
 rw[zDw (by omega)]
 have:z3n (s:Int)=some ((szN s:Nat):Int):=by
  unfold z3n
  rw[z0j _ (by omega),z0j _ (by omega),z0j _ (by omega),z0j _ (by omega),z0j _ (by omega),z0j _ (by omega)]
  congr 1
  revert s
  decide+kernel
 rw[this];rfl
def zet(S:List Nat)(i:Nat):Bool:=decide (szN (S.getD i 0)=1)
def z7A(d:DFA)(m n:Nat)(S:List Nat)(i:Nat):Nat:=zoF S.length (z7w d m n S) (zet S) i
def zEs(d:DFA)(m n:Nat)(S:List Nat):List Int:=(List.range S.length).map fun i=>((z7A d m n S i:Nat):Int)
theorem zrJ(N:Nat):toI (List.range N)=(List.range N).map fun i=>((i:Nat):Int):=rfl
theorem zqw(hl:S.length<4611686018427387904)(hi:i<S.length)(C O:List Int)(L:List Int)(hL:L.length=S.length)(h0:L.getD i 0=0):
 z0k (z2s (dgm d m n S) (i:Int) O) LFm (0,L)=z0c (((i+1:Nat):Int),L.set i ((ziU S.length (z7w d m n S) i:Nat):Int),O.set i (i:Int)):=by
 refine z0x (s:=((0:Int),L)) S.length (fun k=>((k:Int),L.set i ((z5W (fun j=>z7w d m n S j i) k:Nat):Int))) ?_ (by simp only[LFm];omega) (fun k hk=> ?_) ?_
 · refine XK rfl ?_
   show L=L.set i 0
   apply Zf (by simp)
   intro j h1 h2
   rw[Y9]
   by_cases e:i=j
   · grind
   · rw[if_neg e]
 · have hc:=zoW (fun j=>z7w d m n S j i) k
   have ed:(dgm d m n S).sets=toI S:=rfl
   have eb:(dgm d m n S).below=zxl d m n S:=rfl
   simp only[z2s]
   rw[ed,eb,if_pos (by rw[z0b];omega),zpa hk,Z0,z2E hi,Z0,z1g (by omega)]
   simp only[z5W]
   by_cases h:z7w d m n S k i=true
   · rw[if_pos h,if_pos h,zo5 (by omega),Z0,Z3,zmy,z1g (by omega)]
   · rw[if_neg h,if_neg h];rfl
 · have ed:(dgm d m n S).sets=toI S:=rfl
   simp only[z2s]
   rw[ed,if_neg (by rw[z0b];omega),z1g (by omega),Z3]
   rfl
theorem zug(hd:DfaOk d m n)(hS:SetsP d m n S)(hl:S.length<100000)(k:Int)(hi:i<S.length){H:Nat->Nat}(h0:H i=0)(hlow:∀j,j<S.length->sbN (z7w d m n S) j i=true->H j=z7A d m n S j):
 z0k (z2o (dgm d m n S) (zuR d m n S) k (i:Int)) LFm (0,(List.range S.length).map fun j=>((H j:Nat):Int))=z0c (IntKind.i64.wrap (k+1),(List.range S.length).map fun j=>(((if j=i then z8q (fun j=>if sbN (z7w d m n S) j i=true then z7A d m n S j+1 else 0) S.length else H j):Nat):Int)):=by
 have he:=z8Y hd hS
 have hb:=zlM hd hS
 have ed:(dgm d m n S).sets=toI S:=rfl
 have eb:(dgm d m n S).below=zxl d m n S:=rfl
 refine z0x (s:=((0:Int),(List.range S.length).map fun j=>((H j:Nat):Int))) S.length (fun q=>((q:Int),(List.range S.length).map fun j=>(((if j=i then z8q (fun j=>if sbN (z7w d m n S) j i=true then z7A d m n S j+1 else 0) q else H j):Nat):Int))) ?_ (by simp only[LFm];omega) (fun q hq=> ?_) ?_
 · refine XK rfl ?_
   refine ZB fun j hj=> ?_
   by_cases e:j=i
   · subst e;simp[z8q,h0]
   · rw[if_neg e]
 · have hle:=zy9 hb (zet S) hq
   have hmx:z8q (fun j=>if sbN (z7w d m n S) j i=true then z7A d m n S j+1 else 0) q<=S.length+1:=zbJ fun j hj=>by
    have:=zy9 hb (zet S) (i:=j) (by omega)
    unfold z7A;split<;>omega
   have hse:z7w d m n S q i=true->(sbN (z7w d m n S) q i=true↔ ¬z9c (z2u d m n S) S.length q=z9c (z2u d m n S) S.length i):=fun h=>by
    rw[zA2 he hq hi]
    simp only[sbN,z2u,h,YN,Yb,XC]
   have hfin:∀v:Nat,v=(if sbN (z7w d m n S) q i=true then max (z8q (fun j=>if sbN (z7w d m n S) j i=true then z7A d m n S j+1 else 0) q) (z7A d m n S q+1) else z8q (fun j=>if sbN (z7w d m n S) j i=true then z7A d m n S j+1 else 0) q)->((List.range S.length).map fun j=>(((if j=i then v else H j):Nat):Int))=(List.range S.length).map fun j=>(((if j=i then z8q (fun j=>if sbN (z7w d m n S) j i=true then z7A d m n S j+1 else 0) (q+1) else H j):Nat):Int):=fun v hv=>by
    refine ZB fun j hj=> ?_
    by_cases e:j=i
    · rw[if_pos e,if_pos e,hv]
      simp only[z8q]
      by_cases h:sbN (z7w d m n S) q i=true
      · rw[if_pos h,if_pos h]
      · grind
    · rw[if_neg e,if_neg e]
   simp only[z2o]
   rw[ed,eb,if_pos (by rw[z0b];omega),zpa hq,Z0,z2E hi,Z0,z1g (by omega)]
   by_cases h:z7w d m n S q i=true
   · rw[if_pos h,zuR,z2E hq,Z0,z2E hi,Z0]
     by_cases hc:z9c (z2u d m n S) S.length q=z9c (z2u d m n S) S.length i
     · grind
     · have hs:=(hse h).2 hc
       have hqi:q≠i:=fun e=>by subst e;exact hc rfl
       rw[if_neg (by omega),z2E hi,Z0,z2E hq,Z0,if_pos rfl,if_neg hqi,hlow q hq hs,z1g (by unfold z7A;omega),Z3]
       have hset:∀v:Nat,((List.range S.length).map fun j=>(((if j=i then z8q (fun j=>if sbN (z7w d m n S) j i=true then z7A d m n S j+1 else 0) q else H j):Nat):Int)).set i (v:Int)=(List.range S.length).map fun j=>(((if j=i then v else H j):Nat):Int):=fun v=>by
        apply Zf (by simp)
        intro j h1 h2
        simp only[Y9,ZG,ZQ]
        by_cases e:i=j
        · grind
        · grind
       by_cases hlt:((z8q (fun j=>if sbN (z7w d m n S) j i=true then z7A d m n S j+1 else 0) q:Nat):Int)<((z7A d m n S q+1:Nat):Int)
       · rw[if_pos hlt,hset,hfin _ (by rw[if_pos hs];omega)]
       · rw[if_neg hlt,hset,hfin _ (by rw[if_pos hs];omega)]
   · have hs:¬sbN (z7w d m n S) q i=true:=fun hh=>by simp only[sbN,Z6] at hh;exact h hh.1
     rw[if_neg h,hfin _ (by rw[if_neg hs])]
 · simp only[z2o]
   rw[ed,if_neg (by rw[z0b];omega)]
theorem zqO(hd:DfaOk d m n)(hn:n<=7)(hS:SetsP d m n S):z2U (dgm d m n S) (zuR d m n S)=some (zEs d m n S):=by
 have h128:2^n<=128:=Zi (n:=2) (by omega) hn
 have hSl:=z2n hS.nd hS.lt
 have hb:=zlM hd hS
 have he:=z8Y hd hS
 have ed:(dgm d m n S).sets=toI S:=rfl
 unfold z2U
 rw[ed,z0b,z0j _ (by unfold z0X;omega),Z3]
 have f1:List.replicate S.length (0:Int)=z3b S.length (fun i=>((ziU S.length (z7w d m n S) i:Nat):Int)) 0 0:=(zcR _ _ _).symm
 have f2:(List.replicate S.length (0:Int))=z3b S.length (fun i=>((i:Nat):Int)) 0 0:=(zcR _ _ _).symm
 conv=>lhs;arg 3;rw[show((0:Int),List.replicate S.length (0:Int),List.replicate S.length (0:Int))=((0:Int),z3b S.length (fun i=>((ziU S.length (z7w d m n S) i:Nat):Int)) 0 0,z3b S.length (fun i=>((i:Nat):Int)) 0 0) by rw[←f1,←f2]]
 refine z0x (s:=((0:Int),z3b S.length (fun i=>((ziU S.length (z7w d m n S) i:Nat):Int)) 0 0,z3b S.length (fun i=>((i:Nat):Int)) 0 0)) S.length (fun k=>((k:Int),z3b S.length (fun i=>((ziU S.length (z7w d m n S) i:Nat):Int)) 0 k,z3b S.length (fun i=>((i:Nat):Int)) 0 k)) rfl (by simp only[LFm];omega) (fun i hi=> ?_) ?_
 · simp only[z3g]
   rw[ed,if_pos (by rw[z0b];omega),zae hi,Z0,zqw (by omega) hi [] _ _ (zeL _ _ _ _) (by simp[z3b,List.getD,hi])]
   have e1:=z7O (f:=fun i=>((ziU S.length (z7w d m n S) i:Nat):Int)) (z:=0) hi
   have e2:=z7O (f:=fun i=>((i:Nat):Int)) (z:=0) hi
   rw[e1,e2]
 · simp only[z3g]
   rw[ed,if_neg (by rw[z0b];omega),zcQ,zcQ]
   have hK:((List.range S.length).map fun i=>((ziU S.length (z7w d m n S) i:Nat):Int)).length=S.length:=by simp
   have hv:zGq ((List.range S.length).map fun i=>((ziU S.length (z7w d m n S) i:Nat):Int)) (toI (List.range S.length)):=fun x hx=>by
    simp only[toI,Zm,Zk] at hx
    obtain⟨i,hi,rfl⟩:=hx
    exact⟨by omega,by rw[hK];omega⟩
   obtain⟨O,hO,hs,hp⟩:=zs1 hv (by rw[z0b,ZD];omega)
   rw[←zrJ,hO,Z0,z0b,z0j _ (by unfold z0X;omega),Z3]
   have hOl:O.length=S.length:=by rw[hp.length_eq,z0b,ZD]
   have hOn:O.Nodup:=hp.nodup_iff.2 (by
    unfold toI
    exact YC _ (fun a b h e=>h (by omega)) YP)
   have hmem:∀x,x∈O↔ ∃i,i<S.length/\x=(i:Int):=fun x=>by
    rw[hp.mem_iff];simp only[toI,Zm,Zk]
    constructor
    · grind
    · grind
   have hkv:∀i,i<S.length->kv ((List.range S.length).map fun i=>((ziU S.length (z7w d m n S) i:Nat):Int)) (i:Int)=((ziU S.length (z7w d m n S) i:Nat):Int):=fun i hi=>by
    simp[kv,List.getD,hi]
   congr 1
   have f3:List.replicate S.length (0:Int)=(List.range S.length).map fun(j:Nat)=>(((if(j:Int)∈O.take 0 then z7A d m n S j else 0):Nat):Int):=by
    apply Zf (by simp);intro i h1 h2;simp
   rw[f3]
   refine z0x (s:=((0:Int),(List.range S.length).map fun(j:Nat)=>(((if(j:Int)∈O.take 0 then z7A d m n S j else 0):Nat):Int))) S.length (fun k=>((k:Int),(List.range S.length).map fun(j:Nat)=>(((if(j:Int)∈O.take k then z7A d m n S j else 0):Nat):Int))) rfl (by simp only[LFm];omega) (fun k hk=> ?_) ?_
   · have hkO:k<O.length:=by omega
     obtain⟨i,hi,hOk⟩:=(hmem O[k]).1 (Zw hkO)
     have hnot:(i:Int)∉O.take k:=fun h=>by
      obtain⟨j,hj,hji⟩:=Zt h
      rw[Zq] at hj
      rw[Xv,←hOk] at hji
      have:=(List.getElem_inj hOn).1 hji
      omega
     have htake:∀j:Nat,(j:Int)∈O.take (k+1)↔(j=i∨(j:Int)∈O.take k):=fun j=>by
      rw[ZA hkO,Ze,Zj,hOk]
      constructor
      · grind
      · grind
     have hupd:((List.range S.length).map fun(j:Nat)=>(((if j=i then z7A d m n S i else if(j:Int)∈O.take k then z7A d m n S j else 0):Nat):Int))=(List.range S.length).map fun(j:Nat)=>(((if(j:Int)∈O.take (k+1) then z7A d m n S j else 0):Nat):Int):=by
      refine ZB fun j hj=> ?_
      by_cases e:j=i
      · grind
      · grind
     have hlt128:S.getD i 0<2^n:=hS.lt _ (z0f hi)
     simp only[z2P]
     rw[if_pos (by omega),z1k hkO,Z0,hOk,ed,z1u hi,Z0,zs8 (by omega),Z0]
     have hok:=zi8 hb (zet S) i hi
     by_cases hz:szN (S.getD i 0)=1
     · rw[if_pos (by omega),z1g (by omega)]
       have hh:z7A d m n S i=0:=by
        unfold z7A;rw[hok,if_pos (by simp only[zet,hz,decide_true])]
       refine congrArg z0c (XK rfl ?_)
       refine ZB fun j hj=> ?_
       by_cases e:j=i
       · grind
       · grind
     · rw[if_neg (by omega),zug hd hS (by omega) (k:Int) hi (H:=fun(j:Nat)=>if(j:Int)∈O.take k then z7A d m n S j else 0) (if_neg hnot) (fun j hj hsb=> ?_),z1g (by omega)]
       · have hh:z8q (fun j=>if sbN (z7w d m n S) j i=true then z7A d m n S j+1 else 0) S.length=z7A d m n S i:=by
          have:z7A d m n S i=_:=hok
          rw[this,if_neg (by simp only[zet,hz,decide_false];simp)];rfl
         rw[hh,hupd]
       · have hl:=ztX hb hi hj hsb
         have hjO:(j:Int)∈O:=(hmem _).2 ⟨j,hj,rfl⟩
         obtain⟨p,hpO,hpj⟩:=Zt hjO
         refine if_pos ?_
         rcases Xu p k with h|h|h
         · rw[←hpj]
           exact List.mem_take_iff_getElem.2 ⟨p,by omega,rfl⟩
         · grind
         · have:=ZK.1 hs k p hkO hpO h
           rw[hOk,hpj,hkv i hi,hkv j hj] at this
           omega
   · simp only[z2P]
     rw[if_neg (by omega)]
     congr 2
     unfold zEs
     refine ZB fun j hj=> ?_
     rw[Yq (by omega),if_pos ((hmem _).2 ⟨j,Zk.1 hj,rfl⟩)]
end
section
open Go
variable{d:DFA}{S:List Nat}{c i m n:Nat}{α:Type}
def zwI(S:List Nat)(i j:Nat):Bool:= !decide (j=i)&&decide (S.getD j 0&&&S.getD i 0=S.getD j 0)
def z9L(S:List Nat)(i:Nat):List Nat:=(List.range S.length).filter (zwI S i)
def zpW(S:List Nat)(i j:Nat):Bool:=(z9L S i).all fun k=>decide (k=j)|| !decide (S.getD j 0&&&S.getD k 0=S.getD j 0)
def z6p(S:List Nat)(i:Nat):List Nat:=if szN (S.getD i 0)=1 then [] else(z9L S i).filter (zpW S i)
theorem zgC{p:α->Bool}{l:List α}{k:Nat}(h:k<l.length):(l.take (k+1)).filter p=(l.take k).filter p++(if p l[k]=true then [l[k]] else []):=by
 rw[ZA h,Xr,X0,XH]
theorem zcL{j:Nat}(h:j∈z9L S i):j<S.length:=Zk.1 (ZV.1 h).1
theorem zdP(p:α->Bool)(l:List α):(l.filter p).length<=l.length:=ZC p l
theorem zvI(hn:n<=7)(hS:SetsP d m n S)(hi:i<S.length):z3H (dgm d m n S) (i:Int)=some (toI (z6p S i)):=by
 have h128:2^n<=128:=Zi (n:=2) (by omega) hn
 have hSl:=z2n hS.nd hS.lt
 have ed:(dgm d m n S).sets=toI S:=rfl
 have lt62:∀j,j<S.length->S.getD j 0<2^62:=fun j hj=>by have:=hS.lt _ (z0f hj);omega
 have hil:=hS.lt _ (z0f hi)
 unfold z3H z6p
 rw[ed,z1u hi,Z0,zs8 (by omega),Z0]
 by_cases hz:szN (S.getD i 0)=1
 · rw[if_pos (by omega),if_pos hz];rfl
 rw[if_neg (by omega),if_neg hz]
 have hrl:(List.range S.length).length=S.length:=ZD
 refine z0x (s:=((0:Int),([]:List Int))) S.length (fun j=>((j:Int),toI (((List.range S.length).take j).filter (zwI S i)))) rfl (by simp only[LFm];omega) (fun j hj=> ?_) ?_
 · have hfl:(((List.range S.length).take j).filter (zwI S i)).length<=j:=ZJ (zdP _ _) (by rw[Zq];omega)
   have hst:=zgC (p:=zwI S i) (l:=List.range S.length) (k:=j) (by omega)
   rw[ZQ] at hst
   simp only[z3M]
   rw[ed,if_pos (by rw[z0b];omega),z1u hj,Z0,z1g (by omega),hst]
   by_cases e:j=i
   · have:zwI S i j=false:=by unfold zwI;rw[decide_eq_true e];rfl
     rw[if_pos (by omega),this,if_neg (by simp),Y1]
   · rw[if_neg (by omega),z1u hi,Z0,zbU (lt62 i hi) (lt62 j hj),Z0]
     have:zwI S i j=decide (S.getD j 0&&&S.getD i 0=S.getD j 0):=by unfold zwI;rw[decide_eq_false e];rfl
     rw[this]
     by_cases h:decide (S.getD j 0&&&S.getD i 0=S.getD j 0)=true
     · rw[if_pos h,if_pos h,z0j _ (by unfold z1B;rw[z0b];omega),z5B]
     · grind
 · simp only[z3M]
   rw[ed,if_neg (by rw[z0b];omega),Yq (by omega)]
   congr 1
   have hil:(z9L S i).length<=S.length:=ZJ (zdP _ _) (by omega)
   show z0k (z2y (dgm d m n S) (toI (z9L S i))) LFm (0,[])=_
   refine z0x (s:=((0:Int),([]:List Int))) (z9L S i).length (fun q=>((q:Int),toI (((z9L S i).take q).filter (zpW S i)))) rfl (by simp only[LFm];omega) (fun q hq=> ?_) ?_
   · have hfl:(((z9L S i).take q).filter (zpW S i)).length<=q:=ZJ (zdP _ _) (by rw[Zq];omega)
     have hst:=zgC (p:=zpW S i) (l:=z9L S i) (k:=q) hq
     have hg:(z9L S i).getD q 0=(z9L S i)[q]:=by grind
     have hjl:(z9L S i)[q]<S.length:=zcL (Zw hq)
     simp only[z2y]
     rw[if_pos (by rw[z0b];omega),z1u hq,Z0,hg,hst]
     generalize (z9L S i)[q]=j at hjl
     rw[z7p (s:=(0:Int)) (z9L S i).length (fun k=>(k:Int)) (fun k=> !(decide ((z9L S i).getD k 0=j)|| !decide (S.getD j 0&&&S.getD ((z9L S i).getD k 0) 0=S.getD j 0))) (fun _=>z0c (((q+1:Nat):Int),toI (((z9L S i).take q).filter (zpW S i)))) (x:=z0c (((q+1:Nat):Int),toI (((z9L S i).take q).filter (zpW S i))++ [(j:Int)])) rfl (by simp only[LFm];omega)]
     · rw[zeK]
       simp only[XX]
       rw[zkT (fun k=>decide (k=j)|| !decide (S.getD j 0&&&S.getD k 0=S.getD j 0))]
       show(if zpW S i j=true then _ else _)=_
       by_cases h:zpW S i j=true
       · rw[if_pos h,if_pos h,z5B]
       · grind
     · intro k hk
       have hkl:(z9L S i).getD k 0<S.length:=zcL (z0f hk)
       simp only[z3u]
       rw[if_pos (by rw[z0b];omega),z1u hk,Z0]
       by_cases e:(z9L S i).getD k 0=j
       · rw[if_pos (by omega),decide_eq_true e,z1g (by omega)];rfl
       · rw[if_neg (by omega),decide_eq_false e,ed,z1u hkl,Z0,z1u hjl,Z0,zbU (lt62 _ hkl) (lt62 _ hjl),Z0,Xf,XX,z1g (by omega),z1g (by omega)]
     · simp only[z3u]
       rw[if_neg (by rw[z0b];omega),z0j _ (by unfold z1B;rw[z0b];omega),z1g (by omega)]
   · simp only[z2y]
     rw[if_neg (by rw[z0b];omega),Yr]
def z5P(d:DFA)(m n:Nat)(S:List Nat)(i:Nat):Nat:=(z6n d m n S).getD (z9c (z2u d m n S) S.length i) 0
def zej(d:DFA)(m n:Nat)(S:List Nat)(i:Nat):ByteArray:=z7X (z1C d m n (S.getD (z5P d m n S i) 0)) (S.getD i 0)
def zva(d:DFA)(m n:Nat)(S:List Nat)(i:Nat):ByteArray:=z7X (z1C d m n (S.getD i 0)) (S.getD (z5P d m n S i) 0)
def z3G(d:DFA)(m n:Nat)(S:List Nat):Imgs:=⟨toI S,zuR d m n S,zEs d m n S,(List.range S.length).map fun i=>toI (z6p S i),(List.range S.length).map (zej d m n S),(List.range S.length).map (zva d m n S)⟩
theorem zn7(hc:c<(z6n d m n S).length):(z6n d m n S).getD c 0<S.length:=zbf _ _ _ (z0f hc)
theorem zm4(hd:DfaOk d m n)(hS:SetsP d m n S)(hSl:S.length<100000)(hc:c<(z6n d m n S).length)(q:List Int):
 z0k (z6C (toI S) (zuR d m n S,toI (z6n d m n S)) (c:Int) (q,zjJ S (z1C d m n (S.getD ((z6n d m n S).getD c 0) 0)))) LFm (0,(List.range S.length).map fun j=>if z9c (z2u d m n S) S.length j<c then zej d m n S j else ByteArray.empty)=
  z0c (((c+1:Nat):Int),(List.range S.length).map fun j=>if z9c (z2u d m n S) S.length j<c+1 then zej d m n S j else ByteArray.empty):=by
 have hcl:(z6n d m n S).length<=S.length:=z5w _ _
 refine z0x (s:=((0:Int),(List.range S.length).map fun j=>if z9c (z2u d m n S) S.length j<c then zej d m n S j else ByteArray.empty)) S.length (fun k=>((k:Int),(List.range S.length).map fun j=>if z9c (z2u d m n S) S.length j<c∨(z9c (z2u d m n S) S.length j=c/\j<k) then zej d m n S j else ByteArray.empty)) ?_ (by simp only[LFm];omega) (fun k hk=> ?_) ?_
 · grind
 · simp only[z6C]
   rw[if_pos (by rw[z0b];omega),zuR,z2E hk,Z0,z1g (by omega)]
   by_cases h:z9c (z2u d m n S) S.length k=c
   · have hw:z7X (z1C d m n (S.getD ((z6n d m n S).getD c 0) 0)) (S.getD k 0)=zej d m n S k:=by unfold zej z5P;rw[h]
     rw[if_pos (by omega),zjJ,z2E hk,Z0,hw,z2E hk,Z0,Z3]
     refine congrArg z0c (XK rfl ?_)
     apply Zf (by simp)
     intro j h1 h2
     simp only[Y9,ZG,ZQ]
     by_cases e:k=j
     · grind
     · grind
   · grind
 · simp only[z6C]
   rw[if_neg (by rw[z0b];omega),z1g (by omega)]
   congr 3
   refine ZB fun j hj=> ?_
   have hj:=Zk.1 hj
   congr 1
   refine propext ⟨fun hh=> ?_,fun hh=> ?_⟩
   · rcases hh with hh|hh<;>omega
   · grind
theorem zCZ(hd:DfaOk d m n)(hn:n<=7):z8h d=some (z3G d m n (z1A d m n),0):=by
 have h128:2^n<=128:=Zi (n:=2) (by omega) hn
 have hS:=z7y hd
 have hSl:=z2n hS.nd hS.lt
 have he:=z8Y hd hS
 unfold z8h
 rw[zm6 (zBR hd (by omega)),zBq hd (by omega),Z0,if_pos rfl,zzr hd hn,Z0]
 generalize z1A d m n=S at hS hSl he
 have hcl:(z6n d m n S).length<=S.length:=z5w _ _
 rw[if_neg (by rw[z0b];omega),zr1 hd (by omega) hS,Z0,zr7 hd (by omega) hS,Z0]
 simp only
 rw[zqO hd hn hS,Z0,z0b,z0j _ (by unfold z0X;omega),z0j _ (by unfold z0X;omega),Z3]
 have f1:List.replicate S.length ([]:List Int)=z3b S.length (fun i=>toI (z6p S i)) [] 0:=(zcR _ _ _).symm
 have f2:List.replicate S.length (ByteArray.empty:ByteArray)=z3b S.length (zva d m n S) ByteArray.empty 0:=(zcR _ _ _).symm
 rw[f1,f2]
 refine z0x (s:=((0:Int),z3b S.length (fun i=>toI (z6p S i)) [] 0,z3b S.length (zva d m n S) ByteArray.empty 0)) S.length (fun k=>((k:Int),z3b S.length (fun i=>toI (z6p S i)) [] k,z3b S.length (zva d m n S) ByteArray.empty k)) rfl (by simp only[LFm];omega) (fun k hk=> ?_) ?_
 · obtain⟨c1,c2⟩:=zbV he hk
   have c1:z9c (z2u d m n S) S.length k<(z6n d m n S).length:=c1
   have hf:(z6n d m n S).getD (z9c (z2u d m n S) S.length k) 0<S.length:=zn7 c1
   simp only[z7L]
   rw[if_pos (by rw[z0b];omega),zvI hn hS hk,Z0,zae hk,Z0,show dgm d m n S=⟨toI S,zAm d m S,zxl d m n S⟩ from rfl,zfM hd (by omega) hS _ hk,Z0,zuR,z2E hk,Z0,z1u c1,Z0,show(zh0 S (z1C d m n (S.getD k 0)),zjJ S (z1C d m n (S.getD k 0))).2=zjJ S (z1C d m n (S.getD k 0)) from rfl,zjJ,z2E hf,Z0,zae hk,Z0,z1g (by omega),Z3]
   have e1:=z7O (f:=fun i=>toI (z6p S i)) (z:= []) hk
   have e2:=z7O (f:=zva d m n S) (z:=ByteArray.empty) hk
   have e3:z7X (z1C d m n (S.getD k 0)) (S.getD ((z6n d m n S).getD (z9c (z2u d m n S) S.length k) 0) 0)=zva d m n S k:=rfl
   rw[e1,e3,e2]
 · simp only[z7L]
   rw[if_neg (by rw[z0b];omega),z0b,zcQ,zcQ,Z3]
   congr 1
   have f3:List.replicate S.length (ByteArray.empty:ByteArray)=(List.range S.length).map fun j=>if z9c (z2u d m n S) S.length j<0 then zej d m n S j else ByteArray.empty:=by
    apply Zf (by simp);intro i h1 h2;simp
   rw[f3]
   refine z0x (s:=((0:Int),(List.range S.length).map fun j=>if z9c (z2u d m n S) S.length j<0 then zej d m n S j else ByteArray.empty)) (z6n d m n S).length (fun c=>((c:Int),(List.range S.length).map fun j=>if z9c (z2u d m n S) S.length j<c then zej d m n S j else ByteArray.empty)) rfl (by simp only[LFm];omega) (fun c hc=> ?_) ?_
   · have hf:=zn7 hc
     simp only[z7K]
     rw[if_pos (by rw[z0b];omega),z1u hc,Z0,show dgm d m n S=⟨toI S,zAm d m S,zxl d m n S⟩ from rfl,zfM hd (by omega) hS _ hf,Z0,zm4 hd hS (by omega) hc]
   · simp only[z7K]
     rw[if_neg (by rw[z0b];omega)]
     have:((List.range S.length).map fun j=>if z9c (z2u d m n S) S.length j<(z6n d m n S).length then zej d m n S j else ByteArray.empty)=(List.range S.length).map (zej d m n S):=ZB fun j hj=>if_pos (zbV he (Zk.1 hj)).1
     rw[this];rfl
end
section
open Go
variable{d:DFA}{S:List Nat}{a i j k m n q s x:Nat}
theorem z8O(s:Nat):szN s=z5W (fun q=>s.testBit q) 7:=by
 simp only[szN,z5W,List.range,List.range.loop,List.countP_cons,List.countP_nil]
 omega
theorem zGn(h:s<128)(hq:s.testBit q=true):q<7:=by
 rcases Yw q 7 with h'|h'
 · exact h'
 · have:s.testBit q=false:=YS (Zx h (Zi (n:=2) (by omega) h'))
   rw[this] at hq;cases hq
theorem zfF{b:Nat}(h:z7D a b):szN a<=szN b:=by
 rw[z8O,z8O];exact zoV fun q _ hq=>z2i.1 h q hq
theorem zvL{b:Nat}(hb:b<128)(h:z7D a b)(hne:a≠b):szN a<szN b:=by
 have:∃q,b.testBit q=true/\a.testBit q=false:=by
  refine Y6 fun hn=>hne (z9Y h (z2i.2 fun q hq=> ?_))
  cases ha:a.testBit q with
  |true=>rfl
  |false=>exact absurd ⟨q,hq,ha⟩ hn
 obtain⟨q,h1,h2⟩:=this
 rw[z8O,z8O]
 exact zif (fun q _ hq=>z2i.1 h q hq) (zGn hb h1) h2 h1
theorem zvM{b:Nat}(hb:b<128)(h:z7D a b)(he:szN b<=szN a):a=b:=by
 refine Y6 fun hne=> ?_
 have:=zvL hb h hne
 omega
theorem zrQ{p:Nat}(hx:x<128)(hp:p<7):szN (x|||2^p)<=szN x+1:=by
 revert p;revert x;decide+kernel
theorem zDL{y:Nat}(hx:x<128)(hy:y<128):szN (x|||y)<=szN x+szN y:=by
 rw[z8O,z8O,z8O]
 have:∀k,z5W (fun q=>(x|||y).testBit q) k<=z5W (fun q=>x.testBit q) k+z5W (fun q=>y.testBit q) k:=by
  intro k
  induction k with
  |zero=>simp[z5W]
  |succ k ih=>
   simp only[z5W,YE]
   simp only[YE] at ih
   have:∀a b:Bool,(if(a||b)=true then 1 else 0)<=(if a=true then 1 else 0)+(if b=true then 1 else 0):=by decide
   have:=this (x.testBit k) (y.testBit k)
   omega
 exact this 7
theorem zEj(hd:DfaOk d m n){y:Nat}(ha:a<m):mvN d (x|||y) a=mvN d x a|||mvN d y a:=by
 apply ZS
 intro p
 rw[Yf,YE,Y7,z9t hd ha,z9t hd ha,z9t hd ha]
 constructor
 · grind
 · grind
abbrev zzm(m:Nat)(w:List UInt8):Prop:=∀c∈w,97<=c.toNat/\c.toNat<97+m
theorem zmY{c:UInt8}{w:List UInt8}(h:zzm m (c::w)):zzm m w/\c.toNat-97<m:=⟨fun c' hc'=>h c' (Zl _ hc'),by have:=h c (Zy ..);omega⟩
theorem zsl{d:DFA}{m n:Nat}(hd:DfaOk d m n):∀ {w:List UInt8} {x y:Nat},zzm m w->z4y d (x|||y) w=z4y d x w|||z4y d y w
 | [],x,y,_=>rfl
 |c::w,x,y,hw=>by
  obtain⟨h1,h2⟩:=zmY hw
  simp only[z4y]
  rw[zEj hd h2,zsl hd h1]
theorem zEi(hd:DfaOk d m n)(hn:n<=7)(hs:s<2^n)(ha:a<m):szN (mvN d s a)<=szN s:=by
 have h128:2^n<=128:=Zi (n:=2) (by omega) hn
 have key:∀q,q<=n->szN (ziH d.next s a q)<=z5W (fun q=>s.testBit q) q:=by
  intro q
  induction q with
  |zero=>intro _;exact(by decide:szN 0<=0)
  |succ q ih=>
   intro hq
   have hlt:=zg2 hd (s:=s) ha q (by omega)
   obtain⟨h1,h2,e,h3,h4⟩:=zbG hd (q:=q) (by omega) ha
   simp only[ziH,z5W]
   by_cases hb:s.testBit q=true
   · rw[if_pos hb,if_pos hb]
     have:=zrQ (x:=ziH d.next s a q) (p:=((d.next.getD q []).getD a 0).toNat) (by omega) (by rw[e];omega)
     have:=ih (by omega)
     omega
   · grind
 have h1:=key n (Z5 _)
 have h2:z5W (fun q=>s.testBit q) n<=szN s:=by
  rw[z8O]
  have:∀j,z5W (fun q=>s.testBit q) n<=z5W (fun q=>s.testBit q) (n+j):=by
   intro j
   induction j with
   |zero=>exact Z5 _
   |succ j ih=>rw[←Xd];simp only[z5W];omega
  have:=this (7-n)
  rwa [show n+(7-n)=7 by omega] at this
 unfold mvN
 rw[hd.nl]
 omega
theorem zbE{d:DFA}{m n:Nat}(hd:DfaOk d m n)(hn:n<=7):∀ {w:List UInt8} {s:Nat},s<2^n->zzm m w->szN (z4y d s w)<=szN s
 | [],s,_,_=>Z5 _
 |c::w,s,hs,hw=>by
  obtain⟨h1,h2⟩:=zmY hw
  simp only[z4y]
  exact ZJ (zbE hd hn (zcx hd h2) h1) (zEi hd hn hs h2)
theorem zBk(hd:DfaOk d m n)(hs:s<2^n)(h0:s≠0)(ha:a<m):mvN d s a≠0:=by
 obtain⟨q,hq⟩:∃q,s.testBit q=true:=YR h0
 have hqn:q<n:=by
  rcases Yw q n with h'|h'
  · exact h'
  · have:s.testBit q=false:=YS (Zx hs (Zi (n:=2) (by omega) h'))
    rw[this] at hq;cases hq
 intro h
 have:=(z9t hd ha (s:=s) ((d.next.getD q []).getD a 0).toNat).2 ⟨q,hqn,hq,rfl⟩
 rw[h,X9] at this
 cases this
theorem zaE(hd:DfaOk d m n)(hx:x∈z1A d m n):x≠0:=by
 have hp:=Yv n
 have h2n:2<=2^n:=by have:=Zi (n:=2) (by omega) hd.n1;omega
 have hf:2^n-1<2^n:=by omega
 have hi:=z6u hd hf
 obtain⟨_,h2,_⟩:=z7c hi.nd n
 have hpm:=z8R (zb9 (z1C d m n (2^n-1)).1 n)
 rcases(h2 x).1 (hpm.mem_iff.1 hx) with h|⟨i,_,rfl⟩
 · obtain⟨i,hil,rfl⟩:=Zt h
   obtain⟨_,o2,o3⟩:=hi.ok i hil
   rw[List.getD,List.getD,Z1 hil,Zb] at o3
   rw[←o3]
   have:∀ {w:List UInt8} {s:Nat},s<2^n->s≠0->zzm m w->z4y d s w≠0:=by
    intro w
    induction w with
    |nil=>intro s _ h0 _;exact h0
    |cons c w ih=>
     intro s hs h0 hw
     obtain⟨q1,q2⟩:=zmY hw
     exact ih (zcx hd q2) (zBk hd hs h0 q2) q1
   exact this hf (by omega) o2
 · grind
theorem z4U:j∈z9L S i↔j<S.length/\j≠i/\z7D (S.getD j 0) (S.getD i 0):=by
 unfold z9L zwI z7D
 rw[ZV,Zk]
 simp
theorem zis:zpW S i j=true↔ ∀k,k∈z9L S i->k≠j->¬z7D (S.getD j 0) (S.getD k 0):=by
 unfold zpW z7D
 rw[Zn]
 constructor
 · grind
 · grind
theorem zir(hz:szN (S.getD i 0)≠1):j∈z6p S i↔j∈z9L S i/\zpW S i j=true:=by
 unfold z6p
 rw[if_neg hz,ZV]
theorem z5N(h:j∈z6p S i):j∈z9L S i/\zpW S i j=true/\szN (S.getD i 0)≠1:=by
 by_cases hz:szN (S.getD i 0)=1
 · unfold z6p at h;rw[if_pos hz] at h;simp at h
 · exact⟨((zir hz).1 h).1,((zir hz).1 h).2,hz⟩
theorem zfE(S:List Nat)(i:Nat):(z6p S i).Nodup:=by
 unfold z6p
 split
 · simp
 · exact YM _ (YM _ YP)
theorem zzA(hn:n<=7)(hS:SetsP d m n S)(hi:i<S.length)(hz:szN (S.getD i 0)≠1):∀f j,8-szN (S.getD j 0)<=f->j∈z9L S i->∃t,t∈z6p S i/\z7D (S.getD j 0) (S.getD t 0):=by
 have h128:2^n<=128:=Zi (n:=2) (by omega) hn
 have h8:∀s,szN s<=7:=fun s=>by rw[z8O];exact zoW _ _
 intro f
 induction f with
 |zero=>intro j hf _;have:=h8 (S.getD j 0);omega
 |succ f ih=>
  intro j hf hj
  by_cases hp:zpW S i j=true
  · exact⟨j,(zir hz).2 ⟨hj,hp⟩,zcg _⟩
  · have:∃k,k∈z9L S i/\k≠j/\z7D (S.getD j 0) (S.getD k 0):=by
     refine Y6 fun hn'=>hp (zis.2 fun k hk hne hs=>hn' ⟨k,hk,hne,hs⟩)
    obtain⟨k,hk,hne,hs⟩:=this
    have hkl:=(z4U.1 hk).1
    have hjl:=(z4U.1 hj).1
    have hlt:=zvL (a:=S.getD j 0) (b:=S.getD k 0) (by have:=hS.lt _ (z0f hkl);omega) hs fun e=>hne (z6G hS.nd hkl hjl e.symm)
    obtain⟨t,h1,h2⟩:=ih k (by omega) hk
    exact⟨t,h1,zkx hs h2⟩
theorem zcf(hd:DfaOk d m n)(hn:n<=7)(hS:SetsP d m n S)(hi:i<S.length)(hz:szN (S.getD i 0)≠1)(hq:(S.getD i 0).testBit q=true):∃t,t∈z6p S i/\(S.getD t 0).testBit q=true:=by
 have h128:2^n<=128:=Zi (n:=2) (by omega) hn
 have hil:=hS.lt _ (z0f hi)
 have hqn:q<n:=by
  rcases Yw q n with h'|h'
  · exact h'
  · have:(S.getD i 0).testBit q=false:=YS (Zx hil (Zi (n:=2) (by omega) h'))
    rw[this] at hq;cases hq
 have h1:=hS.one q hqn
 have hg:=z4i h1
 have hsz:szN (2^q)=1:=by
  have:∀q,q<7->szN (2^q)=1:=by decide+kernel
  exact this q (by omega)
 have hinn:S.idxOf (2^q)∈z9L S i:=z4U.2 ⟨z6j h1,fun e=>by rw[←e,hg] at hz;exact hz hsz,by
  rw[hg]
  refine z2i.2 fun p hp=> ?_
  rw[Yh,decide_eq_true_iff] at hp
  rw[←hp];exact hq⟩
 obtain⟨t,h2,h3⟩:=zzA hn hS hi hz _ _ (Z5 _) hinn
 refine⟨t,h2,z2i.1 h3 q ?_⟩
 rw[hg,Yh];simp
theorem zce(hn:n<=7)(hS:SetsP d m n S)(hi:i<S.length)(h:k∈z6p S i):i<k/\k<S.length/\z7D (S.getD k 0) (S.getD i 0)/\S.getD k 0≠S.getD i 0:=by
 have h128:2^n<=128:=Zi (n:=2) (by omega) hn
 obtain⟨h1,_,_⟩:=z5N h
 obtain⟨hk,hne,hs⟩:=z4U.1 h1
 have hx:S.getD k 0≠S.getD i 0:=fun e=>hne (z6G hS.nd hk hi e)
 refine⟨?_,hk,hs,hx⟩
 have hlt:=zvL (by have:=hS.lt _ (z0f hi);omega) hs hx
 rcases Xu i k with h'|h'|h'
 · exact h'
 · exact absurd h'.symm hne
 · have:=ZK.1 hS.srt k i hk hi h'
   rw[zjt] at this
   rw[List.getD,List.getD,Z1 hk,Z1 hi,Zb,Zb] at hlt
   omega
theorem zoE{N:Nat}{b:Nat->Nat->Bool}(hb:BelN N b){z:Nat->Bool}(hz:∀i k,i<N->k<N->z k=true->b i k=true->z i=true)(hi:i<N)(hk:k<N)(h:b i k=true):zoF N b z i<=zoF N b z k:=by
 rw[zi8 hb z i hi]
 split
 · omega
 · rename_i hzi
   have hzk:¬z k=true:=fun hh=>hzi (hz i k hi hk hh h)
   rw[zi8 hb z k hk,if_neg hzk]
   refine zbJ fun j hj=> ?_
   by_cases hs:sbN b j i=true
   · rw[if_pos hs]
     have hsk:sbN b j k=true:=by
      simp only[sbN,Z6,Yb] at hs⊢
      refine⟨hb.trans j i k hj hi hk hs.1 h,?_⟩
      cases hkj:b k j with
      |false=>rfl
      |true=>
       have:=hb.trans i k j hi hk hj h hkj
       rw[this] at hs;cases hs.2
     have:=zon (g:=fun j=>if sbN b j k=true then zoF N b z j+1 else 0) hj
     simp only[hsk,if_true] at this
     exact this
   · rw[if_neg hs];omega
theorem zv4(hd:DfaOk d m n)(hn:n<=7)(hi:i<(z1A d m n).length)(hk:k<(z1A d m n).length)(hz:zet (z1A d m n) k=true)(h:z7w d m n (z1A d m n) i k=true):zet (z1A d m n) i=true:=by
 have hS:=z7y hd
 have h128:2^n<=128:=Zi (n:=2) (by omega) hn
 obtain⟨w,h1,h2⟩:=(z4f hd hS hk).1 h
 have hkl:=hS.lt _ (z0f hk)
 simp only[zet,decide_eq_true_eq] at hz⊢
 have a1:=zfF h2
 have a2:=zbE hd hn hkl h1
 have h0:=zaE hd (z0f hi)
 have:1<=szN ((z1A d m n).getD i 0):=by
  obtain⟨q,hq⟩:=YR h0
  have hil:=hS.lt _ (z0f hi)
  have:=zif (p:=fun _=>false) (q:=fun q=>((z1A d m n).getD i 0).testBit q) (k:=7) (i:=q) (fun j _ hf=>by simp at hf) (zGn (by omega) hq) rfl hq
  rw[z8O];omega
 omega
end
section
open Go
theorem zvK{A K:Nat}(h:z7D A K):szN A+szN (K^^^A)=szN K:=by
 rw[z8O,z8O,z8O]
 have hb:=z2i.1 h
 have:∀k,z5W (fun q=>A.testBit q) k+z5W (fun q=>(K^^^A).testBit q) k=z5W (fun q=>K.testBit q) k:=by
  intro k
  induction k with
  |zero=>simp[z5W]
  |succ k ih=>
   have h1:=hb k
   simp only[z5W]
   have h2:(K^^^A).testBit k=(K.testBit k^^A.testBit k):=Nat.testBit_xor ..
   have h3:∀a b c:Bool,(a=true->b=true)->c=(b^^a)->(if a=true then 1 else 0)+(if c=true then 1 else 0)=(if b=true then 1 else 0):=by decide
   have:=h3 _ _ _ h1 h2
   omega
 exact this 7
theorem zy1{A K:Nat}(h:z7D A K):A|||(K^^^A)=K:=by
 apply ZS
 intro q
 have h1:=z2i.1 h q
 rw[YE,Nat.testBit_xor]
 revert h1
 cases A.testBit q<;>cases K.testBit q<;>simp
theorem zrT{A K:Nat}(h:z7D A K):A<=K:=by
 unfold z7D at h;rw[←h];exact Nat.and_le_right
theorem zvP(A B:Nat):z7D A (A|||B):=z2i.2 fun q hq=>by rw[YE,hq];rfl
theorem znX(A B:Nat):z7D B (A|||B):=z2i.2 fun q hq=>by grind
theorem zl0{A B:Nat}(h:z7D A B):A|||B=B:=z9Y (z2i.2 fun q hq=>by
 rw[YE,Y7] at hq
 exact hq.elim (z2i.1 h q) id) (znX A B)
theorem zAL{A B K:Nat}(h1:z7D A K)(h2:z7D B K):z7D (A|||B) K:=z2i.2 fun q hq=>by
 rw[YE,Y7] at hq
 exact hq.elim (z2i.1 h1 q) (z2i.1 h2 q)
structure Lead(d:DFA)(m n K I:Nat)(w:List UInt8):Prop where
 hw:zzm m w
 hK:K<2^n
 hI:I<2^n
 run:z4y d K w=I
 sz:szN I=szN K
variable{v w:List UInt8}{I K i k:Nat}{α β:Type}{l:List α}{f:α->β}
theorem zn2{d:DFA}{m n:Nat}(hd:DfaOk d m n)(hn:n<=7)(h:Lead d m n K I w){A:Nat}(hA:z7D A K):szN (z4y d A w)=szN A:=by
 have h128:2^n<=128:=Zi (n:=2) (by omega) hn
 have hAK:=zrT hA
 have hK:=h.hK
 have hB:z7D (K^^^A) K:=by
  have:=zy1 hA
  rw[←this];rw[this];rw[←this]
  exact(by rw[this];exact(by
   refine z2i.2 fun q hq=> ?_
   rw[Nat.testBit_xor] at hq
   have h1:=z2i.1 hA q
   revert hq h1
   cases A.testBit q<;>cases K.testBit q<;>simp))
 have hBl:=zrT hB
 have e1:=zsl hd (x:=A) (y:=K^^^A) h.hw
 rw[zy1 hA,h.run] at e1
 have l1:=zfP hd (s:=A) (w:=w) (by omega) h.hw
 have l2:=zfP hd (s:=K^^^A) (w:=w) (by omega) h.hw
 have s1:=zDL (x:=z4y d A w) (y:=z4y d (K^^^A) w) (by omega) (by omega)
 rw[←e1,h.sz] at s1
 have s2:=zbE hd hn (s:=K^^^A) (by omega) h.hw
 have s3:=zbE hd hn (s:=A) (by omega) h.hw
 have s4:=zvK hA
 omega
theorem ziV{d:DFA}{m n:Nat}(hd:DfaOk d m n)(hn:n<=7)(h:Lead d m n K I w){A B:Nat}(hA:z7D A K)(hB:z7D B K)(hs:z7D (z4y d A w) (z4y d B w)):z7D A B:=by
 have h128:2^n<=128:=Zi (n:=2) (by omega) hn
 have hK:=h.hK
 have hAB:=zAL hA hB
 have hl:=zrT hAB
 have e1:=zn2 hd hn h hAB
 rw[zsl hd h.hw,zl0 hs,zn2 hd hn h hB] at e1
 have:=zvM (a:=B) (b:=A|||B) (by omega) (znX A B) (by omega)
 rw[this]
 exact zvP A B
theorem zcF{d:DFA}{m n:Nat}(hd:DfaOk d m n)(hn:n<=7)(h:Lead d m n K I w){A B:Nat}(hA:z7D A K)(hB:z7D B K)(he:z4y d A w=z4y d B w):A=B:=
 z9Y (ziV hd hn h hA hB (by rw[he];exact zcg _)) (ziV hd hn h hB hA (by rw[he];exact zcg _))
theorem zvN{r:List β}(hl:(l.map f).Nodup)(hs:∀x∈l.map f,x∈r)(hle:r.length<=l.length){u:β}(hu:u∈r):u∈l.map f:=by
 refine Y6 fun hn=> ?_
 have:=z8c (l:=u::l.map f) (r:=r) (YH.2 ⟨hn,hl⟩) fun x hx=>by grind
 rw[Zr,Zh] at this
 omega
theorem z5r(hl:l.Nodup)(hf:∀x∈l,∀y∈l,f x=f y->x=y):(l.map f).Nodup:=by
 induction l with
 |nil=>simp
 |cons a l ih=>
  rw[YH] at hl
  rw[Zs,YH]
  refine⟨fun h=> ?_,ih hl.2 fun x hx y hy=>hf x (Zl _ hx) y (Zl _ hy)⟩
  obtain⟨x,hx,he⟩:=Zm.1 h
  have:=hf x (Zl _ hx) a (Zy ..) he
  exact hl.1 (this▸hx)
section
variable {d:DFA} {m n:Nat} {S:List Nat} (hd:DfaOk d m n) (hn:n<=7) (hS:SetsP d m n S)
include hd hn hS
theorem zgk(hk:k<S.length)(hi:i<S.length)(h:Lead d m n (S.getD k 0) (S.getD i 0) w):
 (∀j∈z9L S k,S.idxOf (z4y d (S.getD j 0) w)∈z9L S i/\S.getD (S.idxOf (z4y d (S.getD j 0) w)) 0=z4y d (S.getD j 0) w)/\((z9L S k).map fun j=>S.idxOf (z4y d (S.getD j 0) w)).Nodup:=by
 have h128:2^n<=128:=Zi (n:=2) (by omega) hn
 have hmem:∀j,j<S.length->z4y d (S.getD j 0) w∈S:=fun j hj=>zkK hS h.hw (z0f hj)
 refine⟨fun j hj=> ?_,z5r (YM _ YP) fun x hx y hy e=> ?_⟩
 · obtain⟨h1,h2,h3⟩:=z4U.1 hj
   have hg:=z4i (hmem j h1)
   refine⟨z4U.2 ⟨z6j (hmem j h1),fun e=> ?_,?_⟩,hg⟩
   · rw[e] at hg
     have s1:=zn2 hd hn h h3
     rw[←hg,h.sz] at s1
     have:=zvM (a:=S.getD j 0) (b:=S.getD k 0) (by have:=h.hK;omega) h3 (by omega)
     exact h2 (z6G hS.nd h1 hk this)
   · rw[hg,←h.run]
     exact ziy hd h.hw h3
 · obtain⟨h1,h2,h3⟩:=z4U.1 hx
   obtain⟨k1,k2,k3⟩:=z4U.1 hy
   have e2:z4y d (S.getD x 0) w=z4y d (S.getD y 0) w:=by grind
   exact z6G hS.nd h1 k1 (zcF hd hn h h3 k3 e2)
theorem zzB(hk:k<S.length)(hi:i<S.length)(h:Lead d m n (S.getD k 0) (S.getD i 0) w):(z9L S k).length<=(z9L S i).length:=by
 obtain⟨h1,h2⟩:=zgk hd hn hS hk hi h
 have:=z8c h2 (r:=z9L S i) fun x hx=>by grind
 simpa using this
theorem zmr(hk:k<S.length)(hi:i<S.length)(h:Lead d m n (S.getD k 0) (S.getD i 0) w)(h':Lead d m n (S.getD i 0) (S.getD k 0) v){t:Nat}(ht:t∈z6p S k):S.idxOf (z4y d (S.getD t 0) w)∈z6p S i:=by
 obtain⟨h1,h2⟩:=zgk hd hn hS hk hi h
 obtain⟨t1,t2,t3⟩:=z5N ht
 have hz:szN (S.getD i 0)≠1:=by rw[h.sz];exact t3
 refine(zir hz).2 ⟨(h1 t t1).1,zis.2 fun u hu hne hs=> ?_⟩
 have hsur:=zvN (l:=z9L S k) (r:=z9L S i) h2 (fun x hx=>by
  obtain⟨j,hj,rfl⟩:=Zm.1 hx
  exact(h1 j hj).1) (zzB hd hn hS hi hk h') hu
 obtain⟨j,hj,rfl⟩:=Zm.1 hsur
 rw[(h1 t t1).2,(h1 j hj).2] at hs
 have hsub:=ziV hd hn h (z4U.1 t1).2.2 (z4U.1 hj).2.2 hs
 exact zis.1 t2 j hj (fun e=>hne (by rw[e])) hsub
theorem zrN(hk:k<S.length)(hi:i<S.length)(h:Lead d m n (S.getD k 0) (S.getD i 0) w)(h':Lead d m n (S.getD i 0) (S.getD k 0) v):(z6p S k).length=(z6p S i).length:=by
 have one:∀ {k i:Nat} (hk:k<S.length) (hi:i<S.length) {w v:List UInt8} (h:Lead d m n (S.getD k 0) (S.getD i 0) w) (h':Lead d m n (S.getD i 0) (S.getD k 0) v),(z6p S k).length<=(z6p S i).length:=fun {k i} hk hi {w v} h h'=>by
  obtain⟨h1,h2⟩:=zgk hd hn hS hk hi h
  have hnd:((z6p S k).map fun j=>S.idxOf (z4y d (S.getD j 0) w)).Nodup:=z5r (zfE S k) fun x hx y hy e=>by
   obtain⟨x1,_,_⟩:=z5N hx
   obtain⟨y1,_,_⟩:=z5N hy
   have e2:z4y d (S.getD x 0) w=z4y d (S.getD y 0) w:=by grind
   exact z6G hS.nd (z4U.1 x1).1 (z4U.1 y1).1 (zcF hd hn h (z4U.1 x1).2.2 (z4U.1 y1).2.2 e2)
  have:=z8c hnd (r:=z6p S i) fun x hx=>by
   obtain⟨j,hj,rfl⟩:=Zm.1 hx
   exact zmr hd hn hS hk hi h h' hj
  simpa using this
 exact Nat.le_antisymm (one hk hi h h') (one hi hk h' h)
theorem zoS(hk:k<S.length)(hi:i<S.length)(he:z2u d m n S i k=true):szN (S.getD i 0)=szN (S.getD k 0)/\S.getD i 0∈(z1C d m n (S.getD k 0)).1:=by
 have h128:2^n<=128:=Zi (n:=2) (by omega) hn
 simp only[z2u,Z6] at he
 obtain⟨w,w1,w2⟩:=(z4f hd hS hk).1 he.1
 obtain⟨v,v1,v2⟩:=(z4f hd hS hi).1 he.2
 have hkl:=hS.lt _ (z0f hk)
 have hil:=hS.lt _ (z0f hi)
 have a1:=zfF w2
 have a2:=zbE hd hn hkl w1
 have a3:=zfF v2
 have a4:=zbE hd hn hil v1
 refine⟨by omega,?_⟩
 have hrl:=zfP hd hkl w1
 have:=zvM (by omega) w2 (by omega)
 rw[this]
 exact zfT hd hkl w1 (zaH hd hkl)
omit hn hS in
theorem zjM{s x:Nat}(hs:s<2^n)(hx:x∈(z1C d m n s).1):zzm m (z7X (z1C d m n s) x).data.toList/\(z7X (z1C d m n s) x).size<=2^n/\z4y d s (z7X (z1C d m n s) x).data.toList=x:=by
 have hi:=z6u hd hs
 have hl:=z2n hi.nd hi.lt
 have hlt:=z6j hx
 obtain⟨o1,o2,o3⟩:=hi.ok _ hlt
 unfold z7X
 exact⟨o2,by omega,by rw[o3,z4i hx]⟩
end
end
section
open Go
variable{i:Nat}
theorem zcP{N:Nat}{e:Nat->Nat->Bool}(he:EqvN N e)(hi:i<N):
 (z9c e N i<(z1e e i).length/\(z1e e i).getD (z9c e N i) 0=(z1e e N).getD (z9c e N i) 0/\z1e e (i+1)=z1e e i)∨
 (z9c e N i=(z1e e i).length/\(z1e e N).getD (z9c e N i) 0=i/\z1e e (i+1)=z1e e i++ [i]):=by
 have hc:=zyf he hi
 by_cases h:(z1e e i).any (e i)=true
 · left
   obtain⟨x,hx,hp⟩:=Yg.1 h
   have hlt:z9c e N i<(z1e e i).length:=by grind
   refine⟨hlt,?_,by rw[z1e,if_pos h]⟩
   obtain⟨R,hR⟩:=zdN e (i:=i) N (by omega)
   rw[hR,List.getD,List.getD,ZL hlt]
 · right
   have hlt:z9c e N i=(z1e e i).length:=by grind
   refine⟨hlt,?_,by rw[z1e,if_neg h]⟩
   obtain⟨R,hR⟩:=zdN e (i:=i+1) N (by omega)
   rw[hR,z1e,if_neg h,hlt,List.getD,Zo,Y5 (Z5 _),XS]
   rfl
section
variable {d:DFA} {m n:Nat} {S:List Nat} (hd:DfaOk d m n) (hn:n<=7) (hS:SetsP d m n S)
include hd hn hS
theorem zlk(hi:i<S.length):z5P d m n S i<=i:=by
 have _u:=hn
 rcases zcP (z8Y hd hS) hi with⟨h1,h2,_⟩|⟨h1,h2,_⟩
 · have:=zbf (z2u d m n S) i _ (z0f h1)
   rw[h2] at this
   exact Nat.le_of_lt this
 · exact Nat.le_of_eq h2
theorem zn8(hi:i<S.length):z2u d m n S i (z5P d m n S i)=true:=by
 have _u:=hn
 exact(zbV (z8Y hd hS) hi).2
end
end
section
open Go
theorem zaO{d:DFA}{m n K I J:Nat}{u v:List UInt8}(h1:Lead d m n K I u)(h2:Lead d m n I J v):Lead d m n K J (u++v) where
 hw c hc:=(Ze.1 hc).elim (h1.hw c) (h2.hw c)
 hK:=h1.hK
 hI:=h2.hI
 run:=by rw[z6T,h1.run,h2.run]
 sz:=h2.sz.trans h1.sz
def z2K(S:List Nat)(k:Nat):List Nat:=(z6p S k).map fun t=>S.getD t 0
def z3F(d:DFA)(w:List UInt8)(T:List Nat):List Nat:=T.map fun t=>T.idxOf (z4y d t w)
theorem zcv(d:DFA)(w:List UInt8)(T:List Nat):(z3F d w T).length=T.length:=by simp[z3F]
def clN(d:DFA)(m n:Nat)(S:List Nat)(i:Nat):Nat:=z9c (z2u d m n S) S.length i
def zbS(d:DFA)(S:List Nat)(i a:Nat):Nat:=S.idxOf (mvN d (S.getD i 0) a)
def hwN(d:DFA)(m n:Nat)(S:List Nat)(i a:Nat):ByteArray:=zej d m n S i++zrg a++zva d m n S (zbS d S i a)
section
variable {d:DFA} {m n:Nat} {S:List Nat} (hd:DfaOk d m n) (hn:n<=7) (hS:SetsP d m n S)
include hd hn hS
theorem z7Z{k:Nat}(hk:k<S.length):(z2K S k).Nodup/\ ∀t∈z2K S k,t∈S/\z7D t (S.getD k 0)/\t<2^n:=by
 have _u:=hd
 have hin:∀x∈z6p S k,x<S.length:=fun x hx=>zcL (z5N hx).1
 refine⟨z5r (zfE S k) fun x hx y hy e=>z6G hS.nd (hin x hx) (hin y hy) e,fun t ht=> ?_⟩
 obtain⟨x,hx,rfl⟩:=Zm.1 ht
 obtain⟨h1,h2,h3,_⟩:=zce hn hS hk hx
 exact⟨z0f h2,h3,hS.lt _ (z0f h2)⟩
theorem zmo{k:Nat}(hk:k<S.length){w:List UInt8}(h:Lead d m n (S.getD k 0) (S.getD k 0) w):∀t∈z2K S k,z4y d t w∈z2K S k:=fun t ht=>by
 obtain⟨x,hx,rfl⟩:=Zm.1 ht
 have hm:=zmr hd hn hS hk hk h h hx
 have hr:=zkK hS h.hw (z0f (zcL (z5N hx).1):S.getD x 0∈S)
 exact Zm.2 ⟨_,hm,z4i hr⟩
theorem zaJ{k:Nat}(hk:k<S.length){w:List UInt8}(h:Lead d m n (S.getD k 0) (S.getD k 0) w):(z3F d w (z2K S k)).Nodup/\(∀p∈z3F d w (z2K S k),p<(z2K S k).length)/\ ∀i,i<(z2K S k).length->(z2K S k).getD ((z3F d w (z2K S k)).getD i 0) 0=z4y d ((z2K S k).getD i 0) w:=by
 obtain⟨hnd,hf⟩:=z7Z hd hn hS hk
 have hr:=zmo hd hn hS hk h
 refine⟨z5r hnd fun x hx y hy e=> ?_,fun p hp=> ?_,fun i hi=> ?_⟩
 · have e2:z4y d x w=z4y d y w:=by
    rw[←z4i (hr x hx),←z4i (hr y hy),e]
   exact zcF hd hn h (hf x hx).2.1 (hf y hy).2.1 e2
 · obtain⟨x,hx,rfl⟩:=Zm.1 hp
   exact z6j (hr x hx)
 · have e:(z3F d w (z2K S k)).getD i 0=(z2K S k).idxOf (z4y d ((z2K S k).getD i 0) w):=by
    simp[z3F,List.getD,hi]
   rw[e,z4i (hr _ (z0f hi))]
theorem z9g{i:Nat}(hi:i<S.length):Lead d m n (S.getD (z5P d m n S i) 0) (S.getD i 0) (zej d m n S i).data.toList/\(zej d m n S i).size<=2^n:=by
 have hk:z5P d m n S i<S.length:=by have:=zlk hd hn hS hi;omega
 obtain⟨h1,h2⟩:=zoS hd hn hS hk hi (zn8 hd hn hS hi)
 have hlk:=hS.lt _ (z0f hk)
 obtain⟨w1,w2,w3⟩:=zjM hd hlk h2
 exact⟨⟨w1,hlk,hS.lt _ (z0f hi),w3,h1⟩,w2⟩
theorem zd3{i:Nat}(hi:i<S.length):Lead d m n (S.getD i 0) (S.getD (z5P d m n S i) 0) (zva d m n S i).data.toList/\(zva d m n S i).size<=2^n:=by
 have hk:z5P d m n S i<S.length:=by have:=zlk hd hn hS hi;omega
 have he:=zn8 hd hn hS hi
 have he':z2u d m n S (z5P d m n S i) i=true:=by
  simp only[z2u,Z6] at he⊢;exact he.symm
 obtain⟨h1,h2⟩:=zoS hd hn hS hi hk he'
 have hli:=hS.lt _ (z0f hi)
 obtain⟨w1,w2,w3⟩:=zjM hd hli h2
 exact⟨⟨w1,hli,hS.lt _ (z0f hk),w3,h1⟩,w2⟩
theorem zuG{i a:Nat}(hi:i<S.length)(ha:a<m):zbS d S i a<S.length/\S.getD (zbS d S i a) 0=mvN d (S.getD i 0) a:=by
 have _u:=hd
 have _v:=hn
 have:=hS.cl _ (z0f hi) a ha
 exact⟨z6j this,z4i this⟩
theorem zuU{i:Nat}(hi:i<S.length):clN d m n S i<(z6n d m n S).length/\(z6n d m n S).getD (clN d m n S i) 0=z5P d m n S i:=by
 have _u:=hn
 exact⟨(zbV (z8Y hd hS) hi).1,rfl⟩
theorem zn5{i a:Nat}(hi:i<S.length)(ha:a<m)(hc:clN d m n S (zbS d S i a)=clN d m n S i):Lead d m n (S.getD (z5P d m n S i) 0) (S.getD (z5P d m n S i) 0) (hwN d m n S i a).data.toList/\(hwN d m n S i a).size<=2*2^n+1:=by
 obtain⟨j1,j2⟩:=zuG hd hn hS hi ha
 obtain⟨l1,s1⟩:=z9g hd hn hS hi
 obtain⟨l2,s2⟩:=zd3 hd hn hS j1
 have hf:z5P d m n S (zbS d S i a)=z5P d m n S i:=by
  unfold z5P;unfold clN at hc;rw[hc]
 rw[hf] at l2
 have h26:(UInt8.ofNat (97+a)).toNat=97+a:=zaN (by have:=hd.m6;omega)
 have l3:Lead d m n (S.getD i 0) (S.getD (zbS d S i a) 0) (zrg a).data.toList:=by
  refine⟨fun c hc=> ?_,l1.hI,hS.lt _ (z0f j1),?_,?_⟩
  · rw[z8b,Zj] at hc
    subst hc;omega
  · rw[z8b,j2,z4y,z4y,h26,Ym]
  · have:=l1.sz;have:=l2.sz;omega
 have l4:=zaO (zaO l1 l3) l2
 refine⟨?_,?_⟩
 · unfold hwN;rw[zcX,zcX];exact l4
 · unfold hwN;rw[zeT,zeT,z7q];omega
end
abbrev HS:=List ByteArray×List (List Nat)
def zgY(d:DFA)(m n:Nat)(S:List Nat)(T:List Nat)(i:Nat)(st:HS)(a:Nat):HS:=
 if clN d m n S (zbS d S i a)=clN d m n S i then
  (if z3F d (hwN d m n S i a).data.toList T=List.range T.length∨z3F d (hwN d m n S i a).data.toList T∈st.2 then st else(st.1++ [hwN d m n S i a],st.2++ [z3F d (hwN d m n S i a).data.toList T]))
 else st
def zlT(d:DFA)(m n:Nat)(S:List Nat)(T:List Nat)(i:Nat)(st:HS)(a:Nat):HS:=(List.range a).foldl (zgY d m n S T i) st
def zjA(d:DFA)(m n:Nat)(S:List Nat)(T:List Nat)(c k:Nat):HS:=(List.range k).foldl (fun st i=>if clN d m n S i=c then zlT d m n S T i st m else st) ([],[])
theorem ziA(d:DFA)(m n:Nat)(S T:List Nat)(i:Nat)(st:HS)(a:Nat):zlT d m n S T i st (a+1)=zgY d m n S T i (zlT d m n S T i st a) a:=by
 unfold zlT;rw[YA,YK];rfl
theorem zpg(d:DFA)(m n:Nat)(S T:List Nat)(c k:Nat):zjA d m n S T c (k+1)=if clN d m n S k=c then zlT d m n S T k (zjA d m n S T c k) m else zjA d m n S T c k:=by
 unfold zjA;rw[YA,YK];rfl
def z2d(d:DFA)(m n:Nat)(S:List Nat)(c:Nat):Nat:=(z6n d m n S).getD c 0
structure HInv(d:DFA)(m n:Nat)(S:List Nat)(c:Nat)(B:Nat)(st:HS):Prop where
 len:st.1.length=st.2.length
 bd:st.1.length<=B
 ok:∀j,j<st.1.length->∃w:ByteArray,st.1.getD j ByteArray.empty=w/\Lead d m n (S.getD (z2d d m n S c) 0) (S.getD (z2d d m n S c) 0) w.data.toList/\w.size<=2*2^n+1/\st.2.getD j []=z3F d w.data.toList (z2K S (z2d d m n S c))
section
variable {d:DFA} {m n:Nat} {S:List Nat} (hd:DfaOk d m n) (hn:n<=7) (hS:SetsP d m n S)
include hd hn hS
theorem zyA{c i a B:Nat}{st:HS}(h:HInv d m n S c B st)(hi:i<S.length)(ha:a<m)(hc:clN d m n S i=c):HInv d m n S c (B+1) (zgY d m n S (z2K S (z2d d m n S c)) i st a):=by
 have h1:HInv d m n S c (B+1) st:=⟨h.len,by have:=h.bd;omega,h.ok⟩
 unfold zgY
 split
 · rename_i hj
   split
   · exact h1
   · obtain⟨l1,l2⟩:=zn5 hd hn hS hi ha hj
     have hf:z2d d m n S c=z5P d m n S i:=by unfold z2d;rw[←hc];exact(zuU hd hn hS hi).2
     rw[←hf] at l1
     refine⟨by simp[h.len],by have:=h.bd;simp;omega,fun j hj=> ?_⟩
     rw[Za,ZE] at hj
     rcases Yw j st.1.length with h3|h3
     · rw[z8x _ h3,z8x _ (by rw[←h.len];exact h3)]
       exact h.ok j h3
     · have e:j=st.1.length:=by omega
       rw[zaa e,zaa (by rw[←h.len];exact e)]
       exact⟨_,rfl,l1,l2,rfl⟩
 · exact h1
theorem zo9{c i B:Nat}{st:HS}(h:HInv d m n S c B st)(hi:i<S.length)(hc:clN d m n S i=c):∀a,a<=m->HInv d m n S c (B+a) (zlT d m n S (z2K S (z2d d m n S c)) i st a)
 |0,_=>h
 |a+1,ha=>by
  rw[ziA]
  exact zyA hd hn hS (zo9 h hi hc a (by omega)) hi (by omega) hc
theorem zvj{c:Nat}:∀k,k<=S.length->HInv d m n S c (k*m) (zjA d m n S (z2K S (z2d d m n S c)) c k)
 |0,_=>⟨rfl,by simp[zjA],fun j hj=>by simp[zjA] at hj⟩
 |k+1,hk=>by
  have ih:=zvj (c:=c) k (by omega)
  rw[zpg]
  have e:(k+1)*m=k*m+m:=by rw[Yi];omega
  split
  · rename_i hc
    rw[e];exact zo9 hd hn hS ih (by omega) hc m (Z5 _)
  · exact⟨ih.len,by have:=ih.bd;omega,ih.ok⟩
end
end
section
open Go
theorem zcO{κ ν:Type}[DecidableEq κ](k q:κ)(v:ν):∀m:List (κ×ν),z8i q (z8p k v m)=if k=q then some v else z8i q m
 | []=>rfl
 |(a,u)::r=>by
  simp only[z8p]
  by_cases h:a=k
  · subst h
    rw[if_pos rfl]
    simp only[z8i]
    by_cases h2:a=q
    · rw[if_pos h2,if_pos h2]
    · rw[if_neg h2,if_neg h2,if_neg h2]
  · rw[if_neg h]
    simp only[z8i,zcO k q v r]
    by_cases h2:a=q
    · rw[if_pos h2,if_pos h2,if_neg (fun e=>h (h2.trans e.symm))]
    · rw[if_neg h2,if_neg h2]
def zgo(S:List Nat):Nat->List (Int×Int)
 |0=> []
 |k+1=>z8p ((S.getD k 0:Nat):Int) (k:Int) (zgo S k)
theorem zeH{S:List Nat}(hS:S.Nodup){j:Nat}:∀k,k<=S.length->j<k->z8i ((S.getD j 0:Nat):Int) (zgo S k)=some (j:Int)
 |k+1,hk,hj=>by
  simp only[zgo]
  rw[zcO]
  by_cases e:j=k
  · subst e;rw[if_pos rfl]
  · rw[if_neg (fun h=>e (z6G hS (by omega) (by omega) (by omega))),zeH hS k (by omega) (by omega)]
theorem zsI{d:DFA}{w:List UInt8}{T:List Nat}{k:Nat}(h:k<T.length):(z3F d w T).getD k 0=T.idxOf (z4y d (T.getD k 0) w):=by
 simp[z3F,List.getD,h]
theorem z8N{l:List Nat}{k:Nat}(h:k<l.length):l.take (k+1)=l.take k++ [l.getD k 0]:=by
 rw[ZA h,List.getD,Z1 h,Zb]
section
variable {d:DFA} {m n:Nat} {S:List Nat} (hd:DfaOk d m n) (hn:n<=7) (hS:SetsP d m n S)
include hd hn hS
theorem z2I{c:Nat}(hc:c<(z6n d m n S).length):clN d m n S (z2d d m n S c)=c/\z2d d m n S c<S.length:=by
 have _u:=hn
 have he:=z8Y hd hS
 have hk:z2d d m n S c<S.length:=zn7 hc
 obtain⟨h1,h2⟩:=zbV he hk
 refine⟨zjb he (zab he _ (Z5 _)) (fun f hf=>zbf _ _ f hf) hk h1 hc h2 (he.refl _ hk),hk⟩
end
end
section
open Go
def leH(H:Nat->Nat)(a b:Nat):Prop:=H b<H a∨(H a=H b/\a<=b)
abbrev zAc(H:Nat->Nat)(l:List Nat):Prop:=l.Pairwise (leH H)
end
section
open Go
def hL(N:Nat)(h:Nat->Nat):List Int:=(List.range N).map fun i=>((h i:Nat):Int)
theorem zwL{N:Nat}{b:Nat->Nat->Bool}(hb:BelN N b){z:Nat->Bool}{i j:Nat}(hi:i<N)(hj:j<N)(hz:z i=false)(hs:sbN b j i=true):zoF N b z j<zoF N b z i:=by
 rw[zi8 hb z i hi,hz]
 have:=zon (g:=fun j=>if sbN b j i=true then zoF N b z j+1 else 0) hj
 simp only[hs,if_true] at this
 simp only[ZR,if_false]
 omega
section
variable {d:DFA} {m n:Nat} {S:List Nat} (hd:DfaOk d m n) (hn:n<=7) (hS:SetsP d m n S) (hpos:∀x∈S,x≠0)
include hd hn hS hpos
end
end
section
open Go
def hC(d:DFA)(m n:Nat)(S:List Nat)(c:Nat):Nat:=z7A d m n S (z2d d m n S c)
def za5(d:DFA)(m n:Nat)(S:List Nat)(k:Nat):List Nat:=(List.range (z1e (z2u d m n S) k).length).filter fun c=>decide (0<hC d m n S c)
def zlS(d:DFA)(m n:Nat)(S:List Nat):Prop:=∀i,i<S.length->z7A d m n S i=z7A d m n S (z5P d m n S i)
theorem zcN{d:DFA}{m n:Nat}(hd:DfaOk d m n)(hn:n<=7):zlS d m n (z1A d m n):=fun i hi=>by
 have hS:=z7y hd
 have hb:=zlM hd hS
 have hbot:∀i k,i<(z1A d m n).length->k<(z1A d m n).length->zet (z1A d m n) k=true->z7w d m n (z1A d m n) i k=true->zet (z1A d m n) i=true:=fun i k hi hk hz h=>zv4 hd hn hi hk hz h
 have hf:=zlk hd hn hS hi
 have c2:=zn8 hd hn hS hi
 simp only[z2u,Z6] at c2
 exact Nat.le_antisymm (zoE hb hbot hi (by omega) c2.1) (zoE hb hbot (by omega) hi c2.2)
section
variable {d:DFA} {m n:Nat} {S:List Nat} (hd:DfaOk d m n) (hn:n<=7) (hS:SetsP d m n S) (hH:zlS d m n S)
include hd hn hS hH
end
end
section
open Go
def za9(d:DFA)(m n:Nat)(S:List Nat)(c:Nat):Hol:=⟨((S.getD (z2d d m n S c) 0:Nat):Int),toI (z2K S (z2d d m n S c)),(zjA d m n S (z2K S (z2d d m n S c)) c S.length).1,(zjA d m n S (z2K S (z2d d m n S c)) c S.length).2.map toI⟩
theorem zqe{N k:Nat}(h:k<N):(List.range N).getD k 0=k:=by simp[List.getD,h]
theorem zdt{S:List Nat}{k:Nat}:(z2K S k).length=(z6p S k).length:=by simp[z2K]
section
variable {d:DFA} {m n:Nat} {S:List Nat} (hd:DfaOk d m n) (hn:n<=7) (hS:SetsP d m n S)
include hd hn hS
theorem zmp{k:Nat}(hk:k<S.length):(z2K S k).length<=128:=by
 have h128:2^n<=128:=Zi (n:=2) (by omega) hn
 obtain⟨h1,h2⟩:=z7Z hd hn hS hk
 have:=z2n h1 fun t ht=>(h2 t ht).2.2
 omega
end
end
section
open Go
theorem zoD{d:DFA}{m n:Nat}{S:List Nat}{c B:Nat}{st:HS}(h:HInv d m n S c B st):∀y∈st.2,y.length=(z2K S (z2d d m n S c)).length:=fun y hy=>by
 obtain⟨j,hj,rfl⟩:=Zt hy
 obtain⟨w,_,_,_,e⟩:=h.ok j (by rw[h.len];exact hj)
 rw[List.getD,Z1 hj,Zb] at e
 rw[e,zcv]
theorem zcM{d:DFA}{m n:Nat}{S:List Nat}{c B:Nat}{st:HS}(h:HInv d m n S c B st){j:Nat}(hj:j<st.1.length):Lead d m n (S.getD (z2d d m n S c) 0) (S.getD (z2d d m n S c) 0) (st.1.getD j ByteArray.empty).data.toList/\(st.1.getD j ByteArray.empty).size<=2*2^n+1/\st.2.getD j []=z3F d (st.1.getD j ByteArray.empty).data.toList (z2K S (z2d d m n S c)):=by
 obtain⟨w,e1,e2,e3,e4⟩:=h.ok j hj
 rw[e1];exact⟨e2,e3,e4⟩
section
variable {d:DFA} {m n:Nat} {S:List Nat} (hd:DfaOk d m n) (hn:n<=7) (hS:SetsP d m n S)
include hd hn hS
end
end
section
open Go
variable{c i:Nat}
def zbZ(d:DFA)(m n:Nat)(S:List Nat)(c k:Nat):List Nat:=(List.range k).filter fun j=>decide (clN d m n S j=c)
def zg3(d:DFA)(m n:Nat)(S:List Nat)(k:Nat):List (List Int):=(List.range (z1e (z2u d m n S) k).length).map fun c=>toI (zbZ d m n S c k)
theorem zg4(d:DFA)(m n:Nat)(S:List Nat)(c k:Nat):zbZ d m n S c (k+1)=if clN d m n S k=c then zbZ d m n S c k++ [k] else zbZ d m n S c k:=by
 unfold zbZ
 rw[YA,Xr,X0,XH]
 by_cases h:clN d m n S k=c
 · grind
 · grind
section
variable {d:DFA} {m n:Nat} {S:List Nat} (hd:DfaOk d m n) (hn:n<=7) (hS:SetsP d m n S)
include hd hn hS
theorem zEL(hi:i<S.length){j:Nat}(hj:j<i):clN d m n S j<(z1e (z2u d m n S) i).length:=by
 have _u:=hn
 have he:=z8Y hd hS
 obtain⟨R,hR⟩:=zdN (z2u d m n S) (i:=j+1) i (by omega)
 have hl:(z1e (z2u d m n S) i).length=(z1e (z2u d m n S) (j+1)).length+R.length:=by rw[hR,Za]
 rcases zcP he (show j<S.length by omega) with⟨h1,_,h3⟩|⟨h1,_,h3⟩
 · rw[h3] at hl
   unfold clN;omega
 · rw[h3,Za,ZE] at hl
   unfold clN;omega
theorem zwo(hi:i<S.length):zbZ d m n S (z1e (z2u d m n S) i).length i= []:=by
 unfold zbZ
 refine List.filter_eq_nil_iff.2 fun j hj=> ?_
 have:=zEL hd hn hS hi (Zk.1 hj)
 simp only[decide_eq_true_eq]
 omega
theorem zwn(hi:i<S.length)(hSl:S.length<=1000):z3Y (z3G d m n S) ((i:Int),zg3 d m n S i)=z0c (((i+1:Nat):Int),zg3 d m n S (i+1)):=by
 have he:=z8Y hd hS
 have l2:(z3G d m n S).class_.length=S.length:=by simp[z3G,zuR]
 have hcat:atI (z3G d m n S).class_ (i:Int)=some ((clN d m n S i:Nat):Int):=z2E hi
 have hml:(zg3 d m n S i).length=(z1e (z2u d m n S) i).length:=by simp[zg3]
 have hfl:=z5w (z2u d m n S) i
 have hcl:∀c,(toI (zbZ d m n S c i)).length<=i:=fun c=>by
  rw[z0b];unfold zbZ
  exact ZJ (ZC _ _) (by rw[ZD];omega)
 simp only[z3Y]
 rw[l2,if_pos (by omega),hcat,Z0]
 rcases zcP he hi with⟨h1,_,h3⟩|⟨h1,_,h3⟩
 · have h1':clN d m n S i<(z1e (z2u d m n S) i).length:=h1
   have hc:=hcl (clN d m n S i)
   have hat:atI (zg3 d m n S i) ((clN d m n S i:Nat):Int)=some (toI (zbZ d m n S (clN d m n S i) i)):=z2E h1'
   rw[if_neg (by omega),hat,Z0,z0j _ (by unfold z1B;omega),z1g (by omega),Z3]
   congr 2
   refine Zf (by simp[zg3,h3]) fun c c1 c2=> ?_
   have hc':c<(z1e (z2u d m n S) i).length:=by simpa[zg3] using c1
   rw[Y9]
   simp only[zg3,ZG,ZQ]
   rw[zg4]
   by_cases e:clN d m n S i=c
   · rw[if_pos e,if_pos e,z5B,e]
   · rw[if_neg e,if_neg e]
 · have h1':clN d m n S i=(z1e (z2u d m n S) i).length:=h1
   have hat:atI (zg3 d m n S i++ [[]]) ((clN d m n S i:Nat):Int)=some []:=at0 (zg3 d m n S i) [] [] (by omega)
   rw[if_pos (by omega),z0j _ (by unfold z1B;omega),hat,Z0,z0j _ (by unfold z1B;simp),z1g (by omega),Z3,Y4,zyW (zg3 d m n S i) [] _ [] (by omega)]
   congr 2
   have hlen:(z1e (z2u d m n S) (i+1)).length=(z1e (z2u d m n S) i).length+1:=by grind
   show zg3 d m n S i++ [[((i:Nat):Int)]]=zg3 d m n S (i+1)
   unfold zg3
   rw[hlen,YA,ZY,Zs,Ys]
   congr 1
   · refine ZB fun c hc=> ?_
     have:=Zk.1 hc
     rw[zg4,if_neg (by omega)]
   · rw[zg4,if_pos h1',zwo hd hn hS hi,Y4];rfl
theorem zwp(hc:c<(z6n d m n S).length):∃R,zbZ d m n S c S.length=z2d d m n S c::R:=by
 obtain⟨h1,h2⟩:=z2I hd hn hS hc
 have hh:(zbZ d m n S c S.length).head?=some (z2d d m n S c):=by
  unfold zbZ
  rw[List.head?_filter,X1]
  refine⟨by simpa using h1,Zk.2 h2,fun j hj=> ?_⟩
  simp only[Yb,decide_eq_false_iff_not]
  intro e
  have:=zlk hd hn hS (i:=j) (by omega)
  have e3:z2d d m n S c=z5P d m n S j:=by unfold z2d;rw[←e];rfl
  omega
 cases h:zbZ d m n S c S.length with
 |nil=>rw[h] at hh;cases hh
 |cons x R=>
  rw[h] at hh
  exact⟨R,by rw[YD hh]⟩
theorem zom(hc:c<(z6n d m n S).length):atI (zg3 d m n S S.length) (c:Int)=some (toI (zbZ d m n S c S.length))/\atI (toI (zbZ d m n S c S.length)) 0=some ((z2d d m n S c:Nat):Int):=by
 obtain⟨R,hR⟩:=zwp hd hn hS hc
 refine⟨z2E hc,?_⟩
 rw[hR]
 exact at0 [] _ _ (i:=0) rfl
theorem znp(hSl:S.length<=1000):∃O,z5b (z3G d m n S)=some (toI O,zg3 d m n S S.length)/\zAc (hC d m n S) O/\O.Perm (za5 d m n S S.length):=by
 have he:=z8Y hd hS
 have l2:(z3G d m n S).class_.length=S.length:=by simp[z3G,zuR]
 have hhat:∀i,i<S.length->atI (z3G d m n S).height (i:Int)=some ((z7A d m n S i:Nat):Int):=fun i hi=>z2E hi
 have hml:(zg3 d m n S S.length).length=(z6n d m n S).length:=by simp[zg3,z6n]
 have hfl:(z6n d m n S).length<=S.length:=z5w (z2u d m n S) S.length
 have hko:∀c,c<(z6n d m n S).length->zzv (zg3 d m n S S.length) (z3G d m n S).height (c:Int)=some ((hC d m n S c:Nat):Int):=fun c hc=>by
  obtain⟨m1,m2⟩:=zom hd hn hS hc
  unfold zzv
  rw[m1,Z0,m2,Z0,hhat _ (z2I hd hn hS hc).2];rfl
 have hout:∀c∈za5 d m n S S.length,c<(z6n d m n S).length:=fun c hc=>Zk.1 (ZV.1 hc).1
 have hol:(za5 d m n S S.length).length<=S.length:=by
  unfold za5
  exact ZJ (ZC _ _) (by rw[ZD];exact hfl)
 have hasc:(toI (za5 d m n S S.length)).Pairwise (·< ·):=by
  unfold toI za5
  exact YC _ (fun a b (h:a<b)=>by omega) (YM _ XD)
 obtain⟨Z,e,z1,z2⟩:=zmt (K:=zAp (z3G d m n S).sets (z3G d m n S).class_ (z3G d m n S).height (z3G d m n S).tiles (z3G d m n S).words (z3G d m n S).back (zg3 d m n S S.length)) (l:=toI (za5 d m n S S.length))
  (fun x hx=>by
    obtain⟨c,hc,rfl⟩:=Zm.1 hx
    have:=hout c hc
    exact⟨by omega,by omega,by rw[hko c this];rfl⟩) hasc (by rw[z0b];omega)
 have hZ:∃O,Z=toI O/\O.Perm (za5 d m n S S.length):=by
  refine⟨Z.map Int.toNat,?_,?_⟩
  · unfold toI
    rw[Y3]
    refine(XU Z).symm.trans (ZB fun x hx=> ?_)
    obtain⟨c,hc,rfl⟩:=Zm.1 (z2.mem_iff.1 hx)
    simp
  · have:=z2.map Int.toNat
    refine this.trans ?_
    unfold toI
    rw[Y3]
    have:(Int.toNat∘fun x:Nat=>(x:Int))=id:=by funext x;simp
    rw[this,YW]
 obtain⟨O,rfl,hO⟩:=hZ
 refine⟨O,?_,?_,hO⟩
 · unfold z5b
   refine z0x (s:=((0:Int),([]:List (List Int)))) S.length (fun k=>((k:Int),zg3 d m n S k)) rfl (by simp only[LFm];omega) (fun i hi=>zwn hd hn hS hi hSl) ?_
   simp only[z3Y]
   rw[l2,if_neg (by omega)]
   congr 1
   refine z0x (s:=((0:Int),([]:List Int))) (z6n d m n S).length (fun k=>((k:Int),toI ((List.range k).filter fun c=>decide (0<hC d m n S c)))) rfl (by simp only[LFm];omega) (fun c hc=> ?_) ?_
   · obtain⟨m1,m2⟩:=zom hd hn hS hc
     have hq:(toI ((List.range c).filter fun c=>decide (0<hC d m n S c))).length<=c:=by
      rw[z0b]
      exact ZJ (ZC _ _) (by rw[ZD];omega)
     simp only[z4F]
     rw[hml,if_pos (by omega),m1,Z0,m2,Z0,hhat _ (z2I hd hn hS hc).2,Z0,z1g (by omega),YA,Xr,X0,XH]
     by_cases h:0<hC d m n S c
     · have h':0<z7A d m n S (z2d d m n S c):=h
       rw[if_pos (by omega),z0j _ (by unfold z1B;omega),if_pos (by simpa using h),z5B]
     · have h':¬0<z7A d m n S (z2d d m n S c):=h
       rw[if_neg (by omega),if_neg (by simpa using h),Y1]
   · simp only[z4F]
     rw[hml,if_neg (by omega),zs0]
     have e':toI ((List.range (z6n d m n S).length).filter fun c=>decide (0<hC d m n S c))=toI (za5 d m n S S.length):=rfl
     rw[e',e,Z0]
 · have z1':(O.map fun x:Nat=>(x:Int)).Pairwise _:=z1
   rw[List.pairwise_map] at z1'
   refine Xz (fun {x y} hx hy h=> ?_) z1'
   have ox:=hout x (hO.mem_iff.1 hx)
   have oy:=hout y (hO.mem_iff.1 hy)
   have h3:(x:Int)-(zzv (zg3 d m n S S.length) (z3G d m n S).height (x:Int)).getD 0*1048576<=(y:Int)-(zzv (zg3 d m n S S.length) (z3G d m n S).height (y:Int)).getD 0*1048576:=h
   rw[hko x ox,hko y oy,Zb,Zb] at h3
   unfold leH
   omega
end
end
section
open Go Go.IntKind
noncomputable section
abbrev z4W(a0:DFA)(a1:ByteArray)(w79:Int)(w80:List Int):Int×List Int->Option ((Int×List Int)⊕((Int×List Int)⊕List Int))
 |(w103,w104)=>
 if w103<(w80.length:Int) then
 (atI w104 w103).bind fun v110=>
 (atI a0.next v110).bind fun v111=>
 (znt a1 w79).bind fun v112=>
 (atI v111 (u8.wrap (v112-97))).bind fun v113=>
 z0c (i64.wrap (w103+1),(w104.set w103.toNat v113))
 else
 z0i<|
 z0c (i64.wrap (w79+1),w104)
variable{a1:ByteArray}{a0:List Int}
instance{a0:DFA}{w79:Int}{w80:List Int}:Hd (z4W a0 a1 w79 w80):=⟨fun(w103,w104)=>([(31,xI w103)],[(5,(tO w104))])⟩
abbrev z6D(a0:DFA)(a1:ByteArray):Int×List Int->Option ((Int×List Int)⊕List Int)
 |(w79,w80)=>
 if w79<(a1.size:Int) then
 z0k (z4W a0 a1 w79 w80) LFm (0,w80)
 else
 z0i<|
 some w80
instance{a0:DFA}:Hd (z6D a0 a1):=⟨fun(w79,w80)=>([(26,xI w79)],[(5,(tO w80))])⟩
abbrev z5k(a0:DFA)(a1:ByteArray):Int×List Int->Option ((Int×List Int)⊕List Int)
 |(w58,w59)=>
 if w58<(a0.final.length:Int) then
 (atI w59 w58).bind fun v61=>
 z0c (i64.wrap (w58+1),(w59.set w58.toNat w58))
 else
 z0i<|
 z0k (z6D a0 a1) LFm (0,w59)
instance{a0:DFA}:Hd (z5k a0 a1):=⟨fun(w58,w59)=>([(16,xI w58)],[(5,(tO w59))])⟩
def z4M(a0:DFA)(a1:ByteArray):Option (List Int):=
 chk (z0X 8 (a0.final.length:Int))<|
 z0k (z5k a0 a1) LFm (0,List.replicate (a0.final.length:Int).toNat (0:Int))
instance{a0:DFA}:Ok (z4M a0 a1) (fun r=>L 62 [.agg [.sc (.int .i64 a0.letters),.sc (.int .i64 a0.start),(tB a0.final),(tR a0.next)],.sc (.string a1)]=some ((tO r),[.dead,.dead])):=⟨fun r h=>by have h:=z4u h;unfold z4M at h;exact z5i rfl Tryz.func62 (bdy Tryz.f62 rfl)⟩
abbrev z5K(a0:List Int)(a1:Int):Int×Int->Option ((Int×Int)⊕Int)
 |(w7,w8)=>
 if w8<(a0.length:Int) then
 (atI a0 w8).bind fun v10=>
 chk (¬w8<0)<|
 if(z2X .i64 (z0w .i64 a1 w8) 1)=1 then
 chk (¬v10<0)<|
 z0c (orI .i64 w7 (zmx .i64 1 v10),i64.wrap (w8+1))
 else
 z0c (w7,i64.wrap (w8+1))
 else
 z0i<|
 some w7
instance{a1:Int}:Hd (z5K a0 a1):=⟨fun(w7,w8)=>([(5,xI w7),(10,xI w8)],[])⟩
def z3S(a0:List Int)(a1:Int):Option (Int):=
 z0k (z5K a0 a1) LFm (0,0)
instance{a1:Int}:Ok (z3S a0 a1) (fun r=>L 61 [(tI a0),.sc (.int .i64 a1)]=some (.sc (.int .i64 r),[.dead,.dead])):=⟨fun r h=>by have h:=z4u h;unfold z3S at h;exact z5i rfl Tryz.func61 (bdy Tryz.f61 rfl)⟩
abbrev z4o(a0:List Int):Int->Option (Int⊕Bool)
 |w6=>
 if w6<(a0.length:Int) then
 (atI a0 w6).bind fun v8=>
 if w6=v8 then
 z0c (i64.wrap (w6+1))
 else
 z0i<|
 some false
 else
 z0i<|
 some true
instance:Hd (z4o a0):=⟨fun w6=>([(7,xI w6)],[])⟩
def z4p(a0:List Int):Option (Bool):=
 z0k (z4o a0) LFm 0
instance:Ok (z4p a0) (fun r=>L 64 [(tI a0)]=some (.sc (.bool r),[.dead])):=⟨fun r h=>by have h:=z4u h;unfold z4p at h;exact z5i rfl Tryz.func64 (bdy Tryz.f64 rfl)⟩
abbrev z5Y(a0:List Int):Int×List Int->Option ((Int×List Int)⊕ByteArray)
 |(w7,w8)=>
 if w7<(a0.length:Int) then
 (atI a0 w7).bind fun v10=>
 chk (¬8<0)<|
 chk (z1B 1 (w8.length+2))<|
 z0c (i64.wrap (w7+1),w8++ [u8.wrap (z0w .i64 v10 8),u8.wrap v10])
 else
 z0i<|
 some (z1z w8)
instance:Hd (z5Y a0):=⟨fun(w7,w8)=>([(12,xI w7)],[(3,.os 1 w8.length (w8.map fun x0=>.sc (.int .u8 x0)))])⟩
def z5J(a0:List Int):Option (ByteArray):=
 chk (z0X 1 (i64.wrap (2*(a0.length:Int))))<|
 z0k (z5Y a0) LFm (0,[])
instance:Ok (z5J a0) (fun r=>L 65 [(tI a0)]=some (.sc (.string r),[.dead])):=⟨fun r h=>by have h:=z4u h;unfold z5J at h;exact z5i rfl Tryz.func65 (bdy Tryz.f65 rfl)⟩
abbrev z3N(a0:List Int)(a1:List Int)(w18:List (Int×Int)):Int×List Int->Option ((Int×List Int)⊕List Int)
 |(w23,w24)=>
 if w23<(a1.length:Int) then
 (atI a1 w23).bind fun v28=>
 (z3S a0 v28).bind fun v29=>
 (atI w24 w23).bind fun v30=>
 z0c (i64.wrap (w23+1),(w24.set w23.toNat ((z8i v29 w18).getD 0)))
 else
 z0i<|
 some w24
instance{a1:List Int}{w18:List (Int×Int)}:Hd (z3N a0 a1 w18):=⟨fun(w23,w24)=>([(30,xI w23)],[(8,(tO w24))])⟩
abbrev z3O(a0:List Int)(a1:List Int):Int×(List (Int×Int))->Option ((Int×(List (Int×Int)))⊕List Int)
 |(w17,w18)=>
 if w17<(a1.length:Int) then
 (atI a1 w17).bind fun v20=>
 z0c (i64.wrap (w17+1),z8p v20 w17 w18)
 else
 z0i<|
 chk (z0X 8 (a1.length:Int))<|
 z0k (z3N a0 a1 w18) LFm (0,List.replicate (a1.length:Int).toNat (0:Int))
instance{a1:List Int}:Hd (z3O a0 a1):=⟨fun(w17,w18)=>([(16,xI w17)],[(5,.mp (some .i64) (w18.map fun x0=>(.int .i64 x0.1,.int .i64 x0.2)))])⟩
def z3I(a0:List Int)(a1:List Int):Option (List Int):=
 z0k (z3O a0 a1) LFm (0,([]:List (Int×Int)))
instance{a1:List Int}:Ok (z3I a0 a1) (fun r=>L 63 [(tI a0),(tI a1)]=some ((tO r),[.dead,.dead])):=⟨fun r h=>by have h:=z4u h;unfold z3I at h;exact z5i rfl Tryz.func63 (bdy Tryz.f63 rfl)⟩
end
end
section
open Go
variable{d:DFA}{w:List UInt8}{N k m n s:Nat}{α:Type}{f g:Nat->α}
def zaL{α:Type}(N:Nat)(f g:Nat->α)(k:Nat):List α:=(List.range N).map fun i=>if i<k then f i else g i
theorem zmP:(zaL N f g k).length=N:=by simp[zaL]
theorem z9v:zaL N f g 0=(List.range N).map g:=by simp[zaL]
theorem z9u:zaL N f g N=(List.range N).map f:=ZB fun i hi=>by rw[if_pos (Zk.1 hi)]
theorem z6y(h:k<N):atI (zaL N f g k) (k:Int)=some (g k):=by
 rw[z1k (by rw[zmP];exact h)];simp[zaL]
theorem z4S(h:k<N):(zaL N f g k).set k (f k)=zaL N f g (k+1):=by
 refine Zf (by simp[zaL]) fun i h1 h2=> ?_
 have hi:i<N:=by simpa[zaL] using h2
 rw[Y9]
 simp only[zaL,ZG,ZQ]
 by_cases e:k=i
 · subst e;rw[if_pos rfl,if_pos (XA k)]
 · grind
abbrev ziM(m:Nat)(w:List UInt8):Prop:=∀c∈w,97<=c.toNat/\c.toNat<97+m
theorem zbK{c:UInt8}(h:ziM m (c::w)):ziM m w/\c.toNat-97<m:=⟨fun c' hc'=>h c' (Zl _ hc'),by have:=h c (Zy ..);omega⟩
def nxN(d:DFA)(q a:Nat):Nat:=((d.next.getD q []).getD a 0).toNat
def z8r(d:DFA):Nat->List UInt8->Nat
 |q,[]=>q
 |q,c::w=>z8r d (nxN d q (c.toNat-97)) w
theorem zik(d:DFA):∀(q:Nat) (u v:List UInt8),z8r d q (u++v)=z8r d (z8r d q u) v
 |q,[],v=>rfl
 |q,c::u,v=>by simp only[ZU,z8r,zik]
theorem zzc(hd:DfaOk d m n){q a:Nat}(hq:q<n)(ha:a<m):∃r,atI d.next (q:Int)=some r/\atI r (a:Int)=some ((nxN d q a:Nat):Int)/\nxN d q a<n:=by
 obtain⟨h1,h2,h3,h4,h5⟩:=zbG hd hq ha
 refine⟨d.next[q],z1k h1,?_,?_⟩
 · rw[z1k h2];unfold nxN;rw[h3];congr 1;omega
 · unfold nxN;rw[h3];omega
theorem zij{d:DFA}{m n:Nat}(hd:DfaOk d m n):∀ {w:List UInt8} {q:Nat},q<n->ziM m w->z8r d q w<n
 | [],q,hq,_=>hq
 |c::w,q,hq,hw=>by
  obtain⟨_,_,_,h⟩:=zzc hd hq (zbK hw).2
  exact zij (w:=w) (q:=nxN d q (c.toNat-97)) hd h (zbK hw).1
theorem zv6{p:Nat}(hs:s<2^n)(h:s.testBit p=true):p<n:=by
 rcases Yw p n with h1|h1
 · exact h1
 · have:=YS (Zx hs (Zi (n:=2) (by omega) h1))
   rw[this] at h;cases h
theorem z9r{d:DFA}{m n:Nat}(hd:DfaOk d m n):∀ {w:List UInt8} {s p:Nat},ziM m w->s<2^n->((z4y d s w).testBit p=true↔ ∃i,i<n/\s.testBit i=true/\z8r d i w=p)
 | [],s,p,_,hs=>by
   refine⟨fun h=>⟨p,zv6 hs h,h,rfl⟩,?_⟩
   rintro⟨i,_,h,rfl⟩;exact h
 |c::w,s,p,hw,hs=>by
  have ha:=(zbK hw).2
  rw[z4y,z9r hd (zbK hw).1 (zcx hd ha)]
  constructor
  · rintro⟨j,h1,h2,h3⟩
    obtain⟨i,i1,i2,i3⟩:=(z9t hd ha j).1 h2
    exact⟨i,i1,i2,by rw[z8r,nxN,i3];exact h3⟩
  · rintro⟨i,h1,h2,h3⟩
    obtain⟨_,_,_,h⟩:=zzc hd h1 ha
    exact⟨_,h,(z9t hd ha _).2 ⟨i,h1,h2,rfl⟩,h3⟩
def zh8(d:DFA)(n:Nat)(w:List UInt8):List Nat:=(List.range n).map fun q=>z8r d q w
theorem zEY(d:DFA)(n:Nat)(w:List UInt8):toI (zh8 d n w)=(List.range n).map fun q=>((z8r d q w:Nat):Int):=by simp[toI,zh8]
theorem zlR(hd:DfaOk d m n)(hn:n<=12){w:ByteArray}(hw:ziM m w.data.toList)(hs:w.size<2^40):z4M d w=some (toI (zh8 d n w.data.toList)):=by
 have hl:w.data.toList.length=w.size:=by rw[Yj];rfl
 have hm:=hd.m6
 unfold z4M
 rw[hd.fin,z0j _ (by unfold z0X;omega),Z3]
 refine z0x (s:=((0:Int),List.replicate n (0:Int))) n (fun k=>((k:Int),zaL n (fun q=>(q:Int)) (fun _=>0) k)) (by rw[z9v];congr 1;exact(Zf (by simp) fun i h1 h2=>by simp)) (by simp only[LFm];omega) (fun k hk=> ?_) ?_
 · simp only[z5k]
   rw[hd.fin,if_pos (by omega),z6y hk,Z0,z1g (by omega),Z3,z4S hk]
 · simp only[z5k]
   rw[hd.fin,if_neg (by omega),z9u]
   congr 1
   refine z0x (s:=((0:Int),(List.range n).map fun q:Nat=>(q:Int))) w.size (fun k=>((k:Int),toI (zh8 d n (w.data.toList.take k)))) (by rw[zEY];rfl) (by simp only[LFm];omega) (fun k hk=> ?_) ?_
   · have hk':k<w.data.toList.length:=by omega
     have hc:=hw _ (Zw hk')
     have hb:w[k]=w.data.toList[k]:=by rw[zlG hk,List.getD,Z1 hk',Zb]
     have ht:ziM m (w.data.toList.take k):=fun c hc=>hw c (ZI hc)
     simp only[z6D]
     rw[if_pos (by omega)]
     have hst:∀q,z8r d q (w.data.toList.take (k+1))=nxN d (z8r d q (w.data.toList.take k)) (w.data.toList[k].toNat-97):=fun q=>by
      rw[zku hk',zik];rfl
     refine z0x (s:=((0:Int),toI (zh8 d n (w.data.toList.take k)))) n (fun q=>((q:Int),zaL n (fun q=>((z8r d q (w.data.toList.take (k+1)):Nat):Int)) (fun q=>((z8r d q (w.data.toList.take k):Nat):Int)) q)) (by rw[z9v,zEY];rfl) (by simp only[LFm];omega) (fun q hq=> ?_) ?_
     · obtain⟨r,r1,r2,r3⟩:=zzc hd (zij hd hq ht) (a:=w.data.toList[k].toNat-97) (by omega)
       have h256:w[k].toNat<256:=w[k].toNat_lt
       have wl:IntKind.u8.wrap ((w.data.toList[k].toNat:Int)-97)=((w.data.toList[k].toNat-97:Nat):Int):=by
        rw[YI];rw[hb] at h256;omega
       simp only[z4W]
       rw[if_pos (by rw[z0b];simp[zh8];omega),z6y hq,Z0,r1,Z0,zlH hk,Z0,hb,wl,r2,Z0,z1g (by omega),Z3,←hst,z4S hq]
     · simp only[z4W]
       rw[if_neg (by rw[z0b];simp[zh8]),z9u,z1g (by omega),zEY]
   · grind
def zrk(F:List Nat)(s:Nat):Nat->Nat
 |0=>0
 |k+1=>if s.testBit k=true then zrk F s k|||2^F.getD k 0 else zrk F s k
theorem zpe{F:List Nat}{s p:Nat}:∀k,(zrk F s k).testBit p=true↔ ∃i,i<k/\s.testBit i=true/\F.getD i 0=p
 |0=>by simp[zrk]
 |k+1=>by
  have ih:=zpe (F:=F) (s:=s) (p:=p) k
  unfold zrk
  by_cases hb:s.testBit k=true
  · grind
  · grind
theorem znx{F:List Nat}{s n:Nat}(hF:∀x∈F,x<n):∀k,k<=F.length->zrk F s k<2^n
 |0,_=>Yv n
 |k+1,hk=>by
  unfold zrk
  split
  · exact zz6 (znx hF k (by omega)) (Yn (by omega) (hF _ (z0f (by omega))))
  · exact znx hF k (by omega)
theorem zxo{F:List Nat}(hn:n<=12)(hF:∀x∈F,x<n)(hl:F.length<=60)(hs:s<2^62):z3S (toI F) (s:Int)=some ((zrk F s F.length:Nat):Int):=by
 unfold z3S
 have h62:∀k,k<=F.length->zrk F s k<2^62:=fun k hk=>Zx (znx hF k hk) (Zi (by omega) (by omega))
 refine z0x (s:=((0:Int),(0:Int))) F.length (fun k=>(((zrk F s k:Nat):Int),(k:Int))) rfl (by simp only[LFm];omega) (fun k hk=> ?_) ?_
 · have hx:=hF _ (z0f hk)
   simp only[z5K]
   rw[if_pos (by rw[z0b];omega),z1u hk,Z0,z0j _ (by omega),z1g (by omega)]
   have hb:=zgM (a:=s) (q:=k) hs (by omega)
   by_cases h:s.testBit k=true
   · rw[if_pos (hb.2 h),z0j _ (by omega),z8t (by omega),zmK (h62 k (by omega)) (Yn (by omega) (by omega))]
     simp only[zrk];rw[if_pos h]
   · rw[if_neg (fun e=>h (hb.1 e))]
     simp only[zrk];rw[if_neg h]
 · simp only[z5K]
   rw[if_neg (by rw[z0b];omega)]
theorem zlP(hd:DfaOk d m n)(hn:n<=12)(hw:ziM m w)(hs:s<2^n):z3S (toI (zh8 d n w)) (s:Int)=some ((z4y d s w:Nat):Int):=by
 have hF:∀x∈zh8 d n w,x<n:=fun x hx=>by
  obtain⟨q,hq,rfl⟩:=Zm.1 hx
  exact zij hd (Zk.1 hq) hw
 have hl:(zh8 d n w).length=n:=by simp[zh8]
 rw[zxo hn hF (by omega) (Zx hs (Zi (by omega) (by omega)))]
 congr 2
 refine ZS fun p=> ?_
 rw[Yf,zpe,z9r hd hw hs,hl]
 refine exists_congr fun i=>and_congr_right fun hi=>and_congr_right fun _=> ?_
 simp[zh8,List.getD,hi]
end
section
open Go
variable{p:List Nat}
theorem zh1{d:DFA}{m n:Nat}(hd:DfaOk d m n)(hn:n<=12){T:List Nat}(hT:T.Nodup)(hl:T.length<=1000)(hlt:∀t∈T,t<2^n){w:List UInt8}(hw:ziM m w)(hr:∀t∈T,z4y d t w∈T):z3I (toI (zh8 d n w)) (toI T)=some (toI (z3F d w T)):=by
 unfold z3I
 refine z0x (s:=((0:Int),([]:List (Int×Int)))) T.length (fun k=>((k:Int),zgo T k)) rfl (by simp only[LFm];omega) (fun k hk=> ?_) ?_
 · simp only[z3O]
   rw[if_pos (by rw[z0b];omega),z1u hk,Z0,z1g (by omega)]
   rfl
 · simp only[z3O]
   rw[if_neg (by rw[z0b];omega),z0b,z0j _ (by unfold z0X;omega),Z3]
   congr 1
   have e0:toI (z3F d w T)=(List.range T.length).map fun k=>((T.idxOf (z4y d (T.getD k 0) w):Nat):Int):=by
    refine Zf (by simp[toI,z3F]) fun i h1 h2=> ?_
    have hi:i<T.length:=by simpa[toI,z3F] using h1
    simp[toI,z3F,List.getD,hi]
   rw[e0]
   refine z0x (s:=((0:Int),List.replicate T.length (0:Int))) T.length (fun k=>((k:Int),zaL T.length (fun k=>((T.idxOf (z4y d (T.getD k 0) w):Nat):Int)) (fun _=>0) k)) (by rw[z9v];congr 1;exact(Zf (by simp) fun i h1 h2=>by simp)) (by simp only[LFm];omega) (fun k hk=> ?_) ?_
   · have hm:=hr _ (z0f hk)
     have hg:=zeH hT T.length (Z5 _) (z6j hm)
     rw[z4i hm] at hg
     simp only[z3N]
     rw[if_pos (by rw[z0b];omega),z1u hk,Z0,zlP hd hn hw (hlt _ (z0f hk)),Z0,z6y hk,Z0,z1g (by omega),Z3,hg,Zb,z4S (f:=fun k=>((T.idxOf (z4y d (T.getD k 0) w):Nat):Int)) hk]
   · simp only[z3N]
     rw[if_neg (by rw[z0b];omega),z9u]
theorem zlh(hl:p.length<=100000):z4p (toI p)=some (decide (p=List.range p.length)):=by
 unfold z4p
 rw[z7p (s:=(0:Int)) p.length (fun k=>(k:Int)) (fun k=> !decide (p.getD k 0=k)) (fun _=>some false) (x:=some true) rfl (by simp only[LFm];omega) ?_ ?_]
 · rw[zeK]
   simp only[XX]
   have:((List.range p.length).all fun k=>decide (p.getD k 0=k))=decide (p=List.range p.length):=by
    rw[Yf,decide_eq_true_eq,Zn]
    constructor
    · intro h
      refine Zf (by simp) fun i h1 h2=> ?_
      have:=h i (Zk.2 h1)
      rw[decide_eq_true_eq,List.getD,Z1 h1,Zb] at this
      rw[this,ZQ]
    · intro h k hk
      have hk:=Zk.1 hk
      rw[decide_eq_true_eq]
      rw[h,zqe hk]
   rw[this]
   cases decide (p=List.range p.length)<;>rfl
 · intro k hk
   simp only[z4o]
   rw[if_pos (by rw[z0b];omega),z1u hk,Z0,z1g (by omega)]
   by_cases h:p.getD k 0=k
   · rw[if_pos (by omega),decide_eq_true h,if_neg (by simp)]
   · rw[if_neg (by omega),decide_eq_false h,if_pos (by simp)]
 · simp only[z4o]
   rw[if_neg (by rw[z0b];omega)]
def zio(p:List Nat):List Int:=p.flatMap fun k=> [((k/256:Nat):Int),((k%256:Nat):Int)]
theorem zyy(hl:p.length<=100000)(hp:∀k∈p,k<65536):z5J (toI p)=some (z1z (zio p)):=by
 have hlen:∀q:List Nat,(zio q).length=2*q.length:=fun q=>by
  unfold zio;rw[zeJ (m:=2) (fun _=>rfl)];omega
 unfold z5J
 rw[z0b,z2Y (by omega) (by omega),z0j _ (by unfold z0X;omega)]
 refine z0x (s:=((0:Int),([]:List Int))) p.length (fun k=>((k:Int),zio (p.take k))) rfl (by simp only[LFm];omega) (fun k hk=> ?_) ?_
 · have h1:=hp _ (z0f hk)
   have h2:=hlen (p.take k)
   rw[Zq] at h2
   have e1:IntKind.u8.wrap (z0w .i64 ((p.getD k 0:Nat):Int) 8)=((p.getD k 0/256:Nat):Int):=by
    have:=zo4 (a:=p.getD k 0) (q:=8) (by omega)
    rw[show((8:Nat):Int)=8 from rfl] at this
    rw[this,Xs,YI];omega
   have e2:IntKind.u8.wrap ((p.getD k 0:Nat):Int)=((p.getD k 0%256:Nat):Int):=by rw[YI];omega
   simp only[z5Y]
   rw[if_pos (by rw[z0b];omega),z1u hk,Z0,z0j _ (by omega),z0j _ (by unfold z1B;omega),z1g (by omega),e1,e2,z8N hk]
   unfold zio
   rw[List.flatMap_append]
   rfl
 · simp only[z5Y]
   rw[if_neg (by rw[z0b];omega),Yr]
theorem zyt:∀ {p q:List Nat},(∀k∈p,k<65536)->(∀k∈q,k<65536)->p.length=q.length->z1z (zio p)=z1z (zio q)->p=q:=by
 have key:∀ {p q:List Nat},(∀k∈p,k<65536)->(∀k∈q,k<65536)->p.length=q.length->(zio p).map (fun z:Int=>UInt8.ofNat z.toNat)=(zio q).map (fun z:Int=>UInt8.ofNat z.toNat)->p=q:=by
  intro p
  induction p with
  |nil=>intro q _ _ hl _;exact(ZW hl.symm).symm
  |cons a p ih=>
   intro q hp hq hl h
   cases q with
   |nil=>cases hl
   |cons b q=>
    simp only[zio,Ya,ZU,Y4,Zs,Xl] at h
    obtain⟨h1,h2,h3⟩:=h
    have ha:=hp a (Zy ..)
    have hb:=hq b (Zy ..)
    have g1:=congrArg UInt8.toNat h1
    have g2:=congrArg UInt8.toNat h2
    simp only[Z3,Xp] at g1 g2
    have:a=b:=by omega
    subst this
    rw[ih (fun k hk=>hp k (Zl _ hk)) (fun k hk=>hq k (Zl _ hk)) (by simpa using hl) h3]
 intro p q hp hq hl h
 refine key hp hq hl ?_
 have:=congrArg ByteArray.data h
 simpa[z1z] using this
end
section
open Go Go.IntKind
noncomputable section
abbrev z2F(a0:DFA)(a1:Imgs)(a2:List (Int×Int))(v139:Int)(w145:List Int)(w191:Int)(v236:Int)(v140:Int):Int×List ByteArray×List (List Int)×(List (ByteArray×Bool))->Option ((Int×List ByteArray×List (List Int)×(List (ByteArray×Bool)))⊕((Int×List ByteArray×List (List Int)×(List (ByteArray×Bool)))⊕(Hol×Int)))
 |(w249,w250,w251,w252)=>
 if w249<a0.letters then
 (atI a1.sets v236).bind fun v265=>
 (z4M a0 ⟨#[UInt8.ofNat (u8.wrap (i64.wrap (97+w249))).toNat]⟩).bind fun v266=>
 (z3S v266 v265).bind fun v267=>
 (atI a1.class_ ((z8i v267 a2).getD 0)).bind fun v268=>
 (atI a1.class_ v139).bind fun v269=>
 if v268=v269 then
 (atI a1.words v236).bind fun v270=>
 chk (z9O v270 ⟨#[UInt8.ofNat (u8.wrap (i64.wrap (97+w249))).toNat]⟩)<|
 (atI a1.back ((z8i v267 a2).getD 0)).bind fun v271=>
 chk (z9O (v270++⟨#[UInt8.ofNat (u8.wrap (i64.wrap (97+w249))).toNat]⟩) v271)<|
 (z4M a0 ((v270++⟨#[UInt8.ofNat (u8.wrap (i64.wrap (97+w249))).toNat]⟩)++v271)).bind fun v272=>
 (z3I v272 w145).bind fun v273=>
 (z4p v273).bind fun v274=>
 if v274=true then
 z0c (i64.wrap (w249+1),w250,w251,w252)
 else
 (z5J v273).bind fun v275=>
 if((z8i v275 w252).getD false)=true then
 z0c (i64.wrap (w249+1),w250,w251,w252)
 else
 if 2048<((v270.size:Int)+1+(v271.size:Int)) then
 z0i<|
 z0i<|
 some ((⟨0,[],[],[]⟩:Hol),3)
 else
 (z5J v273).bind fun v276=>
 chk (z1B 16 (w250.length+1))<|
 chk (z1B 24 (w251.length+1))<|
 z0c (i64.wrap (w249+1),w250++ [(v270++⟨#[UInt8.ofNat (u8.wrap (i64.wrap (97+w249))).toNat]⟩)++v271],w251++ [v273],z8p v276 true w252)
 else
 z0c (i64.wrap (w249+1),w250,w251,w252)
 else
 z0i<|
 z0c (i64.wrap (w191+1),w250,w251,w252)
variable{a0:DFA}{a1:Imgs}{v139 v140:Int}{a2:List (Int×Int)}{a3 w145:List Int}
instance{w191:Int}{v236:Int}:Hd (z2F a0 a1 a2 v139 w145 w191 v236 v140):=⟨fun(w249,w250,w251,w252)=>([(61,xI w249)],[(11,.vr [.sc (.int .i64 v140),(tO w145),.os 1 w250.length (w250.map fun x0=>.sc (.string x0)),.os 1 w251.length (w251.map fun x0=>(tO x0))]),(14,.mp none (w252.map fun x0=>(.string x0.1,.bool x0.2)))])⟩
abbrev z4E(a0:DFA)(a1:Imgs)(a2:List (Int×Int))(a3:List Int)(v139:Int)(v140:Int)(w145:List Int):Int×List ByteArray×List (List Int)×(List (ByteArray×Bool))->Option ((Int×List ByteArray×List (List Int)×(List (ByteArray×Bool)))⊕(Hol×Int))
 |(w191,w192,w193,w194)=>
 if w191<(a3.length:Int) then
 (atI a3 w191).bind fun v236=>
 z0k (z2F a0 a1 a2 v139 w145 w191 v236 v140) LFm (0,w192,w193,w194)
 else
 z0i<|
 some ((⟨v140,w145,w192,w193⟩:Hol),0)
instance:Hd (z4E a0 a1 a2 a3 v139 v140 w145):=⟨fun(w191,w192,w193,w194)=>([(55,xI w191)],[(11,.vr [.sc (.int .i64 v140),(tO w145),.os 1 w192.length (w192.map fun x0=>.sc (.string x0)),.os 1 w193.length (w193.map fun x0=>(tO x0))]),(14,.mp none (w194.map fun x0=>(.string x0.1,.bool x0.2)))])⟩
abbrev z4V(a0:DFA)(a1:Imgs)(a2:List (Int×Int))(a3:List Int)(v139:Int)(v140:Int)(v141:List Int):Int×List Int->Option ((Int×List Int)⊕(Hol×Int))
 |(w144,w145)=>
 if w144<(v141.length:Int) then
 (atI v141 w144).bind fun v148=>
 (atI a1.sets v148).bind fun v149=>
 chk (z1B 8 (w145.length+1))<|
 z0c (i64.wrap (w144+1),w145++ [v149])
 else
 z0i<|
 z0k (z4E a0 a1 a2 a3 v139 v140 w145) LFm (0,[],[],([]:List (ByteArray×Bool)))
instance{v141:List Int}:Hd (z4V a0 a1 a2 a3 v139 v140 v141):=⟨fun(w144,w145)=>([(37,xI w144)],[(11,.vr [.sc (.int .i64 v140),(tO w145),.os 1 0 [],.os 1 0 []])])⟩
def z5a(a0:DFA)(a1:Imgs)(a2:List (Int×Int))(a3:List Int):Option (Hol×Int):=
 (atI a3 0).bind fun v139=>
 (atI a1.sets v139).bind fun v140=>
 (atI a1.tiles v139).bind fun v141=>
 z0k (z4V a0 a1 a2 a3 v139 v140 v141) LFm (0,[])
instance:Ok (z5a a0 a1 a2 a3) (fun r=>L 22 [.agg [.sc (.int .i64 a0.letters),.sc (.int .i64 a0.start),(tB a0.final),(tR a0.next)],.agg [(tI a1.sets),(tI a1.class_),(tI a1.height),(tR a1.tiles),(tS a1.words),(tS a1.back)],.mr (some .i64) (a2.map fun x0=>(.int .i64 x0.1,.int .i64 x0.2)),(tI a3)]=some (.tup [.agg [.sc (.int .i64 r.1.set),(tI r.1.tiles),(tS r.1.words),(tR r.1.perms)],.sc (.int .i64 r.2)],[.dead,.dead,.dead,.dead])):=⟨fun r h=>by have h:=z4u h;unfold z5a at h;exact zeu rfl Tryz.func22 (bdy Tryz.f22 rfl)⟩
end
end
section
open Go Go.IntKind
noncomputable section
abbrev z6E(a0:DFA)(v19:Imgs×Int)(w22:List (Int×Int))(v25:List Int×List (List Int)):Int×List Hol->Option ((Int×List Hol)⊕(List Hol×Int))
 |(w29,w30)=>
 if w29<(v25.1.length:Int) then
 (atI v25.1 w29).bind fun v34=>
 (atI v25.2 v34).bind fun v35=>
 (z5a a0 v19.1 w22 v35).bind fun v36=>
 if v36.2=0 then
 chk (z1B 80 (w30.length+1))<|
 z0c (i64.wrap (w29+1),w30++ [v36.1])
 else
 z0i<|
 some ([],v36.2)
 else
 z0i<|
 some (w30,0)
variable{a0:DFA}{v19:Imgs×Int}
instance{w22:List (Int×Int)}{v25:List Int×List (List Int)}:Hd (z6E a0 v19 w22 v25):=⟨fun(w29,w30)=>([(50,xI w29)],[(11,.os 4 w30.length (w30.flatMap fun x0=> [.sc (.int .i64 x0.set),(tI x0.tiles),(tS x0.words),(tR x0.perms)]))])⟩
abbrev z7j(a0:DFA)(v19:Imgs×Int):Int×(List (Int×Int))->Option ((Int×(List (Int×Int)))⊕(List Hol×Int))
 |(w21,w22)=>
 if w21<(v19.1.sets.length:Int) then
 (atI v19.1.sets w21).bind fun v24=>
 z0c (i64.wrap (w21+1),z8p v24 w21 w22)
 else
 z0i<|
 (z5b v19.1).bind fun v25=>
 chk (z0X 80 (v25.1.length:Int))<|
 z0k (z6E a0 v19 w22 v25) LFm (0,[])
instance:Hd (z7j a0 v19):=⟨fun(w21,w22)=>([(31,xI w21)],[(6,.mp (some .i64) (w22.map fun x0=>(.int .i64 x0.1,.int .i64 x0.2)))])⟩
def z4w(a0:DFA):Option (List Hol×Int):=
 (z8h a0).bind fun v19=>
 if v19.2=0 then
 z0k (z7j a0 v19) LFm (0,([]:List (Int×Int)))
 else
 some ([],v19.2)
instance:Ok (z4w a0) (fun r=>L 6 [.agg [.sc (.int .i64 a0.letters),.sc (.int .i64 a0.start),(tB a0.final),(tR a0.next)]]=some (.tup [.sl r.1.length (r.1.flatMap fun x0=> [.sc (.int .i64 x0.set),(tI x0.tiles),(tS x0.words),(tR x0.perms)]),.sc (.int .i64 r.2)],[.dead])):=⟨fun r h=>by have h:=z4u h;unfold z4w at h;exact zeu rfl Tryz.func6 (bdy Tryz.f6 rfl)⟩
end
end
section
open Go
variable{st:HS}{B c i:Nat}
def zem:List (List Nat)->List (ByteArray×Bool):=List.foldl (fun mp q=>z8p (z1z (zio q)) true mp) []
theorem zsh(Q:List (List Nat))(p:List Nat):zem (Q++ [p])=z8p (z1z (zio p)) true (zem Q):=by
 unfold zem;rw[YK];rfl
theorem zw0{L:Nat}{p:List Nat}(hp:p.length=L)(hb:∀k∈p,k<65536):∀ {Q:List (List Nat)},(∀q∈Q,q.length=L/\ ∀k∈q,k<65536)->(((z8i (z1z (zio p)) (zem Q)).getD false)=true↔p∈Q):=by
 have key:∀(Q:List (List Nat)) (mp:List (ByteArray×Bool)),(∀q∈Q,q.length=L/\ ∀k∈q,k<65536)->(((z8i (z1z (zio p)) (Q.foldl (fun mp q=>z8p (z1z (zio q)) true mp) mp)).getD false)=true↔(p∈Q∨((z8i (z1z (zio p)) mp).getD false)=true)):=by
  intro Q
  induction Q with
  |nil=>intro mp _;simp
  |cons q Q ih=>
   intro mp hQ
   rw[Xk,ih _ (fun x hx=>hQ x (Zl _ hx)),zcO,Zu]
   have hq:=hQ q (Zy ..)
   by_cases e:q=p
   · grind
   · have:¬z1z (zio q)=z1z (zio p):=fun h=>e (zyt hq.2 hb (by rw[hq.1,hp]) h)
     rw[if_neg this]
     constructor
     · grind
     · grind
 intro Q hQ
 have:=key Q [] hQ
 rw[show zem Q=Q.foldl (fun mp q=>z8p (z1z (zio q)) true mp) [] from rfl,this]
 simp[z8i]
def zwx(d:DFA)(m n:Nat)(S T:List Nat)(l:List Nat):HS:=l.foldl (fun st i=>zlT d m n S T i st m) ([],[])
theorem zzn(d:DFA)(m n:Nat)(S T:List Nat)(c k:Nat):zwx d m n S T (zbZ d m n S c k)=zjA d m n S T c k:=by
 unfold zwx zbZ zjA
 rw[List.foldl_filter]
 congr 1
 funext st i
 by_cases h:clN d m n S i=c
 · grind
 · grind
theorem zww(d:DFA)(m n:Nat)(S T l:List Nat)(i:Nat):zwx d m n S T (l++ [i])=zlT d m n S T i (zwx d m n S T l) m:=by
 unfold zwx;rw[YK];rfl
section
variable {d:DFA} {m n:Nat} {S:List Nat} (hd:DfaOk d m n) (hn:n<=7) (hS:SetsP d m n S)
include hd hn hS
theorem zt0{k:Nat}(h:i∈zbZ d m n S c k):i<k/\clN d m n S i=c:=by
 have _u:=hd
 have _v:=hn
 have _w:=hS
 unfold zbZ at h
 rw[ZV,Zk,decide_eq_true_eq] at h
 exact h
theorem zBu:∀ {l:List Nat},(∀i∈l,i<S.length/\clN d m n S i=c)->HInv d m n S c (l.length*m) (zwx d m n S (z2K S (z2d d m n S c)) l):=by
 have key:∀(l:List Nat) (st:HS) (B:Nat),HInv d m n S c B st->(∀i∈l,i<S.length/\clN d m n S i=c)->HInv d m n S c (B+l.length*m) (l.foldl (fun st i=>zlT d m n S (z2K S (z2d d m n S c)) i st m) st):=by
  intro l
  induction l with
  |nil=>intro st B h _;simpa using h
  |cons i l ih=>
   intro st B h hl
   have hi:=hl i (Zy ..)
   have:=ih _ _ (zo9 hd hn hS h hi.1 hi.2 m (Z5 _)) (fun j hj=>hl j (Zl _ hj))
   rw[Xk]
   have e:B+(i::l).length*m=B+m+l.length*m:=by grind
   rw[e];exact this
 intro l hl
 have:=key l ([],[]) 0 ⟨rfl,by simp,fun j hj=>by simp at hj⟩ hl
 rw[Zp] at this
 exact this
theorem zzC(hc:c<(z6n d m n S).length)(h:HInv d m n S c B st):∀q∈st.2,q.length=(z2K S (z2d d m n S c)).length/\ ∀k∈q,k<65536:=fun q hq=>by
 have hk:=(z2I hd hn hS hc).2
 have htl:=zmp hd hn hS hk
 refine⟨zoD h q hq,fun k hkq=> ?_⟩
 obtain⟨j,hj,rfl⟩:=Zt hq
 obtain⟨l1,l2,l3⟩:=zcM h (j:=j) (by rw[h.len];exact hj)
 rw[List.getD,Z1 hj,Zb] at l3
 rw[l3] at hkq
 have:=(zaJ hd hn hS hk l1).2.1 k hkq
 omega
theorem zn1{a:Nat}{w:Int}(hB:B<=10000)(h:HInv d m n S c B st)(hi:i<S.length)(ha:a<m)(hc:clN d m n S i=c)(hcl:c<(z6n d m n S).length)(z:Int):
 z2F d (z3G d m n S) (zgo S S.length) ((z2d d m n S c:Nat):Int) (toI (z2K S (z2d d m n S c))) w (i:Int) z ((a:Int),st.1,st.2.map toI,zem st.2)=z0c (((a+1:Nat):Int),(zgY d m n S (z2K S (z2d d m n S c)) i st a).1,(zgY d m n S (z2K S (z2d d m n S c)) i st a).2.map toI,zem (zgY d m n S (z2K S (z2d d m n S c)) i st a).2):=by
 have h128:2^n<=128:=Zi (n:=2) (by omega) hn
 have hm:=hd.m6
 obtain⟨j1,j2⟩:=zuG hd hn hS hi ha
 obtain⟨f1,hk⟩:=z2I hd hn hS hcl
 have hsat:atI (z3G d m n S).sets (i:Int)=some ((S.getD i 0:Nat):Int):=z1u hi
 have hcat:∀i,i<S.length->atI (z3G d m n S).class_ (i:Int)=some ((clN d m n S i:Nat):Int):=fun i hi=>z2E hi
 have hwat:atI (z3G d m n S).words (i:Int)=some (zej d m n S i):=z2E hi
 have hbat:∀i,i<S.length->atI (z3G d m n S).back (i:Int)=some (zva d m n S i):=fun i hi=>z2E hi
 have hix:(z8i ((mvN d (S.getD i 0) a:Nat):Int) (zgo S S.length)).getD 0=((zbS d S i a:Nat):Int):=by
  rw[←j2,zeH hS.nd _ (Z5 _) j1];rfl
 have h26:(UInt8.ofNat (97+a)).toNat=97+a:=zaN (by omega)
 have hlw:ziM m (zrg a).data.toList:=fun c hc=>by
  rw[z8b,Zj] at hc
  subst hc;omega
 have hap:z3S (toI (zh8 d n (zrg a).data.toList)) ((S.getD i 0:Nat):Int)=some ((mvN d (S.getD i 0) a:Nat):Int):=by
  rw[zlP hd (by omega) hlw (hS.lt _ (z0f hi)),z8b,z4y,z4y,h26,Ym]
 simp only[z2F]
 rw[hd.lt,if_pos (by omega),hsat,Z0,ziT (by omega),zlR hd (by omega) hlw (by rw[z7q];omega),Z0,hap,Z0,hix,hcat _ j1,Z0,hcat _ hk,Z0,f1]
 unfold zgY
 by_cases hj:clN d m n S (zbS d S i a)=clN d m n S i
 · obtain⟨l1,l2⟩:=zn5 hd hn hS hi ha hj
   have hf:z2d d m n S c=z5P d m n S i:=by unfold z2d;rw[←hc];rfl
   rw[←hf] at l1
   obtain⟨_,w1⟩:=z9g hd hn hS hi
   obtain⟨_,w2⟩:=zd3 hd hn hS j1
   have htl:=zmp hd hn hS hk
   obtain⟨t1,t2⟩:=z7Z hd hn hS hk
   have hwd:(zej d m n S i++zrg a++zva d m n S (zbS d S i a))=hwN d m n S i a:=rfl
   have hbd:=h.bd
   have hln:=h.len
   have hpl:=zcv d (hwN d m n S i a).data.toList (z2K S (z2d d m n S c))
   have hpf:=(zaJ hd hn hS hk l1).2.1
   have hp6:∀k∈z3F d (hwN d m n S i a).data.toList (z2K S (z2d d m n S c)),k<65536:=fun k hk'=>by have:=hpf k hk';omega
   have hsg:=zw0 hpl hp6 (zzC hd hn hS hcl h)
   rw[if_pos (by omega),hwat,Z0,z0j _ (by unfold z9O;rw[z7q];omega),hbat _ j1,Z0,z0j _ (by unfold z9O;rw[zeT,z7q];omega),hwd,
    zlR hd (by omega) l1.hw (by omega),Z0,zh1 hd (by omega) t1 (by omega) (fun t ht=>(t2 t ht).2.2) l1.hw (zmo hd hn hS hk l1),Z0,zlh (by omega),Z0,hpl,if_pos hj,z1g (by omega)]
   by_cases hid:z3F d (hwN d m n S i a).data.toList (z2K S (z2d d m n S c))=List.range (z2K S (z2d d m n S c)).length
   · grind
   · rw[if_neg (by simpa using hid),zyy (by omega) hp6,Z0]
     by_cases hin:z3F d (hwN d m n S i a).data.toList (z2K S (z2d d m n S c))∈st.2
     · grind
     · rw[if_neg (fun e=>hin (hsg.1 e)),if_neg (by omega),Z0,z0j _ (by unfold z1B;omega),z0j _ (by unfold z1B;rw[Zh];omega),if_neg (fun e=>e.elim hid hin)]
       simp only[zsh,ZY,Zs,Ys]
 · rw[if_neg (by omega),if_neg hj,z1g (by omega)]
theorem zqM{w:Nat}(hB:B<=9000)(h:HInv d m n S c B st)(hi:i<S.length)(hc:clN d m n S i=c)(hcl:c<(z6n d m n S).length)(hw:w<1000)(z:Int):
 z0k (z2F d (z3G d m n S) (zgo S S.length) ((z2d d m n S c:Nat):Int) (toI (z2K S (z2d d m n S c))) (w:Int) (i:Int) z) LFm (0,st.1,st.2.map toI,zem st.2)=z0c (((w+1:Nat):Int),(zlT d m n S (z2K S (z2d d m n S c)) i st m).1,(zlT d m n S (z2K S (z2d d m n S c)) i st m).2.map toI,zem (zlT d m n S (z2K S (z2d d m n S c)) i st m).2):=by
 have hm:=hd.m6
 refine z0x (s:=((0:Int),st.1,st.2.map toI,zem st.2)) m (fun a=>((a:Int),(zlT d m n S (z2K S (z2d d m n S c)) i st a).1,(zlT d m n S (z2K S (z2d d m n S c)) i st a).2.map toI,zem (zlT d m n S (z2K S (z2d d m n S c)) i st a).2)) rfl (by simp only[LFm];omega) (fun a ha=> ?_) ?_
 · rw[zn1 hd hn hS (B:=B+a) (by omega) (zo9 hd hn hS h hi hc a (by omega)) hi ha hc hcl,ziA]
 · simp only[z2F]
   rw[hd.lt,if_neg (by omega),z1g (by omega)]
theorem zqn(hcl:c<(z6n d m n S).length)(hSl:S.length<=128):z5a d (z3G d m n S) (zgo S S.length) (toI (zbZ d m n S c S.length))=some (za9 d m n S c,0):=by
 have hm:=hd.m6
 obtain⟨f1,hk⟩:=z2I hd hn hS hcl
 obtain⟨_,m2⟩:=zom hd hn hS hcl
 have hta:atI (z3G d m n S).tiles ((z2d d m n S c:Nat):Int)=some (toI (z6p S (z2d d m n S c))):=z2E hk
 have hsat:atI (z3G d m n S).sets ((z2d d m n S c:Nat):Int)=some ((S.getD (z2d d m n S c) 0:Nat):Int):=z1u hk
 have htl:=zmp hd hn hS hk
 have hl:=zdt (S:=S) (k:=z2d d m n S c)
 have hmf:∀i∈zbZ d m n S c S.length,i<S.length/\clN d m n S i=c:=fun i hi=>zt0 hd hn hS hi
 have hml:(zbZ d m n S c S.length).length<=128:=by
  unfold zbZ
  exact ZJ (ZC _ _) (by rw[ZD];exact hSl)
 unfold z5a
 rw[m2,Z0,hsat,Z0,hta,Z0]
 refine z0x (s:=((0:Int),([]:List Int))) (z6p S (z2d d m n S c)).length (fun q=>((q:Int),toI ((z2K S (z2d d m n S c)).take q))) rfl (by simp only[LFm];omega) (fun q hq=> ?_) ?_
 · have hx:(z6p S (z2d d m n S c)).getD q 0<S.length:=zcL (z5N (z0f hq)).1
   have e:(z2K S (z2d d m n S c)).getD q 0=S.getD ((z6p S (z2d d m n S c)).getD q 0) 0:=by simp[z2K,List.getD,hq]
   have hsat:atI (z3G d m n S).sets (((z6p S (z2d d m n S c)).getD q 0:Nat):Int)=some ((S.getD ((z6p S (z2d d m n S c)).getD q 0) 0:Nat):Int):=z1u hx
   simp only[z4V]
   rw[if_pos (by rw[z0b];omega),z1u hq,Z0,hsat,Z0,z0j _ (by unfold z1B;rw[z0b,Zq];omega),z1g (by omega),z8N (by omega),z5B,e]
 · simp only[z4V]
   rw[if_neg (by rw[z0b];omega),←hl,Yr]
   congr 1
   refine z0x (s:=((0:Int),([]:List ByteArray),([]:List (List Int)),([]:List (ByteArray×Bool)))) (zbZ d m n S c S.length).length (fun k=>((k:Int),(zwx d m n S (z2K S (z2d d m n S c)) ((zbZ d m n S c S.length).take k)).1,(zwx d m n S (z2K S (z2d d m n S c)) ((zbZ d m n S c S.length).take k)).2.map toI,zem (zwx d m n S (z2K S (z2d d m n S c)) ((zbZ d m n S c S.length).take k)).2)) rfl (by simp only[LFm];omega) (fun k hk'=> ?_) ?_
   · have hmem:=hmf _ (z0f hk')
     have hI:=zBu hd hn hS (c:=c) (l:=(zbZ d m n S c S.length).take k) (fun i hi=>hmf i (ZI hi))
     have hB:((zbZ d m n S c S.length).take k).length*m<=128*6:=Nat.mul_le_mul (by rw[Zq];omega) hm
     simp only[z4E]
     rw[if_pos (by rw[z0b];omega),z1u hk',Z0,zqM hd hn hS (by omega) hI hmem.1 hmem.2 hcl (by omega),z8N hk',zww]
   · simp only[z4E]
     rw[if_neg (by rw[z0b];omega),Yr,zzn]
     rfl
end
theorem zBE{d:DFA}{m n:Nat}(hd:DfaOk d m n)(hn:n<=7):∃O,z4w d=some (O.map (za9 d m n (z1A d m n)),0)/\zAc (hC d m n (z1A d m n)) O/\O.Perm (za5 d m n (z1A d m n) (z1A d m n).length):=by
 have h128:2^n<=128:=Zi (n:=2) (by omega) hn
 have hS:=z7y hd
 have hSl:=z2n hS.nd hS.lt
 unfold z4w
 rw[zCZ hd hn,Z0,if_pos rfl]
 generalize z1A d m n=S at*
 obtain⟨O,e,o1,o2⟩:=znp hd hn hS (by omega)
 refine⟨O,?_,o1,o2⟩
 have hOc:∀c∈O,c<(z6n d m n S).length:=fun c hc=>by
  have:=o2.mem_iff.1 hc
  unfold za5 at this
  exact Zk.1 (ZV.1 this).1
 have hOl:O.length<=128:=by
  rw[o2.length_eq];unfold za5
  refine ZJ (ZC _ _) ?_
  rw[ZD]
  have:=z5w (z2u d m n S) S.length
  omega
 have hsl:(z3G d m n S).sets.length=S.length:=z0b _
 refine z0x (s:=((0:Int),([]:List (Int×Int)))) S.length (fun k=>((k:Int),zgo S k)) rfl (by simp only[LFm];omega) (fun k hk=> ?_) ?_
 · have hsat:atI (z3G d m n S).sets (k:Int)=some ((S.getD k 0:Nat):Int):=z1u hk
   simp only[z7j]
   rw[hsl,if_pos (by omega),hsat,Z0,z1g (by omega)]
   rfl
 · simp only[z7j]
   rw[hsl,if_neg (by omega),e,Z0,z0j _ (by unfold z0X;rw[z0b];omega)]
   congr 1
   refine z0x (s:=((0:Int),([]:List Hol))) O.length (fun t=>((t:Int),(O.take t).map (za9 d m n S))) rfl (by simp only[LFm];omega) (fun t ht=> ?_) ?_
   · have hc:=hOc _ (z0f ht)
     have hma:=(zom hd hn hS hc).1
     simp only[z6E]
     rw[if_pos (by rw[z0b];omega),z1u ht,Z0,hma,Z0,zqn hd hn hS hc (by omega),Z0,if_pos rfl,z0j _ (by unfold z1B;rw[Zh,Zq];omega),z1g (by omega),z8N ht,ZY,Zs,Ys]
   · simp only[z6E]
     rw[if_neg (by rw[z0b];omega),Yr]
theorem zz4{H:Nat->Nat}{O P X:List Nat}(h1:zAc H O)(h2:zAc H P)(p1:O.Perm X)(p2:P.Perm X):O=P:=by
 refine Xy (le:=leH H) (fun a b _ _ h3 h4=> ?_) h1 h2 (p1.trans p2.symm)
 unfold leH at h3 h4
 omega
end
section
open Go
structure OrdC(d:DFA)(m n:Nat)(S O:List Nat):Prop where
 srt:zAc (hC d m n S) O
 prm:O.Perm (za5 d m n S S.length)
variable{i:Nat}
def cpN(d:DFA)(m n:Nat)(S O:List Nat)(i:Nat):Nat:=O.idxOf (clN d m n S i)
def tlR(d:DFA)(m n:Nat)(S:List Nat)(i:Nat):List Nat:=(z6p S (z5P d m n S i)).map fun t=>S.idxOf (z4y d (S.getD t 0) (zej d m n S i).data.toList)
def szO(d:DFA)(m n:Nat)(S O:List Nat)(c:Nat):Nat:=(z6p S (z2d d m n S (O.getD c 0))).length
theorem zqN{H:Nat->Nat}{O:List Nat}(h:zAc H O){a b:Nat}(ha:a∈O)(hb:b∈O)(hlt:H a<H b):O.idxOf b<O.idxOf a:=by
 have la:=z6j ha
 have lb:=z6j hb
 rcases Xu (O.idxOf b) (O.idxOf a) with h1|h1|h1
 · exact h1
 · have e1:=z4i ha
   have e2:=z4i hb
   rw[h1,e1] at e2;subst e2;omega
 · have:=(ZK.1 h) _ _ la lb h1
   simp only[XR] at this
   unfold leH at this
   omega
section
variable {d:DFA} {m n:Nat} {S:List Nat} (hd:DfaOk d m n) (hn:n<=7) (hS:SetsP d m n S)
include hd hn hS
theorem zjc(hi:i<S.length):z5P d m n S i<S.length:=by
 have:=zlk hd hn hS hi;omega
theorem zmq:(tlR d m n S i).length=(z6p S (z5P d m n S i)).length:=by
 have _u:=hd;have _v:=hn;have _w:=hS
 simp[tlR]
theorem ziq(hi:i<S.length):(tlR d m n S i).length=(z6p S i).length:=by
 rw[zmq hd hn hS]
 exact zrN hd hn hS (zjc hd hn hS hi) hi (z9g hd hn hS hi).1 (zd3 hd hn hS hi).1
theorem znT{s:Nat}(hi:i<S.length)(hs:s<(tlR d m n S i).length):(tlR d m n S i).getD s 0∈z6p S i/\S.getD ((tlR d m n S i).getD s 0) 0=z4y d (S.getD ((z6p S (z5P d m n S i)).getD s 0) 0) (zej d m n S i).data.toList:=by
 have hk:=zjc hd hn hS hi
 have hl:=(z9g hd hn hS hi).1
 have hs':s<(z6p S (z5P d m n S i)).length:=by rw[←zmq hd hn hS];exact hs
 have e:(tlR d m n S i).getD s 0=S.idxOf (z4y d (S.getD ((z6p S (z5P d m n S i)).getD s 0) 0) (zej d m n S i).data.toList):=by
  simp[tlR,List.getD,hs']
 have ht:(z6p S (z5P d m n S i)).getD s 0∈z6p S (z5P d m n S i):=z0f hs'
 rw[e]
 exact⟨zmr hd hn hS hk hi hl (zd3 hd hn hS hi).1 ht,((zgk hd hn hS hk hi hl).1 _ (z5N ht).1).2⟩
theorem zrL(hi:i<S.length):(tlR d m n S i).Nodup:=by
 have hk:=zjc hd hn hS hi
 have hl:=(z9g hd hn hS hi).1
 refine z5r (zfE S _) fun x hx y hy e=> ?_
 obtain⟨x1,_,_⟩:=z5N hx
 obtain⟨y1,_,_⟩:=z5N hy
 have h1:=(zgk hd hn hS hk hi hl).1
 have e2:z4y d (S.getD x 0) (zej d m n S i).data.toList=z4y d (S.getD y 0) (zej d m n S i).data.toList:=by grind
 exact z6G hS.nd (z4U.1 x1).1 (z4U.1 y1).1 (zcF hd hn hl (z4U.1 x1).2.2 (z4U.1 y1).2.2 e2)
theorem zrO{t:Nat}(hi:i<S.length)(ht:t∈z6p S i):z7A d m n S t<z7A d m n S i:=by
 obtain⟨h1,h2,h3⟩:=z5N ht
 obtain⟨f1,f2,f3,f4⟩:=zce hn hS hi ht
 have h128:2^n<=128:=Zi (n:=2) (by omega) hn
 refine zwL (zlM hd hS) hi f2 (by simpa[zet] using h3) ?_
 simp only[sbN,Z6,Yb]
 refine⟨(z4f hd hS hi).2 ⟨[],fun c hc=>by simp at hc,f3⟩,?_⟩
 rw[←XC]
 intro hb
 obtain⟨w,w1,w2⟩:=(z4f hd hS f2).1 hb
 have a1:=zfF w2
 have a2:=zbE hd hn (hS.lt _ (z0f f2)) w1
 have a3:=zvL (by have:=hS.lt _ (z0f hi);omega) f3 f4
 omega
theorem zzD(hi:i<S.length)(h:z6p S i≠ []):0<z7A d m n S i:=by
 obtain⟨t,ht⟩:=List.exists_mem_of_ne_nil _ h
 have:=zrO hd hn hS hi ht
 omega
theorem zz9(hi:i<S.length)(h:szN (S.getD i 0)=1):z7A d m n S i=0:=by
 have _u:=hn
 show zoF S.length (z7w d m n S) (zet S) i=0
 have hb:zet S i=true:=decide_eq_true h
 rw[zi8 (zlM hd hS) (zet S) _ hi,hb];rfl
section
variable {O:List Nat} (hH:zlS d m n S) (hO:OrdC d m n S O)
include hH hO
theorem zzF(hi:i<S.length):hC d m n S (clN d m n S i)=z7A d m n S i:=by
 have _u:=hd;have _v:=hn;have _w:=hS;have _x:=hO
 unfold hC;rw[hH i hi];rfl
theorem zoY(hi:i<S.length):clN d m n S i∈O↔0<z7A d m n S i:=by
 rw[hO.prm.mem_iff]
 unfold za5
 rw[ZV,Zk,decide_eq_true_eq,zzF hd hn hS hH hO hi]
 exact and_iff_right (zuU hd hn hS hi).1
theorem zBO(hi:i<S.length):cpN d m n S O i<O.length↔0<z7A d m n S i:=by
 rw[←zoY hd hn hS hH hO hi]
 unfold cpN
 exact List.idxOf_lt_length_iff
theorem zzY{j:Nat}(hi:i<S.length)(hj:j<S.length)(h:z7A d m n S j<z7A d m n S i):cpN d m n S O i<cpN d m n S O j∨O.length<=cpN d m n S O j:=by
 by_cases hp:0<z7A d m n S j
 · left
   refine zqN hO.srt ((zoY hd hn hS hH hO hj).2 hp) ((zoY hd hn hS hH hO hi).2 (by omega)) ?_
   rw[zzF hd hn hS hH hO hi,zzF hd hn hS hH hO hj];exact h
 · right
   have:=mt (zBO hd hn hS hH hO hj).1 hp
   omega
theorem zzX{t:Nat}(hi:i<S.length)(ht:t∈z6p S i):cpN d m n S O i<cpN d m n S O t:=by
 have h1:=zrO hd hn hS hi ht
 have ht':=zcL (z5N ht).1
 have:=(zBO hd hn hS hH hO hi).2 (by omega)
 rcases zzY hd hn hS hH hO hi ht' h1 with h|h<;>omega
theorem zgX(hi:i<S.length)(hc:cpN d m n S O i<O.length):szO d m n S O (cpN d m n S O i)=(tlR d m n S i).length:=by
 have _x:=hH;have _y:=hO
 unfold szO
 rw[zmq hd hn hS]
 have:O.getD (cpN d m n S O i) 0=clN d m n S i:=z4i (List.idxOf_lt_length_iff.1 hc)
 rw[this];rfl
end
end
section
variable (d:DFA) (m n:Nat) (S O:List Nat)
def zlW(i o:Nat):Nat:=
 let k:=(tlR d m n S i).findIdx fun t=>decide (S.getD o 0&&&S.getD t 0=S.getD o 0)
 if k<(tlR d m n S i).length then k else 0
def ix0(l:List Nat)(x:Nat):Nat:=if x∈l then l.idxOf x else 0
def zlU(a c o i:Nat):List Nat:=
 if cpN d m n S O i=c then
  (if cpN d m n S O o=c/\zbS d S o a=i then(tlR d m n S o).map fun t=>ix0 (tlR d m n S i) (zbS d S t a)
   else List.replicate (szO d m n S O c) (zlW d m n S i (zbS d S o a)))
 else List.replicate (szO d m n S O c) 0
def dnN(c i s:Nat):Nat:=if cpN d m n S O i=c then(tlR d m n S i).getD s 0 else i
def stN(a:Nat):Nat->Nat->Nat->List Nat->List (Nat×List Nat)
 |_,_,_,[]=> []
 |c,o,i,s::x=>((zlU d m n S O a c o i).getD s 0,zlU d m n S O a c o i)::stN a (c+1) (dnN d m n S O c o s) (dnN d m n S O c i ((zlU d m n S O a c o i).getD s 0)) x
def z6R(a:Nat)(x:List Nat):List Nat:=(stN d m n S O a 0 0 0 x).map (·.1)
def z9G(a:Nat)(x:List Nat):List (List Nat):=(stN d m n S O a 0 0 0 x).map (·.2)
def z8o:Nat->Nat->List Nat->Nat
 |_,i,[]=>i
 |c,i,s::x=>z8o (c+1) (dnN d m n S O c i s) x
def srN(q:Nat):Nat->Nat->Nat->List Nat
 |0,_,_=> []
 |k+1,c,i=>
  let s:=if cpN d m n S O i=c then zlW d m n S i q else 0
  s::srN q k (c+1) (dnN d m n S O c i s)
def z4x:List Nat:=srN d m n S O (S.idxOf (2^d.start.toNat)) O.length 0 0
def zgT(x:List Nat):Prop:=x.length=O.length/\ ∀c,c<O.length->x.getD c 0<szO d m n S O c
end
end
section
open Go
variable{a c i:Nat}
theorem zwQ{d:DFA}{m n:Nat}(hd:DfaOk d m n):2^n-1∈z1A d m n:=by
 have hp:=Yv n
 have hf:2^n-1<2^n:=by omega
 have hi:=z6u hd hf
 obtain⟨h1,h2,h3⟩:=z7c hi.nd n
 exact(z8R _).mem_iff.2 ((h2 _).2 (.inl (zaH hd hf)))
theorem znY{n x:Nat}(hx:x<2^n):z7D x (2^n-1):=by
 refine z2i.2 fun q hq=> ?_
 rw[Nat.testBit_two_pow_sub_one]
 have:=zv6 hx hq
 simpa using this
theorem zaU{d:DFA}{m n:Nat}(hd:DfaOk d m n)(hn:n<=7):0<(z1A d m n).length/\(z1A d m n).getD 0 0=2^n-1:=by
 have h128:2^n<=128:=Zi (n:=2) (by omega) hn
 have hS:=z7y hd
 have hm:=zwQ hd
 have hl:0<(z1A d m n).length:=ZH.2 (List.ne_nil_of_mem hm)
 refine⟨hl,?_⟩
 obtain⟨j,hj,e⟩:=Zt hm
 by_cases h0:j=0
 · subst h0;simp[List.getD,hl,e]
 · have hs:=(ZK.1 hS.srt) 0 j hl hj (by omega)
   rw[e,zjt] at hs
   have hx:(z1A d m n)[0]<2^n:=hS.lt _ (Zw hl)
   have h1:=zfF (znY hx)
   have h2:=zvM (by have:=Yv n;omega) (znY hx) (by omega)
   simp[List.getD,hl,h2]
theorem zBy{l:List Nat}{x k:Nat}(h:l.length<=k)(h0:0<k):ix0 l x<k:=by
 unfold ix0
 split
 · rename_i hx
   have:=z6j hx
   omega
 · exact h0
section
variable {d:DFA} {m n:Nat} {S:List Nat} (hd:DfaOk d m n) (hn:n<=7) (hS:SetsP d m n S) {O:List Nat} (hH:zlS d m n S) (hO:OrdC d m n S O) (hpos:∀x∈S,x≠0)
include hd hn hS hH hO hpos
theorem zit(hc:c<O.length):0<szO d m n S O c:=by
 have _u:=hH
 have hmem:O.getD c 0∈O:=z0f hc
 have hout:=hO.prm.mem_iff.1 hmem
 unfold za5 at hout
 obtain⟨h1,h2⟩:=ZV.1 hout
 have h1:=Zk.1 h1
 simp only[decide_eq_true_eq] at h2
 have hk:z2d d m n S (O.getD c 0)<S.length:=(z2I hd hn hS h1).2
 unfold szO
 unfold hC at h2
 have h128:2^n<=128:=Zi (n:=2) (by omega) hn
 generalize z2d d m n S (O.getD c 0)=k at*
 have hz:szN (S.getD k 0)≠1:=fun e=>by
  have:=zz9 hd hn hS hk e
  omega
 have hne:=hpos _ (z0f hk:S.getD k 0∈S)
 obtain⟨q,hq⟩:∃q,(S.getD k 0).testBit q=true:=by
  rcases YR hne with⟨q,hq⟩
  exact⟨q,hq⟩
 obtain⟨t,ht,_⟩:=zcf hd hn hS hk hz hq
 exact YT ht
theorem znj{s:Nat}(hcO:c<O.length)(hi:i<S.length)(hc:c<=cpN d m n S O i)(hs:s<szO d m n S O c):dnN d m n S O c i s<S.length/\c+1<=cpN d m n S O (dnN d m n S O c i s):=by
 have _u:=hpos
 unfold dnN
 by_cases e:cpN d m n S O i=c
 · rw[if_pos e]
   have hz:=zgX hd hn hS hH hO hi (by omega)
   rw[e] at hz
   have ht:=(znT hd hn hS hi (s:=s) (by omega)).1
   have:=zzX hd hn hS hH hO hi ht
   exact⟨zcL (z5N ht).1,by omega⟩
 · rw[if_neg e]
   exact⟨hi,by omega⟩
theorem zy4{o:Nat}(hcO:c<O.length)(ho:o<S.length)(hi:i<S.length):(zlU d m n S O a c o i).length=szO d m n S O c/\ ∀y∈zlU d m n S O a c o i,y<szO d m n S O c:=by
 have h0:=zit hd hn hS hH hO hpos hcO
 unfold zlU
 split
 · rename_i e
   have hz:=zgX hd hn hS hH hO hi (by omega)
   rw[e] at hz
   split
   · rename_i e2
     have hz2:=zgX hd hn hS hH hO ho (by omega)
     rw[e2.1] at hz2
     refine⟨by rw[Zh,hz2],fun y hy=> ?_⟩
     obtain⟨t,ht,rfl⟩:=Zm.1 hy
     exact zBy (by omega) h0
   · refine⟨List.length_replicate,fun y hy=> ?_⟩
     rw[List.eq_of_mem_replicate hy]
     unfold zlW
     simp only
     split<;>omega
 · refine⟨List.length_replicate,fun y hy=> ?_⟩
   rw[List.eq_of_mem_replicate hy];exact h0
theorem zwu{o s:Nat}(hcO:c<O.length)(ho:o<S.length)(hi:i<S.length):(zlU d m n S O a c o i).getD s 0<szO d m n S O c:=by
 obtain⟨h1,h2⟩:=zy4 hd hn hS hH hO hpos (a:=a) hcO ho hi
 by_cases hs:s<(zlU d m n S O a c o i).length
 · exact h2 _ (z0f hs)
 · have e:(zlU d m n S O a c o i).getD s 0=0:=by simp[List.getD,X6 (Nat.le_of_not_lt hs)]
   rw[e];exact zit hd hn hS hH hO hpos hcO
theorem zAN{a:Nat}:∀(x:List Nat) (c o i:Nat),o<S.length->i<S.length->c<=cpN d m n S O o->c<=cpN d m n S O i->c+x.length<=O.length->(∀j,j<x.length->x.getD j 0<szO d m n S O (c+j))->
 (stN d m n S O a c o i x).length=x.length/\ ∀j,j<x.length->((stN d m n S O a c o i x).map (·.1)).getD j 0<szO d m n S O (c+j)
 | [],c,o,i,ho,hi,hco,hci,hl,hx=>⟨rfl,fun j hj=>by simp at hj⟩
 |s::x,c,o,i,ho,hi,hco,hci,hl,hx=>by
  simp only[Zr] at hl
  have hcO:c<O.length:=by omega
  have hs:s<szO d m n S O c:=by simpa using hx 0 (by simp)
  have hy:=zwu hd hn hS hH hO hpos (a:=a) (s:=s) hcO ho hi
  obtain⟨o1,o2⟩:=znj hd hn hS hH hO hpos hcO ho hco hs
  obtain⟨i1,i2⟩:=znj hd hn hS hH hO hpos hcO hi hci hy
  obtain⟨r1,r2⟩:=zAN (a:=a) x (c+1) _ _ o1 i1 o2 i2 (by omega) (fun j hj=>by have:=hx (j+1) (by simp;omega);simp only[Yz] at this;rwa [show c+1+j=c+(j+1) by omega])
  refine⟨by simp only[stN,Zr];rw[r1],fun j hj=> ?_⟩
  match j,hj with
  |0,_=>simpa only[stN,Zs,Xn,Yx] using hy
  |j+1,hj=>
   have:=r2 j (by simpa using hj)
   rw[show c+1+j=c+(j+1) by omega] at this
   simp only[stN,Zs,Yz]
   exact this
theorem zaD{x:List Nat}(hx:zgT d m n S O x)(h0:0<S.length):zgT d m n S O (z6R d m n S O a x)/\(z9G d m n S O a x).length=O.length:=by
 obtain⟨h1,h2⟩:=hx
 obtain⟨r1,r2⟩:=zAN hd hn hS hH hO hpos (a:=a) x 0 0 0 h0 h0 (by omega) (by omega) (by omega) (fun j hj=>by rw[Zp];exact h2 j (by omega))
 exact⟨⟨by simp[z6R,r1,h1],fun c hc=>by have:=r2 c (by omega);rwa [Zp] at this⟩,by simp[z9G,r1,h1]⟩
theorem zBP{q:Nat}(hcO:c<O.length)(hi:i<S.length)(e:cpN d m n S O i=c):zlW d m n S i q<szO d m n S O c:=by
 have h0:=zit hd hn hS hH hO hpos hcO
 have hz:=zgX hd hn hS hH hO hi (by omega)
 rw[e] at hz
 unfold zlW
 simp only
 split<;>omega
theorem zAQ{q:Nat}:∀(k c i:Nat),c+k=O.length->i<S.length->c<=cpN d m n S O i->(srN d m n S O q k c i).length=k/\ ∀j,j<k->(srN d m n S O q k c i).getD j 0<szO d m n S O (c+j)
 |0,c,i,hk,hi,hc=>⟨rfl,fun j hj=>by omega⟩
 |k+1,c,i,hk,hi,hc=>by
  have hcO:c<O.length:=by omega
  have hs:(if cpN d m n S O i=c then zlW d m n S i q else 0)<szO d m n S O c:=by
   split
   · rename_i e;exact zBP hd hn hS hH hO hpos hcO hi e
   · exact zit hd hn hS hH hO hpos hcO
  obtain⟨i1,i2⟩:=znj hd hn hS hH hO hpos hcO hi hc hs
  obtain⟨r1,r2⟩:=zAQ (q:=q) k (c+1) _ (by omega) i1 i2
  refine⟨by simp only[srN];rw[Zr,r1],fun j hj=> ?_⟩
  match j,hj with
  |0,_=>simpa only[srN,Xn,Yx] using hs
  |j+1,hj=>
   have:=r2 j (by omega)
   simp only[srN,Yz]
   rwa [show c+(j+1)=c+1+j by omega]
theorem zch(h0:0<S.length):zgT d m n S O (z4x d m n S O):=by
 obtain⟨r1,r2⟩:=zAQ hd hn hS hH hO hpos (q:=S.idxOf (2^d.start.toNat)) O.length 0 0 (by omega) h0 (by omega)
 exact⟨r1,fun c hc=>by have:=r2 c hc;rwa [Zp] at this⟩
end
end
section
open Go
instance:Inhabited Casc:=⟨⟨0,[],[]⟩⟩
structure Frm where
 d:DFA
 x:Imgs
 comp:List Int
 sizes:List Int
 tiles:List (List Int)
 next:List (List Int)
deriving Inhabited
structure Cover where
 casc:Casc
 start:List Int
 tuples:List (List Int)
 states:List Int
 groups:List Hol
deriving Inhabited
instance:IsS CRow:=⟨⟩
@[simp] theorem rangeL7:List.range 7= [0,1,2,3,4,5,6]:=rfl
@[simp] theorem rangeL8:List.range 8= [0,1,2,3,4,5,6,7]:=rfl
@[simp] theorem rangeL9:List.range 9= [0,1,2,3,4,5,6,7,8]:=rfl
@[simp] theorem rangeL10:List.range 10= [0,1,2,3,4,5,6,7,8,9]:=rfl
@[simp] theorem rangeL11:List.range 11= [0,1,2,3,4,5,6,7,8,9,10]:=rfl
@[simp] theorem rangeL12:List.range 12= [0,1,2,3,4,5,6,7,8,9,10,11]:=rfl
@[simp] theorem rangeL13:List.range 13= [0,1,2,3,4,5,6,7,8,9,10,11,12]:=rfl
@[simp] theorem rangeL14:List.range 14= [0,1,2,3,4,5,6,7,8,9,10,11,12,13]:=rfl
@[simp] theorem rangeL15:List.range 15= [0,1,2,3,4,5,6,7,8,9,10,11,12,13,14]:=rfl
@[simp] theorem rangeL16:List.range 16= [0,1,2,3,4,5,6,7,8,9,10,11,12,13,14,15]:=rfl
@[simp] theorem rangeL17:List.range 17= [0,1,2,3,4,5,6,7,8,9,10,11,12,13,14,15,16]:=rfl
@[simp] theorem rangeL18:List.range 18= [0,1,2,3,4,5,6,7,8,9,10,11,12,13,14,15,16,17]:=rfl
@[simp] theorem rangeL19:List.range 19= [0,1,2,3,4,5,6,7,8,9,10,11,12,13,14,15,16,17,18]:=rfl
@[simp] theorem rangeL20:List.range 20= [0,1,2,3,4,5,6,7,8,9,10,11,12,13,14,15,16,17,18,19]:=rfl
end
section
open Go Go.IntKind
noncomputable section
abbrev z5m(a0:DFA)(a2:ByteArray)(w47:Int)(w48:Int):Int×Int->Option ((Int×Int)⊕((Int×Int)⊕Int))
 |(w63,w64)=>
 if w64<(a0.next.length:Int) then
 (atI a0.next w64).bind fun v68=>
 chk (¬w64<0)<|
 if(z2X .i64 (z0w .i64 w47 w64) 1)=1 then
 (znt a2 w48).bind fun v69=>
 (atI v68 (u8.wrap (v69-97))).bind fun v70=>
 chk (¬v70<0)<|
 z0c (orI .i64 w63 (zmx .i64 1 v70),i64.wrap (w64+1))
 else
 z0c (w63,i64.wrap (w64+1))
 else
 z0i<|
 z0c (w63,i64.wrap (w48+1))
variable{m0 m3 m5:Frm}{v99:Imgs×Int}{a1 a2 a3 w137:Int}{w103:List (Int×Int)}{w138 w139:List (List Int)}{a0 m1 m6 m8 v40 w104:List Int}{rf:List Int->Int->Int->Int->Frm->List Int->Option (List Int)}
instance{a0:DFA}{a2:ByteArray}{w47:Int}{w48:Int}:Hd (z5m a0 a2 w47 w48):=⟨fun(w63,w64)=>([(8,xI w63),(19,xI w64)],[])⟩
abbrev z5n(a0:DFA)(a2:ByteArray):Int×Int->Option ((Int×Int)⊕Int)
 |(w47,w48)=>
 if w48<(a2.size:Int) then
 z0k (z5m a0 a2 w47 w48) LFm (0,0)
 else
 z0i<|
 some w47
instance{a0:DFA}{a2:ByteArray}:Hd (z5n a0 a2):=⟨fun(w47,w48)=>([(1,xI w47),(13,xI w48)],[])⟩
def z4N(a0:DFA)(a1:Int)(a2:ByteArray):Option (Int):=
 z0k (z5n a0 a2) LFm (a1,0)
instance{a0:DFA}{a2:ByteArray}:Ok (z4N a0 a1 a2) (fun r=>L 33 [.agg [.sc (.int .i64 a0.letters),.sc (.int .i64 a0.start),(tB a0.final),(tR a0.next)],.sc (.int .i64 a1),.sc (.string a2)]=some (.sc (.int .i64 r),[.dead,.dead,.dead])):=⟨fun r h=>by have h:=z4u h;unfold z4N at h;exact z5i rfl Tryz.func33 (bdy Tryz.f33 rfl)⟩
def z1d(a0:Int)(a1:Int)(m2:Frm)(m4:List Int):Option (Int):=
 (atI m4 a1).bind fun v6=>
 (atI m2.x.height v6).bind fun v7=>
 (atI m4 a0).bind fun v8=>
 (atI m2.x.height v8).bind fun v9=>
 (cmp_Compare_int v7 v9).bind fun v10=>
 some v10
instance{a0:Int}{m2:Frm}{m4:List Int}:Ok (z1d a0 a1 m2 m4) (fun r=>L 82 [.sc (.int .i64 a0),.sc (.int .i64 a1),.pr [.pr [.sc (.int .i64 m2.d.letters),.sc (.int .i64 m2.d.start),(tB m2.d.final),(tR m2.d.next),(tI m2.x.sets),(tI m2.x.class_),(tI m2.x.height),(tR m2.x.tiles),(tS m2.x.words),(tS m2.x.back),(tI m2.comp),(tI m2.sizes),(tR m2.tiles),(tR m2.next)]],.pr [(tI m4)]]=some (.sc (.int .i64 r),[.dead,.dead,.dead,.dead])):=⟨fun r h=>by have h:=z4u h;unfold z1d at h;exact z5i rfl Tryz.func82 (bdy Tryz.f82 rfl)⟩
abbrev z1x(a1:Int)(m5:Frm)(m8:List Int)(w95:Int):Int×List Int->Option ((Int×List Int)⊕((Int×List Int)⊕List Int))
 |(w127,w128)=>
 if a1<w127 then
 (atI w128 w127).bind fun v136=>
 (atI w128 (i64.wrap (w127-1))).bind fun v137=>
 (z1d v136 v137 m5 m8).bind fun v138=>
 if v138<0 then
 (atI (w128.set w127.toNat v137) (i64.wrap (w127-1))).bind fun v142=>
 z0c (i64.wrap (w127-1),((w128.set w127.toNat v137).set (i64.wrap (w127-1)).toNat v136))
 else
 z0i<|
 z0c (i64.wrap (w95+1),w128)
 else
 z0i<|
 z0c (i64.wrap (w95+1),w128)
instance{w95:Int}:Hd (z1x a1 m5 m8 w95):=⟨fun(w127,w128)=>([(9,xI w127)],[(0,(tO w128))])⟩
abbrev z1y(a1:Int)(a2:Int)(m5:Frm)(m8:List Int):Int×List Int->Option ((Int×List Int)⊕List Int)
 |(w95,w96)=>
 if w95<a2 then
 z0k (z1x a1 m5 m8 w95) LFm (w95,w96)
 else
 z0i<|
 some w96
instance:Hd (z1y a1 a2 m5 m8):=⟨fun(w95,w96)=>([(8,xI w95)],[(0,(tO w96))])⟩
def z0C(a0:List Int)(a1:Int)(a2:Int)(m5:Frm)(m8:List Int):Option (List Int):=
 z0k (z1y a1 a2 m5 m8) LFm (i64.wrap (a1+1),a0)
instance:Ok (z0C a0 a1 a2 m5 m8) (fun r=>L 140 [(tO a0),.sc (.int .i64 a1),.sc (.int .i64 a2),.cl 82 [.pr [.pr [.sc (.int .i64 m5.d.letters),.sc (.int .i64 m5.d.start),(tB m5.d.final),(tR m5.d.next),(tI m5.x.sets),(tI m5.x.class_),(tI m5.x.height),(tR m5.x.tiles),(tS m5.x.words),(tS m5.x.back),(tI m5.comp),(tI m5.sizes),(tR m5.tiles),(tR m5.next)]],.pr [(tI m8)]]]=some (.tup [],[(tO r),.dead,.dead,.dead])):=⟨fun r h=>by have h:=z4u h;unfold z0C at h;exact z5i rfl Tryz.func140 (bdy Tryz.f140 rfl)⟩
abbrev z1O(a1:Int)(a2:Int)(a3:Int):Int×List Int->Option ((Int×List Int)⊕List Int)
 |(w19,w20)=>
 if w19<a3 then
 (atI w20 (i64.wrap (a2+w19))).bind fun v25=>
 (atI w20 (i64.wrap (a1+w19))).bind fun v26=>
 (atI (w20.set (i64.wrap (a1+w19)).toNat v25) (i64.wrap (a2+w19))).bind fun v28=>
 z0c (i64.wrap (w19+1),((w20.set (i64.wrap (a1+w19)).toNat v25).set (i64.wrap (a2+w19)).toNat v26))
 else
 z0i<|
 some w20
instance:Hd (z1O a1 a2 a3):=⟨fun(w19,w20)=>([(10,xI w19)],[(0,(tO w20))])⟩
def z0t(a0:List Int)(a1:Int)(a2:Int)(a3:Int)(m0:Frm)(m1:List Int):Option (List Int):=
 z0k (z1O a1 a2 a3) LFm (0,a0)
instance:Ok (z0t a0 a1 a2 a3 m0 m1) (fun r=>L 198 [(tO a0),.sc (.int .i64 a1),.sc (.int .i64 a2),.sc (.int .i64 a3),.cl 82 [.pr [.pr [.sc (.int .i64 m0.d.letters),.sc (.int .i64 m0.d.start),(tB m0.d.final),(tR m0.d.next),(tI m0.x.sets),(tI m0.x.class_),(tI m0.x.height),(tR m0.x.tiles),(tS m0.x.words),(tS m0.x.back),(tI m0.comp),(tI m0.sizes),(tR m0.tiles),(tR m0.next)]],.pr [(tI m1)]]]=some (.tup [],[(tO r),.dead,.dead,.dead,.dead])):=⟨fun r h=>by have h:=z4u h;unfold z0t at h;exact z5i rfl Tryz.func198 (bdy Tryz.f198 rfl)⟩
abbrev z2a(a2:Int)(m0:Frm)(m1:List Int):Int×Int×List Int->Option ((Int×Int×List Int)⊕List Int)
 |(w13,w15,w14)=>
 if w13=w15 then
 z0i<|
 (z0t w14 (i64.wrap (a2-w13)) a2 w13 m0 m1).bind fun v18=>
 some v18
 else
 if w15<w13 then
 (z0t w14 (i64.wrap (a2-w13)) a2 w15 m0 m1).bind fun v19=>
 z0c (i64.wrap (w13-w15),w15,v19)
 else
 (z0t w14 (i64.wrap (a2-w13)) (i64.wrap ((i64.wrap (a2+w15))-w13)) w13 m0 m1).bind fun v20=>
 z0c (w13,i64.wrap (w15-w13),v20)
instance:Hd (z2a a2 m0 m1):=⟨fun(w13,w15,w14)=>([(10,xI w13),(11,xI w15)],[(0,(tO w14))])⟩
def z0U(a0:List Int)(a1:Int)(a2:Int)(a3:Int)(m0:Frm)(m1:List Int):Option (List Int):=
 z0k (z2a a2 m0 m1) LFm (i64.wrap (a2-a1),i64.wrap (a3-a2),a0)
instance:Ok (z0U a0 a1 a2 a3 m0 m1) (fun r=>L 180 [(tO a0),.sc (.int .i64 a1),.sc (.int .i64 a2),.sc (.int .i64 a3),.cl 82 [.pr [.pr [.sc (.int .i64 m0.d.letters),.sc (.int .i64 m0.d.start),(tB m0.d.final),(tR m0.d.next),(tI m0.x.sets),(tI m0.x.class_),(tI m0.x.height),(tR m0.x.tiles),(tS m0.x.words),(tS m0.x.back),(tI m0.comp),(tI m0.sizes),(tR m0.tiles),(tR m0.next)]],.pr [(tI m1)]]]=some (.tup [],[(tO r),.dead,.dead,.dead,.dead])):=⟨fun r h=>by have h:=z4u h;unfold z0U at h;exact z5i rfl Tryz.func180 (bdy Tryz.f180 rfl)⟩
abbrev z1S(w102:Int):Int×List Int->Option ((Int×List Int)⊕List Int)
 |(w114,w115)=>
 if w114<(i64.wrap (w102-1)) then
 (atI w115 (i64.wrap (w114+1))).bind fun v120=>
 (atI w115 w114).bind fun v121=>
 (atI (w115.set w114.toNat v120) (i64.wrap (w114+1))).bind fun v123=>
 z0c (i64.wrap (w114+1),((w115.set w114.toNat v120).set (i64.wrap (w114+1)).toNat v121))
 else
 z0i<|
 some w115
instance{w102:Int}:Hd (z1S w102):=⟨fun(w114,w115)=>([(13,xI w114)],[(0,(tO w115))])⟩
abbrev z1T(a0:List Int)(a1:Int)(m0:Frm)(m1:List Int):Int×Int->Option ((Int×Int)⊕List Int)
 |(w102,w103)=>
 if w102<w103 then
 chk (¬1<0)<|
 (atI a0 (md w102 w103)).bind fun v107=>
 (atI a0 a1).bind fun v108=>
 (z1d v107 v108 m0 m1).bind fun v109=>
 if v109<0 then
 z0c (i64.wrap ((md w102 w103)+1),w103)
 else
 z0c (w102,i64.wrap (z0w .u64 (u64.wrap (i64.wrap (w102+w103))) 1))
 else
 z0i<|
 z0k (z1S w102) LFm (a1,a0)
instance:Hd (z1T a0 a1 m0 m1):=⟨fun(w102,w103)=>([(10,xI w102),(11,xI w103)],[])⟩
abbrev z1L(w128:Int):Int×List Int->Option ((Int×List Int)⊕List Int)
 |(w139,w140)=>
 if w128<w139 then
 (atI w140 (i64.wrap (w139-1))).bind fun v145=>
 (atI w140 w139).bind fun v146=>
 (atI (w140.set w139.toNat v145) (i64.wrap (w139-1))).bind fun v148=>
 z0c (i64.wrap (w139-1),((w140.set w139.toNat v145).set (i64.wrap (w139-1)).toNat v146))
 else
 z0i<|
 some w140
instance{w128:Int}:Hd (z1L w128):=⟨fun(w139,w140)=>([(17,xI w139)],[(0,(tO w140))])⟩
abbrev z1M(a0:List Int)(a2:Int)(m0:Frm)(m1:List Int):Int×Int->Option ((Int×Int)⊕List Int)
 |(w128,w127)=>
 if w128<w127 then
 chk (¬1<0)<|
 (atI a0 a2).bind fun v132=>
 (atI a0 (md w128 w127)).bind fun v133=>
 (z1d v132 v133 m0 m1).bind fun v134=>
 if v134<0 then
 z0c (w128,i64.wrap (z0w .u64 (u64.wrap (i64.wrap (w128+w127))) 1))
 else
 z0c (i64.wrap ((md w128 w127)+1),w127)
 else
 z0i<|
 z0k (z1L w128) LFm (a2,a0)
instance:Hd (z1M a0 a2 m0 m1):=⟨fun(w128,w127)=>([(14,xI w128),(15,xI w127)],[])⟩
abbrev z1K(a0:List Int)(a1:Int)(a2:Int)(a3:Int)(m0:Frm)(m1:List Int)(rf:List Int->Int->Int->Int->Frm->List Int->Option (List Int)):Int×Int->Option ((Int×Int)⊕List Int)
 |(w153,w152)=>
 if w153<w152 then
 chk (¬1<0)<|
 (atI a0 (i64.wrap ((i64.wrap ((i64.wrap ((md a1 a3)+a2))-1))-(md w153 w152)))).bind fun v157=>
 (atI a0 (md w153 w152)).bind fun v158=>
 (z1d v157 v158 m0 m1).bind fun v159=>
 if v159<0 then
 z0c (w153,i64.wrap (z0w .u64 (u64.wrap (i64.wrap (w153+w152))) 1))
 else
 z0c (i64.wrap ((md w153 w152)+1),w152)
 else
 z0i<|
 if w153<a2 then
 if a2<(i64.wrap ((i64.wrap ((md a1 a3)+a2))-w153)) then
 (z0U a0 w153 a2 (i64.wrap ((i64.wrap ((md a1 a3)+a2))-w153)) m0 m1).bind fun v160=>
 if a1<w153 then
 if w153<(md a1 a3) then
 (rf v160 a1 w153 (md a1 a3) m0 m1).bind fun v161=>
 if(md a1 a3)<(i64.wrap ((i64.wrap ((md a1 a3)+a2))-w153)) then
 if(i64.wrap ((i64.wrap ((md a1 a3)+a2))-w153))<a3 then
 (rf v161 (md a1 a3) (i64.wrap ((i64.wrap ((md a1 a3)+a2))-w153)) a3 m0 m1).bind fun v162=>
 some v162
 else
 some v161
 else
 some v161
 else
 if(md a1 a3)<(i64.wrap ((i64.wrap ((md a1 a3)+a2))-w153)) then
 if(i64.wrap ((i64.wrap ((md a1 a3)+a2))-w153))<a3 then
 (rf v160 (md a1 a3) (i64.wrap ((i64.wrap ((md a1 a3)+a2))-w153)) a3 m0 m1).bind fun v163=>
 some v163
 else
 some v160
 else
 some v160
 else
 if(md a1 a3)<(i64.wrap ((i64.wrap ((md a1 a3)+a2))-w153)) then
 if(i64.wrap ((i64.wrap ((md a1 a3)+a2))-w153))<a3 then
 (rf v160 (md a1 a3) (i64.wrap ((i64.wrap ((md a1 a3)+a2))-w153)) a3 m0 m1).bind fun v164=>
 some v164
 else
 some v160
 else
 some v160
 else
 if a1<w153 then
 if w153<(md a1 a3) then
 (rf a0 a1 w153 (md a1 a3) m0 m1).bind fun v165=>
 if(md a1 a3)<(i64.wrap ((i64.wrap ((md a1 a3)+a2))-w153)) then
 if(i64.wrap ((i64.wrap ((md a1 a3)+a2))-w153))<a3 then
 (rf v165 (md a1 a3) (i64.wrap ((i64.wrap ((md a1 a3)+a2))-w153)) a3 m0 m1).bind fun v166=>
 some v166
 else
 some v165
 else
 some v165
 else
 if(md a1 a3)<(i64.wrap ((i64.wrap ((md a1 a3)+a2))-w153)) then
 if(i64.wrap ((i64.wrap ((md a1 a3)+a2))-w153))<a3 then
 (rf a0 (md a1 a3) (i64.wrap ((i64.wrap ((md a1 a3)+a2))-w153)) a3 m0 m1).bind fun v167=>
 some v167
 else
 some a0
 else
 some a0
 else
 if(md a1 a3)<(i64.wrap ((i64.wrap ((md a1 a3)+a2))-w153)) then
 if(i64.wrap ((i64.wrap ((md a1 a3)+a2))-w153))<a3 then
 (rf a0 (md a1 a3) (i64.wrap ((i64.wrap ((md a1 a3)+a2))-w153)) a3 m0 m1).bind fun v168=>
 some v168
 else
 some a0
 else
 some a0
 else
 if a1<w153 then
 if w153<(md a1 a3) then
 (rf a0 a1 w153 (md a1 a3) m0 m1).bind fun v169=>
 if(md a1 a3)<(i64.wrap ((i64.wrap ((md a1 a3)+a2))-w153)) then
 if(i64.wrap ((i64.wrap ((md a1 a3)+a2))-w153))<a3 then
 (rf v169 (md a1 a3) (i64.wrap ((i64.wrap ((md a1 a3)+a2))-w153)) a3 m0 m1).bind fun v170=>
 some v170
 else
 some v169
 else
 some v169
 else
 if(md a1 a3)<(i64.wrap ((i64.wrap ((md a1 a3)+a2))-w153)) then
 if(i64.wrap ((i64.wrap ((md a1 a3)+a2))-w153))<a3 then
 (rf a0 (md a1 a3) (i64.wrap ((i64.wrap ((md a1 a3)+a2))-w153)) a3 m0 m1).bind fun v171=>
 some v171
 else
 some a0
 else
 some a0
 else
 if(md a1 a3)<(i64.wrap ((i64.wrap ((md a1 a3)+a2))-w153)) then
 if(i64.wrap ((i64.wrap ((md a1 a3)+a2))-w153))<a3 then
 (rf a0 (md a1 a3) (i64.wrap ((i64.wrap ((md a1 a3)+a2))-w153)) a3 m0 m1).bind fun v172=>
 some v172
 else
 some a0
 else
 some a0
instance:Hd (z1K a0 a1 a2 a3 m0 m1 rf):=⟨fun(w153,w152)=>([(20,xI w153),(21,xI w152)],[])⟩
abbrev z1G(a0:List Int)(a1:Int)(a2:Int)(a3:Int)(m0:Frm)(m1:List Int)(rf:List Int->Int->Int->Int->Frm->List Int->Option (List Int)):Int×Int->Option ((Int×Int)⊕List Int)
 |(w177,w176)=>
 if w177<w176 then
 chk (¬1<0)<|
 (atI a0 (i64.wrap ((i64.wrap ((i64.wrap ((md a1 a3)+a2))-1))-(md w177 w176)))).bind fun v181=>
 (atI a0 (md w177 w176)).bind fun v182=>
 (z1d v181 v182 m0 m1).bind fun v183=>
 if v183<0 then
 z0c (w177,i64.wrap (z0w .u64 (u64.wrap (i64.wrap (w177+w176))) 1))
 else
 z0c (i64.wrap ((md w177 w176)+1),w176)
 else
 z0i<|
 if w177<a2 then
 if a2<(i64.wrap ((i64.wrap ((md a1 a3)+a2))-w177)) then
 (z0U a0 w177 a2 (i64.wrap ((i64.wrap ((md a1 a3)+a2))-w177)) m0 m1).bind fun v184=>
 if a1<w177 then
 if w177<(md a1 a3) then
 (rf v184 a1 w177 (md a1 a3) m0 m1).bind fun v185=>
 if(md a1 a3)<(i64.wrap ((i64.wrap ((md a1 a3)+a2))-w177)) then
 if(i64.wrap ((i64.wrap ((md a1 a3)+a2))-w177))<a3 then
 (rf v185 (md a1 a3) (i64.wrap ((i64.wrap ((md a1 a3)+a2))-w177)) a3 m0 m1).bind fun v186=>
 some v186
 else
 some v185
 else
 some v185
 else
 if(md a1 a3)<(i64.wrap ((i64.wrap ((md a1 a3)+a2))-w177)) then
 if(i64.wrap ((i64.wrap ((md a1 a3)+a2))-w177))<a3 then
 (rf v184 (md a1 a3) (i64.wrap ((i64.wrap ((md a1 a3)+a2))-w177)) a3 m0 m1).bind fun v187=>
 some v187
 else
 some v184
 else
 some v184
 else
 if(md a1 a3)<(i64.wrap ((i64.wrap ((md a1 a3)+a2))-w177)) then
 if(i64.wrap ((i64.wrap ((md a1 a3)+a2))-w177))<a3 then
 (rf v184 (md a1 a3) (i64.wrap ((i64.wrap ((md a1 a3)+a2))-w177)) a3 m0 m1).bind fun v188=>
 some v188
 else
 some v184
 else
 some v184
 else
 if a1<w177 then
 if w177<(md a1 a3) then
 (rf a0 a1 w177 (md a1 a3) m0 m1).bind fun v189=>
 if(md a1 a3)<(i64.wrap ((i64.wrap ((md a1 a3)+a2))-w177)) then
 if(i64.wrap ((i64.wrap ((md a1 a3)+a2))-w177))<a3 then
 (rf v189 (md a1 a3) (i64.wrap ((i64.wrap ((md a1 a3)+a2))-w177)) a3 m0 m1).bind fun v190=>
 some v190
 else
 some v189
 else
 some v189
 else
 if(md a1 a3)<(i64.wrap ((i64.wrap ((md a1 a3)+a2))-w177)) then
 if(i64.wrap ((i64.wrap ((md a1 a3)+a2))-w177))<a3 then
 (rf a0 (md a1 a3) (i64.wrap ((i64.wrap ((md a1 a3)+a2))-w177)) a3 m0 m1).bind fun v191=>
 some v191
 else
 some a0
 else
 some a0
 else
 if(md a1 a3)<(i64.wrap ((i64.wrap ((md a1 a3)+a2))-w177)) then
 if(i64.wrap ((i64.wrap ((md a1 a3)+a2))-w177))<a3 then
 (rf a0 (md a1 a3) (i64.wrap ((i64.wrap ((md a1 a3)+a2))-w177)) a3 m0 m1).bind fun v192=>
 some v192
 else
 some a0
 else
 some a0
 else
 if a1<w177 then
 if w177<(md a1 a3) then
 (rf a0 a1 w177 (md a1 a3) m0 m1).bind fun v193=>
 if(md a1 a3)<(i64.wrap ((i64.wrap ((md a1 a3)+a2))-w177)) then
 if(i64.wrap ((i64.wrap ((md a1 a3)+a2))-w177))<a3 then
 (rf v193 (md a1 a3) (i64.wrap ((i64.wrap ((md a1 a3)+a2))-w177)) a3 m0 m1).bind fun v194=>
 some v194
 else
 some v193
 else
 some v193
 else
 if(md a1 a3)<(i64.wrap ((i64.wrap ((md a1 a3)+a2))-w177)) then
 if(i64.wrap ((i64.wrap ((md a1 a3)+a2))-w177))<a3 then
 (rf a0 (md a1 a3) (i64.wrap ((i64.wrap ((md a1 a3)+a2))-w177)) a3 m0 m1).bind fun v195=>
 some v195
 else
 some a0
 else
 some a0
 else
 if(md a1 a3)<(i64.wrap ((i64.wrap ((md a1 a3)+a2))-w177)) then
 if(i64.wrap ((i64.wrap ((md a1 a3)+a2))-w177))<a3 then
 (rf a0 (md a1 a3) (i64.wrap ((i64.wrap ((md a1 a3)+a2))-w177)) a3 m0 m1).bind fun v196=>
 some v196
 else
 some a0
 else
 some a0
instance:Hd (z1G a0 a1 a2 a3 m0 m1 rf):=⟨fun(w177,w176)=>([(20,xI w177),(21,xI w176)],[])⟩
def z0H(rf:List Int->Int->Int->Int->Frm->List Int->Option (List Int))(a0:List Int)(a1:Int)(a2:Int)(a3:Int)(m0:Frm)(m1:List Int):Option (List Int):=
 if(i64.wrap (a2-a1))=1 then
 z0k (z1T a0 a1 m0 m1) LFm (a2,a3)
 else
 if(i64.wrap (a3-a2))=1 then
 z0k (z1M a0 a2 m0 m1) LFm (a1,a2)
 else
 chk (¬1<0)<|
 if(md a1 a3)<a2 then
 z0k (z1K a0 a1 a2 a3 m0 m1 rf) LFm (i64.wrap ((i64.wrap ((md a1 a3)+a2))-a3),i64.wrap (z0w .u64 (u64.wrap (i64.wrap (a1+a3))) 1))
 else
 z0k (z1G a0 a1 a2 a3 m0 m1 rf) LFm (a1,a2)
theorem z3B[ih:∀(a0:List Int) (a1:Int) (a2:Int) (a3:Int) (m0:Frm) (m1:List Int),Ok (rf a0 a1 a2 a3 m0 m1) (fun r=>L 141 [(tO a0),.sc (.int .i64 a1),.sc (.int .i64 a2),.sc (.int .i64 a3),.cl 82 [.pr [.pr [.sc (.int .i64 m0.d.letters),.sc (.int .i64 m0.d.start),(tB m0.d.final),(tR m0.d.next),(tI m0.x.sets),(tI m0.x.class_),(tI m0.x.height),(tR m0.x.tiles),(tS m0.x.words),(tS m0.x.back),(tI m0.comp),(tI m0.sizes),(tR m0.tiles),(tR m0.next)]],.pr [(tI m1)]]]=some (.tup [],[(tO r),.dead,.dead,.dead,.dead]))]:Ok (z0H rf a0 a1 a2 a3 m0 m1) (fun r=>L 141 [(tO a0),.sc (.int .i64 a1),.sc (.int .i64 a2),.sc (.int .i64 a3),.cl 82 [.pr [.pr [.sc (.int .i64 m0.d.letters),.sc (.int .i64 m0.d.start),(tB m0.d.final),(tR m0.d.next),(tI m0.x.sets),(tI m0.x.class_),(tI m0.x.height),(tR m0.x.tiles),(tS m0.x.words),(tS m0.x.back),(tI m0.comp),(tI m0.sizes),(tR m0.tiles),(tR m0.next)]],.pr [(tI m1)]]]=some (.tup [],[(tO r),.dead,.dead,.dead,.dead])):=⟨fun r h=>by have h:=z4u h;unfold z0H at h;exact z5i rfl Tryz.func141 (bdy Tryz.f141 rfl)⟩
def z0m:Nat->List Int->Int->Int->Int->Frm->List Int->Option (List Int)
 |0=>fun _ _ _ _ _ _=>none
 |k+1=>z0H (z0m k)
instance:∀ {k:Nat} {a0:List Int} {a1:Int} {a2:Int} {a3:Int} {m0:Frm} {m1:List Int},Ok (z0m k a0 a1 a2 a3 m0 m1) (fun r=>L 141 [(tO a0),.sc (.int .i64 a1),.sc (.int .i64 a2),.sc (.int .i64 a3),.cl 82 [.pr [.pr [.sc (.int .i64 m0.d.letters),.sc (.int .i64 m0.d.start),(tB m0.d.final),(tR m0.d.next),(tI m0.x.sets),(tI m0.x.class_),(tI m0.x.height),(tR m0.x.tiles),(tS m0.x.words),(tS m0.x.back),(tI m0.comp),(tI m0.sizes),(tR m0.tiles),(tR m0.next)]],.pr [(tI m1)]]]=some (.tup [],[(tO r),.dead,.dead,.dead,.dead])):=by
 intro k
 induction k with
 |zero=>intros;exact⟨fun r h=>by cases h⟩
 |succ k ih=>intros;have ih2:= @ih;exact z3B (rf:=z0m k)
abbrev z0L(a1:Int)(m3:Frm)(m6:List Int)(w45:Int):Int×Int×List Int->Option ((Int×Int×List Int)⊕((Int×List Int)⊕List Int))
 |(w55,w56,w57)=>
 if w56<=a1 then
 (z0m 5000 w57 w55 (i64.wrap (w55+w45)) w56 m3 m6).bind fun v59=>
 z0c (w56,i64.wrap (w56+(i64.wrap (2*w45))),v59)
 else
 z0i<|
 if(i64.wrap (w55+w45))<a1 then
 (z0m 5000 w57 w55 (i64.wrap (w55+w45)) a1 m3 m6).bind fun v60=>
 z0c (i64.wrap (w45*2),v60)
 else
 z0c (i64.wrap (w45*2),w57)
instance{w45:Int}:Hd (z0L a1 m3 m6 w45):=⟨fun(w55,w56,w57)=>([(7,xI w55),(8,xI w56)],[(0,(tO w57))])⟩
abbrev z0M(a1:Int)(m3:Frm)(m6:List Int):Int×List Int->Option ((Int×List Int)⊕List Int)
 |(w45,w46)=>
 if w45<a1 then
 z0k (z0L a1 m3 m6 w45) LFm (0,i64.wrap (2*w45),w46)
 else
 z0i<|
 some w46
instance:Hd (z0M a1 m3 m6):=⟨fun(w45,w46)=>([(6,xI w45)],[(0,(tO w46))])⟩
abbrev z0N(a1:Int)(m3:Frm)(m6:List Int):Int×Int×List Int->Option ((Int×Int×List Int)⊕List Int)
 |(w32,w33,w34)=>
 if w33<=a1 then
 (z0C w34 w32 w33 m3 m6).bind fun v36=>
 z0c (w33,i64.wrap (w33+20),v36)
 else
 z0i<|
 (z0C w34 w32 a1 m3 m6).bind fun v37=>
 z0k (z0M a1 m3 m6) LFm (20,v37)
instance:Hd (z0N a1 m3 m6):=⟨fun(w32,w33,w34)=>([(7,xI w32),(8,xI w33)],[(0,(tO w34))])⟩
def z0S(a0:List Int)(a1:Int)(m3:Frm)(m6:List Int):Option (List Int):=
 z0k (z0N a1 m3 m6) LFm (0,20,a0)
instance:Ok (z0S a0 a1 m3 m6) (fun r=>L 103 [(tO a0),.sc (.int .i64 a1),.cl 82 [.pr [.pr [.sc (.int .i64 m3.d.letters),.sc (.int .i64 m3.d.start),(tB m3.d.final),(tR m3.d.next),(tI m3.x.sets),(tI m3.x.class_),(tI m3.x.height),(tR m3.x.tiles),(tS m3.x.words),(tS m3.x.back),(tI m3.comp),(tI m3.sizes),(tR m3.tiles),(tR m3.next)]],.pr [(tI m6)]]]=some (.tup [],[(tO r),.dead,.dead])):=⟨fun r h=>by have h:=z4u h;unfold z0S at h;exact z5i rfl Tryz.func103 (bdy Tryz.f103 rfl)⟩
def z0r(a0:List Int)(m7:Frm)(m9:List Int):Option (List Int):=
 (z0S a0 (a0.length:Int) m7 m9).bind fun v2=>
 some v2
instance{m7:Frm}{m9:List Int}:Ok (z0r a0 m7 m9) (fun r=>L 59 [(tO a0),.cl 82 [.pr [.pr [.sc (.int .i64 m7.d.letters),.sc (.int .i64 m7.d.start),(tB m7.d.final),(tR m7.d.next),(tI m7.x.sets),(tI m7.x.class_),(tI m7.x.height),(tR m7.x.tiles),(tS m7.x.words),(tS m7.x.back),(tI m7.comp),(tI m7.sizes),(tR m7.tiles),(tR m7.next)]],.pr [(tI m9)]]]=some (.tup [],[(tO r),.dead])):=⟨fun r h=>by have h:=z4u h;unfold z0r at h;exact z5i rfl Tryz.func59 (bdy Tryz.f59 rfl)⟩
abbrev z2Q(a0:Frm)(v40:List Int)(w45:List Int):Int×List Int->Option ((Int×List Int)⊕Frm)
 |(w55,w56)=>
 if w55<(a0.x.class_.length:Int) then
 (atI a0.x.class_ w55).bind fun v60=>
 (z1n v40 v60).bind fun v61=>
 (atI w56 w55).bind fun v62=>
 z0c (i64.wrap (w55+1),(w56.set w55.toNat v61))
 else
 z0i<|
 some (⟨⟨a0.d.letters,a0.d.start,a0.d.final,a0.d.next⟩,⟨a0.x.sets,a0.x.class_,a0.x.height,a0.x.tiles,a0.x.words,a0.x.back⟩,w56,w45,a0.tiles,a0.next⟩:Frm)
instance{a0:Frm}{w45:List Int}:Hd (z2Q a0 v40 w45):=⟨fun(w55,w56)=>([(69,xI w55)],[(2,.vr [.vr [.sc (.int .i64 a0.d.letters),.sc (.int .i64 a0.d.start),(tB a0.d.final),(tR a0.d.next),(tI a0.x.sets),(tI a0.x.class_),(tI a0.x.height),(tR a0.x.tiles),(tS a0.x.words),(tS a0.x.back),(tO w56),(tO w45),.os 1 a0.tiles.length (a0.tiles.map fun x0=>(tO x0)),.os 1 a0.next.length (a0.next.map fun x0=>(tO x0))]])])⟩
abbrev z2R(a0:Frm)(a1:List Int)(v40:List Int):Int×List Int->Option ((Int×List Int)⊕Frm)
 |(w44,w45)=>
 if w44<(v40.length:Int) then
 (atI v40 w44).bind fun v49=>
 (atI a1 v49).bind fun v50=>
 (atI a0.x.tiles v50).bind fun v51=>
 chk (z1B 8 (w45.length+1))<|
 z0c (i64.wrap (w44+1),w45++ [(v51.length:Int)])
 else
 z0i<|
 z0k (z2Q a0 v40 w45) LFm (0,a0.comp)
instance{a0:Frm}{a1:List Int}:Hd (z2R a0 a1 v40):=⟨fun(w44,w45)=>([(37,xI w44)],[(2,.vr [.vr [.sc (.int .i64 a0.d.letters),.sc (.int .i64 a0.d.start),(tB a0.d.final),(tR a0.d.next),(tI a0.x.sets),(tI a0.x.class_),(tI a0.x.height),(tR a0.x.tiles),(tS a0.x.words),(tS a0.x.back),(tO a0.comp),(tO w45),.os 1 a0.tiles.length (a0.tiles.map fun x0=>(tO x0)),.os 1 a0.next.length (a0.next.map fun x0=>(tO x0))]])])⟩
abbrev z3k(a0:Frm)(a1:List Int):Int×List Int->Option ((Int×List Int)⊕Frm)
 |(w34,w35)=>
 if w34<(a1.length:Int) then
 (atI a1 w34).bind fun v38=>
 (atI a0.x.height v38).bind fun v39=>
 if 1<=v39 then
 chk (z1B 8 (w35.length+1))<|
 z0c (i64.wrap (w34+1),w35++ [w34])
 else
 z0c (i64.wrap (w34+1),w35)
 else
 z0i<|
 (z0r w35 a0 a1).bind fun v40=>
 z0k (z2R a0 a1 v40) LFm (0,a0.sizes)
instance{a0:Frm}{a1:List Int}:Hd (z3k a0 a1):=⟨fun(w34,w35)=>([(13,xI w34)],[(4,(tO w35))])⟩
def z2W(a0:Frm)(a1:List Int):Option (Frm):=
 z0k (z3k a0 a1) LFm (0,[])
instance{a0:Frm}{a1:List Int}:Ok (z2W a0 a1) (fun r=>L 34 [.vr [.sc (.int .i64 a0.d.letters),.sc (.int .i64 a0.d.start),(tB a0.d.final),(tR a0.d.next),(tI a0.x.sets),(tI a0.x.class_),(tI a0.x.height),(tR a0.x.tiles),(tS a0.x.words),(tS a0.x.back),(tO a0.comp),(tO a0.sizes),.os 1 a0.tiles.length (a0.tiles.map fun x0=>(tO x0)),.os 1 a0.next.length (a0.next.map fun x0=>(tO x0))],(tI a1)]=some (.tup [],[.vr [.sc (.int .i64 r.d.letters),.sc (.int .i64 r.d.start),(tB r.d.final),(tR r.d.next),(tI r.x.sets),(tI r.x.class_),(tI r.x.height),(tR r.x.tiles),(tS r.x.words),(tS r.x.back),(tO r.comp),(tO r.sizes),.os 1 r.tiles.length (r.tiles.map fun x0=>(tO x0)),.os 1 r.next.length (r.next.map fun x0=>(tO x0))],.dead])):=⟨fun r h=>by have h:=z4u h;unfold z2W at h;exact z5i rfl Tryz.func34 (bdy Tryz.f34 rfl)⟩
abbrev z4c(a0:DFA)(v99:Imgs×Int)(w103:List (Int×Int))(w137:Int)(w138:List (List Int))(w139:List (List Int))(w171:List Int)(v179:List Int):Int×List Int->Option ((Int×List Int)⊕((Int×List (List Int)×List (List Int))⊕(Frm×Int)))
 |(w184,w185)=>
 if w184<(v179.length:Int) then
 (atI v179 w184).bind fun v191=>
 (atI v99.1.sets v191).bind fun v192=>
 (atI v99.1.words w137).bind fun v193=>
 (z4N a0 v192 v193).bind fun v194=>
 (atI w185 w184).bind fun v195=>
 z0c (i64.wrap (w184+1),(w185.set w184.toNat ((z8i v194 w103).getD 0)))
 else
 z0i<|
 chk (z1B 24 (w138.length+1))<|
 z0c (i64.wrap (w137+1),w138++ [w185],w139++ [w171])
instance{a0:DFA}{w171:List Int}{v179:List Int}:Hd (z4c a0 v99 w103 w137 w138 w139 w171 v179):=⟨fun(w184,w185)=>([(119,xI w184)],[(15,(tO w185))])⟩
abbrev z4d(a0:DFA)(v99:Imgs×Int)(w103:List (Int×Int))(w104:List Int)(w137:Int)(w138:List (List Int))(w139:List (List Int))(v168:Int):Int×List Int->Option ((Int×List Int)⊕((Int×List (List Int)×List (List Int))⊕(Frm×Int)))
 |(w170,w171)=>
 if w170<a0.letters then
 (z4N a0 v168 ⟨#[UInt8.ofNat (u8.wrap (i64.wrap (97+w170))).toNat]⟩).bind fun v174=>
 (atI w171 w170).bind fun v175=>
 z0c (i64.wrap (w170+1),(w171.set w170.toNat ((z8i v174 w103).getD 0)))
 else
 z0i<|
 chk (z1B 24 (w139.length+1))<|
 (atI v99.1.tiles w137).bind fun v176=>
 chk (z0X 8 (v176.length:Int))<|
 (atI v99.1.class_ w137).bind fun v177=>
 (atI w104 v177).bind fun v178=>
 (atI v99.1.tiles v178).bind fun v179=>
 z0k (z4c a0 v99 w103 w137 w138 w139 w171 v179) LFm (0,List.replicate (v176.length:Int).toNat (0:Int))
instance{a0:DFA}{v168:Int}:Hd (z4d a0 v99 w103 w104 w137 w138 w139 v168):=⟨fun(w170,w171)=>([(76,xI w170)],[(13,(tO w171))])⟩
abbrev z4e(a0:DFA)(v99:Imgs×Int)(w103:List (Int×Int))(w104:List Int):Int×List (List Int)×List (List Int)->Option ((Int×List (List Int)×List (List Int))⊕(Frm×Int))
 |(w137,w138,w139)=>
 if w137<(v99.1.sets.length:Int) then
 (atI v99.1.sets w137).bind fun v168=>
 chk (z0X 8 a0.letters)<|
 z0k (z4d a0 v99 w103 w104 w137 w138 w139 v168) LFm (0,List.replicate a0.letters.toNat (0:Int))
 else
 z0i<|
 (z2W (⟨⟨a0.letters,a0.start,a0.final,a0.next⟩,⟨v99.1.sets,v99.1.class_,v99.1.height,v99.1.tiles,v99.1.words,v99.1.back⟩,List.replicate (v99.1.sets.length:Int).toNat (0:Int),[],w138,w139⟩:Frm) w104).bind fun v196=>
 some (v196,0)
instance{a0:DFA}:Hd (z4e a0 v99 w103 w104):=⟨fun(w137,w138,w139)=>([(66,xI w137)],[(6,.vr [.sc (.int .i64 a0.letters),.sc (.int .i64 a0.start),(tB a0.final),(tR a0.next),(tI v99.1.sets),(tI v99.1.class_),(tI v99.1.height),(tR v99.1.tiles),(tS v99.1.words),(tS v99.1.back),.os 1 (List.replicate (v99.1.sets.length:Int).toNat (0:Int)).length ((List.replicate (v99.1.sets.length:Int).toNat (0:Int)).map fun x0=>.sc (.int .i64 x0)),.os 1 0 [],.os 1 w138.length (w138.map fun x0=>(tO x0)),.os 1 w139.length (w139.map fun x0=>(tO x0))])])⟩
abbrev z4t(a0:DFA)(v99:Imgs×Int):Int×(List (Int×Int))×List Int->Option ((Int×(List (Int×Int))×List Int)⊕(Frm×Int))
 |(w102,w103,w104)=>
 if w102<(v99.1.sets.length:Int) then
 (atI v99.1.sets w102).bind fun v107=>
 (atI v99.1.class_ w102).bind fun v108=>
 if v108=(w104.length:Int) then
 chk (z1B 8 (w104.length+1))<|
 z0c (i64.wrap (w102+1),z8p v107 w102 w103,w104++ [w102])
 else
 z0c (i64.wrap (w102+1),z8p v107 w102 w103,w104)
 else
 z0i<|
 z0k (z4e a0 v99 w103 w104) LFm (0,[],[])
instance{a0:DFA}:Hd (z4t a0 v99):=⟨fun(w102,w103,w104)=>([(42,xI w102)],[(7,.mp (some .i64) (w103.map fun x0=>(.int .i64 x0.1,.int .i64 x0.2))),(8,(tO w104))])⟩
def z3w(a0:DFA):Option (Frm×Int):=
 (z8h a0).bind fun v99=>
 if v99.2=0 then
 chk (z0X 8 (v99.1.sets.length:Int))<|
 z0k (z4t a0 v99) LFm (0,([]:List (Int×Int)),[])
 else
 some ((⟨⟨0,0,[],[]⟩,⟨[],[],[],[],[],[]⟩,[],[],[],[]⟩:Frm),v99.2)
instance{a0:DFA}:Ok (z3w a0) (fun r=>L 12 [.agg [.sc (.int .i64 a0.letters),.sc (.int .i64 a0.start),(tB a0.final),(tR a0.next)]]=some (.tup [.agg [.sc (.int .i64 r.1.d.letters),.sc (.int .i64 r.1.d.start),(tB r.1.d.final),(tR r.1.d.next),(tI r.1.x.sets),(tI r.1.x.class_),(tI r.1.x.height),(tR r.1.x.tiles),(tS r.1.x.words),(tS r.1.x.back),(tI r.1.comp),(tI r.1.sizes),(tR r.1.tiles),(tR r.1.next)],.sc (.int .i64 r.2)],[.dead])):=⟨fun r h=>by have h:=z4u h;unfold z3w at h;exact zeu rfl Tryz.func12 (bdy Tryz.f12 rfl)⟩
end
end
section
open Go
def zy6(M H:List Int)(x:Int):Option Int:=(atI M x).bind fun r=>atI H r
def zAq(F:Frm)(M:List Int):SrtC where
 cmp x y:=z1d x y F M
 key x:=x-(zy6 M F.x.height x).getD 0*1048576
 ok x:=0<=x/\x<1048576/\(zy6 M F.x.height x).isSome
 law x y hx hy hl:=by
  obtain⟨x0,x1,x2⟩:=hx
  obtain⟨y0,y1,y2⟩:=hy
  obtain⟨u,hu⟩:=ZX.1 x2
  obtain⟨v,hv⟩:=ZX.1 y2
  have hu':=hu
  have hv':=hv
  unfold zy6 at hu hv
  cases h1:atI M x with
  |none=>rw[h1] at hu;cases hu
  |some p=>
   cases h2:atI M y with
   |none=>rw[h2] at hv;cases hv
   |some q=>
    rw[h1,Z0] at hu
    rw[h2,Z0] at hv
    obtain⟨z,e1,e2⟩:=zuN v u
    refine⟨z,?_,?_⟩
    · unfold z1d
      rw[h2,Z0,hv,Z0,h1,Z0,hu,Z0,e1];rfl
    · rw[e2,hu',hv',Zb,Zb]
      omega
theorem zkv:∀k,z0m k=fun l a m b F M=>zwP k l a m b (zAq F M)
 |0=>rfl
 |k+1=>by
  show z0H (z0m k)=_
  rw[zkv k]
  rfl
theorem zrZ(l:List Int)(F:Frm)(M:List Int):z0r l F M=zBG l (zAq F M):=by
 have h9:z0L=fun a F M k=>zbR a (zAq F M) k:=by
  unfold z0L
  rw[zkv]
  all_goals rfl
 have h7:z0M=fun a F M=>zdL a (zAq F M):=by
  unfold z0M
  rw[h9]
  all_goals rfl
 have h2:z0N=fun a F M=>zdM a (zAq F M):=by
  unfold z0N
  rw[h7]
  all_goals rfl
 unfold z0r z0S
 rw[h2]
 all_goals rfl
end
section
open Go
theorem zAv{k:Nat}(h:97<=k)(h2:k<256):IntKind.u8.wrap ((k:Int)-97)=((k-97:Nat):Int):=by
 rw[YI];omega
theorem zoC{d:DFA}{m n:Nat}(hd:DfaOk d m n)(hn:n<=12){s:Nat}(hs:s<2^n){w:ByteArray}(hw:ziM m w.data.toList)(hsz:w.size<2^40):z4N d (s:Int) w=some ((z4y d s w.data.toList:Nat):Int):=by
 have hl:w.data.toList.length=w.size:=by rw[Yj];rfl
 have h12:=zfV hn
 unfold z4N
 refine z0x (s:=((s:Int),(0:Int))) w.size (fun k=>(((z4y d s (w.data.toList.take k):Nat):Int),(k:Int))) rfl (by simp only[LFm];omega) (fun k hk=> ?_) ?_
 · have hk':k<w.data.toList.length:=by omega
   have hc:=hw _ (Zw hk')
   have hb:w[k]=w.data.toList[k]:=by rw[zlG hk,List.getD,Z1 hk',Zb]
   have h256:w.data.toList[k].toNat<256:=w.data.toList[k].toNat_lt
   have hcur:=zfP hd hs (w:=w.data.toList.take k) fun c hc=>hw c (ZI hc)
   simp only[z5n]
   rw[if_pos (by omega),zku hk',z6T]
   show _=z0c (((mvN d (z4y d s (w.data.toList.take k)) (w.data.toList[k].toNat-97):Nat):Int),_)
   generalize z4y d s (w.data.toList.take k)=s' at*
   unfold mvN
   refine z0x (s:=((0:Int),(0:Int))) n (fun q=>(((ziH d.next s' (w.data.toList[k].toNat-97) q:Nat):Int),(q:Int))) rfl (by simp only[LFm];omega) (fun q hq=> ?_) ?_
   · have ha:w.data.toList[k].toNat-97<m:=by omega
     have hlt:=zg2 hd (s:=s') ha q (by omega)
     obtain⟨h1,h2,e,h3,h4⟩:=zbG hd (q:=q) hq ha
     simp only[z5m]
     rw[if_pos (by omega),z1k h1]
     simp only[Z0]
     rw[z0j _ (by omega),z1g (by omega)]
     by_cases hbt:s'.testBit q=true
     · rw[if_pos ((zgM (by omega) (by omega)).2 hbt),zlH hk]
       simp only[Z0]
       rw[hb,zAv hc.1 h256,z1k h2]
       simp only[Z0]
       obtain⟨v,hv⟩:=ZF h3
       rw[z0j _ (by omega),hv,z8t (by omega),zmK (by omega) (Yn (by omega) (by omega))]
       simp only[ziH]
       rw[if_pos hbt,e,hv,Z3]
     · rw[if_neg (fun h=>hbt ((zgM (by omega) (by omega)).1 h))]
       simp only[ziH]
       rw[if_neg hbt]
   · simp only[z5m]
     rw[if_neg (by rw[hd.nl];omega),hd.nl,z1g (by omega)]
 · simp only[z5n]
   rw[if_neg (by omega),←hl,Yr]
def cpI(d:DFA)(m n:Nat)(S O:List Nat)(i:Nat):Int:=if clN d m n S i∈O then((cpN d m n S O i:Nat):Int) else-1
def z8n(d:DFA)(m n:Nat)(S O:List Nat):Frm:=⟨d,z3G d m n S,(List.range S.length).map (cpI d m n S O),toI ((List.range O.length).map (szO d m n S O)),(List.range S.length).map fun i=>toI (tlR d m n S i),(List.range S.length).map fun i=>toI ((List.range m).map (zbS d S i))⟩
theorem zj0{l:List Nat}{x:Nat}(hl:l.length<4611686018427387904):z1n (toI l) (x:Int)=some (if x∈l then((l.idxOf x:Nat):Int) else-1):=by
 unfold z1n
 rw[z7p (s:=(0:Int)) l.length (fun k=>(k:Int)) (fun k=>decide (x=l.getD k 0)) (fun k=>some (k:Int)) (x:=some (-1)) rfl (by simp only[LFm];omega) (fun k hk=> ?_) ?_]
 · by_cases hx:x∈l
   · have h1:=z6j hx
     rw[if_pos hx]
     have hf:(List.range l.length).find? (fun k=>decide (x=l.getD k 0))=some (l.idxOf x):=by
      rw[X1]
      refine⟨by rw[decide_eq_true_eq,z4i hx],by simpa using h1,fun j hj=> ?_⟩
      have hjl:j<l.length:=by omega
      have h3:=List.not_of_lt_findIdx (p:=(·==x)) (xs:=l) (i:=j) hj
      simp only[Yb,decide_eq_false_iff_not]
      intro e
      rw[List.getD,Z1 hjl,Zb] at e
      rw[←e] at h3
      simp at h3
     rw[hf]
   · rw[if_neg hx]
     have hf:(List.range l.length).find? (fun k=>decide (x=l.getD k 0))=none:=by
      rw[List.find?_eq_none]
      intro k hk
      have hk:=Zk.1 hk
      simp only[decide_eq_true_eq]
      intro e
      exact hx (e▸z0f hk)
     rw[hf]
 · simp only[z2b]
   rw[if_neg (by rw[z0b];omega)]
 · simp only[z2b]
   rw[if_pos (by rw[z0b];omega),z1u hk]
   simp only[Z0]
   by_cases e:x=l.getD k 0
   · rw[if_pos (by rw[e]),if_pos (by rw[decide_eq_true_eq];exact e)]
   · rw[if_neg (by omega),if_neg (by rw[decide_eq_true_eq];exact e),z1g (by omega)]
end
section
open Go
section
variable {d:DFA} {m n:Nat} {S:List Nat} (hd:DfaOk d m n) (hn:n<=7) (hS:SetsP d m n S) (hH:zlS d m n S) {O:List Nat} (hO:OrdC d m n S O)
include hd hn hS hH hO
theorem zsP(hSl:S.length<=1000)(C:List Int)(hC0:C=List.replicate S.length 0)(T N:List (List Int)):
 z2W ⟨d,z3G d m n S,C,[],T,N⟩ (toI (z6n d m n S))=some ⟨d,z3G d m n S,(List.range S.length).map (cpI d m n S O),toI ((List.range O.length).map (szO d m n S O)),T,N⟩:=by
 have hhat:∀i,i<S.length->atI (z3G d m n S).height (i:Int)=some ((z7A d m n S i:Nat):Int):=fun i hi=>z2E hi
 have htat:∀i,i<S.length->atI (z3G d m n S).tiles (i:Int)=some (toI (z6p S i)):=fun i hi=>z2E hi
 have hcat:∀i,i<S.length->atI (z3G d m n S).class_ (i:Int)=some ((clN d m n S i:Nat):Int):=fun i hi=>z2E hi
 have l2:(z3G d m n S).class_.length=S.length:=by simp[z3G,zuR]
 have hfl:(z6n d m n S).length<=S.length:=z5w (z2u d m n S) S.length
 have hfat:∀c,c<(z6n d m n S).length->atI (toI (z6n d m n S)) (c:Int)=some ((z2d d m n S c:Nat):Int):=fun c hc=>z1u hc
 have hflt:∀c,c<(z6n d m n S).length->z2d d m n S c<S.length:=fun c hc=>(z2I hd hn hS hc).2
 have hout:∀c∈za5 d m n S S.length,c<(z6n d m n S).length:=fun c hc=>Zk.1 (ZV.1 hc).1
 have hol:(za5 d m n S S.length).length<=S.length:=by
  unfold za5
  exact ZJ (ZC _ _) (by rw[ZD];exact hfl)
 have hOl:O.length<=S.length:=by rw[hO.prm.length_eq];exact hol
 have hko:∀c,c<(z6n d m n S).length->zy6 (toI (z6n d m n S)) (z3G d m n S).height (c:Int)=some ((hC d m n S c:Nat):Int):=fun c hc=>by
  unfold zy6
  rw[hfat c hc,Z0,hhat _ (hflt c hc)];rfl
 have hasc:(toI (za5 d m n S S.length)).Pairwise (·< ·):=by
  unfold toI za5
  exact YC _ (fun a b (h:a<b)=>by omega) (YM _ XD)
 obtain⟨Z,e,z1,z2⟩:=zmt (K:=zAq ⟨d,z3G d m n S,C,[],T,N⟩ (toI (z6n d m n S))) (l:=toI (za5 d m n S S.length))
  (fun x hx=>by
    obtain⟨c,hc,rfl⟩:=Zm.1 hx
    have:=hout c hc
    exact⟨by omega,by omega,by show(zy6 (toI (z6n d m n S)) (z3G d m n S).height (c:Int)).isSome=true;rw[hko c this];rfl⟩) hasc (by rw[z0b];omega)
 have hZ:∃O',Z=toI O'/\O'.Perm (za5 d m n S S.length):=by
  refine⟨Z.map Int.toNat,?_,?_⟩
  · unfold toI
    rw[Y3]
    refine(XU Z).symm.trans (ZB fun x hx=> ?_)
    obtain⟨c,hc,rfl⟩:=Zm.1 (z2.mem_iff.1 hx)
    simp
  · have:=z2.map Int.toNat
    refine this.trans ?_
    unfold toI
    rw[Y3]
    have:(Int.toNat∘fun x:Nat=>(x:Int))=id:=by funext x;simp
    rw[this,YW]
 obtain⟨O',rfl,hO'⟩:=hZ
 have hs':zAc (hC d m n S) O':=by
  have z1':(O'.map fun x:Nat=>(x:Int)).Pairwise _:=z1
  rw[List.pairwise_map] at z1'
  refine Xz (fun {x y} hx hy h=> ?_) z1'
  have ox:=hout x (hO'.mem_iff.1 hx)
  have oy:=hout y (hO'.mem_iff.1 hy)
  have h3:(x:Int)-(zy6 (toI (z6n d m n S)) (z3G d m n S).height (x:Int)).getD 0*1048576<=(y:Int)-(zy6 (toI (z6n d m n S)) (z3G d m n S).height (y:Int)).getD 0*1048576:=h
  rw[hko x ox,hko y oy,Zb,Zb] at h3
  unfold leH
  omega
 obtain rfl:O'=O:=zz4 hs' hO.srt hO' hO.prm
 have hOat:∀c,c<O'.length->O'.getD c 0<(z6n d m n S).length:=fun c hc=>hout _ (hO'.mem_iff.1 (z0f hc))
 unfold z2W
 refine z0x (s:=((0:Int),([]:List Int))) (z6n d m n S).length (fun k=>((k:Int),toI ((List.range k).filter fun c=>decide (0<hC d m n S c)))) rfl (by simp only[LFm];omega) (fun c hc=> ?_) ?_
 · have hq:(toI ((List.range c).filter fun c=>decide (0<hC d m n S c))).length<=c:=by
    rw[z0b]
    exact ZJ (ZC _ _) (by rw[ZD];omega)
   simp only[z3k]
   rw[z0b,if_pos (by omega),hfat c hc,Z0,hhat _ (hflt c hc),Z0,z1g (by omega),YA,Xr,X0,XH]
   by_cases h:0<hC d m n S c
   · have h':0<z7A d m n S (z2d d m n S c):=h
     rw[if_pos (by omega),z0j _ (by unfold z1B;omega),if_pos (by simpa using h),z5B]
   · have h':¬0<z7A d m n S (z2d d m n S c):=h
     rw[if_neg (by omega),if_neg (by simpa using h),Y1]
 · simp only[z3k]
   rw[z0b,if_neg (by omega),zrZ]
   have e':toI ((List.range (z6n d m n S).length).filter fun c=>decide (0<hC d m n S c))=toI (za5 d m n S S.length):=rfl
   rw[e',e,Z0]
   congr 1
   refine z0x (s:=((0:Int),([]:List Int))) O'.length (fun k=>((k:Int),toI ((List.range k).map (szO d m n S O')))) rfl (by simp only[LFm];omega) (fun c hc=> ?_) ?_
   · have h1:=hOat c hc
     simp only[z2R]
     rw[z0b,if_pos (by omega),z1u hc,Z0,hfat _ h1,Z0,htat _ (hflt _ h1),Z0,z0b,Zh,ZD,z0j _ (by unfold z1B;omega),z1g (by omega),YA,ZY,Zs,Ys,z5B,z0b]
     rfl
   · simp only[z2R]
     rw[z0b,if_neg (by omega)]
     congr 1
     refine z0x (s:=((0:Int),C)) S.length (fun k=>((k:Int),zaL S.length (cpI d m n S O') (fun _=>0) k)) (by rw[z9v,hC0];congr 1;exact(Zf (by simp) fun i h1 h2=>by simp)) (by simp only[LFm];omega) (fun i hi=> ?_) ?_
     · simp only[z2Q]
       rw[l2,if_pos (by omega),hcat i hi,Z0,zj0 (by omega),Z0,z6y hi,Z0,z1g (by omega),Z3]
       have e2:(if clN d m n S i∈O' then((O'.idxOf (clN d m n S i):Nat):Int) else-1)=cpI d m n S O' i:=rfl
       rw[e2,z4S hi]
     · simp only[z2Q]
       rw[l2,if_neg (by omega),z9u]
theorem zl5(hSl:S.length<=1000)(hOf:z8h d=some (z3G d m n S,0)):z3w d=some (z8n d m n S O,0):=by
 have h12:=zfV (show n<=12 by omega)
 have hm6:=hd.m6
 have hhat:∀i,i<S.length->atI (z3G d m n S).height (i:Int)=some ((z7A d m n S i:Nat):Int):=fun i hi=>z2E hi
 have htat:∀i,i<S.length->atI (z3G d m n S).tiles (i:Int)=some (toI (z6p S i)):=fun i hi=>z2E hi
 have hcat:∀i,i<S.length->atI (z3G d m n S).class_ (i:Int)=some ((clN d m n S i:Nat):Int):=fun i hi=>z2E hi
 have hwat:∀i,i<S.length->atI (z3G d m n S).words (i:Int)=some (zej d m n S i):=fun i hi=>z2E hi
 have hsat:∀i,i<S.length->atI (z3G d m n S).sets (i:Int)=some ((S.getD i 0:Nat):Int):=fun i hi=>z1u hi
 have ls:(z3G d m n S).sets.length=S.length:=z0b S
 have hfl:(z6n d m n S).length<=S.length:=z5w (z2u d m n S) S.length
 have he:=z8Y hd hS
 have hget:∀x,x∈S->(z8i ((x:Nat):Int) (zgo S S.length)).getD 0=((S.idxOf x:Nat):Int):=fun x hx=>by
  have:=zeH hS.nd S.length (Z5 _) (z6j hx)
  rw[z4i hx] at this
  rw[this];rfl
 unfold z3w
 rw[hOf,Z0]
 simp only[if_true]
 rw[ls,z0j _ (by unfold z0X;omega)]
 refine z0x (s:=((0:Int),([]:List (Int×Int)),([]:List Int))) S.length (fun k=>((k:Int),zgo S k,toI (z1e (z2u d m n S) k))) rfl (by simp only[LFm];omega) (fun i hi=> ?_) ?_
 · have hfi:=z5w (z2u d m n S) i
   simp only[z4t]
   rw[ls,if_pos (by omega),hsat i hi,Z0,hcat i hi,Z0,z0b,z1g (by omega)]
   rcases zcP he hi with⟨h1,_,h3⟩|⟨h1,_,h3⟩
   · rw[if_neg (by unfold clN;omega),h3];rfl
   · rw[if_pos (by unfold clN;omega),z0j _ (by unfold z1B;omega),h3,z5B];rfl
 · simp only[z4t]
   rw[ls,if_neg (by omega)]
   congr 1
   refine z0x (s:=((0:Int),([]:List (List Int)),([]:List (List Int)))) S.length (fun k=>((k:Int),(List.range k).map (fun i=>toI (tlR d m n S i)),(List.range k).map fun i=>toI ((List.range m).map (zbS d S i)))) rfl (by simp only[LFm];omega) (fun i hi=> ?_) ?_
   · have hil:=hS.lt _ (z0f hi:S.getD i 0∈S)
     have hfi:=zjc hd hn hS hi
     simp only[z4e]
     rw[ls,if_pos (by omega),hsat i hi,Z0,hd.lt,z0j _ (by unfold z0X;omega),Z3]
     refine z0x (s:=((0:Int),List.replicate m (0:Int))) m (fun a=>((a:Int),zaL m (fun a=>((zbS d S i a:Nat):Int)) (fun _=>0) a)) (by rw[z9v];congr 1;exact(Zf (by simp) fun i h1 h2=>by simp)) (by simp only[LFm];omega) (fun a ha=> ?_) ?_
     · simp only[z4d]
       have hlw:(zrg a).data.toList= [UInt8.ofNat (97+a)]:=z8b a
       have hln:=zaN (a:=a) (by omega)
       rw[hd.lt,if_pos (by omega),ziT (by omega),zoC hd (by omega) hil (w:=zrg a) (fun c hc=>by rw[hlw] at hc;rw[Zj.1 hc,hln];omega) (by rw[z7q];omega),Z0,z6y ha,Z0,z1g (by omega),Z3]
       have er:z4y d (S.getD i 0) (zrg a).data.toList=mvN d (S.getD i 0) a:=by
        rw[hlw]
        simp only[z4y,hln]
        rw[show 97+a-97=a by omega]
       rw[er,hget _ (hS.cl _ (z0f hi) a ha)]
       exact congrArg (fun x=>z0c (((a+1:Nat):Int),x)) (z4S (f:=fun a=>((zbS d S i a:Nat):Int)) ha)
     · simp only[z4d]
       have htl:=zrN hd hn hS hfi hi (z9g hd hn hS hi).1 (zd3 hd hn hS hi).1
       have htb:=zmp hd hn hS hi
       rw[zdt] at htb
       rw[hd.lt,if_neg (by omega)]
       congr 1
       rw[Zh,ZD,z0j _ (by unfold z1B;omega),htat i hi,Z0,z0b,z0j _ (by unfold z0X;omega),hcat i hi,Z0]
       have hcf:atI (toI (z1e (z2u d m n S) S.length)) ((clN d m n S i:Nat):Int)=some ((z5P d m n S i:Nat):Int):=by
        obtain⟨c1,c2⟩:=zuU hd hn hS hi
        have:=z1u c1
        rw[c2] at this
        exact this
       rw[hcf,Z0,htat _ hfi,Z0,Z3]
       refine z0x (s:=((0:Int),List.replicate (z6p S i).length (0:Int))) (z6p S i).length (fun s=>((s:Int),zaL (z6p S i).length (fun s=>(((tlR d m n S i).getD s 0:Nat):Int)) (fun _=>0) s)) (by rw[z9v];congr 1;exact(Zf (by simp) fun i h1 h2=>by simp)) (by simp only[LFm];omega) (fun s hs=> ?_) ?_
       · have hs':s<(z6p S (z5P d m n S i)).length:=by omega
         obtain⟨_,t2,_,_⟩:=zce hn hS hfi (z0f hs')
         obtain⟨hl,hz⟩:=z9g hd hn hS hi
         have hmem:z4y d (S.getD ((z6p S (z5P d m n S i)).getD s 0) 0) (zej d m n S i).data.toList∈S:=zkK hS hl.hw (z0f t2)
         simp only[z4c]
         rw[z0b,if_pos (by omega),z1u hs',Z0,hsat _ t2,Z0,hwat i hi,Z0,zoC hd (by omega) (hS.lt _ (z0f t2)) hl.hw (by omega),Z0,z6y hs,Z0,z1g (by omega),Z3,hget _ hmem]
         have e1:(tlR d m n S i).getD s 0=S.idxOf (z4y d (S.getD ((z6p S (z5P d m n S i)).getD s 0) 0) (zej d m n S i).data.toList):=by
          simp[tlR,List.getD,hs']
         rw[←e1]
         exact congrArg (fun x=>z0c (((s+1:Nat):Int),x)) (z4S (f:=fun s=>(((tlR d m n S i).getD s 0:Nat):Int)) hs)
       · simp only[z4c]
         rw[z0b,if_neg (by omega)]
         congr 1
         rw[Zh,ZD,z0j _ (by unfold z1B;omega),z1g (by omega),z9u,z9u,YA,ZY,ZY,Zs,Zs,Ys,Ys]
         have e1:(List.range (z6p S i).length).map (fun s=>(((tlR d m n S i).getD s 0:Nat):Int))=toI (tlR d m n S i):=by
          refine Zf (by rw[Zh,ZD,z0b,ziq hd hn hS hi]) fun k h1 h2=> ?_
          have:k<(tlR d m n S i).length:=by rwa [z0b] at h2
          simp[toI,List.getD,this]
         have e2:(List.range m).map (fun a=>((zbS d S i a:Nat):Int))=toI ((List.range m).map (zbS d S i)):=by simp[toI,Function.comp_def]
         rw[e1,e2]
   · simp only[z4e]
     rw[ls,if_neg (by omega)]
     congr 1
     have:=zsP hd hn hS hH hO hSl (List.replicate S.length 0) rfl ((List.range S.length).map fun i=>toI (tlR d m n S i)) ((List.range S.length).map fun i=>toI ((List.range m).map (zbS d S i)))
     rw[Z3]
     have e3:toI (z1e (z2u d m n S) S.length)=toI (z6n d m n S):=rfl
     rw[e3]
     refine(congrArg (fun x=>Option.bind x fun v196=>some (v196,(0:Int))) this).trans ?_
     rfl
end
end
section
open Go Go.IntKind
noncomputable section
abbrev z3z(a0:Frm)(a1:List Int):Int×Int×List Int->Option ((Int×Int×List Int)⊕List Int)
 |(w20,w21,w22)=>
 if w21<(a1.length:Int) then
 (atI a1 w21).bind fun v27=>
 (atI a0.comp w20).bind fun v28=>
 if v28=w21 then
 (atI a0.tiles w20).bind fun v29=>
 (atI v29 v27).bind fun v30=>
 chk (z1B 8 (w22.length+1))<|
 z0c (v30,i64.wrap (w21+1),w22++ [v30])
 else
 z0c (w20,i64.wrap (w21+1),w22)
 else
 z0i<|
 some w22
variable{a0 m1:Frm}{a2 a3 a4 m2 v40:Int}{a1:List Int}
instance:Hd (z3z a0 a1):=⟨fun(w20,w21,w22)=>([(6,xI w20),(12,xI w21)],[(5,(tO w22))])⟩
def z3t(a0:Frm)(a1:List Int):Option (List Int):=
 z0k (z3z a0 a1) LFm (0,0,[0])
instance:Ok (z3t a0 a1) (fun r=>L 42 [.pr [.sc (.int .i64 a0.d.letters),.sc (.int .i64 a0.d.start),(tB a0.d.final),(tR a0.d.next),(tI a0.x.sets),(tI a0.x.class_),(tI a0.x.height),(tR a0.x.tiles),(tS a0.x.words),(tS a0.x.back),(tI a0.comp),(tI a0.sizes),(tR a0.tiles),(tR a0.next)],(tI a1)]=some ((tO r),[.dead,.dead])):=⟨fun r h=>by have h:=z4u h;unfold z3t at h;exact z5i rfl Tryz.func42 (bdy Tryz.f42 rfl)⟩
def z3s(a0:Frm)(a1:List Int):Option (Int):=
 (z3t a0 a1).bind fun v5=>
 (atI v5 (i64.wrap ((v5.length:Int)-1))).bind fun v6=>
 (atI a0.x.sets v6).bind fun v7=>
 (vTz (u64.wrap v7)).bind fun v8=>
 some v8
instance:Ok (z3s a0 a1) (fun r=>L 17 [.pr [.sc (.int .i64 a0.d.letters),.sc (.int .i64 a0.d.start),(tB a0.d.final),(tR a0.d.next),(tI a0.x.sets),(tI a0.x.class_),(tI a0.x.height),(tR a0.x.tiles),(tS a0.x.words),(tS a0.x.back),(tI a0.comp),(tI a0.sizes),(tR a0.tiles),(tR a0.next)],(tI a1)]=some (.sc (.int .i64 r),[.dead,.dead])):=⟨fun r h=>by have h:=z4u h;unfold z3s at h;exact z5i rfl Tryz.func17 (bdy Tryz.f17 rfl)⟩
def z2S(a0:Int)(m0:Frm)(m3:Int):Option (Bool):=
 (atI m0.x.sets m3).bind fun v3=>
 (atI m0.x.sets a0).bind fun v4=>
 some (decide ((zgR .i64 v3 v4)=0))
instance{a0:Int}{m0:Frm}{m3:Int}:Ok (z2S a0 m0 m3) (fun r=>L 94 [.sc (.int .i64 a0),.pr [.pr [.sc (.int .i64 m0.d.letters),.sc (.int .i64 m0.d.start),(tB m0.d.final),(tR m0.d.next),(tI m0.x.sets),(tI m0.x.class_),(tI m0.x.height),(tR m0.x.tiles),(tS m0.x.words),(tS m0.x.back),(tI m0.comp),(tI m0.sizes),(tR m0.tiles),(tR m0.next)]],.pr [.sc (.int .i64 m3)]]=some (.sc (.bool r),[.dead,.dead,.dead])):=⟨fun r h=>by have h:=z4u h;unfold z2S at h;exact z5i rfl Tryz.func94 (bdy Tryz.f94 rfl)⟩
abbrev z0D(a0:List Int)(m1:Frm)(m2:Int):Int->Option (Int⊕Int)
 |w10=>
 if w10<(a0.length:Int) then
 (atI a0 w10).bind fun v13=>
 (z2S v13 m1 m2).bind fun v14=>
 if v14=true then
 z0i<|
 some w10
 else
 z0c (i64.wrap (w10+1))
 else
 z0i<|
 some (-1)
instance{a0:List Int}:Hd (z0D a0 m1 m2):=⟨fun w10=>([(8,xI w10)],[])⟩
def z0u(a0:List Int)(m1:Frm)(m2:Int):Option (Int):=
 z0k (z0D a0 m1 m2) LFm 0
instance{a0:List Int}:Ok (z0u a0 m1 m2) (fun r=>L 35 [(tI a0),.cl 94 [.pr [.pr [.sc (.int .i64 m1.d.letters),.sc (.int .i64 m1.d.start),(tB m1.d.final),(tR m1.d.next),(tI m1.x.sets),(tI m1.x.class_),(tI m1.x.height),(tR m1.x.tiles),(tS m1.x.words),(tS m1.x.back),(tI m1.comp),(tI m1.sizes),(tR m1.tiles),(tR m1.next)]],.pr [.sc (.int .i64 m2)]]]=some (.sc (.int .i64 r),[.dead,.dead])):=⟨fun r h=>by have h:=z4u h;unfold z0u at h;exact z5i rfl Tryz.func35 (bdy Tryz.f35 rfl)⟩
def z1l(a0:Frm)(a1:Int)(a2:Int):Option (Int):=
 (atI a0.tiles a1).bind fun v3=>
 (z0u v3 a0 a2).bind fun v4=>
 some (if 0<v4 then v4 else 0)
instance{a1:Int}:Ok (z1l a0 a1 a2) (fun r=>L 51 [.pr [.sc (.int .i64 a0.d.letters),.sc (.int .i64 a0.d.start),(tB a0.d.final),(tR a0.d.next),(tI a0.x.sets),(tI a0.x.class_),(tI a0.x.height),(tR a0.x.tiles),(tS a0.x.words),(tS a0.x.back),(tI a0.comp),(tI a0.sizes),(tR a0.tiles),(tR a0.next)],.sc (.int .i64 a1),.sc (.int .i64 a2)]=some (.sc (.int .i64 r),[.dead,.dead,.dead])):=⟨fun r h=>by have h:=z4u h;unfold z1l at h;exact z5i rfl Tryz.func51 (bdy Tryz.f51 rfl)⟩
abbrev z3x(a0:Frm)(v20:Int):Int×Int×List Int->Option ((Int×Int×List Int)⊕List Int)
 |(w26,w27,w28)=>
 if w27<(a0.sizes.length:Int) then
 (atI a0.comp w26).bind fun v34=>
 if v34=w27 then
 (z1l a0 w26 v20).bind fun v35=>
 (atI w28 w27).bind fun v36=>
 (atI a0.tiles w26).bind fun v37=>
 (atI v37 v35).bind fun v38=>
 z0c (v38,i64.wrap (w27+1),(w28.set w27.toNat v35))
 else
 z0c (w26,i64.wrap (w27+1),w28)
 else
 z0i<|
 some w28
instance{v20:Int}:Hd (z3x a0 v20):=⟨fun(w26,w27,w28)=>([(4,xI w26),(27,xI w27)],[(3,(tO w28))])⟩
def z2B(a0:Frm):Option (List Int):=
 chk (z0X 8 (a0.sizes.length:Int))<|
 chk (¬a0.d.start<0)<|
 (z1n a0.x.sets (zmx .i64 1 a0.d.start)).bind fun v20=>
 z0k (z3x a0 v20) LFm (0,0,List.replicate (a0.sizes.length:Int).toNat (0:Int))
instance:Ok (z2B a0) (fun r=>L 19 [.pr [.sc (.int .i64 a0.d.letters),.sc (.int .i64 a0.d.start),(tB a0.d.final),(tR a0.d.next),(tI a0.x.sets),(tI a0.x.class_),(tI a0.x.height),(tR a0.x.tiles),(tS a0.x.words),(tS a0.x.back),(tI a0.comp),(tI a0.sizes),(tR a0.tiles),(tR a0.next)]]=some ((tO r),[.dead])):=⟨fun r h=>by have h:=z4u h;unfold z2B at h;exact z5i rfl Tryz.func19 (bdy Tryz.f19 rfl)⟩
abbrev z3m(a0:Frm)(a3:Int)(a4:Int)(v45:List Int):Int×List Int->Option ((Int×List Int)⊕List Int)
 |(w51,w52)=>
 if w51<(v45.length:Int) then
 (atI v45 w51).bind fun v59=>
 (atI a0.tiles a3).bind fun v60=>
 (atI a0.next v59).bind fun v61=>
 (atI v61 a4).bind fun v62=>
 (z1n v60 v62).bind fun v63=>
 (atI w52 w51).bind fun v64=>
 z0c (i64.wrap (w51+1),(w52.set w51.toNat (if 0<v63 then v63 else 0)))
 else
 z0i<|
 some w52
instance{v45:List Int}:Hd (z3m a0 a3 a4 v45):=⟨fun(w51,w52)=>([(89,xI w51)],[(11,(tO w52))])⟩
abbrev z3y(v40:Int)(v67:Int):Int×List Int->Option ((Int×List Int)⊕List Int)
 |(w68,w69)=>
 if w68<v40 then
 (atI w69 w68).bind fun v71=>
 z0c (i64.wrap (w68+1),(w69.set w68.toNat v67))
 else
 z0i<|
 some w69
instance{v67:Int}:Hd (z3y v40 v67):=⟨fun(w68,w69)=>([(39,xI w68)],[(11,(tO w69))])⟩
abbrev z3l(v40:Int)(v74:Int):Int×List Int->Option ((Int×List Int)⊕List Int)
 |(w75,w76)=>
 if w75<v40 then
 (atI w76 w75).bind fun v78=>
 z0c (i64.wrap (w75+1),(w76.set w75.toNat v74))
 else
 z0i<|
 some w76
instance{v74:Int}:Hd (z3l v40 v74):=⟨fun(w75,w76)=>([(39,xI w75)],[(11,(tO w76))])⟩
def z2C(a0:Frm)(a1:Int)(a2:Int)(a3:Int)(a4:Int):Option (List Int):=
 (atI a0.sizes a1).bind fun v40=>
 chk (z0X 8 v40)<|
 (atI a0.comp a3).bind fun v41=>
 if v41=a1 then
 (atI a0.comp a2).bind fun v42=>
 if v42=a1 then
 (atI a0.next a2).bind fun v43=>
 (atI v43 a4).bind fun v44=>
 if v44=a3 then
 (atI a0.tiles a2).bind fun v45=>
 z0k (z3m a0 a3 a4 v45) LFm (0,List.replicate v40.toNat (0:Int))
 else
 (z1l a0 a3 v44).bind fun v67=>
 z0k (z3y v40 v67) LFm (0,List.replicate v40.toNat (0:Int))
 else
 (atI a0.next a2).bind fun v72=>
 (atI v72 a4).bind fun v73=>
 (z1l a0 a3 v73).bind fun v74=>
 z0k (z3l v40 v74) LFm (0,List.replicate v40.toNat (0:Int))
 else
 some (List.replicate v40.toNat (0:Int))
instance{a1:Int}:Ok (z2C a0 a1 a2 a3 a4) (fun r=>L 87 [.pr [.sc (.int .i64 a0.d.letters),.sc (.int .i64 a0.d.start),(tB a0.d.final),(tR a0.d.next),(tI a0.x.sets),(tI a0.x.class_),(tI a0.x.height),(tR a0.x.tiles),(tS a0.x.words),(tS a0.x.back),(tI a0.comp),(tI a0.sizes),(tR a0.tiles),(tR a0.next)],.sc (.int .i64 a1),.sc (.int .i64 a2),.sc (.int .i64 a3),.sc (.int .i64 a4)]=some ((tO r),[.dead,.dead,.dead,.dead,.dead])):=⟨fun r h=>by have h:=z4u h;unfold z2C at h;exact z5i rfl Tryz.func87 (bdy Tryz.f87 rfl)⟩
abbrev z3Q(a0:Frm)(a1:List Int)(a2:Int):Int×Int×Int×List Int×List (List Int)->Option ((Int×Int×Int×List Int×List (List Int))⊕(List Int×List (List Int)))
 |(w58,w59,w60,w61,w62)=>
 if w60<(a1.length:Int) then
 (atI a1 w60).bind fun v77=>
 (z2C a0 w60 w58 w59 a2).bind fun v78=>
 (atI w62 w60).bind fun v79=>
 (atI v78 v77).bind fun v80=>
 (atI w61 w60).bind fun v81=>
 (atI a0.comp w58).bind fun v82=>
 if v82=w60 then
 (atI a0.tiles w58).bind fun v83=>
 (atI v83 v77).bind fun v84=>
 (atI a0.comp w59).bind fun v85=>
 if v85=w60 then
 (atI a0.tiles w59).bind fun v86=>
 (atI v86 v80).bind fun v87=>
 z0c (v84,v87,i64.wrap (w60+1),(w61.set w60.toNat v80),(w62.set w60.toNat v78))
 else
 z0c (v84,w59,i64.wrap (w60+1),(w61.set w60.toNat v80),(w62.set w60.toNat v78))
 else
 (atI a0.comp w59).bind fun v88=>
 if v88=w60 then
 (atI a0.tiles w59).bind fun v89=>
 (atI v89 v80).bind fun v90=>
 z0c (w58,v90,i64.wrap (w60+1),(w61.set w60.toNat v80),(w62.set w60.toNat v78))
 else
 z0c (w58,w59,i64.wrap (w60+1),(w61.set w60.toNat v80),(w62.set w60.toNat v78))
 else
 z0i<|
 some (w61,w62)
instance:Hd (z3Q a0 a1 a2):=⟨fun(w58,w59,w60,w61,w62)=>([(10,xI w58),(11,xI w59),(22,xI w60)],[(8,(tO w61)),(9,.os 1 w62.length (w62.map fun x0=>(tO x0)))])⟩
def z2G(a0:Frm)(a1:List Int)(a2:Int):Option (List Int×List (List Int)):=
 chk (z0X 8 (a1.length:Int))<|
 chk (z0X 24 (a1.length:Int))<|
 z0k (z3Q a0 a1 a2) LFm (0,0,0,List.replicate (a1.length:Int).toNat (0:Int),List.replicate (a1.length:Int).toNat ([]:List Int))
instance:Ok (z2G a0 a1 a2) (fun r=>L 39 [.pr [.sc (.int .i64 a0.d.letters),.sc (.int .i64 a0.d.start),(tB a0.d.final),(tR a0.d.next),(tI a0.x.sets),(tI a0.x.class_),(tI a0.x.height),(tR a0.x.tiles),(tS a0.x.words),(tS a0.x.back),(tI a0.comp),(tI a0.sizes),(tR a0.tiles),(tR a0.next)],(tI a1),.sc (.int .i64 a2)]=some (.tup [(tO r.1),.os 1 r.2.length (r.2.map fun x0=>(tO x0))],[.dead,.dead,.dead])):=⟨fun r h=>by have h:=z4u h;unfold z2G at h;exact z5i rfl Tryz.func39 (bdy Tryz.f39 rfl)⟩
abbrev z3R(a0:Frm)(a1:List Int):Int×List (List (List Int))->Option ((Int×List (List (List Int)))⊕List (List (List Int)))
 |(w9,w10)=>
 if w9<a0.d.letters then
 (z2G a0 a1 w9).bind fun v13=>
 (atI w10 w9).bind fun v14=>
 z0c (i64.wrap (w9+1),(w10.set w9.toNat v13.2))
 else
 z0i<|
 some w10
instance:Hd (z3R a0 a1):=⟨fun(w9,w10)=>([(15,xI w9)],[(5,.os 1 w10.length (w10.map fun x0=>.os 1 x0.length (x0.map fun x1=>(tO x1))))])⟩
def z2H(a0:Frm)(a1:List Int):Option (List (List (List Int))):=
 chk (z0X 24 a0.d.letters)<|
 z0k (z3R a0 a1) LFm (0,List.replicate a0.d.letters.toNat ([]:List (List Int)))
instance:Ok (z2H a0 a1) (fun r=>L 44 [.pr [.sc (.int .i64 a0.d.letters),.sc (.int .i64 a0.d.start),(tB a0.d.final),(tR a0.d.next),(tI a0.x.sets),(tI a0.x.class_),(tI a0.x.height),(tR a0.x.tiles),(tS a0.x.words),(tS a0.x.back),(tI a0.comp),(tI a0.sizes),(tR a0.tiles),(tR a0.next)],(tI a1)]=some (.sl r.length (r.map fun x0=>(tR x0)),[.dead,.dead])):=⟨fun r h=>by have h:=z4u h;unfold z2H at h;exact zeu rfl Tryz.func44 (bdy Tryz.f44 rfl)⟩
abbrev z6b(a0:List Int):Int×List Int->Option ((Int×List Int)⊕ByteArray)
 |(w9,w10)=>
 if w9<(a0.length:Int) then
 (atI a0 w9).bind fun v13=>
 (atI w10 w9).bind fun v14=>
 z0c (i64.wrap (w9+1),(w10.set w9.toNat (u8.wrap v13)))
 else
 z0i<|
 some (z1z w10)
instance{a0:List Int}:Hd (z6b a0):=⟨fun(w9,w10)=>([(11,xI w9)],[(3,.os 1 w10.length (w10.map fun x0=>.sc (.int .u8 x0)))])⟩
def z3P(a0:List Int):Option (ByteArray):=
 chk (z0X 1 (a0.length:Int))<|
 z0k (z6b a0) LFm (0,List.replicate (a0.length:Int).toNat (0:Int))
instance{a0:List Int}:Ok (z3P a0) (fun r=>L 38 [(tI a0)]=some (.sc (.string r),[.dead])):=⟨fun r h=>by have h:=z4u h;unfold z3P at h;exact z5i rfl Tryz.func38 (bdy Tryz.f38 rfl)⟩
abbrev z2t(a0:Frm)(w67:Int):Int×List (List Int)×(List (ByteArray×Bool))->Option ((Int×List (List Int)×(List (ByteArray×Bool)))⊕((Int×List (List Int)×(List (ByteArray×Bool)))⊕(List (List Int)×Int)))
 |(w89,w90,w91)=>
 if w89<a0.d.letters then
 (atI w90 w67).bind fun v96=>
 (z2G a0 v96 w89).bind fun v97=>
 (z3P v97.1).bind fun v98=>
 if((z8i v98 w91).getD false)=true then
 z0c (i64.wrap (w89+1),w90,w91)
 else
 if(w90.length:Int)=2000 then
 z0i<|
 z0i<|
 some ([],3)
 else
 (z3P v97.1).bind fun v99=>
 chk (z1B 24 (w90.length+1))<|
 z0c (i64.wrap (w89+1),w90++ [v97.1],z8p v99 true w91)
 else
 z0i<|
 z0c (i64.wrap (w67+1),w90,w91)
instance{w67:Int}:Hd (z2t a0 w67):=⟨fun(w89,w90,w91)=>([(30,xI w89)],[(5,.os 1 w90.length (w90.map fun x0=>(tI x0))),(6,.mp none (w91.map fun x0=>(.string x0.1,.bool x0.2)))])⟩
abbrev z3j(a0:Frm):Int×List (List Int)×(List (ByteArray×Bool))->Option ((Int×List (List Int)×(List (ByteArray×Bool)))⊕(List (List Int)×Int))
 |(w67,w68,w69)=>
 if w67<(w68.length:Int) then
 z0k (z2t a0 w67) LFm (0,w68,w69)
 else
 z0i<|
 (zjP w68).bind fun v100=>
 some (v100,0)
instance:Hd (z3j a0):=⟨fun(w67,w68,w69)=>([(7,xI w67)],[(5,.os 1 w68.length (w68.map fun x0=>(tI x0))),(6,.mp none (w69.map fun x0=>(.string x0.1,.bool x0.2)))])⟩
def z1V(a0:Frm):Option (List (List Int)×Int):=
 (z2B a0).bind fun v51=>
 (z3P v51).bind fun v52=>
 z0k (z3j a0) LFm (0,[v51],z8p v52 true ([]:List (ByteArray×Bool)))
instance:Ok (z1V a0) (fun r=>L 16 [.pr [.sc (.int .i64 a0.d.letters),.sc (.int .i64 a0.d.start),(tB a0.d.final),(tR a0.d.next),(tI a0.x.sets),(tI a0.x.class_),(tI a0.x.height),(tR a0.x.tiles),(tS a0.x.words),(tS a0.x.back),(tI a0.comp),(tI a0.sizes),(tR a0.tiles),(tR a0.next)]]=some (.tup [(tR r.1),.sc (.int .i64 r.2)],[.dead])):=⟨fun r h=>by have h:=z4u h;unfold z1V at h;exact zeu rfl Tryz.func16 (bdy Tryz.f16 rfl)⟩
end
end
section
open Go
variable{l:List Nat}{c i k:Nat}
theorem zwU(p:Nat->Bool):(List.range l.length).find? (fun k=>p (l.getD k 0))=if l.findIdx p<l.length then some (l.findIdx p) else none:=by
 by_cases h:l.findIdx p<l.length
 · rw[if_pos h,X1]
   have h1:=Xh (w:=h)
   refine⟨by rw[List.getD,Z1 h];exact h1,by simpa using h,fun j hj=> ?_⟩
   have hjl:j<l.length:=by omega
   have:=List.not_of_lt_findIdx hj
   rw[List.getD,Z1 hjl,Zb]
   simpa using this
 · grind
theorem zmQ{α:Type}{N:Nat}{f g:Nat->α}(h:k<N):atI (zaL N f g (k+1)) (k:Int)=some (f k):=by
 rw[z1k (by rw[zmP];exact h)];simp[zaL]
section
variable {d:DFA} {m n:Nat} {S O:List Nat}
theorem zoU(s:Nat):∀(x:List Nat) (c i:Nat),z8o d m n S O c i (x++ [s])=dnN d m n S O (c+x.length) (z8o d m n S O c i x) s
 | [],c,i=>rfl
 |t::x,c,i=>by
  simp only[ZU,z8o,Zr]
  rw[zoU s x,show c+1+x.length=c+(x.length+1) by omega]
theorem zcT{x:List Nat}(hk:k<x.length)(c i:Nat):z8o d m n S O c i (x.take (k+1))=dnN d m n S O (c+k) (z8o d m n S O c i (x.take k)) (x.getD k 0):=by
 rw[z8N hk,zoU,Zq,Nat.min_eq_left (by omega)]
theorem zxU(a:Nat):∀(x:List Nat) (c o i:Nat),(stN d m n S O a c o i x).length=x.length
 | [],c,o,i=>rfl
 |s::x,c,o,i=>by simp only[stN,Zr];rw[zxU a x]
theorem zxV(a:Nat):∀(x:List Nat) (c o i k:Nat),k<x.length->
 ((stN d m n S O a c o i x).map (·.2)).getD k []=zlU d m n S O a (c+k) (z8o d m n S O c o (x.take k)) (z8o d m n S O c i (((stN d m n S O a c o i x).map (·.1)).take k))/\
 ((stN d m n S O a c o i x).map (·.1)).getD k 0=(zlU d m n S O a (c+k) (z8o d m n S O c o (x.take k)) (z8o d m n S O c i (((stN d m n S O a c o i x).map (·.1)).take k))).getD (x.getD k 0) 0
 | [],c,o,i,k,hk=>by simp at hk
 |s::x,c,o,i,0,hk=>by
  exact⟨by simp[stN,z8o],by simp[stN,z8o]⟩
 |s::x,c,o,i,k+1,hk=>by
  have:=zxV a x (c+1) (dnN d m n S O c o s) (dnN d m n S O c i ((zlU d m n S O a c o i).getD s 0)) k (by simpa using hk)
  simp only[stN,Zs,Yz,Xm,z8o]
  rw[show c+(k+1)=c+1+k by omega]
  exact this
theorem zrX(a:Nat)(x:List Nat):(z9G d m n S O a x).length=x.length:=by simp[z9G,zxU]
end
section
variable {d:DFA} {m n:Nat} {S:List Nat} (hd:DfaOk d m n) (hn:n<=7) (hS:SetsP d m n S) {O:List Nat} (hH:zlS d m n S) (hO:OrdC d m n S O) (hpos:∀x∈S,x≠0)
theorem zdO(hi:i<S.length):atI (z8n d m n S O).comp (i:Int)=some (cpI d m n S O i):=z2E hi
theorem z9y(hi:i<S.length):atI (z8n d m n S O).tiles (i:Int)=some (toI (tlR d m n S i)):=z2E hi
theorem zna(hi:i<S.length):atI (z8n d m n S O).x.sets (i:Int)=some ((S.getD i 0:Nat):Int):=z1u hi
theorem zuu{a:Nat}(hi:i<S.length)(ha:a<m):atI (z8n d m n S O).next (i:Int)=some (toI ((List.range m).map (zbS d S i)))/\atI (toI ((List.range m).map (zbS d S i))) (a:Int)=some ((zbS d S i a:Nat):Int):=by
 refine⟨z2E hi,?_⟩
 have h:a<((List.range m).map (zbS d S i)).length:=by simpa using ha
 rw[z1u h]
 simp[List.getD,ha]
theorem zut(hc:c<O.length):atI (z8n d m n S O).sizes (c:Int)=some ((szO d m n S O c:Nat):Int):=by
 have h:c<((List.range O.length).map (szO d m n S O)).length:=by simpa using hc
 show atI (toI ((List.range O.length).map (szO d m n S O))) (c:Int)=_
 rw[z1u h]
 simp[List.getD,hc]
theorem z8y(hc:c<O.length):cpI d m n S O i=(c:Int)↔cpN d m n S O i=c:=by
 unfold cpI
 by_cases h:clN d m n S i∈O
 · rw[if_pos h];omega
 · rw[if_neg h]
   have:cpN d m n S O i=O.length:=List.idxOf_eq_length h
   omega
include hd hn hS
theorem zbT(hSl:S.length<=1000){o:Nat}(hi:i<S.length)(ho:o<S.length):z1l (z8n d m n S O) (i:Int) (o:Int)=some ((zlW d m n S i o:Nat):Int):=by
 have h128:2^n<=128:=Zi (n:=2) (by omega) hn
 have htl:=ziq hd hn hS hi
 have htb:=zmp hd hn hS hi
 rw[zdt] at htb
 have hidx:z0u (toI (tlR d m n S i)) (z8n d m n S O) (o:Int)=some (if(tlR d m n S i).findIdx (fun t=>decide (S.getD o 0&&&S.getD t 0=S.getD o 0))<(tlR d m n S i).length then(((tlR d m n S i).findIdx (fun t=>decide (S.getD o 0&&&S.getD t 0=S.getD o 0)):Nat):Int) else-1):=by
  unfold z0u
  rw[z7p (s:=(0:Int)) (tlR d m n S i).length (fun k=>(k:Int)) (fun k=>(fun t=>decide (S.getD o 0&&&S.getD t 0=S.getD o 0)) ((tlR d m n S i).getD k 0)) (fun k=>some (k:Int)) (x:=some (-1)) rfl (by simp only[LFm];omega) (fun k hk=> ?_) ?_,zwU (l:=tlR d m n S i) (fun t=>decide (S.getD o 0&&&S.getD t 0=S.getD o 0))]
  · grind
  · simp only[z0D]
    rw[z0b,if_neg (by omega)]
  · have ht:=zcL (z5N (znT hd hn hS hi hk).1).1
    have l1:=hS.lt _ (z0f ht)
    have l2:=hS.lt _ (z0f ho)
    simp only[z0D]
    rw[z0b,if_pos (by omega),z1u hk,Z0]
    unfold z2S
    rw[zna ho,Z0,zna ht,Z0,Z0,z1g (by omega)]
    have e:=zgQ (a:=S.getD o 0) (b:=S.getD ((tlR d m n S i).getD k 0) 0) (by omega) (by omega)
    by_cases h:S.getD o 0&&&S.getD ((tlR d m n S i).getD k 0) 0=S.getD o 0
    · grind
    · grind
 unfold z1l
 rw[z9y hi,Z0,hidx,Z0]
 unfold zlW
 simp only
 split
 · split
   · rfl
   · congr 1;omega
 · rfl
theorem zBz{x:Nat}:(if 0<(if x∈l then((l.idxOf x:Nat):Int) else-1) then(if x∈l then((l.idxOf x:Nat):Int) else-1) else 0)=((ix0 l x:Nat):Int):=by
 have _u:=hd;have _v:=hn;have _w:=hS
 unfold ix0
 by_cases h:x∈l
 · rw[if_pos h,if_pos h]
   split
   · rfl
   · omega
 · rw[if_neg h,if_neg h];rfl
include hH hO hpos
theorem zwv(hSl:S.length<=1000){a o:Nat}(ha:a<m)(hc:c<O.length)(ho:o<S.length)(hi:i<S.length):
 z2C (z8n d m n S O) (c:Int) (o:Int) (i:Int) (a:Int)=some (toI (zlU d m n S O a c o i)):=by
 have _u:=hpos
 have hm6:=hd.m6
 have hdo:=zuG hd hn hS ho ha
 obtain⟨nx1,nx2⟩:=zuu (n:=n) (O:=O) ho ha
 have hzb:∀i,i<S.length->cpN d m n S O i=c->szO d m n S O c=(tlR d m n S i).length/\(tlR d m n S i).length<=128:=fun i hi e=>by
  have hz:=zgX hd hn hS hH hO hi (by omega)
  rw[e] at hz
  have htl:=ziq hd hn hS hi
  have htb:=zmp hd hn hS hi
  rw[zdt] at htb
  omega
 have hz1000:szO d m n S O c<=128:=by
  have hmem:O.getD c 0∈O:=z0f hc
  have hout:=hO.prm.mem_iff.1 hmem
  unfold za5 at hout
  have h1:=Zk.1 (ZV.1 hout).1
  have hk:=(z2I hd hn hS h1).2
  have htb:=zmp hd hn hS hk
  rw[zdt] at htb
  exact htb
 have hfill:∀(v:Nat),(List.range (szO d m n S O c)).map (fun _=>(v:Int))=toI (List.replicate (szO d m n S O c) v):=fun v=>by
  refine Zf (by simp[toI]) fun k h1 h2=>by simp[toI]
 have hzero:List.replicate (szO d m n S O c) (0:Int)=(List.range (szO d m n S O c)).map (fun _=>(0:Int)):=(Zf (by simp) fun i h1 h2=>by simp)
 unfold z2C zlU
 rw[zut hc,Z0,z0j _ (by unfold z0X;omega),zdO hi,Z0,Z3]
 by_cases e1:cpN d m n S O i=c
 · rw[if_pos ((z8y hc).2 e1),if_pos e1,zdO ho,Z0]
   by_cases e2:cpN d m n S O o=c
   · rw[if_pos ((z8y hc).2 e2),nx1,Z0,nx2,Z0]
     by_cases e3:zbS d S o a=i
     · obtain⟨z1,z2⟩:=hzb o ho e2
       rw[if_pos (by rw[e3]),if_pos ⟨e2,e3⟩,z9y ho,Z0]
       refine z0x (s:=((0:Int),List.replicate (szO d m n S O c) (0:Int))) (szO d m n S O c) (fun k=>((k:Int),zaL (szO d m n S O c) (fun k=>((ix0 (tlR d m n S i) (zbS d S ((tlR d m n S o).getD k 0) a):Nat):Int)) (fun _=>0) k)) (by rw[z9v,hzero];rfl) (by simp only[LFm];omega) (fun k hk=> ?_) ?_
       · have hkl:k<(tlR d m n S o).length:=by omega
         have ht:=zcL (z5N (znT hd hn hS ho hkl).1).1
         obtain⟨x1,x2⟩:=zuu (n:=n) (O:=O) ht ha
         simp only[z3m]
         rw[z0b,if_pos (by omega),z1u hkl,Z0,z9y hi,Z0,x1,Z0,x2,Z0,zj0 (by have:=(hzb i hi e1).2;omega),Z0,z6y hk,Z0,z1g (by omega),Z3,zBz hd hn hS]
         exact congrArg (fun x=>z0c (((k+1:Nat):Int),x)) (z4S (f:=fun k=>((ix0 (tlR d m n S i) (zbS d S ((tlR d m n S o).getD k 0) a):Nat):Int)) hk)
       · simp only[z3m]
         rw[z0b,if_neg (by omega),z9u]
         congr 2
         refine Zf (by simp[toI,z1]) fun k h1 h2=> ?_
         have hk:k<(tlR d m n S o).length:=by simpa[toI] using h2
         simp[toI,List.getD,hk]
     · rw[if_neg (by omega),if_neg (fun h=>e3 h.2),zbT hd hn hS hSl hi hdo.1,Z0]
       refine z0x (s:=((0:Int),List.replicate (szO d m n S O c) (0:Int))) (szO d m n S O c) (fun k=>((k:Int),zaL (szO d m n S O c) (fun _=>((zlW d m n S i (zbS d S o a):Nat):Int)) (fun _=>0) k)) (by rw[z9v,hzero];rfl) (by simp only[LFm];omega) (fun k hk=> ?_) ?_
       · simp only[z3y]
         rw[if_pos (by omega),z6y hk,Z0,z1g (by omega),Z3]
         exact congrArg (fun x=>z0c (((k+1:Nat):Int),x)) (z4S (f:=fun _=>((zlW d m n S i (zbS d S o a):Nat):Int)) hk)
       · simp only[z3y]
         rw[if_neg (by omega),z9u,hfill]
   · rw[if_neg (fun h=>e2 ((z8y hc).1 h)),if_neg (fun h=>e2 h.1),nx1,Z0,nx2,Z0,zbT hd hn hS hSl hi hdo.1,Z0]
     refine z0x (s:=((0:Int),List.replicate (szO d m n S O c) (0:Int))) (szO d m n S O c) (fun k=>((k:Int),zaL (szO d m n S O c) (fun _=>((zlW d m n S i (zbS d S o a):Nat):Int)) (fun _=>0) k)) (by rw[z9v,hzero];rfl) (by simp only[LFm];omega) (fun k hk=> ?_) ?_
     · simp only[z3l]
       rw[if_pos (by omega),z6y hk,Z0,z1g (by omega),Z3]
       exact congrArg (fun x=>z0c (((k+1:Nat):Int),x)) (z4S (f:=fun _=>((zlW d m n S i (zbS d S o a):Nat):Int)) hk)
     · simp only[z3l]
       rw[if_neg (by omega),z9u,hfill]
 · rw[if_neg (fun h=>e1 ((z8y hc).1 h)),if_neg e1,hzero]
   exact congrArg some (hfill 0)
end
end
end Go.Proofs.YtianakjpgmmflaaGreatDoor
