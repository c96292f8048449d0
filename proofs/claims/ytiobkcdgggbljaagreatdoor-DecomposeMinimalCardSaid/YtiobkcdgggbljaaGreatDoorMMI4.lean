/- Proved here: a part of the proof of the law at hand, in one text: no condition. -/
import Derived.Test.YtiobkcdgggbljaaGreatDoorMMI3
set_option linter.unusedVariables false
set_option linter.unusedSimpArgs false
set_option linter.unusedSectionVars false
set_option maxRecDepth 100000
set_option maxHeartbeats 6000000
namespace Go.Proofs.YtiobkcdgggbljaaGreatDoor
section
open Go Go.IntKind
noncomputable section
abbrev z2C(w93:Int)(v122:List Int):Int×List Bool×List ByteArray×List Int->Option ((Int×List Bool×List ByteArray×List Int)⊕((Int×List Bool×List ByteArray×List Int)⊕(List Int×List ByteArray)))
 |(w129,w130,w131,w132)=>
 if w129<(v122.length:Int) then
 (atI v122 w129).bind fun v139=>
 (atI w130 v139).bind fun v140=>
 if v140=true then
 z0c (i64.wrap (w129+1),w130,w131,w132)
 else
 (atI w132 w93).bind fun v142=>
 (atI w131 v142).bind fun v143=>
 chk (zaH v143 ⟨#[UInt8.ofNat (u8.wrap (i64.wrap (97+w129))).toNat]⟩)<|
 (atI w131 v139).bind fun v144=>
 chk (z1n 8 (w132.length+1))<|
 z0c (i64.wrap (w129+1),(w130.set v139.toNat true),(w131.set v139.toNat (v143++⟨#[UInt8.ofNat (u8.wrap (i64.wrap (97+w129))).toNat]⟩)),w132++ [v139])
 else
 z0d<|
 z0c (i64.wrap (w93+1),w130,w131,w132)
variable{a0:Dgm}{w337:Int}{w247:List (List Int)}{a1 w226 w64:List Int}{v393:List Int×List ByteArray}
instance{w93:Int}{v122:List Int}:Hd (z2C w93 v122):=⟨fun(w129,w130,w131,w132)=>([(40,xI w129)],[(6,.os 1 w130.length (w130.map fun x0=>.sc (.bool x0))),(7,.os 1 w131.length (w131.map fun x0=>.sc (.string x0))),(8,(tO w132))])⟩
abbrev z5j(a0:Dgm):Int×List Bool×List ByteArray×List Int->Option ((Int×List Bool×List ByteArray×List Int)⊕(List Int×List ByteArray))
 |(w93,w94,w95,w96)=>
 if w93<(w96.length:Int) then
 (atI w96 w93).bind fun v121=>
 (atI a0.next v121).bind fun v122=>
 z0h (z2C w93 v122) LFm (0,w94,w95,w96)
 else
 z0d<|
 some (w96,w95)
instance:Hd (z5j a0):=⟨fun(w93,w94,w95,w96)=>([(9,xI w93)],[(6,.os 1 w94.length (w94.map fun x0=>.sc (.bool x0))),(7,.os 1 w95.length (w95.map fun x0=>.sc (.string x0))),(8,(tO w96))])⟩
def z2g(a0:Dgm)(a1:Int):Option (List Int×List ByteArray):=
 chk (z0D 1 (a0.sets.length:Int))<|
 chk (z0D 16 (a0.sets.length:Int))<|
 chk (0<=a1/\a1<(a0.sets.length:Int))<|
 z0h (z5j a0) LFm (0,((List.replicate (a0.sets.length:Int).toNat (false:Bool)).set a1.toNat true),List.replicate (a0.sets.length:Int).toNat (ByteArray.empty:ByteArray),[a1])
instance{a1:Int}:Ok (z2g a0 a1) (fun r=>L 135 [.agg [(tI a0.sets),(tR a0.next),.sl a0.below.length (a0.below.map fun x0=>(tB x0))],.sc (.int .i64 a1)]=some (.tup [(tO r.1),.os 1 r.2.length (r.2.map fun x0=>.sc (.string x0))],[.dead,.dead])):=⟨fun r h=>by have h:=z3c h;unfold z2g at h;exact z4b rfl Tryz.func135 (bdy Tryz.f135 rfl)⟩
abbrev z3C(a0:DFA)(a1:List Int)(w226:List Int)(w246:Int)(w248:List (List Bool))(v266:Int):Int×List (List Int)->Option ((Int×List (List Int))⊕((Int×List (List Int)×List (List Bool))⊕Dgm))
 |(w272,w273)=>
 if w272<a0.letters then
 (atI w273 w246).bind fun v278=>
 (z7H a0 v266 w272).bind fun v279=>
 (atI w226 v279).bind fun v280=>
 (atI v278 w272).bind fun v281=>
 z0c (i64.wrap (w272+1),(w273.set w246.toNat (v278.set w272.toNat v280)))
 else
 z0d<|
 chk (z0D 1 (a1.length:Int))<|
 (atI w248 w246).bind fun v282=>
 z0c (i64.wrap (w246+1),w273,(w248.set w246.toNat (List.replicate (a1.length:Int).toNat (false:Bool))))
instance{a0:DFA}{w246:Int}{w248:List (List Bool)}{v266:Int}:Hd (z3C a0 a1 w226 w246 w248 v266):=⟨fun(w272,w273)=>([(60,xI w272)],[(8,.vr [(tI a1),.os 1 w273.length (w273.map fun x0=>(tO x0)),.os 1 w248.length (w248.map fun x0=>.os 1 x0.length (x0.map fun x1=>.sc (.bool x1)))])])⟩
abbrev z3B(a1:List Int)(w337:Int)(v393:List Int×List ByteArray)(w411:Int)(w412:List (List Bool))(v430:Int):Int->Option (Int⊕((Int×List (List Bool))⊕((Int×List (List Bool))⊕Dgm)))
 |w436=>
 if w436<(v393.1.length:Int) then
 (atI v393.1 w436).bind fun v442=>
 (atI a1 v442).bind fun v443=>
 (z4q v443 v430).bind fun v444=>
 if v444=true then
 (atI w412 w411).bind fun v445=>
 (atI v445 w337).bind fun v446=>
 z0d<|
 z0c (i64.wrap (w411+1),(w412.set w411.toNat (v445.set w337.toNat true)))
 else
 z0c (i64.wrap (w436+1))
 else
 z0d<|
 z0c (i64.wrap (w411+1),w412)
instance{w411:Int}{w412:List (List Bool)}{v430:Int}:Hd (z3B a1 w337 v393 w411 w412 v430):=⟨fun w436=>([(106,xI w436)],[])⟩
abbrev z4G(a1:List Int)(w337:Int)(v393:List Int×List ByteArray)(w247:List (List Int)):Int×List (List Bool)->Option ((Int×List (List Bool))⊕((Int×List (List Bool))⊕Dgm))
 |(w411,w412)=>
 if w411<(a1.length:Int) then
 (atI a1 w411).bind fun v430=>
 z0h (z3B a1 w337 v393 w411 w412 v430) LFm 0
 else
 z0d<|
 z0c (i64.wrap (w337+1),w412)
instance:Hd (z4G a1 w337 v393 w247):=⟨fun(w411,w412)=>([(99,xI w411)],[(8,.vr [(tI a1),.os 1 w247.length (w247.map fun x0=>(tO x0)),.os 1 w412.length (w412.map fun x0=>.os 1 x0.length (x0.map fun x1=>.sc (.bool x1)))])])⟩
abbrev z4H(a1:List Int)(w247:List (List Int)):Int×List (List Bool)->Option ((Int×List (List Bool))⊕Dgm)
 |(w337,w338)=>
 if w337<(a1.length:Int) then
 (z2g (⟨a1,w247,w338⟩:Dgm) w337).bind fun v393=>
 z0h (z4G a1 w337 v393 w247) LFm (0,w338)
 else
 z0d<|
 some (⟨a1,w247,w338⟩:Dgm)
instance:Hd (z4H a1 w247):=⟨fun(w337,w338)=>([(88,xI w337)],[(8,.vr [(tI a1),.os 1 w247.length (w247.map fun x0=>(tO x0)),.os 1 w338.length (w338.map fun x0=>.os 1 x0.length (x0.map fun x1=>.sc (.bool x1)))])])⟩
abbrev z4X(a0:DFA)(a1:List Int)(w226:List Int):Int×List (List Int)×List (List Bool)->Option ((Int×List (List Int)×List (List Bool))⊕Dgm)
 |(w246,w247,w248)=>
 if w246<(a1.length:Int) then
 (atI a1 w246).bind fun v266=>
 chk (z0D 8 a0.letters)<|
 (atI w247 w246).bind fun v267=>
 z0h (z3C a0 a1 w226 w246 w248 v266) LFm (0,(w247.set w246.toNat (List.replicate a0.letters.toNat (0:Int))))
 else
 z0d<|
 z0h (z4H a1 w247) LFm (0,w248)
instance{a0:DFA}:Hd (z4X a0 a1 w226):=⟨fun(w246,w247,w248)=>([(46,xI w246)],[(8,.vr [(tI a1),.os 1 w247.length (w247.map fun x0=>(tO x0)),.os 1 w248.length (w248.map fun x0=>.os 1 x0.length (x0.map fun x1=>.sc (.bool x1)))])])⟩
abbrev z4Y(a0:DFA)(a1:List Int):Int×List Int->Option ((Int×List Int)⊕Dgm)
 |(w225,w226)=>
 if w225<(a1.length:Int) then
 (atI a1 w225).bind fun v229=>
 (atI w226 v229).bind fun v230=>
 z0c (i64.wrap (w225+1),(w226.set v229.toNat w225))
 else
 z0d<|
 chk (z0D 24 (a1.length:Int))<|
 z0h (z4X a0 a1 w226) LFm (0,List.replicate (a1.length:Int).toNat ([]:List Int),List.replicate (a1.length:Int).toNat ([]:List Bool))
instance{a0:DFA}:Hd (z4Y a0 a1):=⟨fun(w225,w226)=>([(26,xI w225)],[(5,(tO w226))])⟩
def z5i(a0:DFA)(a1:List Int):Option (Dgm):=
 chk (¬(a0.final.length:Int)<0)<|
 chk (z0D 8 (zmU .i64 1 (a0.final.length:Int)))<|
 z0h (z4Y a0 a1) LFm (0,List.replicate (zmU .i64 1 (a0.final.length:Int)).toNat (0:Int))
instance{a0:DFA}:Ok (z5i a0 a1) (fun r=>L 131 [.agg [.sc (.int .i64 a0.letters),.sc (.int .i64 a0.start),(tB a0.final),(tR a0.next)],(tI a1)]=some (.agg [(tI r.sets),.os 1 r.next.length (r.next.map fun x0=>(tO x0)),.os 1 r.below.length (r.below.map fun x0=>.os 1 x0.length (x0.map fun x1=>.sc (.bool x1)))],[.dead,.dead])):=⟨fun r h=>by have h:=z3c h;unfold z5i at h;exact z4b rfl Tryz.func131 (bdy Tryz.f131 rfl)⟩
abbrev z3s(a0:Dgm)(w50:Int)(w52:List Int):Int×List Int->Option ((Int×List Int)⊕((Int×List Int×List Int)⊕(List Int×List Int)))
 |(w82,w83)=>
 if w82<(w52.length:Int) then
 (atI w52 w82).bind fun v90=>
 (atI a0.below w50).bind fun v91=>
 (atI v91 v90).bind fun v92=>
 if v92=true then
 (atI a0.below v90).bind fun v93=>
 (atI v93 w50).bind fun v94=>
 if v94=true then
 (atI w83 w50).bind fun v95=>
 z0c (i64.wrap (w82+1),(w83.set w50.toNat w82))
 else
 z0c (i64.wrap (w82+1),w83)
 else
 z0c (i64.wrap (w82+1),w83)
 else
 z0d<|
 (atI w83 w50).bind fun v96=>
 if v96=(w52.length:Int) then
 chk (z1n 8 (w52.length+1))<|
 z0c (i64.wrap (w50+1),w83,w52++ [w50])
 else
 z0c (i64.wrap (w50+1),w83,w52)
instance{w50:Int}{w52:List Int}:Hd (z3s a0 w50 w52):=⟨fun(w82,w83)=>([(26,xI w82)],[(4,(tO w83))])⟩
abbrev z3t(a0:Dgm):Int×List Int×List Int->Option ((Int×List Int×List Int)⊕(List Int×List Int))
 |(w50,w51,w52)=>
 if w50<(a0.sets.length:Int) then
 (atI w51 w50).bind fun v75=>
 z0h (z3s a0 w50 w52) LFm (0,(w51.set w50.toNat (w52.length:Int)))
 else
 z0d<|
 some (w51,w52)
instance:Hd (z3t a0):=⟨fun(w50,w51,w52)=>([(16,xI w50)],[(4,(tO w51)),(5,(tO w52))])⟩
def z3f(a0:Dgm):Option (List Int×List Int):=
 chk (z0D 8 (a0.sets.length:Int))<|
 z0h (z3t a0) LFm (0,List.replicate (a0.sets.length:Int).toNat (0:Int),[])
instance:Ok (z3f a0) (fun r=>L 132 [.agg [(tI a0.sets),(tR a0.next),.sl a0.below.length (a0.below.map fun x0=>(tB x0))]]=some (.tup [(tO r.1),(tO r.2)],[.dead])):=⟨fun r h=>by have h:=z3c h;unfold z3f at h;exact z4b rfl Tryz.func132 (bdy Tryz.f132 rfl)⟩
abbrev z3G(a0:Dgm)(w64:List Int)(w85:Int)(w86:List Int)(v101:Int):Int->Option (Int⊕((Int×List Int)⊕List Int))
 |w106=>
 if w106<(w64.length:Int) then
 (atI w64 w106).bind fun v111=>
 if v111=v101 then
 z0c (i64.wrap (w106+1))
 else
 (atI a0.sets v111).bind fun v112=>
 (atI a0.sets v101).bind fun v113=>
 (z4q v112 v113).bind fun v114=>
 if v114=true then
 z0d<|
 z0c (i64.wrap (w85+1),w86)
 else
 z0c (i64.wrap (w106+1))
 else
 z0d<|
 chk (z1n 8 (w86.length+1))<|
 z0c (i64.wrap (w85+1),w86++ [v101])
instance{w85:Int}{w86:List Int}{v101:Int}:Hd (z3G a0 w64 w85 w86 v101):=⟨fun w106=>([(53,xI w106)],[])⟩
abbrev z2B(a0:Dgm)(w64:List Int):Int×List Int->Option ((Int×List Int)⊕List Int)
 |(w85,w86)=>
 if w85<(w64.length:Int) then
 (atI w64 w85).bind fun v101=>
 z0h (z3G a0 w64 w85 w86 v101) LFm 0
 else
 z0d<|
 some w86
instance:Hd (z2B a0 w64):=⟨fun(w85,w86)=>([(47,xI w85)],[(8,(tO w86))])⟩
abbrev z4d(a0:Dgm)(a1:Int):Int×List Int->Option ((Int×List Int)⊕List Int)
 |(w63,w64)=>
 if w63<(a0.sets.length:Int) then
 (atI a0.sets w63).bind fun v68=>
 if w63=a1 then
 z0c (i64.wrap (w63+1),w64)
 else
 (atI a0.sets a1).bind fun v69=>
 (z4q v69 v68).bind fun v70=>
 if v70=true then
 chk (z1n 8 (w64.length+1))<|
 z0c (i64.wrap (w63+1),w64++ [w63])
 else
 z0c (i64.wrap (w63+1),w64)
 else
 z0d<|
 z0h (z2B a0 w64) LFm (0,[])
instance{a1:Int}:Hd (z4d a0 a1):=⟨fun(w63,w64)=>([(23,xI w63)],[(5,(tO w64))])⟩
def z3X(a0:Dgm)(a1:Int):Option (List Int):=
 (atI a0.sets a1).bind fun v58=>
 (z7G v58).bind fun v59=>
 if v59=1 then
 some []
 else
 z0h (z4d a0 a1) LFm (0,[])
instance{a1:Int}:Ok (z3X a0 a1) (fun r=>L 134 [.agg [(tI a0.sets),(tR a0.next),.sl a0.below.length (a0.below.map fun x0=>(tB x0))],.sc (.int .i64 a1)]=some ((tO r),[.dead,.dead])):=⟨fun r h=>by have h:=z3c h;unfold z3X at h;exact z4b rfl Tryz.func134 (bdy Tryz.f134 rfl)⟩
abbrev z2d(a0:List Int)(a1:Int):Int->Option (Int⊕Int)
 |w6=>
 if w6<(a0.length:Int) then
 (atI a0 w6).bind fun v8=>
 if a1=v8 then
 z0d<|
 some w6
 else
 z0c (i64.wrap (w6+1))
 else
 z0d<|
 some (-1)
instance{a0:List Int}{a1:Int}:Hd (z2d a0 a1):=⟨fun w6=>([(8,xI w6)],[])⟩
def z1u(a0:List Int)(a1:Int):Option (Int):=
 z0h (z2d a0 a1) LFm 0
instance{a0:List Int}{a1:Int}:Ok (z1u a0 a1) (fun r=>L 109 [(tI a0),.sc (.int .i64 a1)]=some (.sc (.int .i64 r),[.dead,.dead])):=⟨fun r h=>by have h:=z3c h;unfold z1u at h;exact z4b rfl Tryz.func109 (bdy Tryz.f109 rfl)⟩
def z2A(a0:List Int)(a1:Int):Option (Bool):=
 (z1u a0 a1).bind fun v2=>
 some (decide (0<=v2))
instance{a0:List Int}{a1:Int}:Ok (z2A a0 a1) (fun r=>L 174 [(tI a0),.sc (.int .i64 a1)]=some (.sc (.bool r),[.dead,.dead])):=⟨fun r h=>by have h:=z3c h;unfold z2A at h;exact z4b rfl Tryz.func174 (bdy Tryz.f174 rfl)⟩
abbrev z7U(a0:DFA):Int×List Int->Option ((Int×List Int)⊕List Int)
 |(w10,w11)=>
 if w10<(a0.final.length:Int) then
 chk (¬w10<0)<|
 (z2A w11 (zmU .i64 1 w10)).bind fun v13=>
 if v13=true then
 z0c (i64.wrap (w10+1),w11)
 else
 chk (z1n 8 (w11.length+1))<|
 z0c (i64.wrap (w10+1),w11++ [zmU .i64 1 w10])
 else
 z0d<|
 (zmD w11).bind fun v14=>
 some v14
instance{a0:DFA}:Hd (z7U a0):=⟨fun(w10,w11)=>([(19,xI w10)],[(3,(tO w11))])⟩
def z9a(a0:DFA):Option (List Int):=
 chk (¬(a0.final.length:Int)<0)<|
 (z8d a0 (i64.wrap ((zmU .i64 1 (a0.final.length:Int))-1))).bind fun v8=>
 z0h (z7U a0) LFm (0,v8.1)
instance{a0:DFA}:Ok (z9a a0) (fun r=>L 130 [.agg [.sc (.int .i64 a0.letters),.sc (.int .i64 a0.start),(tB a0.final),(tR a0.next)]]=some ((tO r),[.dead])):=⟨fun r h=>by have h:=z3c h;unfold z9a at h;exact z4b rfl Tryz.func130 (bdy Tryz.f130 rfl)⟩
def z7l(v69:List Int)(v71:List Int×List Int)(w107:Int)(v123:List Int×List ByteArray):Int×List ByteArray->Option ((Int×List ByteArray)⊕((Int×List ByteArray)⊕(Imgs×Int)))
 |(w127,w128)=>
 if w127<(v69.length:Int) then
 (atI v71.1 w127).bind fun v132=>
 if v132=w107 then
 (atI v123.2 w127).bind fun v133=>
 (atI w128 w127).bind fun v134=>
 z0c (i64.wrap (w127+1),(w128.set w127.toNat v133))
 else
 z0c (i64.wrap (w127+1),w128)
 else
 z0d<|
 z0c (i64.wrap (w107+1),w128)
def z7k(v69:List Int)(v70:Dgm)(v71:List Int×List Int)(v72:List Int)(w79:List (List Int))(w80:List ByteArray)(w107:Int)(v123:List Int×List ByteArray):Int×List ByteArray->Fr
 |(w127,w128)=>⟨120,[(2,.one (.a 2 [] (0))),(5,.one (.t none ((tI v69)))),(7,.one (.a 7 [] (0))),(8,.one (.t none ((tI v71.1)))),(10,.one (.a 10 [] (0))),(14,.one (.t none (.sc (.int .i64 w107)))),(17,.one (.h 17 [])),(85,.one (.h 9 [])),(86,.one (.t none (.sc (.int .i64 (v71.2.length:Int))))),(87,.one (.t none (.sc (.int .i64 w107)))),(99,.one (.t none (.sc (.int .i64 (v69.length:Int))))),(100,.one (.t none (.sc (.int .i64 w127))))],[(2,.vr [.os 1 0 [],.os 1 0 [],.os 1 0 [],.os 1 0 [],.os 1 0 [],.os 1 0 []]),(7,.vr [(tI v70.sets),.os 1 v70.next.length (v70.next.map fun x0=>(tO x0)),.os 1 v70.below.length (v70.below.map fun x0=>.os 1 x0.length (x0.map fun x1=>.sc (.bool x1)))]),(10,.vr [(tI v69),(tI v71.1),(tO v72),.os 1 w79.length (w79.map fun x0=>(tO x0)),.os 1 w128.length (w128.map fun x0=>.sc (.string x0)),.os 1 w80.length (w80.map fun x0=>.sc (.string x0))]),(17,.os 1 v123.2.length (v123.2.map fun x0=>.sc (.string x0))),(9,(tO v71.2))]⟩
def z8w(v69:List Int)(v70:Dgm)(v71:List Int×List Int)(v72:List Int)(w79:List (List Int))(w80:List ByteArray):Int×List ByteArray->Option ((Int×List ByteArray)⊕(Imgs×Int))
 |(w107,w108)=>
 if w107<(v71.2.length:Int) then
 (atI v71.2 w107).bind fun v122=>
 (z2g v70 v122).bind fun v123=>
 z0h (z7l v69 v71 w107 v123) LFm (0,w108)
 else
 z0d<|
 some ((⟨v69,v71.1,v72,w79,w108,w80⟩:Imgs),0)
def z8u(v69:List Int)(v70:Dgm)(v71:List Int×List Int)(v72:List Int)(w79:List (List Int))(w80:List ByteArray):Int×List ByteArray->Fr
 |(w107,w108)=>⟨120,[(2,.one (.a 2 [] (0))),(5,.one (.t none ((tI v69)))),(7,.one (.a 7 [] (0))),(8,.one (.t none ((tI v71.1)))),(10,.one (.a 10 [] (0))),(85,.one (.h 9 [])),(86,.one (.t none (.sc (.int .i64 (v71.2.length:Int))))),(87,.one (.t none (.sc (.int .i64 w107))))],[(2,.vr [.os 1 0 [],.os 1 0 [],.os 1 0 [],.os 1 0 [],.os 1 0 [],.os 1 0 []]),(7,.vr [(tI v70.sets),.os 1 v70.next.length (v70.next.map fun x0=>(tO x0)),.os 1 v70.below.length (v70.below.map fun x0=>.os 1 x0.length (x0.map fun x1=>.sc (.bool x1)))]),(10,.vr [(tI v69),(tI v71.1),(tO v72),.os 1 w79.length (w79.map fun x0=>(tO x0)),.os 1 w108.length (w108.map fun x0=>.sc (.string x0)),.os 1 w80.length (w80.map fun x0=>.sc (.string x0))]),(9,(tO v71.2))]⟩
def z8x(v69:List Int)(v70:Dgm)(v71:List Int×List Int)(v72:List Int):Int×List (List Int)×List ByteArray->Option ((Int×List (List Int)×List ByteArray)⊕(Imgs×Int))
 |(w78,w79,w80)=>
 if w78<(v69.length:Int) then
 (z3X v70 w78).bind fun v88=>
 (atI w79 w78).bind fun v89=>
 (z2g v70 w78).bind fun v90=>
 (atI v71.1 w78).bind fun v91=>
 (atI v71.2 v91).bind fun v92=>
 (atI v90.2 v92).bind fun v93=>
 (atI w80 w78).bind fun v94=>
 z0c (i64.wrap (w78+1),(w79.set w78.toNat v88),(w80.set w78.toNat v93))
 else
 z0d<|
 z0h (z8w v69 v70 v71 v72 w79 w80) LFm (0,List.replicate (v69.length:Int).toNat (ByteArray.empty:ByteArray))
def z8v(v69:List Int)(v70:Dgm)(v71:List Int×List Int)(v72:List Int):Int×List (List Int)×List ByteArray->Fr
 |(w78,w79,w80)=>⟨120,[(2,.one (.a 2 [] (0))),(5,.one (.t none ((tI v69)))),(7,.one (.a 7 [] (0))),(8,.one (.t none ((tI v71.1)))),(9,.one (.h 9 [])),(10,.one (.a 10 [] (0))),(53,.one (.t none (.sc (.int .i64 (v69.length:Int))))),(54,.one (.t none (.sc (.int .i64 w78))))],[(2,.vr [.os 1 0 [],.os 1 0 [],.os 1 0 [],.os 1 0 [],.os 1 0 [],.os 1 0 []]),(7,.vr [(tI v70.sets),.os 1 v70.next.length (v70.next.map fun x0=>(tO x0)),.os 1 v70.below.length (v70.below.map fun x0=>.os 1 x0.length (x0.map fun x1=>.sc (.bool x1)))]),(9,(tO v71.2)),(10,.vr [(tI v69),(tI v71.1),(tO v72),.os 1 w79.length (w79.map fun x0=>(tO x0)),.os 1 (List.replicate (v69.length:Int).toNat (ByteArray.empty:ByteArray)).length ((List.replicate (v69.length:Int).toNat (ByteArray.empty:ByteArray)).map fun x0=>.sc (.string x0)),.os 1 w80.length (w80.map fun x0=>.sc (.string x0))])]⟩
def z9b(a0:DFA):Option (Imgs×Int):=
 (z5Z a0).bind fun v68=>
 if v68=0 then
 (z9a a0).bind fun v69=>
 if 400<(v69.length:Int) then
 some ((⟨[],[],[],[],[],[]⟩:Imgs),3)
 else
 (z5i a0 v69).bind fun v70=>
 (z3f v70).bind fun v71=>
 (z3e v70 v71.1).bind fun v72=>
 chk (z0D 24 (v69.length:Int))<|
 chk (z0D 16 (v69.length:Int))<|
 z0h (z8x v69 v70 v71 v72) LFm (0,List.replicate (v69.length:Int).toNat ([]:List Int),List.replicate (v69.length:Int).toNat (ByteArray.empty:ByteArray))
 else
 some ((⟨[],[],[],[],[],[]⟩:Imgs),v68)
instance{a0:DFA}:Ok (z9b a0) (fun r=>L 79 [.agg [.sc (.int .i64 a0.letters),.sc (.int .i64 a0.start),(tB a0.final),(tR a0.next)]]=some (.tup [.agg [(tI r.1.sets),(tI r.1.class_),(tI r.1.height),(tR r.1.tiles),(tS r.1.words),(tS r.1.back)],.sc (.int .i64 r.2)],[.dead])):=⟨fun r h0=>by
 simp only[z9b] at h0
 refine zwh rfl Tryz.func79 (zfh (bdy Tryz.f79 rfl) ⟨of_decide_eq_true rfl,of_decide_eq_true rfl⟩ rfl ?_)
 simp only[z8g,z8q,z8f,zay,z7q]
 refine zp (zs ?_)
 refine z0m (zp (zp ?_))
 obtain⟨v68,f87,h1⟩:=z2u h0
 have f87k:=Ok.ok _ f87
 try simp at f87k
 refine zr rfl rfl rfl (by simp[f87k];rfl) ?_
 refine z0m (zp (zs ?_))
 refine z0m ?_
 by_cases c88:v68=0
 ·rw[if_pos c88] at h1
  have c88e:=eq_true c88
  refine zco rfl (by simp[c88e]) (z8p rfl (z0m (zp ?_)))
  obtain⟨v69,f89,h2⟩:=z2u h1
  have f89k:=Ok.ok _ f89
  try simp at f89k
  refine zr rfl rfl rfl (by simp[f89k];rfl) ?_
  refine z0m (zp (zs ?_))
  refine z0m (zp (zp (zs ?_)))
  refine z0m ?_
  by_cases c90:400<(v69.length:Int)
  ·rw[if_pos c90] at h2
   refine zcn rfl (by simp[c90]) (zp (zs ?_))
   refine z0m (zn2 rfl (zj4 ?_))
   cases h2
   simp
  ·rw[if_neg c90] at h2
   refine zco rfl (by simp[c90]) (z8p rfl (z0m (zp (ztn rfl rfl (by simp;rfl) ?_))))
   obtain⟨v70,f91,h3⟩:=z2u h2
   have f91k:=Ok.ok _ f91
   try simp at f91k
   refine zr rfl rfl rfl (by simp[f91k];rfl) ?_
   refine z0m (zp ?_)
   obtain⟨v71,f92,h4⟩:=z2u h3
   have f92k:=Ok.ok _ f92
   try simp at f92k
   refine zr rfl rfl rfl (by simp[f92k];rfl) ?_
   refine z0m (zp (ztn rfl rfl (by simp;rfl) ?_))
   obtain⟨v72,f93,h5⟩:=z2u h4
   have f93k:=Ok.ok _ f93
   try simp at f93k
   obtain⟨f94,h6⟩:=zFt h5
   obtain⟨f95,h7⟩:=zFt h6
   refine zls rfl rfl rfl rfl ?_
   refine zyP [(0,0,0,1),(1,1,0,2),(2,2,0,3),(3,3,0,4),(4,5,0,5),(5,7,0,6),(6,9,0,7),(7,4,1,8),(7,6,1,9),(7,8,1,10),(7,10,1,11),(7,12,1,12),(8,6,1,13),(8,8,1,14),(8,10,1,15),(8,12,1,16),(9,4,1,13),(9,8,1,17),(9,10,1,18),(9,12,1,19),(10,4,1,14),(10,6,1,17),(10,10,1,20),(10,12,1,21),(11,4,1,15),(11,6,1,18),(11,8,1,20),(11,12,1,22),(12,4,1,16),(12,6,1,19),(12,8,1,21),(12,10,1,22),(13,8,1,23),(13,10,1,24),(13,12,1,25),(14,6,1,23),(14,10,1,26),(14,12,1,27),(15,6,1,24),(15,8,1,26),(15,12,1,28),(16,6,1,25),(16,8,1,27),(16,10,1,28),(17,4,1,23),(17,10,1,29),(17,12,1,30),(18,4,1,24),(18,8,1,29),(18,12,1,31),(19,4,1,25),(19,8,1,30),(19,10,1,31),(20,4,1,26),(20,6,1,29),(20,12,1,32),(21,4,1,27),(21,6,1,30),(21,10,1,32),(22,4,1,28),(22,6,1,31),(22,8,1,32),(23,10,1,33),(23,12,1,34),(24,8,1,33),(24,12,1,35),(25,8,1,34),(25,10,1,35),(26,6,1,33),(26,12,1,36),(27,6,1,34),(27,10,1,36),(28,6,1,35),(28,8,1,36),(29,4,1,33),(29,12,1,37),(30,4,1,34),(30,10,1,37),(31,4,1,35),(31,8,1,37),(32,4,1,36),(32,6,1,37),(33,11,0,38),(34,10,1,39),(35,8,1,39),(36,6,1,39),(37,4,1,39),(38,12,1,40),(39,11,0,40),(40,13,2,41)] 41 (by kernel_rfl) ?_
   iterate 16 (refine z1x rfl rfl rfl rfl (by simp[z0x,z0y,f93k,f94,f95];rfl) ?_)
   refine z1w rfl rfl rfl rfl (by simp[z0x,z0y,f93k,f94,f95]) ?_
   iterate 3 (refine z1x rfl rfl rfl rfl (by simp[z0x,z0y,f93k,f94,f95];rfl) ?_)
   refine z1w rfl rfl rfl rfl (by simp[z0x,z0y,f93k,f94,f95]) ?_
   refine z1w rfl rfl rfl rfl (by simp[z0x,z0y,f93k,f94,f95]) ?_
   refine z1x rfl rfl rfl rfl (by simp[z0x,z0y,f93k,f94,f95];rfl) ?_
   refine z1x rfl rfl rfl rfl (by simp[z0x,z0y,f93k,f94,f95];rfl) ?_
   iterate 3 (refine z1w rfl rfl rfl rfl (by simp[z0x,z0y,f93k,f94,f95]) ?_)
   refine z1x rfl rfl rfl rfl (by simp[z0x,z0y,f93k,f94,f95];rfl) ?_
   iterate 4 (refine z1w rfl rfl rfl rfl (by simp[z0x,z0y,f93k,f94,f95]) ?_)
   iterate 3 (refine z1x rfl rfl rfl rfl (by simp[z0x,z0y,f93k,f94,f95];rfl) ?_)
   refine z1w rfl rfl rfl rfl (by simp[z0x,z0y,f93k,f94,f95]) ?_
   refine z1x rfl rfl rfl rfl (by simp[z0x,z0y,f93k,f94,f95];rfl) ?_
   refine z1x rfl rfl rfl rfl (by simp[z0x,z0y,f93k,f94,f95];rfl) ?_
   refine z1w rfl rfl rfl rfl (by simp[z0x,z0y,f93k,f94,f95]) ?_
   refine z1w rfl rfl rfl rfl (by simp[z0x,z0y,f93k,f94,f95]) ?_
   refine z1x rfl rfl rfl rfl (by simp[z0x,z0y,f93k,f94,f95];rfl) ?_
   iterate 4 (refine z1w rfl rfl rfl rfl (by simp[z0x,z0y,f93k,f94,f95]) ?_)
   refine z1x rfl rfl rfl rfl (by simp[z0x,z0y,f93k,f94,f95];rfl) ?_
   refine z1x rfl rfl rfl rfl (by simp[z0x,z0y,f93k,f94,f95];rfl) ?_
   refine z1w rfl rfl rfl rfl (by simp[z0x,z0y,f93k,f94,f95]) ?_
   refine z1w rfl rfl rfl rfl (by simp[z0x,z0y,f93k,f94,f95]) ?_
   refine z1x rfl rfl rfl rfl (by simp[z0x,z0y,f93k,f94,f95];rfl) ?_
   iterate 5 (refine z1w rfl rfl rfl rfl (by simp[z0x,z0y,f93k,f94,f95]) ?_)
   refine z1x rfl rfl rfl rfl (by simp[z0x,z0y,f93k,f94,f95];rfl) ?_
   iterate 6 (refine z1w rfl rfl rfl rfl (by simp[z0x,z0y,f93k,f94,f95]) ?_)
   refine z1x rfl rfl rfl rfl (by simp[z0x,z0y,f93k,f94,f95];rfl) ?_
   refine z1x rfl rfl rfl rfl (by simp[z0x,z0y,f93k,f94,f95];rfl) ?_
   refine z1w rfl rfl rfl rfl (by simp[z0x,z0y,f93k,f94,f95]) ?_
   refine z1x rfl rfl rfl rfl (by simp[z0x,z0y,f93k,f94,f95];rfl) ?_
   iterate 3 (refine z1w rfl rfl rfl rfl (by simp[z0x,z0y,f93k,f94,f95]) ?_)
   refine z1x rfl rfl rfl rfl (by simp[z0x,z0y,f93k,f94,f95];rfl) ?_
   iterate 5 (refine z1w rfl rfl rfl rfl (by simp[z0x,z0y,f93k,f94,f95]) ?_)
   refine z1x rfl rfl rfl rfl (by simp[z0x,z0y,f93k,f94,f95];rfl) ?_
   iterate 6 (refine z1w rfl rfl rfl rfl (by simp[z0x,z0y,f93k,f94,f95]) ?_)
   refine z1x rfl rfl rfl rfl (by simp[z0x,z0y,f93k,f94,f95];rfl) ?_
   refine z1x rfl rfl rfl rfl (by simp[z0x,z0y,f93k,f94,f95];rfl) ?_
   iterate 3 (refine z1w rfl rfl rfl rfl (by simp[z0x,z0y,f93k,f94,f95]) ?_)
   refine z1x rfl rfl rfl rfl (by simp[z0x,z0y,f93k,f94,f95];rfl) ?_
   refine z1w rfl rfl rfl rfl (by simp[z0x,z0y,f93k,f94,f95]) ?_
   refine z1x rfl rfl rfl rfl (by simp[z0x,z0y,f93k,f94,f95];rfl) ?_
   refine zzi rfl ?_
   refine zkV rfl (by simp[f93k,f94,f95];rfl) ?_
   refine z0m (zp (zp (zs ?_)))
   refine z0m (zb rfl (z9A h7 (z8v v69 v70 v71 v72) rfl rfl (by simp[z8v]) fun s o1 h8 hr1=> ?_))
   obtain⟨w78,w79,w80⟩:=s
   simp only[z8x] at h8
   simp only[z8v]
   refine zp (zs ?_)
   refine z0m (zp ?_)
   by_cases c111:w78<(v69.length:Int)
   ·rw[if_pos c111] at h8
    refine zcn rfl (by simp[c111]) (z8p rfl (z0m (zp (zb rfl (zp (zs ?_))))))
    refine z0m (zp ?_)
    obtain⟨v88,f112,h9⟩:=z2u h8
    have f112k:=Ok.ok _ f112
    try simp at f112k
    obtain⟨v89,f113,h10⟩:=za4 h9
    refine zal rfl rfl rfl rfl ?_;repeat' ((first|refine z6k rfl rfl fun Q' hQ=> ?_|refine z5s rfl fun Q' hQ=> ?_);simp[f112k,f113];refine hQ.out _ ?_;clear hQ;clear Q')
    refine z0m (zp ?_)
    obtain⟨v90,f114,h11⟩:=z2u h10
    have f114k:=Ok.ok _ f114
    try simp at f114k
    refine zr rfl rfl rfl (by simp[f114k];rfl) ?_
    refine z0m ?_
    obtain⟨v91,f115,h12⟩:=za4 h11
    obtain⟨v92,f116,h13⟩:=za4 h12
    obtain⟨v93,f117,h14⟩:=za4 h13
    obtain⟨v94,f118,h15⟩:=za4 h14
    refine zal rfl rfl rfl rfl ?_;repeat' ((first|refine z6k rfl rfl fun Q' hQ=> ?_|refine z5s rfl fun Q' hQ=> ?_);simp[f115,f116,f117,f118];refine hQ.out _ ?_;clear hQ;clear Q')
    refine z5V (z0m (zs ?_))
    have ho:=z5f h15
    refine z6j ho ?_
    simp[z8v]
   ·rw[if_neg c111] at h8
    refine zco rfl (by simp[c111]) (zaU rfl (z8S ?_))
    obtain⟨rr1,h9,ho1⟩:=z6f h8
    have hs1:=hr1 _ ho1
    subst hs1
    refine z7R ho1 (z4u rfl (z0m (zp (zp (zs ?_)))))
    refine z0m (zb rfl (z9A h9 (z8u v69 v70 v71 v72 w79 w80) rfl rfl (by simp[z8u]) fun s o2 h10 hr2=> ?_))
    obtain⟨w107,w108⟩:=s
    simp only[z8w] at h10
    simp only[z8u]
    refine zp (zs ?_)
    refine z0m (zp ?_)
    by_cases c155:w107<(v71.2.length:Int)
    ·rw[if_pos c155] at h10
     refine zcn rfl (by simp[c155]) (z8p rfl (z0m (zp (zb rfl (zp ?_)))))
     obtain⟨v122,f156,h11⟩:=za4 h10
     refine zr rfl rfl rfl (by simp[f156];rfl) ?_
     refine z0m (zp ?_)
     obtain⟨v123,f157,h12⟩:=z2u h11
     have f157k:=Ok.ok _ f157
     try simp at f157k
     refine zr rfl rfl rfl (by simp[f157k];rfl) ?_
     refine z0m (zp (zs ?_))
     refine z0m (zb rfl (z9A h12 (z7k v69 v70 v71 v72 w79 w80 w107 v123) rfl rfl (by simp[z7k]) fun s o3 h13 hr3=> ?_))
     obtain⟨w127,w128⟩:=s
     simp only[z7l] at h13
     simp only[z7k]
     refine zp (zs ?_)
     refine z0m (zp ?_)
     by_cases c168:w127<(v69.length:Int)
     ·rw[if_pos c168] at h13
      refine zcn rfl (by simp[c168]) (z8p rfl (z0m (zp (zb rfl (zp (zs ?_))))))
      refine z0m (zp ?_)
      obtain⟨v132,f169,h14⟩:=za4 h13
      refine zr rfl rfl rfl (by simp[f169];rfl) ?_
      refine z0m ?_
      by_cases c170:v132=w107
      ·rw[if_pos c170] at h14
       have c170e:=eq_true c170
       refine zcn rfl (by simp[c170e]) ?_
       obtain⟨v133,f171,h15⟩:=za4 h14
       obtain⟨v134,f172,h16⟩:=za4 h15
       refine zal rfl rfl rfl rfl ?_;repeat' ((first|refine z6k rfl rfl fun Q' hQ=> ?_|refine z5s rfl fun Q' hQ=> ?_);simp[f171,f172];refine hQ.out _ ?_;clear hQ;clear Q')
       refine z5V (z0m (zs ?_))
       have ho:=z5f h16
       refine z6j ho ?_
       simp[z7k]
      ·rw[if_neg c170] at h14
       have c170e:=eq_false c170
       refine zco rfl (by simp[c170e]) (z8p rfl (z5V (z0m (zs ?_))))
       have ho:=z5f h14
       refine z6j ho ?_
       simp[z7k]
     ·rw[if_neg c168] at h13
      refine zco rfl (by simp[c168]) (zaU rfl (z8S ?_))
      obtain⟨rr3,h14,ho3⟩:=z6f h13
      have hs3:=hr3 _ ho3
      subst hs3
      refine z7R ho3 (z4u rfl (z5V (z0m (zs ?_))))
      have ho:=z5f h14
      refine z6j ho ?_
      simp[z8u]
    ·rw[if_neg c155] at h10
     refine zco rfl (by simp[c155]) (zaU rfl (z8S ?_))
     obtain⟨rr2,h11,ho2⟩:=z6f h10
     have hs2:=hr2 _ ho2
     subst hs2
     refine z7R ho2 (z4u rfl (z0m (zp (zs ?_))))
     refine z0m (zn2 rfl ?_)
     cases h11
     simp
 ·rw[if_neg c88] at h1
  have c88e:=eq_false c88
  refine zcn rfl (by simp[c88e]) (zp (zs ?_))
  refine z0m (zn2 rfl (zj4 ?_))
  cases h1
  simp⟩
end
end
section
open Go
theorem zk3(a b:Nat):zzs a b=true↔(szN b<szN a∨(szN a=szN b/\a<=b)):=by unfold zzs;simp
def zxG(x:Nat):List Nat->List Nat
 | []=> [x]
 |y::l=>if zzs x y=true then x::y::l else y::zxG x l
def zj6:List Nat->List Nat
 | []=> []
 |x::l=>zxG x (zj6 l)
abbrev zEm(l:List Nat):Prop:=l.Pairwise fun a b=>zzs a b=true
theorem zp1(x:Nat):∀l:List Nat,zxH (x:Int) (toI l)=toI (zxG x l)
 | []=>rfl
 |y::l=>by
  have ih:=zp1 x l
  have e:leI (x:Int) (y:Int)=zzs x y:=by simp[leI]
  simp only[toI,Zt,zxH,zxG] at ih⊢
  rw[e]
  by_cases h:zzs x y=true
  · rw[if_pos h,if_pos h];rfl
  · rw[if_neg h,if_neg h,ih];rfl
theorem zl6:∀l:List Nat,zd1 (toI l)=toI (zj6 l)
 | []=>rfl
 |x::l=>by
  have ih:=zl6 l
  simp only[toI,Zt,zd1,zj6] at ih⊢
  rw[ih];exact zp1 x (zj6 l)
theorem zgX(x:Nat):∀l:List Nat,(zxG x l).Perm (x::l)
 | []=>.refl _
 |y::l=>by
  unfold zxG
  split
  · exact .refl _
  · exact((zgX x l).cons y).trans (.swap x y l)
theorem z9O:∀l:List Nat,(zj6 l).Perm l
 | []=>.refl _
 |x::l=>(zgX x (zj6 l)).trans ((z9O l).cons x)
theorem zgW(x:Nat):∀l:List Nat,zEm l->zEm (zxG x l)
 | [],_=>by simp[zxG]
 |y::l,h=>by
  unfold zxG
  rw[zEm,ZC] at h
  split
  · rename_i hxy
    refine ZC.2 ⟨fun z hz=> ?_,ZC.2 h⟩
    rcases Zv.1 hz with rfl|hz
    · exact hxy
    · have:=h.1 z hz
      rw[zk3] at*
      omega
  · rename_i hxy
    refine ZC.2 ⟨fun z hz=> ?_,zgW x l h.2⟩
    rcases Zv.1 ((zgX x l).mem_iff.1 hz) with rfl|hz
    · rw[zk3] at*
      omega
    · exact h.1 z hz
theorem zeM:∀l:List Nat,zEm (zj6 l)
 | []=>by simp[zj6]
 |x::l=>zgW x _ (zeM l)
def zc0(S:List Nat):Nat->List Nat
 |0=>S
 |q+1=>if 2^q∈zc0 S q then zc0 S q else zc0 S q++ [2^q]
theorem z7M{S:List Nat}(hS:S.Nodup):∀q,(zc0 S q).Nodup/\(∀x,x∈zc0 S q↔x∈S∨ ∃i,i<q/\x=2^i)/\(zc0 S q).length<=S.length+q
 |0=>⟨hS,fun x=>by simp[zc0],by simp[zc0]⟩
 |q+1=>by
  obtain⟨h1,h2,h3⟩:=z7M hS q
  unfold zc0
  split
  · rename_i h
    refine⟨h1,fun x=> ?_,by omega⟩
    rw[h2]
    constructor
    · rintro(h|⟨i,h,e⟩)
      · exact .inl h
      · exact .inr ⟨i,by omega,e⟩
    · rintro(h'|⟨i,h',e⟩)
      · exact .inl h'
      · by_cases ei:i=q
        · subst ei;rw[e];exact(h2 _).1 h
        · exact .inr ⟨i,by omega,e⟩
  · rename_i h
    refine⟨Yj.2 ⟨h1,by simp,fun a ha b hb e=> ?_⟩,fun x=> ?_,by rw[Z7,ZE];omega⟩
    · obtain rfl:=Zi.1 hb
      exact h (e▸ha)
    · rw[Ze,h2,Zi]
      constructor
      · rintro((h'|⟨i,h',e⟩)|e)
        · exact .inl h'
        · exact .inr ⟨i,by omega,e⟩
        · exact .inr ⟨q,by omega,e⟩
      · rintro(h'|⟨i,h',e⟩)
        · exact .inl (.inl h')
        · by_cases ei:i=q
          · subst ei;exact .inr e
          · exact .inl (.inr ⟨i,by omega,e⟩)
def z2a(d:DFA)(m n:Nat):List Nat:=zj6 (zc0 (z1E d m n (2^n-1)).1 n)
structure SetsP(d:DFA)(m n:Nat)(S:List Nat):Prop where
 nd:S.Nodup
 lt:∀x∈S,x<2^n
 cl:∀x∈S,∀a,a<m->mvN d x a∈S
 one:∀q,q<n->2^q∈S
 srt:zEm S
variable{d:DFA}{m n:Nat}
theorem zz9(hd:DfaOk d m n){q a:Nat}(hq:q<n)(ha:a<m):∃p,p<n/\mvN d (2^q) a=2^p:=by
 obtain⟨h1,h2,e,h3,h4⟩:=zak hd hq ha
 refine⟨((d.next.getD q []).getD a 0).toNat,by rw[e];omega,Y0 fun i=> ?_⟩
 rw[Yh,zan hd ha,Y9,decide_eq_true_iff]
 constructor
 · rintro⟨j,j1,j2,j3⟩
   rw[Y9,decide_eq_true_iff] at j2
   subst j2;exact j3
 · intro h
   exact⟨q,hq,by rw[Y9];simp,h⟩
theorem z8j(hd:DfaOk d m n):SetsP d m n (z2a d m n):=by
 have hp:=Yu n
 have hf:2^n-1<2^n:=by omega
 have hi:=z7e hd hf
 obtain⟨h1,h2,h3⟩:=z7M hi.nd n
 have hpm:=z9O (zc0 (z1E d m n (2^n-1)).1 n)
 have hm:∀x,x∈z2a d m n↔x∈(z1E d m n (2^n-1)).1∨ ∃i,i<n/\x=2^i:=fun x=>hpm.mem_iff.trans (h2 x)
 refine⟨hpm.nodup_iff.2 h1,fun x hx=> ?_,fun x hx a ha=> ?_,fun q hq=>(hm _).2 (.inr ⟨q,hq,rfl⟩),zeM _⟩
 · rcases(hm x).1 hx with h|⟨i,hi',rfl⟩
   · exact hi.lt x h
   · exact Yq (by omega) hi'
 · rcases(hm x).1 hx with h|⟨i,hi',rfl⟩
   · exact(hm _).2 (.inl (zeP hd hf h ha))
   · obtain⟨p,hp1,hp2⟩:=zz9 hd hi' ha
     exact(hm _).2 (.inr ⟨p,hp1,hp2⟩)
theorem znX{S:List Nat}(hl:S.length<4611686018427387904)(x:Nat):z2A (toI S) (x:Int)=some (decide (x∈S)):=by
 unfold z2A z1u
 rw[z5C (s:=(0:Int)) S.length (fun k=>(k:Int)) (fun k=>decide (x=S.getD k 0)) (fun k=>some (k:Int)) (x:=some (-1)) rfl (by simp only[LFm];omega)]
 · cases h:(List.range S.length).find? (fun k=>decide (x=S.getD k 0)) with
   |none=>
    have:=zlX.1 h
    rw[Z0]
    congr 1
    have hn:¬x∈S:=fun hx=>by
     obtain⟨i,hi,rfl⟩:=Zn hx
     have:=this i hi
     simp[List.getD,hi] at this
    simp[hn]
   |some k=>
    obtain⟨k1,k2,_⟩:=zlW.1 h
    rw[Z0]
    congr 1
    have hx:x∈S:=by
     have:x=S.getD k 0:=by simpa using k2
     rw[this];exact z0i k1
    simp[hx]
 · intro k hk
   simp only[z2d]
   rw[if_pos (by rw[z0b];omega),z1q hk,Z0]
   by_cases h:x=S.getD k 0
   · rw[if_pos (by omega),if_pos (by simpa using h)]
   · rw[if_neg (by omega),if_neg (by simpa using h),z0H (by omega)]
 · simp only[z2d]
   rw[if_neg (by rw[z0b];omega)]
theorem zAG(hd:DfaOk d m n)(hn:n<=7):z9a d=some (toI (z2a d m n)):=by
 have hp:=Yu n
 have h128:2^n<=128:=Zl (n:=2) (by omega) hn
 have hf:2^n-1<2^n:=by omega
 have hi:=z7e hd hf
 have hl:=z1C hi.nd hi.lt
 obtain⟨h1,h2,h3⟩:=z7M hi.nd n
 unfold z9a
 have ew:IntKind.i64.wrap (((2^n:Nat):Int)-1)=((2^n-1:Nat):Int):=by rw[z2z (by omega) (by omega)];omega
 rw[hd.fin,z0e _ (by omega),z9p (by omega),ew,zxa hd (by omega) hf,Z0]
 refine z0q (s:=((0:Int),toI (z1E d m n (2^n-1)).1)) n (fun q=>((q:Int),toI (zc0 (z1E d m n (2^n-1)).1 q))) rfl (by simp only[LFm];omega) (fun q hq=> ?_) ?_
 · have h3':=(z7M hi.nd q).2.2
   simp only[z7U]
   rw[if_pos (by rw[hd.fin];omega),z0e _ (by omega),z9p (by omega),znX (by omega),Z0,z0H (by omega),zc0]
   by_cases h:2^q∈zc0 (z1E d m n (2^n-1)).1 q
   · rw[if_pos (by simpa using h),if_pos h]
   · rw[if_neg (by simpa using h),if_neg h,z0e _ (by unfold z1n;rw[z0b];omega),z5O]
 · simp only[z7U]
   rw[if_neg (by rw[hd.fin];omega)]
   have hv:zmD (toI (zc0 (z1E d m n (2^n-1)).1 n))=some (toI (z2a d m n)):=by
    unfold zmD
    rw[if_pos,zl6];rfl
    refine⟨fun h=> ?_,by rw[z0b];omega,?_⟩
    · have hm:=(h2 (2^n-1)).2 (.inl (zbz hd hf))
      have:=congrArg List.length h
      rw[z0b] at this
      have h0:=YI hm
      simp at this
      rw[this] at h0;simp at h0
    · rw[Zr]
      intro x hx
      simp only[toI,Zh] at hx
      obtain⟨y,hy,rfl⟩:=hx
      have:y<2^n:=by
       rcases(h2 y).1 hy with h|⟨i,hi',rfl⟩
       · exact hi.lt y h
       · exact Yq (by omega) hi'
      simp;omega
   rw[hv,Z0]
end
section
open Go
variable{d:DFA}{S:List Nat}{N i j k m n x:Nat}{st:RS}{α:Type}{f:Nat->α}{z:α}
def z3l{α:Type}(N:Nat)(f:Nat->α)(z:α)(k:Nat):List α:=(List.range N).map fun i=>if i<k then f i else z
theorem zfu(N:Nat)(f:Nat->α)(z:α)(k:Nat):(z3l N f z k).length=N:=by simp[z3l]
theorem zdw(N:Nat)(f:Nat->α)(z:α):z3l N f z 0=List.replicate N z:=by
 apply Zf (by simp[z3l]);intro i h1 h2;simp[z3l]
theorem zdv(N:Nat)(f:Nat->α)(z:α):z3l N f z N=(List.range N).map f:=by
 apply Zf (by simp[z3l]);intro i h1 h2
 have:i<N:=by simpa[z3l] using h1
 simp[z3l,this]
theorem zb5(h:i<N):atI (z3l N f z k) (i:Int)=some (if i<k then f i else z):=by
 rw[z0Q (by rw[zfu];exact h)];simp[z3l]
theorem z8B(h:k<N):(z3l N f z k).set k (f k)=z3l N f z (k+1):=by
 apply Zf (by simp[z3l]);intro i h1 h2
 simp only[z3l,Ye,Zw,ZJ]
 by_cases e:k=i
 · subst e;rw[if_pos rfl,if_pos (by omega)]
 · rw[if_neg e]
   by_cases e2:i<k
   · rw[if_pos e2,if_pos (by omega)]
   · rw[if_neg e2,if_neg (by omega)]
theorem zvo(h:f k=z):z3l N f z k=z3l N f z (k+1):=by
 apply Zf (by simp[z3l]);intro i h1 h2
 simp only[z3l,Zw,ZJ]
 by_cases e:k=i
 · subst e;rw[if_neg (by omega),if_pos (by omega),h]
 · by_cases e2:i<k
   · rw[if_pos e2,if_pos (by omega)]
   · rw[if_neg e2,if_neg (by omega)]
theorem z2K(h:i<N):atI ((List.range N).map f) (i:Int)=some (f i):=by
 rw[z0Q (by simpa using h)];simp
theorem zos{l:List α}{x:α}(h:i<l.length):atI (l.set i x) (i:Int)=some x:=by
 rw[z0Q (by simpa using h)];simp
theorem zmV(l:List α)(i:Nat)(x y:α):(l.set i x).set i y=l.set i y:=by simp
theorem zcz(hS:S.Nodup)(h:i<S.length):S.idxOf (S.getD i 0)=i:=by
 rw[List.getD,Z1 h,Z4]
 have hm:S[i]∈S:=Zm h
 have h1:=Yx hm
 have h2:S[S.idxOf S[i]]=S[i]:=YZ h1
 exact(List.getElem_inj hS).1 h2
theorem z3R(h:x∈S):S.getD (S.idxOf x) 0=x:=by
 have:=Yx h
 rw[List.getD,Z1 this,Z4,YZ]
theorem z6F(h:x∈S):S.idxOf x<S.length:=Yx h
theorem z7p(hS:S.Nodup)(hi:i<S.length)(hj:j<S.length)(h:S.getD i 0=S.getD j 0):i=j:=by
 rw[←zcz hS hi,h,zcz hS hj]
def z8O(st:RS)(x:Nat):ByteArray:=st.2.getD (st.1.idxOf x) ByteArray.empty
theorem zmB(hl:st.2.length=st.1.length)(hx:x∉st.1)(w:ByteArray)(y:Nat):z8O (st.1++ [x],st.2++ [w]) y=if y=x then w else z8O st y:=by
 unfold z8O
 simp only
 by_cases hy:y∈st.1
 · have hne:y≠x:=fun e=>hx (e▸hy)
   rw[if_neg hne,YS,if_pos hy,z9s _ (by rw[hl];exact z6F hy)]
 · rw[YS,if_neg hy]
   by_cases e:y=x
   · subst e
     rw[if_pos rfl,show List.idxOf y [y]=0 by simp,Zs,zb2 hl.symm]
   · rw[if_neg e]
     have h1:List.idxOf y [x]=1:=by
      rw[List.idxOf_cons]
      have:(x==y)=false:=by simpa using fun h=>e h.symm
      simp[this]
     have h2:st.1.idxOf y=st.1.length:=List.idxOf_eq_length hy
     rw[h1,h2,List.getD,List.getD,YN (by simp[hl];omega),YN (by omega)]
theorem zlh{d:DFA}{m n:Nat}{S:List Nat}(hS:SetsP d m n S):∀ {w:List UInt8} {s:Nat},(∀c∈w,97<=c.toNat/\c.toNat<97+m)->s∈S->z4D d s w∈S
 | [],s,_,h=>h
 |c::w,s,hw,h=>zlh (w:=w) (s:=mvN d s (c.toNat-97)) hS (fun c' hc'=>hw c' (Zo _ hc')) (hS.cl s h _ (by have:=hw c (Zz ..);omega))
theorem zuX{s:Nat}(hS:SetsP d m n S)(hs:s∈S)(h:RInv d m n s st)(hx:x∈st.1):x∈S:=by
 obtain⟨i,hi,rfl⟩:=Zn hx
 obtain⟨_,o2,o3⟩:=h.ok i hi
 rw[List.getD,List.getD,Z1 hi,Z4] at o3
 rw[←o3]
 exact zlh hS o2 hs
def zoF(d:DFA)(m:Nat)(S:List Nat)(i:Nat):List Int:=(List.range m).map fun a=>((S.idxOf (mvN d (S.getD i 0) a):Nat):Int)
def zBC(d:DFA)(m:Nat)(S:List Nat):List (List Int):=(List.range S.length).map (zoF d m S)
def ztO(S:List Nat)(st:RS):List Bool:=(List.range S.length).map fun i=>decide (S.getD i 0∈st.1)
def zkm(S:List Nat)(st:RS):List ByteArray:=(List.range S.length).map fun i=>z8O st (S.getD i 0)
def zhO(S:List Nat)(st:RS):List Int:=toI (st.1.map S.idxOf)
theorem ztk(h:k<st.1.length):atI (zhO S st) (k:Int)=some ((S.idxOf (st.1.getD k 0):Nat):Int):=by
 unfold zhO
 rw[z1q (by simpa using h)]
 simp[List.getD,h]
theorem zle{s:Nat}(hd:DfaOk d m n)(hn:n<=12)(hS:SetsP d m n S)(hs:s∈S)(h:RInv d m n s st)(hk:k<st.1.length):
 z0h (z2C (k:Int) (zoF d m S (S.idxOf (st.1.getD k 0)))) LFm (0,ztO S st,zkm S st,zhO S st)=z0c (((k+1:Nat):Int),ztO S (zaF d k st m),zkm S (zaF d k st m),zhO S (zaF d k st m)):=by
 have h12:=zgA hn
 have hm6:=hd.m6
 have hSl:=z1C hS.nd hS.lt
 refine z0q (s:=((0:Int),ztO S st,zkm S st,zhO S st)) m (fun a=>((a:Int),ztO S (zaF d k st a),zkm S (zaF d k st a),zhO S (zaF d k st a))) rfl (by simp only[LFm];omega) (fun a ha=> ?_) ?_
 · obtain⟨k1,_,X,W,k3,k4⟩:=zjv hd h hk a (by omega)
   have hk':k<(zaF d k st a).1.length:=by rw[k3,Z7];omega
   have hl:=z1C k1.nd k1.lt
   have eg:(zaF d k st a).1.getD k 0=st.1.getD k 0:=by rw[k3,z9s _ hk]
   have hkS:st.1.getD k 0∈S:=zuX hS hs h (z0i hk)
   have hxS:mvN d (st.1.getD k 0) a∈S:=hS.cl _ hkS a ha
   obtain⟨o1,_,_⟩:=k1.ok k hk'
   have hwk:z8O (zaF d k st a) (st.1.getD k 0)=(zaF d k st a).2.getD k ByteArray.empty:=by
    unfold z8O;rw[←eg,zcz k1.nd hk']
   simp only[z2C]
   rw[if_pos (by simp[zoF];omega),zoF,z2K ha,Z0,z3R hkS,ztO,z2K (z6F hxS),Z0,z3R hxS,z0H (by omega),zaF]
   unfold zl2
   rw[eg]
   simp only[decide_eq_true_eq]
   by_cases hm:mvN d (st.1.getD k 0) a∈(zaF d k st a).1
   · rw[if_pos hm,if_pos hm];rfl
   · rw[if_neg hm,if_neg hm,ztk hk',Z0,eg,zkm,z2K (z6F hkS),Z0,z3R hkS,hwk,zjp (by omega),z0e _ (by unfold zaH;rw[z8b];omega),z2K (z6F hxS),Z0,z0e _ (by unfold z1n zhO;rw[z0b,Zg];omega),Z2]
     congr 1
     refine XS rfl (XS ?_ (XS ?_ ?_))
     · simp only[ztO]
       apply Zf (by simp)
       intro i i1 i2
       have hi:i<S.length:=by simpa using i2
       simp only[Ye,Zw,ZJ,Ze,Zi]
       by_cases e:S.idxOf (mvN d (st.1.getD k 0) a)=i
       · subst e;rw[if_pos rfl,z3R hxS];simp
       · rw[if_neg e]
         have:S.getD i 0≠mvN d (st.1.getD k 0) a:=fun hh=>e (by rw[←hh,zcz hS.nd hi])
         simp only[this,or_false]
     · simp only[zkm]
       apply Zf (by simp)
       intro i i1 i2
       have hi:i<S.length:=by simpa using i2
       simp only[Ye,Zw,ZJ]
       rw[zmB k1.len hm]
       by_cases e:S.idxOf (mvN d (st.1.getD k 0) a)=i
       · subst e;rw[if_pos rfl,z3R hxS,if_pos rfl]
       · have:S.getD i 0≠mvN d (st.1.getD k 0) a:=fun hh=>e (by rw[←hh,zcz hS.nd hi])
         rw[if_neg e,if_neg this]
     · simp only[zhO,ZI,Zt,Yt]
       rw[z5O]
 · simp only[z2C]
   have:=z1C h.nd h.lt
   rw[if_neg (by simp[zoF]),z0H (by omega)]
theorem zgo(hd:DfaOk d m n)(hn:n<=12)(hS:SetsP d m n S)(bl:List (List Bool))(hj:j<S.length):
 z2g ⟨toI S,zBC d m S,bl⟩ (j:Int)=some (zhO S (z1E d m n (S.getD j 0)),zkm S (z1E d m n (S.getD j 0))):=by
 have h12:=zgA hn
 have hp:=Yu n
 have hSl:=z1C hS.nd hS.lt
 have hs:S.getD j 0∈S:=z0i hj
 have hs2:S.getD j 0<2^n:=hS.lt _ hs
 unfold z2g
 simp only
 rw[z0b,z0e _ (by unfold z0D;omega),z0e _ (by unfold z0D;omega),z0e _ (by omega),Z2,Z2]
 have e1:(List.replicate S.length false).set j true=ztO S (z9r d m (S.getD j 0) 0):=by
  apply Zf (by simp[ztO])
  intro i i1 i2
  have hi:i<S.length:=by simpa using i1
  simp only[ztO,z9r,Ye,Zw,ZJ,List.getElem_replicate,Zi]
  by_cases e:j=i
  · subst e;simp
  · rw[if_neg e]
    have:S.getD i 0≠S.getD j 0:=fun hh=>e (z7p hS.nd hi hj hh).symm
    symm;simpa using this
 have e2:List.replicate S.length (ByteArray.empty:ByteArray)=zkm S (z9r d m (S.getD j 0) 0):=by
  apply Zf (by simp[zkm])
  intro i i1 i2
  simp only[zkm,z9r,Zw,ZJ,List.getElem_replicate,z8O]
  generalize List.idxOf (S.getD i 0) [S.getD j 0]=q
  cases q<;>rfl
 have e3: [(j:Int)]=zhO S (z9r d m (S.getD j 0) 0):=by
  simp only[zhO,z9r,Zt,Yt,zcz hS.nd hj];rfl
 rw[e1,e2,e3]
 refine zbF (s:=((0:Int),ztO S (z9r d m (S.getD j 0) 0),zkm S (z9r d m (S.getD j 0) 0),zhO S (z9r d m (S.getD j 0) 0))) (fun z=>∃k:Nat,k<=2^n/\z=((k:Int),ztO S (z9r d m (S.getD j 0) k),zkm S (z9r d m (S.getD j 0) k),zhO S (z9r d m (S.getD j 0) k))) (fun z=>2^n+1-z.1.toNat) ⟨0,by omega,rfl⟩ (by simp only[LFm];omega) ?_
 rintro z ⟨k,hk,rfl⟩
 have hl:=zmW hd hs2 k
 have hqs:(zhO S (z9r d m (S.getD j 0) k)).length=(z9r d m (S.getD j 0) k).1.length:=by simp[zhO,toI]
 simp only[z5j]
 by_cases h:k<(z9r d m (S.getD j 0) k).1.length
 · left
   have hinv:=(zck hd hs2 k).1
   have hkS:(z9r d m (S.getD j 0) k).1.getD k 0∈S:=zuX hS hs hinv (z0i h)
   rw[if_pos (by rw[hqs];omega),ztk h,Z0,zBC,z2K (z6F hkS),Z0,zle hd hn hS hs hinv h]
   refine⟨_,rfl,⟨k+1,by omega,?_⟩,by simp only;omega⟩
   rw[z9r,if_pos h]
 · right
   rw[if_neg (by rw[hqs];omega)]
   unfold z1E
   rw[zj7 h _ hk]
end
section
open Go
variable{d:DFA}{S:List Nat}{i j k m n:Nat}
def z6Y(d:DFA)(m n:Nat)(S:List Nat)(i j:Nat):Bool:=(z1E d m n (S.getD j 0)).1.any fun x=>decide (S.getD i 0&&&x=S.getD i 0)
def zyo(d:DFA)(m n:Nat)(S:List Nat):List (List Bool):=(List.range S.length).map fun i=>(List.range S.length).map (z6Y d m n S i)
def dgm(d:DFA)(m n:Nat)(S:List Nat):Dgm:=⟨toI S,zBC d m S,zyo d m n S⟩
theorem z4k(hd:DfaOk d m n)(hS:SetsP d m n S)(hj:j<S.length):z6Y d m n S i j=true↔zrS d m (S.getD i 0) (S.getD j 0):=by
 rw[zw3 hd (hS.lt _ (z0i hj))]
 unfold z6Y z6H
 simp
def zrQ(n:Nat)(S:List Nat)(k:Nat):List Int:=(List.range (2^n)).map fun x=>if x∈S.take k then((S.idxOf x:Nat):Int) else 0
theorem zxJ(hS:S.Nodup)(hk:k<S.length):(zrQ n S k).set (S.getD k 0) (k:Int)=zrQ n S (k+1):=by
 have hg:S.getD k 0=S[k]:=by rw[List.getD,Z1 hk,Z4]
 apply Zf (by simp[zrQ])
 intro i h1 h2
 simp only[zrQ,Ye,Zw,ZJ]
 rw[ZB hk]
 simp only[Ze,Zi]
 by_cases e:S.getD k 0=i
 · rw[if_pos e,if_pos (.inr (by rw[←hg];exact e.symm)),←e,zcz hS hk]
 · rw[if_neg e]
   have:¬i=S[k]:=fun h=>e (by rw[hg];exact h.symm)
   simp[this]
theorem zzd{x:Nat}(h:x<2^n):atI (zrQ n S k) (x:Int)=some (if x∈S.take k then((S.idxOf x:Nat):Int) else 0):=by
 unfold zrQ;rw[z2K h]
theorem zqV(hd:DfaOk d m n)(hn:n<=12)(hS:SetsP d m n S)(hi:i<S.length):
 z0h (z3C d (toI S) (zrQ n S S.length) (i:Int) (z3l S.length (fun _=>List.replicate S.length false) [] i) ((S.getD i 0:Nat):Int)) LFm (0,(z3l S.length (zoF d m S) [] i).set i (List.replicate m 0))=
  z0c (((i+1:Nat):Int),z3l S.length (zoF d m S) [] (i+1),z3l S.length (fun _=>List.replicate S.length false) [] (i+1)):=by
 have h12:=zgA hn
 have hm6:=hd.m6
 have hSl:=z1C hS.nd hS.lt
 have hx:S.getD i 0∈S:=z0i hi
 refine z0q (s:=((0:Int),(z3l S.length (zoF d m S) [] i).set i (List.replicate m 0))) m (fun a=>((a:Int),(z3l S.length (zoF d m S) [] i).set i (z3l m (fun a=>((S.idxOf (mvN d (S.getD i 0) a):Nat):Int)) 0 a))) (by rw[zdw];rfl) (by simp only[LFm];omega) (fun a ha=> ?_) ?_
 · have hmv:mvN d (S.getD i 0) a∈S:=hS.cl _ hx a ha
   simp only[z3C]
   rw[if_pos (by rw[hd.lt];omega),zos (by rw[zfu];exact hi),Z0,ztL hd hn (hS.lt _ hx) ha,Z0,zzd (hS.lt _ hmv),Z0,Yd,if_pos hmv,zb5 ha,Z0,z0H (by omega),Z2,Z2,zmV]
   rw[z8B (f:=fun a=>((S.idxOf (mvN d (S.getD i 0) a):Nat):Int)) (z:=0) ha]
 · simp only[z3C]
   rw[if_neg (by rw[hd.lt];omega),z0b,z0e _ (by unfold z0D;omega),zb5 hi,Z0,z0H (by omega),Z2,Z2,zdv]
   have e1:=z8B (f:=zoF d m S) (z:= []) hi
   have e2:=z8B (f:=fun _=>List.replicate S.length false) (z:= []) hi
   rw[show((List.range m).map fun a=>((S.idxOf (mvN d (S.getD i 0) a):Nat):Int))=zoF d m S i from rfl,e1,e2]
def zfA(d:DFA)(m n:Nat)(S:List Nat)(j i:Nat):List (List Bool):=(List.range S.length).map fun i'=>z3l S.length (z6Y d m n S i') false (if i'<i then j+1 else j)
theorem zFL:zfA d m n S j S.length=zfA d m n S (j+1) 0:=by
 unfold zfA
 refine ZA fun i hi=> ?_
 rw[if_pos (Zj.1 hi),if_neg (by omega)]
theorem zys{α:Type}(p:α->Bool)(l:List α)(d:α):((List.range l.length).find? fun k=>p (l.getD k d)).isSome=l.any p:=by
 rw[Yh,Yn]
 rw[List.find?_isSome]
 constructor
 · rintro⟨k,hk,h⟩
   have hk:=Zj.1 hk
   exact⟨_,by rw[List.getD,Z1 hk,Z4];exact Zm hk,h⟩
 · rintro⟨x,hx,h⟩
   obtain⟨i,hi,rfl⟩:=Zn hx
   exact⟨i,Zj.2 hi,by rw[List.getD,Z1 hi,Z4];exact h⟩
theorem zw2(hd:DfaOk d m n)(hn:n<=12)(hS:SetsP d m n S)(hi:i<S.length)(hj:j<S.length)(w:List ByteArray):
 z0h (z3B (toI S) (j:Int) (zhO S (z1E d m n (S.getD j 0)),w) (i:Int) (zfA d m n S j i) ((S.getD i 0:Nat):Int)) LFm 0=z0c (((i+1:Nat):Int),zfA d m n S j (i+1)):=by
 have h12:=zgA hn
 have hSl:=z1C hS.nd hS.lt
 have hjS:=z0i hj
 have hinv:=z7e hd (hS.lt _ hjS)
 have hl:=z1C hinv.nd hinv.lt
 have hx62:S.getD i 0<2^n:=hS.lt _ (z0i hi)
 have hcol:z6Y d m n S i j=true->(zfA d m n S j i).set i ((z3l S.length (z6Y d m n S i) false j).set j true)=zfA d m n S j (i+1):=fun hb=>by
  have e:=z8B (f:=z6Y d m n S i) (z:=false) hj
  rw[hb] at e
  rw[e]
  apply Zf (by simp[zfA])
  intro k h1 h2
  simp only[zfA,Ye,Zw,ZJ]
  by_cases ek:i=k
  · subst ek;rw[if_pos rfl,if_pos (by omega)]
  · rw[if_neg ek]
    by_cases e2:k<i
    · rw[if_pos e2,if_pos (by omega)]
    · rw[if_neg e2,if_neg (by omega)]
 have hcol0:z6Y d m n S i j=false->zfA d m n S j i=zfA d m n S j (i+1):=fun hb=>by
  unfold zfA
  refine ZA fun k hk=> ?_
  by_cases ek:k=i
  · subst ek;rw[if_neg (by omega),if_pos (by omega)];exact zvo hb
  · by_cases e2:k<i
    · rw[if_pos e2,if_pos (by omega)]
    · rw[if_neg e2,if_neg (by omega)]
 rw[z5C (s:=(0:Int)) (z1E d m n (S.getD j 0)).1.length (fun k=>(k:Int)) (fun k=>decide (S.getD i 0&&&(z1E d m n (S.getD j 0)).1.getD k 0=S.getD i 0)) (fun _=>z0c (((i+1:Nat):Int),(zfA d m n S j i).set i ((z3l S.length (z6Y d m n S i) false j).set j true))) (x:=z0c (((i+1:Nat):Int),zfA d m n S j i)) rfl (by simp only[LFm];omega)]
 · have ha:((List.range (z1E d m n (S.getD j 0)).1.length).find? fun k=>decide (S.getD i 0&&&(z1E d m n (S.getD j 0)).1.getD k 0=S.getD i 0)).isSome=z6Y d m n S i j:=zys (fun x=>decide (S.getD i 0&&&x=S.getD i 0)) (z1E d m n (S.getD j 0)).1 0
   revert ha
   cases(List.range (z1E d m n (S.getD j 0)).1.length).find? fun k=>decide (S.getD i 0&&&(z1E d m n (S.getD j 0)).1.getD k 0=S.getD i 0) with
   |none=>intro ha;simp only;rw[hcol0 (by simpa using ha.symm)]
   |some k=>intro ha;simp only;rw[hcol (by simpa using ha.symm)]
 · intro k hk
   have hkS:(z1E d m n (S.getD j 0)).1.getD k 0∈S:=zuX hS hjS hinv (z0i hk)
   have hqs:(zhO S (z1E d m n (S.getD j 0))).length=(z1E d m n (S.getD j 0)).1.length:=by simp[zhO,toI]
   have h62:=hS.lt _ hkS
   simp only[z3B]
   rw[if_pos (by rw[hqs];omega),ztk hk,Z0,z1q (z6F hkS),z3R hkS,Z0,zcC (by omega) (by omega),Z0]
   simp only[decide_eq_true_eq]
   split
   · rw[zfA,z2K hi,Z0,zb5 hj,Z0,z0H (by omega),if_neg (by omega:¬i<i),Z2,Z2]
   · rw[z0H (by omega)]
 · have hqs:(zhO S (z1E d m n (S.getD j 0))).length=(z1E d m n (S.getD j 0)).1.length:=by simp[zhO,toI]
   simp only[z3B]
   rw[if_neg (by rw[hqs];omega),z0H (by omega)]
theorem zrz(hd:DfaOk d m n)(hn:n<=12)(hS:SetsP d m n S):z5i d (toI S)=some (dgm d m n S):=by
 have h12:=zgA hn
 have hm6:=hd.m6
 have hp:=Yu n
 have hSl:=z1C hS.nd hS.lt
 unfold z5i
 rw[hd.fin,z0e _ (by omega),z9p (by omega),z0e _ (by unfold z0D;omega),Z2]
 have e0:List.replicate (2^n) (0:Int)=zrQ n S 0:=by
  apply Zf (by simp[zrQ]);intro i h1 h2;simp[zrQ]
 rw[e0]
 refine z0q (s:=((0:Int),zrQ n S 0)) S.length (fun k=>((k:Int),zrQ n S k)) rfl (by simp only[LFm];omega) (fun k hk=> ?_) ?_
 · simp only[z4Y]
   rw[if_pos (by rw[z0b];omega),z1q hk,Z0,zzd (hS.lt _ (z0i hk)),Z0,z0H (by omega),Z2,zxJ hS.nd hk]
 · simp only[z4Y]
   rw[if_neg (by rw[z0b];omega),z0b,z0e _ (by unfold z0D;omega),Z2]
   congr 1
   have f1:List.replicate S.length ([]:List Int)=z3l S.length (zoF d m S) [] 0:=(zdw _ _ _).symm
   have f2:List.replicate S.length ([]:List Bool)=z3l S.length (fun _=>List.replicate S.length false) [] 0:=(zdw _ _ _).symm
   rw[f1,f2]
   refine z0q (s:=((0:Int),z3l S.length (zoF d m S) [] 0,z3l S.length (fun _=>List.replicate S.length false) [] 0)) S.length (fun k=>((k:Int),z3l S.length (zoF d m S) [] k,z3l S.length (fun _=>List.replicate S.length false) [] k)) rfl (by simp only[LFm];omega) (fun k hk=> ?_) ?_
   · simp only[z4X]
     rw[if_pos (by rw[z0b];omega),z1q hk,Z0,hd.lt,z0e _ (by unfold z0D;omega),zb5 hk,Z0,Z2,Z2,zqV hd hn hS hk]
   · simp only[z4X]
     rw[if_neg (by rw[z0b];omega),zdv,zdv]
     congr 1
     have f3:((List.range S.length).map fun _=>List.replicate S.length false)=zfA d m n S 0 0:=by
      unfold zfA
      refine ZA fun i hi=> ?_
      rw[if_neg (by omega),zdw]
     rw[f3]
     refine z0q (s:=((0:Int),zfA d m n S 0 0)) S.length (fun j=>((j:Int),zfA d m n S j 0)) rfl (by simp only[LFm];omega) (fun j hj=> ?_) ?_
     · simp only[z4H]
       rw[if_pos (by rw[z0b];omega)]
       have es:=zgo hd hn hS (zfA d m n S j 0) hj
       unfold zBC at es
       rw[es,Z0]
       refine z0q (s:=((0:Int),zfA d m n S j 0)) S.length (fun i=>((i:Int),zfA d m n S j i)) rfl (by simp only[LFm];omega) (fun i hi=> ?_) ?_
       · simp only[z4G]
         rw[if_pos (by rw[z0b];omega),z1q hi,Z0,zw2 hd hn hS hi hj]
       · simp only[z4G]
         rw[if_neg (by rw[z0b];omega),z0H (by omega),zFL]
     · simp only[z4H]
       rw[if_neg (by rw[z0b];omega)]
       have f4:zfA d m n S S.length 0=zyo d m n S:=by
        unfold zfA zyo
        refine ZA fun i hi=> ?_
        rw[if_neg (by omega),zdv]
       rw[f4];rfl
end
section
open Go
structure EqvN(N:Nat)(e:Nat->Nat->Bool):Prop where
 refl:∀i,i<N->e i i=true
 symm:∀i j,i<N->j<N->e i j=true->e j i=true
 trans:∀i j k,i<N->j<N->k<N->e i j=true->e j k=true->e i k=true
variable{d:DFA}{S:List Nat}{N i m n:Nat}{e:Nat->Nat->Bool}
def z1h(e:Nat->Nat->Bool):Nat->List Nat
 |0=> []
 |i+1=>if(z1h e i).any (e i)=true then z1h e i else z1h e i++ [i]
def za1(e:Nat->Nat->Bool)(N i:Nat):Nat:=(z1h e N).findIdx (e i)
theorem zev(e:Nat->Nat->Bool){i:Nat}:∀j,i<=j->∃R,z1h e j=z1h e i++R
 |0,h=>by
  obtain rfl:i=0:=by omega
  exact⟨[],by simp⟩
 |j+1,h=>by
  by_cases e0:i=j+1
  · subst e0;exact⟨[],by simp⟩
  · obtain⟨R,hR⟩:=zev e (i:=i) j (by omega)
    rw[show z1h e (j+1)=if(z1h e j).any (e j)=true then z1h e j else z1h e j++ [j] from rfl]
    split
    · exact⟨R,hR⟩
    · exact⟨R++ [j],by rw[hR,Zu]⟩
theorem zc6(e:Nat->Nat->Bool):∀i,∀f∈z1h e i,f<i
 |0,f,h=>by simp[z1h] at h
 |i+1,f,h=>by
  unfold z1h at h
  split at h
  · have:=zc6 e i f h;omega
  · rcases Ze.1 h with h|h
    · have:=zc6 e i f h;omega
    · have:=Zi.1 h;omega
theorem z6d(e:Nat->Nat->Bool):∀i,(z1h e i).length<=i
 |0=>by simp[z1h]
 |i+1=>by
  have:=z6d e i
  unfold z1h
  split
  · omega
  · rw[Z7,ZE];omega
theorem zb3{N:Nat}{e:Nat->Nat->Bool}(he:EqvN N e):∀i,i<=N->(z1h e i).Pairwise fun f g=>e f g=false/\e g f=false
 |0,_=>by simp[z1h]
 |i+1,hi=>by
  have ih:=zb3 he i (by omega)
  unfold z1h
  split
  · exact ih
  · rename_i h
    refine YD.2 ⟨ih,by simp,fun a ha b hb=> ?_⟩
    obtain rfl:=Zi.1 hb
    have hlt:=zc6 e b a ha
    have h1:e b a=false:=by
     cases hh:e b a with
     |false=>rfl
     |true=>exact absurd (Yn.2 ⟨a,ha,hh⟩) h
    refine⟨?_,h1⟩
    cases hh:e a b with
    |false=>rfl
    |true=>rw[he.symm a b (by omega) (by omega) hh] at h1;cases h1
theorem zjH(he:EqvN N e){c c':Nat}{l:List Nat}(hl:l.Pairwise fun f g=>e f g=false/\e g f=false)(hlt:∀f∈l,f<N)(hi:i<N)(hc:c<l.length)(hc':c'<l.length)(h:e i (l.getD c 0)=true)(h':e i (l.getD c' 0)=true):c=c':=by
 have m1:l.getD c 0<N:=hlt _ (z0i hc)
 have m2:l.getD c' 0<N:=hlt _ (z0i hc')
 have hcc:=he.trans _ _ _ m1 hi m2 (he.symm _ _ hi m1 h) h'
 rcases Xi c c' with hlt'|rfl|hlt'
 · have:=(ZG.1 hl c c' hc hc' hlt').1
   rw[List.getD,List.getD,Z1 hc,Z1 hc',Z4,Z4,this] at hcc
   cases hcc
 · rfl
 · have:=(ZG.1 hl c' c hc' hc hlt').2
   rw[List.getD,List.getD,Z1 hc,Z1 hc',Z4,Z4,this] at hcc
   cases hcc
theorem zzn(he:EqvN N e)(hi:i<N):(z1h e i).findIdx (e i)=za1 e N i:=by
 unfold za1
 obtain⟨R,hR⟩:=zev e (i:=i+1) N (by omega)
 rw[hR]
 by_cases h:(z1h e i).any (e i)=true
 · have:z1h e (i+1)=z1h e i:=by rw[z1h,if_pos h]
   rw[this,List.findIdx_append,if_pos]
   obtain⟨x,hx,hp⟩:=Yn.1 h
   exact Yz ⟨x,hx,hp⟩
 · have e1:z1h e (i+1)=z1h e i++ [i]:=by rw[z1h,if_neg h]
   have e2:(z1h e i).findIdx (e i)=(z1h e i).length:=List.findIdx_eq_length.2 fun x hx=>by
    cases hh:e i x with
    |false=>rfl
    |true=>exact absurd (Yn.2 ⟨x,hx,hh⟩) h
   rw[e1,Zu,List.findIdx_append,if_neg (by rw[e2];omega),XQ,List.findIdx_cons,he.refl i hi,e2]
   simp
theorem zcE(he:EqvN N e)(hi:i<N):za1 e N i<(z1h e N).length/\e i ((z1h e N).getD (za1 e N i) 0)=true:=by
 have hex:∃x∈z1h e N,e i x=true:=by
  obtain⟨R,hR⟩:=zev e (i:=i+1) N (by omega)
  by_cases h:(z1h e i).any (e i)=true
  · obtain⟨x,hx,hp⟩:=Yn.1 h
    refine⟨x,?_,hp⟩
    rw[hR,z1h,if_pos h]
    exact Ze.2 (.inl hx)
  · refine⟨i,?_,he.refl i hi⟩
    rw[hR,z1h,if_neg h];simp
 have hlt:za1 e N i<(z1h e N).length:=Yz hex
 refine⟨hlt,?_⟩
 rw[List.getD,Z1 hlt,Z4]
 exact X5 (w:=hlt)
theorem zvK(he:EqvN N e){j:Nat}(hi:i<N)(hj:j<N):za1 e N i=za1 e N j↔e i j=true:=by
 obtain⟨a1,a2⟩:=zcE he hi
 obtain⟨b1,b2⟩:=zcE he hj
 have hF:=zc6 e N
 have m1:=hF _ (z0i a1)
 constructor
 · intro h
   rw[←h] at b2
   exact he.trans _ _ _ hi m1 hj a2 (he.symm _ _ hj m1 b2)
 · intro h
   exact zjH he (zb3 he N (Z8 _)) hF hj a1 b1 (he.trans _ _ _ hj hi m1 (he.symm _ _ hi hj h) a2) b2
def z2x(d:DFA)(m n:Nat)(S:List Nat)(i j:Nat):Bool:=z6Y d m n S i j&&z6Y d m n S j i
theorem z9t(hd:DfaOk d m n)(hS:SetsP d m n S):EqvN S.length (z2x d m n S) where
 refl i hi:=by
  have:=(z4k hd hS hi (i:=i)).2 (zdH d m _)
  simp[z2x,this]
 symm i j hi hj h:=by
  simp only[z2x,Z6] at h⊢
  exact⟨h.2,h.1⟩
 trans i j k hi hj hk h1 h2:=by
  simp only[z2x,Z6] at h1 h2⊢
  exact⟨(z4k hd hS hk).2 (zdG hd ((z4k hd hS hj).1 h1.1) ((z4k hd hS hk).1 h2.1)),(z4k hd hS hi).2 (zdG hd ((z4k hd hS hj).1 h2.2) ((z4k hd hS hi).1 h1.2))⟩
theorem zpI(hi:i<S.length):atI (zyo d m n S) (i:Int)=some ((List.range S.length).map (z6Y d m n S i)):=z2K hi
def zvL(d:DFA)(m n:Nat)(S:List Nat):List Int:=(List.range S.length).map fun i=>((za1 (z2x d m n S) S.length i:Nat):Int)
def z6W(d:DFA)(m n:Nat)(S:List Nat):List Nat:=z1h (z2x d m n S) S.length
theorem zrF(hd:DfaOk d m n)(hn:n<=12)(hS:SetsP d m n S):z3f (dgm d m n S)=some (zvL d m n S,toI (z6W d m n S)):=by
 have h12:=zgA hn
 have hSl:=z1C hS.nd hS.lt
 have he:=z9t hd hS
 unfold z3f
 have ed:(dgm d m n S).sets=toI S:=rfl
 have eb:(dgm d m n S).below=zyo d m n S:=rfl
 rw[ed,z0b,z0e _ (by unfold z0D;omega),Z2]
 have f1:List.replicate S.length (0:Int)=z3l S.length (fun i=>((za1 (z2x d m n S) S.length i:Nat):Int)) 0 0:=(zdw _ _ _).symm
 rw[f1]
 refine z0q (s:=((0:Int),z3l S.length (fun i=>((za1 (z2x d m n S) S.length i:Nat):Int)) 0 0,([]:List Int))) S.length (fun k=>((k:Int),z3l S.length (fun i=>((za1 (z2x d m n S) S.length i:Nat):Int)) 0 k,toI (z1h (z2x d m n S) k))) rfl (by simp only[LFm];omega) (fun i hi=> ?_) ?_
 · have hF:=z6d (z2x d m n S) i
   have hFl:=zc6 (z2x d m n S) i
   have hap:=zb3 he i (by omega)
   have hcl:=zzn he hi
   simp only[z3t]
   rw[ed,if_pos (by rw[z0b];omega),zb5 hi,Z0,z0b,Z2]
   generalize hL:z3l S.length (fun i=>((za1 (z2x d m n S) S.length i:Nat):Int)) 0 i=L at*
   have hLl:L.length=S.length:=by rw[←hL,zfu]
   have hstep:∀c,c<(z1h (z2x d m n S) i).length->(z2x d m n S i ((z1h (z2x d m n S) i).getD c 0)=true↔(z1h (z2x d m n S) i).findIdx (z2x d m n S i)=c):=fun c hc=>by
    constructor
    · intro h
      have hex:(z1h (z2x d m n S) i).findIdx (z2x d m n S i)<(z1h (z2x d m n S) i).length:=Yz ⟨_,z0i hc,h⟩
      have hp:z2x d m n S i ((z1h (z2x d m n S) i).getD ((z1h (z2x d m n S) i).findIdx (z2x d m n S i)) 0)=true:=by
       rw[List.getD,Z1 hex,Z4]
       exact X5 (w:=hex)
      exact zjH he hap (fun f hf=>by have:=hFl f hf;omega) hi hex hc hp h
    · intro h
      have hex:(z1h (z2x d m n S) i).findIdx (z2x d m n S i)<(z1h (z2x d m n S) i).length:=by omega
      have hp:z2x d m n S i ((z1h (z2x d m n S) i)[(z1h (z2x d m n S) i).findIdx (z2x d m n S i)])=true:=X5 (w:=hex)
      rw[←h,List.getD,Z1 hex,Z4]
      exact hp
   refine z0q (s:=((0:Int),L.set i (((z1h (z2x d m n S) i).length:Nat):Int))) (z1h (z2x d m n S) i).length (fun c=>((c:Int),L.set i (((if(z1h (z2x d m n S) i).findIdx (z2x d m n S i)<c then(z1h (z2x d m n S) i).findIdx (z2x d m n S i) else(z1h (z2x d m n S) i).length:Nat)):Int))) (by simp) (by simp only[LFm];omega) (fun c hc=> ?_) ?_
   · have hf:=hFl _ (z0i hc)
     simp only[z3s]
     rw[eb,if_pos (by rw[z0b];omega),z1q hc,Z0,zpI hi,Z0,z2K (by omega),Z0,z0H (by omega)]
     by_cases h1:z6Y d m n S i ((z1h (z2x d m n S) i).getD c 0)=true
     · rw[if_pos h1,zpI (by omega),Z0,z2K hi,Z0]
       by_cases h2:z6Y d m n S ((z1h (z2x d m n S) i).getD c 0) i=true
       · have:=(hstep c hc).1 ((Z6 _ _).mpr ⟨h1,h2⟩)
         rw[if_pos h2,zos (by omega),Z0,Z2,zmV,this,if_pos (by omega)]
       · have:¬(z1h (z2x d m n S) i).findIdx (z2x d m n S i)=c:=fun h=>by
          have:=(hstep c hc).2 h
          simp only[z2x,Z6] at this
          exact h2 this.2
         rw[if_neg h2]
         congr 3
         by_cases h3:(z1h (z2x d m n S) i).findIdx (z2x d m n S i)<c
         · rw[if_pos h3,if_pos (by omega)]
         · rw[if_neg h3,if_neg (by omega)]
     · have:¬(z1h (z2x d m n S) i).findIdx (z2x d m n S i)=c:=fun h=>by
        have:=(hstep c hc).2 h
        simp only[z2x,Z6] at this
        exact h1 this.1
       rw[if_neg h1]
       congr 3
       by_cases h3:(z1h (z2x d m n S) i).findIdx (z2x d m n S i)<c
       · rw[if_pos h3,if_pos (by omega)]
       · rw[if_neg h3,if_neg (by omega)]
   · have hle:(z1h (z2x d m n S) i).findIdx (z2x d m n S i)<=(z1h (z2x d m n S) i).length:=List.findIdx_le_length
     have hv:(if(z1h (z2x d m n S) i).findIdx (z2x d m n S i)<(z1h (z2x d m n S) i).length then(z1h (z2x d m n S) i).findIdx (z2x d m n S i) else(z1h (z2x d m n S) i).length)=(z1h (z2x d m n S) i).findIdx (z2x d m n S i):=by split<;>omega
     have hset:L.set i ((za1 (z2x d m n S) S.length i:Nat):Int)=z3l S.length (fun i=>((za1 (z2x d m n S) S.length i:Nat):Int)) 0 (i+1):=by
      rw[←hL];exact z8B (f:=fun i=>((za1 (z2x d m n S) S.length i:Nat):Int)) (z:=0) hi
     simp only[z3s]
     rw[if_neg (by rw[z0b];omega),hv,zos (by omega),Z0,hcl,hset,z0H (by omega),z0b,z1h]
     by_cases h:(z1h (z2x d m n S) i).any (z2x d m n S i)=true
     · obtain⟨x,hx,hpx⟩:=Yn.1 h
       have:=Yz ⟨x,hx,hpx⟩
       rw[if_pos h,if_neg (by omega)]
     · have e2:(z1h (z2x d m n S) i).findIdx (z2x d m n S i)=(z1h (z2x d m n S) i).length:=List.findIdx_eq_length.2 fun x hx=>by
        cases hh:z2x d m n S i x with
        |false=>rfl
        |true=>exact absurd (Yn.2 ⟨x,hx,hh⟩) h
       rw[if_neg h,if_pos (by omega),z0e _ (by unfold z1n;omega),z5O]
 · simp only[z3t]
   rw[ed,if_neg (by rw[z0b];omega),zdv]
   rfl
end
section
open Go
def z9j(g:Nat->Nat):Nat->Nat
 |0=>0
 |k+1=>max (z9j g k) (g k)
theorem zoL{g:Nat->Nat}{k j:Nat}(h:j<k):g j<=z9j g k:=by
 induction k with
 |zero=>omega
 |succ k ih=>
  simp only[z9j]
  by_cases e:j=k
  · subst e;omega
  · have:=ih (by omega);omega
theorem zcs{g:Nat->Nat}{k b:Nat}(h:∀j,j<k->g j<=b):z9j g k<=b:=by
 induction k with
 |zero=>simp[z9j]
 |succ k ih=>
  have:=ih fun j hj=>h j (by omega)
  have:=h k (by omega)
  simp only[z9j];omega
theorem zng{g g':Nat->Nat}{k:Nat}(h:∀j,j<k->g j=g' j):z9j g k=z9j g' k:=by
 induction k with
 |zero=>rfl
 |succ k ih=>simp only[z9j];rw[ih fun j hj=>h j (by omega),h k (by omega)]
def z6G(p:Nat->Bool):Nat->Nat
 |0=>0
 |k+1=>z6G p k+(if p k=true then 1 else 0)
theorem zpr(p:Nat->Bool)(k:Nat):z6G p k<=k:=by
 induction k with
 |zero=>simp[z6G]
 |succ k ih=>simp only[z6G];split<;>omega
theorem zpq{p q:Nat->Bool}{k:Nat}(h:∀j,j<k->p j=true->q j=true):z6G p k<=z6G q k:=by
 induction k with
 |zero=>simp[z6G]
 |succ k ih=>
  have:=ih fun j hj=>h j (by omega)
  have:=h k (by omega)
  simp only[z6G]
  by_cases h1:p k=true
  · grind
  · rw[if_neg h1];split<;>omega
theorem ziR{p q:Nat->Bool}{k i:Nat}(h:∀j,j<k->p j=true->q j=true)(hi:i<k)(hp:p i=false)(hq:q i=true):z6G p k<z6G q k:=by
 induction k with
 |zero=>omega
 |succ k ih=>
  simp only[z6G]
  by_cases e:i=k
  · subst e
    have:=zpq (p:=p) (q:=q) (k:=i) fun j hj=>h j (by omega)
    rw[hp,hq];simp;omega
  · grind
structure BelN(N:Nat)(b:Nat->Nat->Bool):Prop where
 refl:∀i,i<N->b i i=true
 trans:∀i j k,i<N->j<N->k<N->b i j=true->b j k=true->b i k=true
variable{d:DFA}{S:List Nat}{N i m n:Nat}{b:Nat->Nat->Bool}
def zjq(N:Nat)(b:Nat->Nat->Bool)(i:Nat):Nat:=z6G (fun j=>b j i) N
def sbN(b:Nat->Nat->Bool)(j i:Nat):Bool:=b j i&& !b i j
theorem zuN(hb:BelN N b){j:Nat}(hi:i<N)(hj:j<N)(h:sbN b j i=true):zjq N b j<zjq N b i:=by
 simp only[sbN,Z6,ZX] at h
 exact ziR (fun k hk hkj=>hb.trans k j i hk hj hi hkj h.1) hi h.2 (hb.refl i hi)
def zFZ(N:Nat)(b:Nat->Nat->Bool)(z:Nat->Bool)(h:Nat->Nat):Prop:=∀i,i<N->h i=if z i=true then 0 else z9j (fun j=>if sbN b j i=true then h j+1 else 0) N
def zxN(N:Nat)(b:Nat->Nat->Bool)(z:Nat->Bool):Nat->Nat->Nat
 |0,_=>0
 |f+1,i=>if z i=true then 0 else z9j (fun j=>if sbN b j i=true then zxN N b z f j+1 else 0) N
def znv(N:Nat)(b:Nat->Nat->Bool)(z:Nat->Bool)(i:Nat):Nat:=zxN N b z N i
theorem ziL{N:Nat}{b:Nat->Nat->Bool}(hb:BelN N b)(z:Nat->Bool):∀f i,i<N->zjq N b i<=f->∀g,zjq N b i<=g->zxN N b z f i=zxN N b z g i
 |0,i,hi,hl,g,hg=>by
  exfalso
  have:=ziR (p:=fun _=>false) (q:=fun j=>b j i) (k:=N) (i:=i) (fun j _ hf=>by simp at hf) hi rfl (hb.refl i hi)
  unfold zjq at hl;omega
 |f+1,i,hi,hl,0,hg=>by
  exfalso
  have:=ziR (p:=fun _=>false) (q:=fun j=>b j i) (k:=N) (i:=i) (fun j _ hf=>by simp at hf) hi rfl (hb.refl i hi)
  unfold zjq at hg;omega
 |f+1,i,hi,hl,g+1,hg=>by
  simp only[zxN]
  split
  · rfl
  · refine zng fun j hj=> ?_
    by_cases hs:sbN b j i=true
    · have:=zuN hb hi hj hs
      rw[if_pos hs,if_pos hs,ziL hb z f j hj (by omega) g (by omega)]
    · rw[if_neg hs,if_neg hs]
theorem zh5(hb:BelN N b)(z:Nat->Bool):zFZ N b z (znv N b z):=fun i hi=>by
 have hl:zjq N b i<=N:=zpr _ _
 unfold znv
 rw[ziL hb z N i hi hl (N+1) (by omega)]
 rfl
theorem zze(hb:BelN N b)(z:Nat->Bool)(hi:i<N):znv N b z i<=N:=by
 have:∀L i,i<N->zjq N b i<=L->znv N b z i<=L:=by
  intro L
  induction L with
  |zero=>
   intro i hi hl
   exfalso
   have:=ziR (p:=fun _=>false) (q:=fun j=>b j i) (k:=N) (i:=i) (fun j _ hf=>by simp at hf) hi rfl (hb.refl i hi)
   unfold zjq at hl;omega
  |succ L ih=>
   intro i hi hl
   rw[zh5 hb z i hi]
   split
   · omega
   · refine zcs fun j hj=> ?_
     by_cases hs:sbN b j i=true
     · have:=zuN hb hi hj hs
       have:=ih j hj (by omega)
       rw[if_pos hs];omega
     · rw[if_neg hs];omega
 exact this N i hi (zpr _ _)
theorem zhA(hd:DfaOk d m n)(hS:SetsP d m n S):BelN S.length (z6Y d m n S) where
 refl i hi:=(z4k hd hS hi).2 (zdH d m _)
 trans i j k hi hj hk h1 h2:=(z4k hd hS hk).2 (zdG hd ((z4k hd hS hj).1 h1) ((z4k hd hS hk).1 h2))
theorem zsN{s:Nat}(h:s<128):z7G (s:Int)=some ((szN s:Nat):Int):=by
 unfold z7G z5u
 rw[zEQ (by omega)]
 have:z3z (s:Int)=some ((szN s:Nat):Int):=by
  unfold z3z
  rw[z0e _ (by omega),z0e _ (by omega),z0e _ (by omega),z0e _ (by omega),z0e _ (by omega),z0e _ (by omega)]
  congr 1
  revert s
  decide+kernel
 rw[this];rfl
def zaA(S:List Nat)(i:Nat):Bool:=decide (szN (S.getD i 0)=1)
def z8e(d:DFA)(m n:Nat)(S:List Nat)(i:Nat):Nat:=znv S.length (z6Y d m n S) (zaA S) i
def zFz(d:DFA)(m n:Nat)(S:List Nat):List Int:=(List.range S.length).map fun i=>((z8e d m n S i:Nat):Int)
theorem zsj(N:Nat):toI (List.range N)=(List.range N).map fun i=>((i:Nat):Int):=rfl
theorem zr4(hl:S.length<4611686018427387904)(hi:i<S.length)(C O:List Int)(L:List Int)(hL:L.length=S.length)(h0:L.getD i 0=0):
 z0h (z2v (dgm d m n S) (i:Int) O) LFm (0,L)=z0c (((i+1:Nat):Int),L.set i ((zjq S.length (z6Y d m n S) i:Nat):Int),O.set i (i:Int)):=by
 refine z0q (s:=((0:Int),L)) S.length (fun k=>((k:Int),L.set i ((z6G (fun j=>z6Y d m n S j i) k:Nat):Int))) ?_ (by simp only[LFm];omega) (fun k hk=> ?_) ?_
 · refine XS rfl ?_
   show L=L.set i 0
   apply Zf (by simp)
   intro j h1 h2
   rw[Ye]
   by_cases e:i=j
   · grind
   · rw[if_neg e]
 · have hc:=zpr (fun j=>z6Y d m n S j i) k
   have ed:(dgm d m n S).sets=toI S:=rfl
   have eb:(dgm d m n S).below=zyo d m n S:=rfl
   simp only[z2v]
   rw[ed,eb,if_pos (by rw[z0b];omega),zpI hk,Z0,z2K hi,Z0,z0H (by omega)]
   simp only[z6G]
   by_cases h:z6Y d m n S k i=true
   · rw[if_pos h,if_pos h,zos (by omega),Z0,Z2,zmV,z0H (by omega)]
   · rw[if_neg h,if_neg h];rfl
 · have ed:(dgm d m n S).sets=toI S:=rfl
   simp only[z2v]
   rw[ed,if_neg (by rw[z0b];omega),z0H (by omega),Z2]
   rfl
theorem zv7(hd:DfaOk d m n)(hS:SetsP d m n S)(hl:S.length<100000)(k:Int)(hi:i<S.length){H:Nat->Nat}(h0:H i=0)(hlow:∀j,j<S.length->sbN (z6Y d m n S) j i=true->H j=z8e d m n S j):
 z0h (z2q (dgm d m n S) (zvL d m n S) k (i:Int)) LFm (0,(List.range S.length).map fun j=>((H j:Nat):Int))=z0c (IntKind.i64.wrap (k+1),(List.range S.length).map fun j=>(((if j=i then z9j (fun j=>if sbN (z6Y d m n S) j i=true then z8e d m n S j+1 else 0) S.length else H j):Nat):Int)):=by
 have he:=z9t hd hS
 have hb:=zhA hd hS
 have ed:(dgm d m n S).sets=toI S:=rfl
 have eb:(dgm d m n S).below=zyo d m n S:=rfl
 refine z0q (s:=((0:Int),(List.range S.length).map fun j=>((H j:Nat):Int))) S.length (fun q=>((q:Int),(List.range S.length).map fun j=>(((if j=i then z9j (fun j=>if sbN (z6Y d m n S) j i=true then z8e d m n S j+1 else 0) q else H j):Nat):Int))) ?_ (by simp only[LFm];omega) (fun q hq=> ?_) ?_
 · refine XS rfl ?_
   refine ZA fun j hj=> ?_
   by_cases e:j=i
   · subst e;simp[z9j,h0]
   · rw[if_neg e]
 · have hle:=zze hb (zaA S) hq
   have hmx:z9j (fun j=>if sbN (z6Y d m n S) j i=true then z8e d m n S j+1 else 0) q<=S.length+1:=zcs fun j hj=>by
    have:=zze hb (zaA S) (i:=j) (by omega)
    unfold z8e;split<;>omega
   have hse:z6Y d m n S q i=true->(sbN (z6Y d m n S) q i=true↔ ¬za1 (z2x d m n S) S.length q=za1 (z2x d m n S) S.length i):=fun h=>by
    rw[zvK he hq hi]
    simp only[sbN,z2x,h,YJ,ZX,XK]
   have hfin:∀v:Nat,v=(if sbN (z6Y d m n S) q i=true then max (z9j (fun j=>if sbN (z6Y d m n S) j i=true then z8e d m n S j+1 else 0) q) (z8e d m n S q+1) else z9j (fun j=>if sbN (z6Y d m n S) j i=true then z8e d m n S j+1 else 0) q)->((List.range S.length).map fun j=>(((if j=i then v else H j):Nat):Int))=(List.range S.length).map fun j=>(((if j=i then z9j (fun j=>if sbN (z6Y d m n S) j i=true then z8e d m n S j+1 else 0) (q+1) else H j):Nat):Int):=fun v hv=>by
    refine ZA fun j hj=> ?_
    by_cases e:j=i
    · rw[if_pos e,if_pos e,hv]
      simp only[z9j]
      by_cases h:sbN (z6Y d m n S) q i=true
      · rw[if_pos h,if_pos h]
      · grind
    · rw[if_neg e,if_neg e]
   simp only[z2q]
   rw[ed,eb,if_pos (by rw[z0b];omega),zpI hq,Z0,z2K hi,Z0,z0H (by omega)]
   by_cases h:z6Y d m n S q i=true
   · rw[if_pos h,zvL,z2K hq,Z0,z2K hi,Z0]
     by_cases hc:za1 (z2x d m n S) S.length q=za1 (z2x d m n S) S.length i
     · grind
     · have hs:=(hse h).2 hc
       have hqi:q≠i:=fun e=>by subst e;exact hc rfl
       rw[if_neg (by omega),z2K hi,Z0,z2K hq,Z0,if_pos rfl,if_neg hqi,hlow q hq hs,z0H (by unfold z8e;omega),Z2]
       have hset:∀v:Nat,((List.range S.length).map fun j=>(((if j=i then z9j (fun j=>if sbN (z6Y d m n S) j i=true then z8e d m n S j+1 else 0) q else H j):Nat):Int)).set i (v:Int)=(List.range S.length).map fun j=>(((if j=i then v else H j):Nat):Int):=fun v=>by
        apply Zf (by simp)
        intro j h1 h2
        simp only[Ye,Zw,ZJ]
        by_cases e:i=j
        · grind
        · grind
       by_cases hlt:((z9j (fun j=>if sbN (z6Y d m n S) j i=true then z8e d m n S j+1 else 0) q:Nat):Int)<((z8e d m n S q+1:Nat):Int)
       · rw[if_pos hlt,hset,hfin _ (by rw[if_pos hs];omega)]
       · rw[if_neg hlt,hset,hfin _ (by rw[if_pos hs];omega)]
   · have hs:¬sbN (z6Y d m n S) q i=true:=fun hh=>by simp only[sbN,Z6] at hh;exact h hh.1
     rw[if_neg h,hfin _ (by rw[if_neg hs])]
 · simp only[z2q]
   rw[ed,if_neg (by rw[z0b];omega)]
theorem zrm(hd:DfaOk d m n)(hn:n<=7)(hS:SetsP d m n S):z3e (dgm d m n S) (zvL d m n S)=some (zFz d m n S):=by
 have h128:2^n<=128:=Zl (n:=2) (by omega) hn
 have hSl:=z1C hS.nd hS.lt
 have hb:=zhA hd hS
 have he:=z9t hd hS
 have ed:(dgm d m n S).sets=toI S:=rfl
 unfold z3e
 rw[ed,z0b,z0e _ (by unfold z0D;omega),Z2]
 have f1:List.replicate S.length (0:Int)=z3l S.length (fun i=>((zjq S.length (z6Y d m n S) i:Nat):Int)) 0 0:=(zdw _ _ _).symm
 have f2:(List.replicate S.length (0:Int))=z3l S.length (fun i=>((i:Nat):Int)) 0 0:=(zdw _ _ _).symm
 conv=>lhs;arg 3;rw[show((0:Int),List.replicate S.length (0:Int),List.replicate S.length (0:Int))=((0:Int),z3l S.length (fun i=>((zjq S.length (z6Y d m n S) i:Nat):Int)) 0 0,z3l S.length (fun i=>((i:Nat):Int)) 0 0) by rw[←f1,←f2]]
 refine z0q (s:=((0:Int),z3l S.length (fun i=>((zjq S.length (z6Y d m n S) i:Nat):Int)) 0 0,z3l S.length (fun i=>((i:Nat):Int)) 0 0)) S.length (fun k=>((k:Int),z3l S.length (fun i=>((zjq S.length (z6Y d m n S) i:Nat):Int)) 0 k,z3l S.length (fun i=>((i:Nat):Int)) 0 k)) rfl (by simp only[LFm];omega) (fun i hi=> ?_) ?_
 · simp only[z3r]
   rw[ed,if_pos (by rw[z0b];omega),zb5 hi,Z0,zr4 (by omega) hi [] _ _ (zfu _ _ _ _) (by simp[z3l,List.getD,hi])]
   have e1:=z8B (f:=fun i=>((zjq S.length (z6Y d m n S) i:Nat):Int)) (z:=0) hi
   have e2:=z8B (f:=fun i=>((i:Nat):Int)) (z:=0) hi
   rw[e1,e2]
 · simp only[z3r]
   rw[ed,if_neg (by rw[z0b];omega),zdv,zdv]
   have hK:((List.range S.length).map fun i=>((zjq S.length (z6Y d m n S) i:Nat):Int)).length=S.length:=by simp
   have hv:zGV ((List.range S.length).map fun i=>((zjq S.length (z6Y d m n S) i:Nat):Int)) (toI (List.range S.length)):=fun x hx=>by
    simp only[toI,Zh,Zj] at hx
    obtain⟨i,hi,rfl⟩:=hx
    exact⟨by omega,by rw[hK];omega⟩
   obtain⟨O,hO,hs,hp⟩:=zsD hv (by rw[z0b,ZD];omega)
   rw[←zsj,hO,Z0,z0b,z0e _ (by unfold z0D;omega),Z2]
   have hOl:O.length=S.length:=by rw[hp.length_eq,z0b,ZD]
   have hOn:O.Nodup:=hp.nodup_iff.2 (by
    unfold toI
    exact YA _ (fun a b h e=>h (by omega)) YK)
   have hmem:∀x,x∈O↔ ∃i,i<S.length/\x=(i:Int):=fun x=>by
    rw[hp.mem_iff];simp only[toI,Zh,Zj]
    constructor
    · grind
    · grind
   have hkv:∀i,i<S.length->kv ((List.range S.length).map fun i=>((zjq S.length (z6Y d m n S) i:Nat):Int)) (i:Int)=((zjq S.length (z6Y d m n S) i:Nat):Int):=fun i hi=>by
    simp[kv,List.getD,hi]
   congr 1
   have f3:List.replicate S.length (0:Int)=(List.range S.length).map fun(j:Nat)=>(((if(j:Int)∈O.take 0 then z8e d m n S j else 0):Nat):Int):=by
    apply Zf (by simp);intro i h1 h2;simp
   rw[f3]
   refine z0q (s:=((0:Int),(List.range S.length).map fun(j:Nat)=>(((if(j:Int)∈O.take 0 then z8e d m n S j else 0):Nat):Int))) S.length (fun k=>((k:Int),(List.range S.length).map fun(j:Nat)=>(((if(j:Int)∈O.take k then z8e d m n S j else 0):Nat):Int))) rfl (by simp only[LFm];omega) (fun k hk=> ?_) ?_
   · have hkO:k<O.length:=by omega
     obtain⟨i,hi,hOk⟩:=(hmem O[k]).1 (Zm hkO)
     have hnot:(i:Int)∉O.take k:=fun h=>by
      obtain⟨j,hj,hji⟩:=Zn h
      rw[Zp] at hj
      rw[XE,←hOk] at hji
      have:=(List.getElem_inj hOn).1 hji
      omega
     have htake:∀j:Nat,(j:Int)∈O.take (k+1)↔(j=i∨(j:Int)∈O.take k):=fun j=>by
      rw[ZB hkO,Ze,Zi,hOk]
      constructor
      · grind
      · grind
     have hupd:((List.range S.length).map fun(j:Nat)=>(((if j=i then z8e d m n S i else if(j:Int)∈O.take k then z8e d m n S j else 0):Nat):Int))=(List.range S.length).map fun(j:Nat)=>(((if(j:Int)∈O.take (k+1) then z8e d m n S j else 0):Nat):Int):=by
      refine ZA fun j hj=> ?_
      by_cases e:j=i
      · grind
      · grind
     have hlt128:S.getD i 0<2^n:=hS.lt _ (z0i hi)
     simp only[z2X]
     rw[if_pos (by omega),z0Q hkO,Z0,hOk,ed,z1q hi,Z0,zsN (by omega),Z0]
     have hok:=zh5 hb (zaA S) i hi
     by_cases hz:szN (S.getD i 0)=1
     · rw[if_pos (by omega),z0H (by omega)]
       have hh:z8e d m n S i=0:=by
        unfold z8e;rw[hok,if_pos (by simp only[zaA,hz,decide_true])]
       refine congrArg z0c (XS rfl ?_)
       refine ZA fun j hj=> ?_
       by_cases e:j=i
       · grind
       · grind
     · rw[if_neg (by omega),zv7 hd hS (by omega) (k:Int) hi (H:=fun(j:Nat)=>if(j:Int)∈O.take k then z8e d m n S j else 0) (if_neg hnot) (fun j hj hsb=> ?_),z0H (by omega)]
       · have hh:z9j (fun j=>if sbN (z6Y d m n S) j i=true then z8e d m n S j+1 else 0) S.length=z8e d m n S i:=by
          have:z8e d m n S i=_:=hok
          rw[this,if_neg (by simp only[zaA,hz,decide_false];simp)];rfl
         rw[hh,hupd]
       · have hl:=zuN hb hi hj hsb
         have hjO:(j:Int)∈O:=(hmem _).2 ⟨j,hj,rfl⟩
         obtain⟨p,hpO,hpj⟩:=Zn hjO
         refine if_pos ?_
         rcases Xi p k with h|h|h
         · rw[←hpj]
           exact List.mem_take_iff_getElem.2 ⟨p,by omega,rfl⟩
         · grind
         · have:=ZG.1 hs k p hkO hpO h
           rw[hOk,hpj,hkv i hi,hkv j hj] at this
           omega
   · simp only[z2X]
     rw[if_neg (by omega)]
     congr 2
     unfold zFz
     refine ZA fun j hj=> ?_
     rw[Ym (by omega),if_pos ((hmem _).2 ⟨j,Zj.1 hj,rfl⟩)]
end
section
open Go
variable{d:DFA}{S:List Nat}{c i m n:Nat}{α:Type}
def zxI(S:List Nat)(i j:Nat):Bool:= !decide (j=i)&&decide (S.getD j 0&&&S.getD i 0=S.getD j 0)
def zaJ(S:List Nat)(i:Nat):List Nat:=(List.range S.length).filter (zxI S i)
def zqq(S:List Nat)(i j:Nat):Bool:=(zaJ S i).all fun k=>decide (k=j)|| !decide (S.getD j 0&&&S.getD k 0=S.getD j 0)
def z6Z(S:List Nat)(i:Nat):List Nat:=if szN (S.getD i 0)=1 then [] else(zaJ S i).filter (zqq S i)
theorem zhk{p:α->Bool}{l:List α}{k:Nat}(h:k<l.length):(l.take (k+1)).filter p=(l.take k).filter p++(if p l[k]=true then [l[k]] else []):=by
 rw[ZB h,XB,Xa,XP]
theorem zdp{j:Nat}(h:j∈zaJ S i):j<S.length:=Zj.1 (ZV.1 h).1
theorem zex(p:α->Bool)(l:List α):(l.filter p).length<=l.length:=ZL p l
theorem zwE(hn:n<=7)(hS:SetsP d m n S)(hi:i<S.length):z3X (dgm d m n S) (i:Int)=some (toI (z6Z S i)):=by
 have h128:2^n<=128:=Zl (n:=2) (by omega) hn
 have hSl:=z1C hS.nd hS.lt
 have ed:(dgm d m n S).sets=toI S:=rfl
 have lt62:∀j,j<S.length->S.getD j 0<2^62:=fun j hj=>by have:=hS.lt _ (z0i hj);omega
 have hil:=hS.lt _ (z0i hi)
 unfold z3X z6Z
 rw[ed,z1q hi,Z0,zsN (by omega),Z0]
 by_cases hz:szN (S.getD i 0)=1
 · rw[if_pos (by omega),if_pos hz];rfl
 rw[if_neg (by omega),if_neg hz]
 have hrl:(List.range S.length).length=S.length:=ZD
 refine z0q (s:=((0:Int),([]:List Int))) S.length (fun j=>((j:Int),toI (((List.range S.length).take j).filter (zxI S i)))) rfl (by simp only[LFm];omega) (fun j hj=> ?_) ?_
 · have hfl:(((List.range S.length).take j).filter (zxI S i)).length<=j:=ZR (zex _ _) (by rw[Zp];omega)
   have hst:=zhk (p:=zxI S i) (l:=List.range S.length) (k:=j) (by omega)
   rw[ZJ] at hst
   simp only[z4d]
   rw[ed,if_pos (by rw[z0b];omega),z1q hj,Z0,z0H (by omega),hst]
   by_cases e:j=i
   · have:zxI S i j=false:=by unfold zxI;rw[decide_eq_true e];rfl
     rw[if_pos (by omega),this,if_neg (by simp),Yc]
   · rw[if_neg (by omega),z1q hi,Z0,zcC (lt62 i hi) (lt62 j hj),Z0]
     have:zxI S i j=decide (S.getD j 0&&&S.getD i 0=S.getD j 0):=by unfold zxI;rw[decide_eq_false e];rfl
     rw[this]
     by_cases h:decide (S.getD j 0&&&S.getD i 0=S.getD j 0)=true
     · rw[if_pos h,if_pos h,z0e _ (by unfold z1n;rw[z0b];omega),z5O]
     · grind
 · simp only[z4d]
   rw[ed,if_neg (by rw[z0b];omega),Ym (by omega)]
   congr 1
   have hil:(zaJ S i).length<=S.length:=ZR (zex _ _) (by omega)
   show z0h (z2B (dgm d m n S) (toI (zaJ S i))) LFm (0,[])=_
   refine z0q (s:=((0:Int),([]:List Int))) (zaJ S i).length (fun q=>((q:Int),toI (((zaJ S i).take q).filter (zqq S i)))) rfl (by simp only[LFm];omega) (fun q hq=> ?_) ?_
   · have hfl:(((zaJ S i).take q).filter (zqq S i)).length<=q:=ZR (zex _ _) (by rw[Zp];omega)
     have hst:=zhk (p:=zqq S i) (l:=zaJ S i) (k:=q) hq
     have hg:(zaJ S i).getD q 0=(zaJ S i)[q]:=by grind
     have hjl:(zaJ S i)[q]<S.length:=zdp (Zm hq)
     simp only[z2B]
     rw[if_pos (by rw[z0b];omega),z1q hq,Z0,hg,hst]
     generalize (zaJ S i)[q]=j at hjl
     rw[z5C (s:=(0:Int)) (zaJ S i).length (fun k=>(k:Int)) (fun k=> !(decide ((zaJ S i).getD k 0=j)|| !decide (S.getD j 0&&&S.getD ((zaJ S i).getD k 0) 0=S.getD j 0))) (fun _=>z0c (((q+1:Nat):Int),toI (((zaJ S i).take q).filter (zqq S i)))) (x:=z0c (((q+1:Nat):Int),toI (((zaJ S i).take q).filter (zqq S i))++ [(j:Int)])) rfl (by simp only[LFm];omega)]
     · rw[zdu]
       simp only[Xy]
       rw[zgz (fun k=>decide (k=j)|| !decide (S.getD j 0&&&S.getD k 0=S.getD j 0))]
       show(if zqq S i j=true then _ else _)=_
       by_cases h:zqq S i j=true
       · rw[if_pos h,if_pos h,z5O]
       · grind
     · intro k hk
       have hkl:(zaJ S i).getD k 0<S.length:=zdp (z0i hk)
       simp only[z3G]
       rw[if_pos (by rw[z0b];omega),z1q hk,Z0]
       by_cases e:(zaJ S i).getD k 0=j
       · rw[if_pos (by omega),decide_eq_true e,z0H (by omega)];rfl
       · rw[if_neg (by omega),decide_eq_false e,ed,z1q hkl,Z0,z1q hjl,Z0,zcC (lt62 _ hkl) (lt62 _ hjl),Z0,Xu,Xy,z0H (by omega),z0H (by omega)]
     · simp only[z3G]
       rw[if_neg (by rw[z0b];omega),z0e _ (by unfold z1n;rw[z0b];omega),z0H (by omega)]
   · simp only[z2B]
     rw[if_neg (by rw[z0b];omega),Yd]
def z6e(d:DFA)(m n:Nat)(S:List Nat)(i:Nat):Nat:=(z6W d m n S).getD (za1 (z2x d m n S) S.length i) 0
def zeZ(d:DFA)(m n:Nat)(S:List Nat)(i:Nat):ByteArray:=z8O (z1E d m n (S.getD (z6e d m n S i) 0)) (S.getD i 0)
def zw4(d:DFA)(m n:Nat)(S:List Nat)(i:Nat):ByteArray:=z8O (z1E d m n (S.getD i 0)) (S.getD (z6e d m n S i) 0)
def z3W(d:DFA)(m n:Nat)(S:List Nat):Imgs:=⟨toI S,zvL d m n S,zFz d m n S,(List.range S.length).map fun i=>toI (z6Z S i),(List.range S.length).map (zeZ d m n S),(List.range S.length).map (zw4 d m n S)⟩
theorem znx(hc:c<(z6W d m n S).length):(z6W d m n S).getD c 0<S.length:=zc6 _ _ _ (z0i hc)
theorem zmA(hd:DfaOk d m n)(hS:SetsP d m n S)(hSl:S.length<100000)(hc:c<(z6W d m n S).length)(q:List Int):
 z0h (z7l (toI S) (zvL d m n S,toI (z6W d m n S)) (c:Int) (q,zkm S (z1E d m n (S.getD ((z6W d m n S).getD c 0) 0)))) LFm (0,(List.range S.length).map fun j=>if za1 (z2x d m n S) S.length j<c then zeZ d m n S j else ByteArray.empty)=
  z0c (((c+1:Nat):Int),(List.range S.length).map fun j=>if za1 (z2x d m n S) S.length j<c+1 then zeZ d m n S j else ByteArray.empty):=by
 have hcl:(z6W d m n S).length<=S.length:=z6d _ _
 refine z0q (s:=((0:Int),(List.range S.length).map fun j=>if za1 (z2x d m n S) S.length j<c then zeZ d m n S j else ByteArray.empty)) S.length (fun k=>((k:Int),(List.range S.length).map fun j=>if za1 (z2x d m n S) S.length j<c∨(za1 (z2x d m n S) S.length j=c/\j<k) then zeZ d m n S j else ByteArray.empty)) ?_ (by simp only[LFm];omega) (fun k hk=> ?_) ?_
 · grind
 · simp only[z7l]
   rw[if_pos (by rw[z0b];omega),zvL,z2K hk,Z0,z0H (by omega)]
   by_cases h:za1 (z2x d m n S) S.length k=c
   · have hw:z8O (z1E d m n (S.getD ((z6W d m n S).getD c 0) 0)) (S.getD k 0)=zeZ d m n S k:=by unfold zeZ z6e;rw[h]
     rw[if_pos (by omega),zkm,z2K hk,Z0,hw,z2K hk,Z0,Z2]
     refine congrArg z0c (XS rfl ?_)
     apply Zf (by simp)
     intro j h1 h2
     simp only[Ye,Zw,ZJ]
     by_cases e:k=j
     · grind
     · grind
   · grind
 · simp only[z7l]
   rw[if_neg (by rw[z0b];omega),z0H (by omega)]
   congr 3
   refine ZA fun j hj=> ?_
   have hj:=Zj.1 hj
   congr 1
   refine propext ⟨fun hh=> ?_,fun hh=> ?_⟩
   · rcases hh with hh|hh<;>omega
   · grind
theorem zEn(hd:DfaOk d m n)(hn:n<=7):z9b d=some (z3W d m n (z2a d m n),0):=by
 have h128:2^n<=128:=Zl (n:=2) (by omega) hn
 have hS:=z8j hd
 have hSl:=z1C hS.nd hS.lt
 have he:=z9t hd hS
 unfold z9b
 rw[zmC (zzl hd (by omega)),zCL hd (by omega),Z0,if_pos rfl,zAG hd hn,Z0]
 generalize z2a d m n=S at hS hSl he
 have hcl:(z6W d m n S).length<=S.length:=z6d _ _
 rw[if_neg (by rw[z0b];omega),zrz hd (by omega) hS,Z0,zrF hd (by omega) hS,Z0]
 simp only
 rw[zrm hd hn hS,Z0,z0b,z0e _ (by unfold z0D;omega),z0e _ (by unfold z0D;omega),Z2]
 have f1:List.replicate S.length ([]:List Int)=z3l S.length (fun i=>toI (z6Z S i)) [] 0:=(zdw _ _ _).symm
 have f2:List.replicate S.length (ByteArray.empty:ByteArray)=z3l S.length (zw4 d m n S) ByteArray.empty 0:=(zdw _ _ _).symm
 rw[f1,f2]
 refine z0q (s:=((0:Int),z3l S.length (fun i=>toI (z6Z S i)) [] 0,z3l S.length (zw4 d m n S) ByteArray.empty 0)) S.length (fun k=>((k:Int),z3l S.length (fun i=>toI (z6Z S i)) [] k,z3l S.length (zw4 d m n S) ByteArray.empty k)) rfl (by simp only[LFm];omega) (fun k hk=> ?_) ?_
 · obtain⟨c1,c2⟩:=zcE he hk
   have c1:za1 (z2x d m n S) S.length k<(z6W d m n S).length:=c1
   have hf:(z6W d m n S).getD (za1 (z2x d m n S) S.length k) 0<S.length:=znx c1
   simp only[z8x]
   rw[if_pos (by rw[z0b];omega),zwE hn hS hk,Z0,zb5 hk,Z0,show dgm d m n S=⟨toI S,zBC d m S,zyo d m n S⟩ from rfl,zgo hd (by omega) hS _ hk,Z0,zvL,z2K hk,Z0,z1q c1,Z0,show(zhO S (z1E d m n (S.getD k 0)),zkm S (z1E d m n (S.getD k 0))).2=zkm S (z1E d m n (S.getD k 0)) from rfl,zkm,z2K hf,Z0,zb5 hk,Z0,z0H (by omega),Z2]
   have e1:=z8B (f:=fun i=>toI (z6Z S i)) (z:= []) hk
   have e2:=z8B (f:=zw4 d m n S) (z:=ByteArray.empty) hk
   have e3:z8O (z1E d m n (S.getD k 0)) (S.getD ((z6W d m n S).getD (za1 (z2x d m n S) S.length k) 0) 0)=zw4 d m n S k:=rfl
   rw[e1,e3,e2]
 · simp only[z8x]
   rw[if_neg (by rw[z0b];omega),z0b,zdv,zdv,Z2]
   congr 1
   have f3:List.replicate S.length (ByteArray.empty:ByteArray)=(List.range S.length).map fun j=>if za1 (z2x d m n S) S.length j<0 then zeZ d m n S j else ByteArray.empty:=by
    apply Zf (by simp);intro i h1 h2;simp
   rw[f3]
   refine z0q (s:=((0:Int),(List.range S.length).map fun j=>if za1 (z2x d m n S) S.length j<0 then zeZ d m n S j else ByteArray.empty)) (z6W d m n S).length (fun c=>((c:Int),(List.range S.length).map fun j=>if za1 (z2x d m n S) S.length j<c then zeZ d m n S j else ByteArray.empty)) rfl (by simp only[LFm];omega) (fun c hc=> ?_) ?_
   · have hf:=znx hc
     simp only[z8w]
     rw[if_pos (by rw[z0b];omega),z1q hc,Z0,show dgm d m n S=⟨toI S,zBC d m S,zyo d m n S⟩ from rfl,zgo hd (by omega) hS _ hf,Z0,zmA hd hS (by omega) hc]
   · simp only[z8w]
     rw[if_neg (by rw[z0b];omega)]
     have:((List.range S.length).map fun j=>if za1 (z2x d m n S) S.length j<(z6W d m n S).length then zeZ d m n S j else ByteArray.empty)=(List.range S.length).map (zeZ d m n S):=ZA fun j hj=>if_pos (zcE he (Zj.1 hj)).1
     rw[this];rfl
end
section
open Go
variable{d:DFA}{S:List Nat}{a i j k m n q s x:Nat}
theorem z9N(s:Nat):szN s=z6G (fun q=>s.testBit q) 7:=by
 simp only[szN,z6G,List.range,List.range.loop,List.countP_cons,List.countP_nil]
 omega
theorem zGT(h:s<128)(hq:s.testBit q=true):q<7:=by
 rcases Yy q 7 with h'|h'
 · exact h'
 · have:s.testBit q=false:=YX (Zy h (Zl (n:=2) (by omega) h'))
   rw[this] at hq;cases hq
theorem zgg{b:Nat}(h:z6H a b):szN a<=szN b:=by
 rw[z9N,z9N];exact zpq fun q _ hq=>z2e.1 h q hq
theorem zwH{b:Nat}(hb:b<128)(h:z6H a b)(hne:a≠b):szN a<szN b:=by
 have:∃q,b.testBit q=true/\a.testBit q=false:=by
  refine Y8 fun hn=>hne (zaQ h (z2e.2 fun q hq=> ?_))
  cases ha:a.testBit q with
  |true=>rfl
  |false=>exact absurd ⟨q,hq,ha⟩ hn
 obtain⟨q,h1,h2⟩:=this
 rw[z9N,z9N]
 exact ziR (fun q _ hq=>z2e.1 h q hq) (zGT hb h1) h2 h1
theorem zsq{b:Nat}(hb:b<128)(h:z6H a b)(he:szN b<=szN a):a=b:=by
 refine Y8 fun hne=> ?_
 have:=zwH hb h hne
 omega
theorem zsp{p:Nat}(hx:x<128)(hp:p<7):szN (x|||2^p)<=szN x+1:=by
 revert p;revert x;decide+kernel
theorem zF0{y:Nat}(hx:x<128)(hy:y<128):szN (x|||y)<=szN x+szN y:=by
 rw[z9N,z9N,z9N]
 have:∀k,z6G (fun q=>(x|||y).testBit q) k<=z6G (fun q=>x.testBit q) k+z6G (fun q=>y.testBit q) k:=by
  intro k
  induction k with
  |zero=>simp[z6G]
  |succ k ih=>
   simp only[z6G,YL]
   simp only[YL] at ih
   have:∀a b:Bool,(if(a||b)=true then 1 else 0)<=(if a=true then 1 else 0)+(if b=true then 1 else 0):=by decide
   have:=this (x.testBit k) (y.testBit k)
   omega
 exact this 7
theorem zFs(hd:DfaOk d m n){y:Nat}(ha:a<m):mvN d (x|||y) a=mvN d x a|||mvN d y a:=by
 apply Y0
 intro p
 rw[Yh,YL,Y1,zan hd ha,zan hd ha,zan hd ha]
 constructor
 · grind
 · grind
abbrev zAB(m:Nat)(w:List UInt8):Prop:=∀c∈w,97<=c.toNat/\c.toNat<97+m
theorem znn{c:UInt8}{w:List UInt8}(h:zAB m (c::w)):zAB m w/\c.toNat-97<m:=⟨fun c' hc'=>h c' (Zo _ hc'),by have:=h c (Zz ..);omega⟩
theorem zt0{d:DFA}{m n:Nat}(hd:DfaOk d m n):∀ {w:List UInt8} {x y:Nat},zAB m w->z4D d (x|||y) w=z4D d x w|||z4D d y w
 | [],x,y,_=>rfl
 |c::w,x,y,hw=>by
  obtain⟨h1,h2⟩:=znn hw
  simp only[z4D]
  rw[zFs hd h2,zt0 hd h1]
theorem zFr(hd:DfaOk d m n)(hn:n<=7)(hs:s<2^n)(ha:a<m):szN (mvN d s a)<=szN s:=by
 have h128:2^n<=128:=Zl (n:=2) (by omega) hn
 have key:∀q,q<=n->szN (zjg d.next s a q)<=z6G (fun q=>s.testBit q) q:=by
  intro q
  induction q with
  |zero=>intro _;exact(by decide:szN 0<=0)
  |succ q ih=>
   intro hq
   have hlt:=zgH hd (s:=s) ha q (by omega)
   obtain⟨h1,h2,e,h3,h4⟩:=zak hd (q:=q) (by omega) ha
   simp only[zjg,z6G]
   by_cases hb:s.testBit q=true
   · rw[if_pos hb,if_pos hb]
     have:=zsp (x:=zjg d.next s a q) (p:=((d.next.getD q []).getD a 0).toNat) (by omega) (by rw[e];omega)
     have:=ih (by omega)
     omega
   · grind
 have h1:=key n (Z8 _)
 have h2:z6G (fun q=>s.testBit q) n<=szN s:=by
  rw[z9N]
  have:∀j,z6G (fun q=>s.testBit q) n<=z6G (fun q=>s.testBit q) (n+j):=by
   intro j
   induction j with
   |zero=>exact Z8 _
   |succ j ih=>rw[←Xs];simp only[z6G];omega
  have:=this (7-n)
  rwa [show n+(7-n)=7 by omega] at this
 unfold mvN
 rw[hd.nl]
 omega
theorem zcl{d:DFA}{m n:Nat}(hd:DfaOk d m n)(hn:n<=7):∀ {w:List UInt8} {s:Nat},s<2^n->zAB m w->szN (z4D d s w)<=szN s
 | [],s,_,_=>Z8 _
 |c::w,s,hs,hw=>by
  obtain⟨h1,h2⟩:=znn hw
  simp only[z4D]
  exact ZR (zcl hd hn (zc3 hd h2) h1) (zFr hd hn hs h2)
theorem zCF(hd:DfaOk d m n)(hs:s<2^n)(h0:s≠0)(ha:a<m):mvN d s a≠0:=by
 obtain⟨q,hq⟩:∃q,s.testBit q=true:=YC h0
 have hqn:q<n:=by
  rcases Yy q n with h'|h'
  · exact h'
  · have:s.testBit q=false:=YX (Zy hs (Zl (n:=2) (by omega) h'))
    rw[this] at hq;cases hq
 intro h
 have:=(zan hd ha (s:=s) ((d.next.getD q []).getD a 0).toNat).2 ⟨q,hqn,hq,rfl⟩
 rw[h,Xp] at this
 cases this
theorem zbw(hd:DfaOk d m n)(hx:x∈z2a d m n):x≠0:=by
 have hp:=Yu n
 have h2n:2<=2^n:=by have:=Zl (n:=2) (by omega) hd.n1;omega
 have hf:2^n-1<2^n:=by omega
 have hi:=z7e hd hf
 obtain⟨_,h2,_⟩:=z7M hi.nd n
 have hpm:=z9O (zc0 (z1E d m n (2^n-1)).1 n)
 rcases(h2 x).1 (hpm.mem_iff.1 hx) with h|⟨i,_,rfl⟩
 · obtain⟨i,hil,rfl⟩:=Zn h
   obtain⟨_,o2,o3⟩:=hi.ok i hil
   rw[List.getD,List.getD,Z1 hil,Z4] at o3
   rw[←o3]
   have:∀ {w:List UInt8} {s:Nat},s<2^n->s≠0->zAB m w->z4D d s w≠0:=by
    intro w
    induction w with
    |nil=>intro s _ h0 _;exact h0
    |cons c w ih=>
     intro s hs h0 hw
     obtain⟨q1,q2⟩:=znn hw
     exact ih (zc3 hd q2) (zCF hd hs h0 q2) q1
   exact this hf (by omega) o2
 · grind
theorem z4C:j∈zaJ S i↔j<S.length/\j≠i/\z6H (S.getD j 0) (S.getD i 0):=by
 unfold zaJ zxI z6H
 rw[ZV,Zj]
 simp
theorem zj3:zqq S i j=true↔ ∀k,k∈zaJ S i->k≠j->¬z6H (S.getD j 0) (S.getD k 0):=by
 unfold zqq z6H
 rw[Zr]
 constructor
 · grind
 · grind
theorem zj2(hz:szN (S.getD i 0)≠1):j∈z6Z S i↔j∈zaJ S i/\zqq S i j=true:=by
 unfold z6Z
 rw[if_neg hz,ZV]
theorem z5M(h:j∈z6Z S i):j∈zaJ S i/\zqq S i j=true/\szN (S.getD i 0)≠1:=by
 by_cases hz:szN (S.getD i 0)=1
 · unfold z6Z at h;rw[if_pos hz] at h;simp at h
 · exact⟨((zj2 hz).1 h).1,((zj2 hz).1 h).2,hz⟩
theorem zcY(S:List Nat)(i:Nat):(z6Z S i).Nodup:=by
 unfold z6Z
 split
 · simp
 · exact YE _ (YE _ YK)
theorem zv2(hn:n<=7)(hS:SetsP d m n S)(hi:i<S.length)(hz:szN (S.getD i 0)≠1):∀f j,8-szN (S.getD j 0)<=f->j∈zaJ S i->∃t,t∈z6Z S i/\z6H (S.getD j 0) (S.getD t 0):=by
 have h128:2^n<=128:=Zl (n:=2) (by omega) hn
 have h8:∀s,szN s<=7:=fun s=>by rw[z9N];exact zpr _ _
 intro f
 induction f with
 |zero=>intro j hf _;have:=h8 (S.getD j 0);omega
 |succ f ih=>
  intro j hf hj
  by_cases hp:zqq S i j=true
  · exact⟨j,(zj2 hz).2 ⟨hj,hp⟩,z9m _⟩
  · have:∃k,k∈zaJ S i/\k≠j/\z6H (S.getD j 0) (S.getD k 0):=by
     refine Y8 fun hn'=>hp (zj3.2 fun k hk hne hs=>hn' ⟨k,hk,hne,hs⟩)
    obtain⟨k,hk,hne,hs⟩:=this
    have hkl:=(z4C.1 hk).1
    have hjl:=(z4C.1 hj).1
    have hlt:=zwH (a:=S.getD j 0) (b:=S.getD k 0) (by have:=hS.lt _ (z0i hkl);omega) hs fun e=>hne (z7p hS.nd hkl hjl e.symm)
    obtain⟨t,h1,h2⟩:=ih k (by omega) hk
    exact⟨t,h1,zcZ hs h2⟩
theorem zgf(hd:DfaOk d m n)(hn:n<=7)(hS:SetsP d m n S)(hi:i<S.length)(hz:szN (S.getD i 0)≠1)(hq:(S.getD i 0).testBit q=true):∃t,t∈z6Z S i/\(S.getD t 0).testBit q=true:=by
 have h128:2^n<=128:=Zl (n:=2) (by omega) hn
 have hil:=hS.lt _ (z0i hi)
 have hqn:q<n:=by
  rcases Yy q n with h'|h'
  · exact h'
  · have:(S.getD i 0).testBit q=false:=YX (Zy hil (Zl (n:=2) (by omega) h'))
    rw[this] at hq;cases hq
 have h1:=hS.one q hqn
 have hg:=z3R h1
 have hsz:szN (2^q)=1:=by
  have:∀q,q<7->szN (2^q)=1:=by decide+kernel
  exact this q (by omega)
 have hinn:S.idxOf (2^q)∈zaJ S i:=z4C.2 ⟨z6F h1,fun e=>by rw[←e,hg] at hz;exact hz hsz,by
  rw[hg]
  refine z2e.2 fun p hp=> ?_
  rw[Y9,decide_eq_true_iff] at hp
  rw[←hp];exact hq⟩
 obtain⟨t,h2,h3⟩:=zv2 hn hS hi hz _ _ (Z8 _) hinn
 refine⟨t,h2,z2e.1 h3 q ?_⟩
 rw[hg,Y9];simp
theorem zge(hn:n<=7)(hS:SetsP d m n S)(hi:i<S.length)(h:k∈z6Z S i):i<k/\k<S.length/\z6H (S.getD k 0) (S.getD i 0)/\S.getD k 0≠S.getD i 0:=by
 have h128:2^n<=128:=Zl (n:=2) (by omega) hn
 obtain⟨h1,_,_⟩:=z5M h
 obtain⟨hk,hne,hs⟩:=z4C.1 h1
 have hx:S.getD k 0≠S.getD i 0:=fun e=>hne (z7p hS.nd hk hi e)
 refine⟨?_,hk,hs,hx⟩
 have hlt:=zwH (by have:=hS.lt _ (z0i hi);omega) hs hx
 rcases Xi i k with h'|h'|h'
 · exact h'
 · exact absurd h'.symm hne
 · have:=ZG.1 hS.srt k i hk hi h'
   rw[zk3] at this
   rw[List.getD,List.getD,Z1 hk,Z1 hi,Z4,Z4] at hlt
   omega
theorem zp7{N:Nat}{b:Nat->Nat->Bool}(hb:BelN N b){z:Nat->Bool}(hz:∀i k,i<N->k<N->z k=true->b i k=true->z i=true)(hi:i<N)(hk:k<N)(h:b i k=true):znv N b z i<=znv N b z k:=by
 rw[zh5 hb z i hi]
 split
 · omega
 · rename_i hzi
   have hzk:¬z k=true:=fun hh=>hzi (hz i k hi hk hh h)
   rw[zh5 hb z k hk,if_neg hzk]
   refine zcs fun j hj=> ?_
   by_cases hs:sbN b j i=true
   · rw[if_pos hs]
     have hsk:sbN b j k=true:=by
      simp only[sbN,Z6,ZX] at hs⊢
      refine⟨hb.trans j i k hj hi hk hs.1 h,?_⟩
      cases hkj:b k j with
      |false=>rfl
      |true=>
       have:=hb.trans i k j hi hk hj h hkj
       rw[this] at hs;cases hs.2
     have:=zoL (g:=fun j=>if sbN b j k=true then znv N b z j+1 else 0) hj
     simp only[hsk,if_true] at this
     exact this
   · rw[if_neg hs];omega
theorem zmi(hd:DfaOk d m n)(hn:n<=7)(hi:i<(z2a d m n).length)(hk:k<(z2a d m n).length)(hz:zaA (z2a d m n) k=true)(h:z6Y d m n (z2a d m n) i k=true):zaA (z2a d m n) i=true:=by
 have hS:=z8j hd
 have h128:2^n<=128:=Zl (n:=2) (by omega) hn
 obtain⟨w,h1,h2⟩:=(z4k hd hS hk).1 h
 have hkl:=hS.lt _ (z0i hk)
 simp only[zaA,decide_eq_true_eq] at hz⊢
 have a1:=zgg h2
 have a2:=zcl hd hn hkl h1
 have h0:=zbw hd (z0i hi)
 have:1<=szN ((z2a d m n).getD i 0):=by
  obtain⟨q,hq⟩:=YC h0
  have hil:=hS.lt _ (z0i hi)
  have:=ziR (p:=fun _=>false) (q:=fun q=>((z2a d m n).getD i 0).testBit q) (k:=7) (i:=q) (fun j _ hf=>by simp at hf) (zGT (by omega) hq) rfl hq
  rw[z9N];omega
 omega
end
section
open Go
theorem zwG{A K:Nat}(h:z6H A K):szN A+szN (K^^^A)=szN K:=by
 rw[z9N,z9N,z9N]
 have hb:=z2e.1 h
 have:∀k,z6G (fun q=>A.testBit q) k+z6G (fun q=>(K^^^A).testBit q) k=z6G (fun q=>K.testBit q) k:=by
  intro k
  induction k with
  |zero=>simp[z6G]
  |succ k ih=>
   have h1:=hb k
   simp only[z6G]
   have h2:(K^^^A).testBit k=(K.testBit k^^A.testBit k):=Nat.testBit_xor ..
   have h3:∀a b c:Bool,(a=true->b=true)->c=(b^^a)->(if a=true then 1 else 0)+(if c=true then 1 else 0)=(if b=true then 1 else 0):=by decide
   have:=h3 _ _ _ h1 h2
   omega
 exact this 7
theorem zz3{A K:Nat}(h:z6H A K):A|||(K^^^A)=K:=by
 apply Y0
 intro q
 have h1:=z2e.1 h q
 rw[YL,Nat.testBit_xor]
 revert h1
 cases A.testBit q<;>cases K.testBit q<;>simp
theorem zsu{A K:Nat}(h:z6H A K):A<=K:=by
 unfold z6H at h;rw[←h];exact Nat.and_le_right
theorem zwK(A B:Nat):z6H A (A|||B):=z2e.2 fun q hq=>by rw[YL,hq];rfl
theorem zok(A B:Nat):z6H B (A|||B):=z2e.2 fun q hq=>by grind
theorem zlx{A B:Nat}(h:z6H A B):A|||B=B:=zaQ (z2e.2 fun q hq=>by
 rw[YL,Y1] at hq
 exact hq.elim (z2e.1 h q) id) (zok A B)
theorem zBZ{A B K:Nat}(h1:z6H A K)(h2:z6H B K):z6H (A|||B) K:=z2e.2 fun q hq=>by
 rw[YL,Y1] at hq
 exact hq.elim (z2e.1 h1 q) (z2e.1 h2 q)
structure Lead(d:DFA)(m n K I:Nat)(w:List UInt8):Prop where
 hw:zAB m w
 hK:K<2^n
 hI:I<2^n
 run:z4D d K w=I
 sz:szN I=szN K
variable{v w:List UInt8}{I K i k:Nat}{α β:Type}{l:List α}{f:α->β}
theorem znr{d:DFA}{m n:Nat}(hd:DfaOk d m n)(hn:n<=7)(h:Lead d m n K I w){A:Nat}(hA:z6H A K):szN (z4D d A w)=szN A:=by
 have h128:2^n<=128:=Zl (n:=2) (by omega) hn
 have hAK:=zsu hA
 have hK:=h.hK
 have hB:z6H (K^^^A) K:=by
  have:=zz3 hA
  rw[←this];rw[this];rw[←this]
  exact(by rw[this];exact(by
   refine z2e.2 fun q hq=> ?_
   rw[Nat.testBit_xor] at hq
   have h1:=z2e.1 hA q
   revert hq h1
   cases A.testBit q<;>cases K.testBit q<;>simp))
 have hBl:=zsu hB
 have e1:=zt0 hd (x:=A) (y:=K^^^A) h.hw
 rw[zz3 hA,h.run] at e1
 have l1:=zgr hd (s:=A) (w:=w) (by omega) h.hw
 have l2:=zgr hd (s:=K^^^A) (w:=w) (by omega) h.hw
 have s1:=zF0 (x:=z4D d A w) (y:=z4D d (K^^^A) w) (by omega) (by omega)
 rw[←e1,h.sz] at s1
 have s2:=zcl hd hn (s:=K^^^A) (by omega) h.hw
 have s3:=zcl hd hn (s:=A) (by omega) h.hw
 have s4:=zwG hA
 omega
theorem zjr{d:DFA}{m n:Nat}(hd:DfaOk d m n)(hn:n<=7)(h:Lead d m n K I w){A B:Nat}(hA:z6H A K)(hB:z6H B K)(hs:z6H (z4D d A w) (z4D d B w)):z6H A B:=by
 have h128:2^n<=128:=Zl (n:=2) (by omega) hn
 have hK:=h.hK
 have hAB:=zBZ hA hB
 have hl:=zsu hAB
 have e1:=znr hd hn h hAB
 rw[zt0 hd h.hw,zlx hs,znr hd hn h hB] at e1
 have:=zsq (a:=B) (b:=A|||B) (by omega) (zok A B) (by omega)
 rw[this]
 exact zwK A B
theorem zdj{d:DFA}{m n:Nat}(hd:DfaOk d m n)(hn:n<=7)(h:Lead d m n K I w){A B:Nat}(hA:z6H A K)(hB:z6H B K)(he:z4D d A w=z4D d B w):A=B:=
 zaQ (zjr hd hn h hA hB (by rw[he];exact z9m _)) (zjr hd hn h hB hA (by rw[he];exact z9m _))
theorem zoj{r:List β}(hl:(l.map f).Nodup)(hs:∀x∈l.map f,x∈r)(hle:r.length<=l.length){u:β}(hu:u∈r):u∈l.map f:=by
 refine Y8 fun hn=> ?_
 have:=z7F (l:=u::l.map f) (r:=r) (YG.2 ⟨hn,hl⟩) fun x hx=>by grind
 rw[Zq,Zg] at this
 omega
theorem z5z(hl:l.Nodup)(hf:∀x∈l,∀y∈l,f x=f y->x=y):(l.map f).Nodup:=by
 induction l with
 |nil=>simp
 |cons a l ih=>
  rw[YG] at hl
  rw[Zt,YG]
  refine⟨fun h=> ?_,ih hl.2 fun x hx y hy=>hf x (Zo _ hx) y (Zo _ hy)⟩
  obtain⟨x,hx,he⟩:=Zh.1 h
  have:=hf x (Zo _ hx) a (Zz ..) he
  exact hl.1 (this▸hx)
section
variable {d:DFA} {m n:Nat} {S:List Nat} (hd:DfaOk d m n) (hn:n<=7) (hS:SetsP d m n S)
include hd hn hS
theorem zh0(hk:k<S.length)(hi:i<S.length)(h:Lead d m n (S.getD k 0) (S.getD i 0) w):
 (∀j∈zaJ S k,S.idxOf (z4D d (S.getD j 0) w)∈zaJ S i/\S.getD (S.idxOf (z4D d (S.getD j 0) w)) 0=z4D d (S.getD j 0) w)/\((zaJ S k).map fun j=>S.idxOf (z4D d (S.getD j 0) w)).Nodup:=by
 have h128:2^n<=128:=Zl (n:=2) (by omega) hn
 have hmem:∀j,j<S.length->z4D d (S.getD j 0) w∈S:=fun j hj=>zlh hS h.hw (z0i hj)
 refine⟨fun j hj=> ?_,z5z (YE _ YK) fun x hx y hy e=> ?_⟩
 · obtain⟨h1,h2,h3⟩:=z4C.1 hj
   have hg:=z3R (hmem j h1)
   refine⟨z4C.2 ⟨z6F (hmem j h1),fun e=> ?_,?_⟩,hg⟩
   · rw[e] at hg
     have s1:=znr hd hn h h3
     rw[←hg,h.sz] at s1
     have:=zsq (a:=S.getD j 0) (b:=S.getD k 0) (by have:=h.hK;omega) h3 (by omega)
     exact h2 (z7p hS.nd h1 hk this)
   · rw[hg,←h.run]
     exact zj8 hd h.hw h3
 · obtain⟨h1,h2,h3⟩:=z4C.1 hx
   obtain⟨k1,k2,k3⟩:=z4C.1 hy
   have e2:z4D d (S.getD x 0) w=z4D d (S.getD y 0) w:=by grind
   exact z7p hS.nd h1 k1 (zdj hd hn h h3 k3 e2)
theorem zAO(hk:k<S.length)(hi:i<S.length)(h:Lead d m n (S.getD k 0) (S.getD i 0) w):(zaJ S k).length<=(zaJ S i).length:=by
 obtain⟨h1,h2⟩:=zh0 hd hn hS hk hi h
 have:=z7F h2 (r:=zaJ S i) fun x hx=>by grind
 simpa using this
theorem zj1(hk:k<S.length)(hi:i<S.length)(h:Lead d m n (S.getD k 0) (S.getD i 0) w)(h':Lead d m n (S.getD i 0) (S.getD k 0) v){t:Nat}(ht:t∈z6Z S k):S.idxOf (z4D d (S.getD t 0) w)∈z6Z S i:=by
 obtain⟨h1,h2⟩:=zh0 hd hn hS hk hi h
 obtain⟨t1,t2,t3⟩:=z5M ht
 have hz:szN (S.getD i 0)≠1:=by rw[h.sz];exact t3
 refine(zj2 hz).2 ⟨(h1 t t1).1,zj3.2 fun u hu hne hs=> ?_⟩
 have hsur:=zoj (l:=zaJ S k) (r:=zaJ S i) h2 (fun x hx=>by
  obtain⟨j,hj,rfl⟩:=Zh.1 hx
  exact(h1 j hj).1) (zAO hd hn hS hi hk h') hu
 obtain⟨j,hj,rfl⟩:=Zh.1 hsur
 rw[(h1 t t1).2,(h1 j hj).2] at hs
 have hsub:=zjr hd hn h (z4C.1 t1).2.2 (z4C.1 hj).2.2 hs
 exact zj3.1 t2 j hj (fun e=>hne (by rw[e])) hsub
theorem zsm(hk:k<S.length)(hi:i<S.length)(h:Lead d m n (S.getD k 0) (S.getD i 0) w)(h':Lead d m n (S.getD i 0) (S.getD k 0) v):(z6Z S k).length=(z6Z S i).length:=by
 have one:∀ {k i:Nat} (hk:k<S.length) (hi:i<S.length) {w v:List UInt8} (h:Lead d m n (S.getD k 0) (S.getD i 0) w) (h':Lead d m n (S.getD i 0) (S.getD k 0) v),(z6Z S k).length<=(z6Z S i).length:=fun {k i} hk hi {w v} h h'=>by
  obtain⟨h1,h2⟩:=zh0 hd hn hS hk hi h
  have hnd:((z6Z S k).map fun j=>S.idxOf (z4D d (S.getD j 0) w)).Nodup:=z5z (zcY S k) fun x hx y hy e=>by
   obtain⟨x1,_,_⟩:=z5M hx
   obtain⟨y1,_,_⟩:=z5M hy
   have e2:z4D d (S.getD x 0) w=z4D d (S.getD y 0) w:=by grind
   exact z7p hS.nd (z4C.1 x1).1 (z4C.1 y1).1 (zdj hd hn h (z4C.1 x1).2.2 (z4C.1 y1).2.2 e2)
  have:=z7F hnd (r:=z6Z S i) fun x hx=>by
   obtain⟨j,hj,rfl⟩:=Zh.1 hx
   exact zj1 hd hn hS hk hi h h' hj
  simpa using this
 exact Nat.le_antisymm (one hk hi h h') (one hi hk h' h)
theorem zpn(hk:k<S.length)(hi:i<S.length)(he:z2x d m n S i k=true):szN (S.getD i 0)=szN (S.getD k 0)/\S.getD i 0∈(z1E d m n (S.getD k 0)).1:=by
 have h128:2^n<=128:=Zl (n:=2) (by omega) hn
 simp only[z2x,Z6] at he
 obtain⟨w,w1,w2⟩:=(z4k hd hS hk).1 he.1
 obtain⟨v,v1,v2⟩:=(z4k hd hS hi).1 he.2
 have hkl:=hS.lt _ (z0i hk)
 have hil:=hS.lt _ (z0i hi)
 have a1:=zgg w2
 have a2:=zcl hd hn hkl w1
 have a3:=zgg v2
 have a4:=zcl hd hn hil v1
 refine⟨by omega,?_⟩
 have hrl:=zgr hd hkl w1
 have:=zsq (by omega) w2 (by omega)
 rw[this]
 exact zgx hd hkl w1 (zbz hd hkl)
omit hn hS in
theorem zko{s x:Nat}(hs:s<2^n)(hx:x∈(z1E d m n s).1):zAB m (z8O (z1E d m n s) x).data.toList/\(z8O (z1E d m n s) x).size<=2^n/\z4D d s (z8O (z1E d m n s) x).data.toList=x:=by
 have hi:=z7e hd hs
 have hl:=z1C hi.nd hi.lt
 have hlt:=z6F hx
 obtain⟨o1,o2,o3⟩:=hi.ok _ hlt
 unfold z8O
 exact⟨o2,by omega,by rw[o3,z3R hx]⟩
end
end
section
open Go
variable{i:Nat}
theorem zds{N:Nat}{e:Nat->Nat->Bool}(he:EqvN N e)(hi:i<N):
 (za1 e N i<(z1h e i).length/\(z1h e i).getD (za1 e N i) 0=(z1h e N).getD (za1 e N i) 0/\z1h e (i+1)=z1h e i)∨
 (za1 e N i=(z1h e i).length/\(z1h e N).getD (za1 e N i) 0=i/\z1h e (i+1)=z1h e i++ [i]):=by
 have hc:=zzn he hi
 by_cases h:(z1h e i).any (e i)=true
 · left
   obtain⟨x,hx,hp⟩:=Yn.1 h
   have hlt:za1 e N i<(z1h e i).length:=by grind
   refine⟨hlt,?_,by rw[z1h,if_pos h]⟩
   obtain⟨R,hR⟩:=zev e (i:=i) N (by omega)
   rw[hR,List.getD,List.getD,ZH hlt]
 · right
   have hlt:za1 e N i=(z1h e i).length:=by grind
   refine⟨hlt,?_,by rw[z1h,if_neg h]⟩
   obtain⟨R,hR⟩:=zev e (i:=i+1) N (by omega)
   rw[hR,z1h,if_neg h,hlt,List.getD,Zu,Y2 (Z8 _),Nat.sub_self]
   rfl
section
variable {d:DFA} {m n:Nat} {S:List Nat} (hd:DfaOk d m n) (hn:n<=7) (hS:SetsP d m n S)
include hd hn hS
theorem zlS(hi:i<S.length):z6e d m n S i<=i:=by
 have _u:=hn
 rcases zds (z9t hd hS) hi with⟨h1,h2,_⟩|⟨h1,h2,_⟩
 · have:=zc6 (z2x d m n S) i _ (z0i h1)
   rw[h2] at this
   exact Nat.le_of_lt this
 · exact Nat.le_of_eq h2
theorem zny(hi:i<S.length):z2x d m n S i (z6e d m n S i)=true:=by
 have _u:=hn
 exact(zcE (z9t hd hS) hi).2
end
end
section
open Go
theorem z9S{d:DFA}{m n K I J:Nat}{u v:List UInt8}(h1:Lead d m n K I u)(h2:Lead d m n I J v):Lead d m n K J (u++v) where
 hw c hc:=(Ze.1 hc).elim (h1.hw c) (h2.hw c)
 hK:=h1.hK
 hI:=h2.hI
 run:=by rw[z7D,h1.run,h2.run]
 sz:=h2.sz.trans h1.sz
def z3i(S:List Nat)(k:Nat):List Nat:=(z6Z S k).map fun t=>S.getD t 0
def z3U(d:DFA)(w:List UInt8)(T:List Nat):List Nat:=T.map fun t=>T.idxOf (z4D d t w)
theorem zdb(d:DFA)(w:List UInt8)(T:List Nat):(z3U d w T).length=T.length:=by simp[z3U]
def clN(d:DFA)(m n:Nat)(S:List Nat)(i:Nat):Nat:=za1 (z2x d m n S) S.length i
def z7W(d:DFA)(S:List Nat)(i a:Nat):Nat:=S.idxOf (mvN d (S.getD i 0) a)
def hwN(d:DFA)(m n:Nat)(S:List Nat)(i a:Nat):ByteArray:=zeZ d m n S i++zrP a++zw4 d m n S (z7W d S i a)
section
variable {d:DFA} {m n:Nat} {S:List Nat} (hd:DfaOk d m n) (hn:n<=7) (hS:SetsP d m n S)
include hd hn hS
theorem z8R{k:Nat}(hk:k<S.length):(z3i S k).Nodup/\ ∀t∈z3i S k,t∈S/\z6H t (S.getD k 0)/\t<2^n:=by
 have _u:=hd
 have hin:∀x∈z6Z S k,x<S.length:=fun x hx=>zdp (z5M hx).1
 refine⟨z5z (zcY S k) fun x hx y hy e=>z7p hS.nd (hin x hx) (hin y hy) e,fun t ht=> ?_⟩
 obtain⟨x,hx,rfl⟩:=Zh.1 ht
 obtain⟨h1,h2,h3,_⟩:=zge hn hS hk hx
 exact⟨z0i h2,h3,hS.lt _ (z0i h2)⟩
theorem zmL{k:Nat}(hk:k<S.length){w:List UInt8}(h:Lead d m n (S.getD k 0) (S.getD k 0) w):∀t∈z3i S k,z4D d t w∈z3i S k:=fun t ht=>by
 obtain⟨x,hx,rfl⟩:=Zh.1 ht
 have hm:=zj1 hd hn hS hk hk h h hx
 have hr:=zlh hS h.hw (z0i (zdp (z5M hx).1):S.getD x 0∈S)
 exact Zh.2 ⟨_,hm,z3R hr⟩
theorem zbB{k:Nat}(hk:k<S.length){w:List UInt8}(h:Lead d m n (S.getD k 0) (S.getD k 0) w):(z3U d w (z3i S k)).Nodup/\(∀p∈z3U d w (z3i S k),p<(z3i S k).length)/\ ∀i,i<(z3i S k).length->(z3i S k).getD ((z3U d w (z3i S k)).getD i 0) 0=z4D d ((z3i S k).getD i 0) w:=by
 obtain⟨hnd,hf⟩:=z8R hd hn hS hk
 have hr:=zmL hd hn hS hk h
 refine⟨z5z hnd fun x hx y hy e=> ?_,fun p hp=> ?_,fun i hi=> ?_⟩
 · have e2:z4D d x w=z4D d y w:=by
    rw[←z3R (hr x hx),←z3R (hr y hy),e]
   exact zdj hd hn h (hf x hx).2.1 (hf y hy).2.1 e2
 · obtain⟨x,hx,rfl⟩:=Zh.1 hp
   exact z6F (hr x hx)
 · have e:(z3U d w (z3i S k)).getD i 0=(z3i S k).idxOf (z4D d ((z3i S k).getD i 0) w):=by
    simp[z3U,List.getD,hi]
   rw[e,z3R (hr _ (z0i hi))]
theorem z9l{i:Nat}(hi:i<S.length):Lead d m n (S.getD (z6e d m n S i) 0) (S.getD i 0) (zeZ d m n S i).data.toList/\(zeZ d m n S i).size<=2^n:=by
 have hk:z6e d m n S i<S.length:=by have:=zlS hd hn hS hi;omega
 obtain⟨h1,h2⟩:=zpn hd hn hS hk hi (zny hd hn hS hi)
 have hlk:=hS.lt _ (z0i hk)
 obtain⟨w1,w2,w3⟩:=zko hd hlk h2
 exact⟨⟨w1,hlk,hS.lt _ (z0i hi),w3,h1⟩,w2⟩
theorem zbS{i:Nat}(hi:i<S.length):Lead d m n (S.getD i 0) (S.getD (z6e d m n S i) 0) (zw4 d m n S i).data.toList/\(zw4 d m n S i).size<=2^n:=by
 have hk:z6e d m n S i<S.length:=by have:=zlS hd hn hS hi;omega
 have he:=zny hd hn hS hi
 have he':z2x d m n S (z6e d m n S i) i=true:=by
  simp only[z2x,Z6] at he⊢;exact he.symm
 obtain⟨h1,h2⟩:=zpn hd hn hS hi hk he'
 have hli:=hS.lt _ (z0i hi)
 obtain⟨w1,w2,w3⟩:=zko hd hli h2
 exact⟨⟨w1,hli,hS.lt _ (z0i hk),w3,h1⟩,w2⟩
theorem zeW{i a:Nat}(hi:i<S.length)(ha:a<m):z7W d S i a<S.length/\S.getD (z7W d S i a) 0=mvN d (S.getD i 0) a:=by
 have _u:=hd
 have _v:=hn
 have:=hS.cl _ (z0i hi) a ha
 exact⟨z6F this,z3R this⟩
theorem zm9{i:Nat}(hi:i<S.length):clN d m n S i<(z6W d m n S).length/\(z6W d m n S).getD (clN d m n S i) 0=z6e d m n S i:=by
 have _u:=hn
 exact⟨(zcE (z9t hd hS) hi).1,rfl⟩
theorem znu{i a:Nat}(hi:i<S.length)(ha:a<m)(hc:clN d m n S (z7W d S i a)=clN d m n S i):Lead d m n (S.getD (z6e d m n S i) 0) (S.getD (z6e d m n S i) 0) (hwN d m n S i a).data.toList/\(hwN d m n S i a).size<=2*2^n+1:=by
 obtain⟨j1,j2⟩:=zeW hd hn hS hi ha
 obtain⟨l1,s1⟩:=z9l hd hn hS hi
 obtain⟨l2,s2⟩:=zbS hd hn hS j1
 have hf:z6e d m n S (z7W d S i a)=z6e d m n S i:=by
  unfold z6e;unfold clN at hc;rw[hc]
 rw[hf] at l2
 have h26:(UInt8.ofNat (97+a)).toNat=97+a:=z7j (by have:=hd.m6;omega)
 have l3:Lead d m n (S.getD i 0) (S.getD (z7W d S i a) 0) (zrP a).data.toList:=by
  refine⟨fun c hc=> ?_,l1.hI,hS.lt _ (z0i j1),?_,?_⟩
  · rw[z8W,Zi] at hc
    subst hc;omega
  · rw[z8W,j2,z4D,z4D,h26,Y4]
  · have:=l1.sz;have:=l2.sz;omega
 have l4:=z9S (z9S l1 l3) l2
 refine⟨?_,?_⟩
 · unfold hwN;rw[zdB,zdB];exact l4
 · unfold hwN;rw[zfB,zfB,z8b];omega
end
abbrev HS:=List ByteArray×List (List Nat)
def zhM(d:DFA)(m n:Nat)(S:List Nat)(T:List Nat)(i:Nat)(st:HS)(a:Nat):HS:=
 if clN d m n S (z7W d S i a)=clN d m n S i then
  (if z3U d (hwN d m n S i a).data.toList T=List.range T.length∨z3U d (hwN d m n S i a).data.toList T∈st.2 then st else(st.1++ [hwN d m n S i a],st.2++ [z3U d (hwN d m n S i a).data.toList T]))
 else st
def zmp(d:DFA)(m n:Nat)(S:List Nat)(T:List Nat)(i:Nat)(st:HS)(a:Nat):HS:=(List.range a).foldl (zhM d m n S T i) st
def zkc(d:DFA)(m n:Nat)(S:List Nat)(T:List Nat)(c k:Nat):HS:=(List.range k).foldl (fun st i=>if clN d m n S i=c then zmp d m n S T i st m else st) ([],[])
theorem zja(d:DFA)(m n:Nat)(S T:List Nat)(i:Nat)(st:HS)(a:Nat):zmp d m n S T i st (a+1)=zhM d m n S T i (zmp d m n S T i st a) a:=by
 unfold zmp;rw[YB,YT];rfl
theorem zpO(d:DFA)(m n:Nat)(S T:List Nat)(c k:Nat):zkc d m n S T c (k+1)=if clN d m n S k=c then zmp d m n S T k (zkc d m n S T c k) m else zkc d m n S T c k:=by
 unfold zkc;rw[YB,YT];rfl
def z2j(d:DFA)(m n:Nat)(S:List Nat)(c:Nat):Nat:=(z6W d m n S).getD c 0
structure HInv(d:DFA)(m n:Nat)(S:List Nat)(c:Nat)(B:Nat)(st:HS):Prop where
 len:st.1.length=st.2.length
 bd:st.1.length<=B
 ok:∀j,j<st.1.length->∃w:ByteArray,st.1.getD j ByteArray.empty=w/\Lead d m n (S.getD (z2j d m n S c) 0) (S.getD (z2j d m n S c) 0) w.data.toList/\w.size<=2*2^n+1/\st.2.getD j []=z3U d w.data.toList (z3i S (z2j d m n S c))
section
variable {d:DFA} {m n:Nat} {S:List Nat} (hd:DfaOk d m n) (hn:n<=7) (hS:SetsP d m n S)
include hd hn hS
theorem zzJ{c i a B:Nat}{st:HS}(h:HInv d m n S c B st)(hi:i<S.length)(ha:a<m)(hc:clN d m n S i=c):HInv d m n S c (B+1) (zhM d m n S (z3i S (z2j d m n S c)) i st a):=by
 have h1:HInv d m n S c (B+1) st:=⟨h.len,by have:=h.bd;omega,h.ok⟩
 unfold zhM
 split
 · rename_i hj
   split
   · exact h1
   · obtain⟨l1,l2⟩:=znu hd hn hS hi ha hj
     have hf:z2j d m n S c=z6e d m n S i:=by unfold z2j;rw[←hc];exact(zm9 hd hn hS hi).2
     rw[←hf] at l1
     refine⟨by simp[h.len],by have:=h.bd;simp;omega,fun j hj=> ?_⟩
     rw[Z7,ZE] at hj
     rcases Yy j st.1.length with h3|h3
     · rw[z9s _ h3,z9s _ (by rw[←h.len];exact h3)]
       exact h.ok j h3
     · have e:j=st.1.length:=by omega
       rw[zb2 e,zb2 (by rw[←h.len];exact e)]
       exact⟨_,rfl,l1,l2,rfl⟩
 · exact h1
theorem zox{c i B:Nat}{st:HS}(h:HInv d m n S c B st)(hi:i<S.length)(hc:clN d m n S i=c):∀a,a<=m->HInv d m n S c (B+a) (zmp d m n S (z3i S (z2j d m n S c)) i st a)
 |0,_=>h
 |a+1,ha=>by
  rw[zja]
  exact zzJ hd hn hS (zox h hi hc a (by omega)) hi (by omega) hc
theorem zwd{c:Nat}:∀k,k<=S.length->HInv d m n S c (k*m) (zkc d m n S (z3i S (z2j d m n S c)) c k)
 |0,_=>⟨rfl,by simp[zkc],fun j hj=>by simp[zkc] at hj⟩
 |k+1,hk=>by
  have ih:=zwd (c:=c) k (by omega)
  rw[zpO]
  have e:(k+1)*m=k*m+m:=by rw[Yo];omega
  split
  · rename_i hc
    rw[e];exact zox hd hn hS ih (by omega) hc m (Z8 _)
  · exact⟨ih.len,by have:=ih.bd;omega,ih.ok⟩
end
end
section
open Go
theorem zb1{κ ν:Type}[DecidableEq κ](k q:κ)(v:ν):∀m:List (κ×ν),z7r q (z8h k v m)=if k=q then some v else z7r q m
 | []=>rfl
 |(a,u)::r=>by
  simp only[z8h]
  by_cases h:a=k
  · subst h
    rw[if_pos rfl]
    simp only[z7r]
    by_cases h2:a=q
    · rw[if_pos h2,if_pos h2]
    · rw[if_neg h2,if_neg h2,if_neg h2]
  · rw[if_neg h]
    simp only[z7r,zb1 k q v r]
    by_cases h2:a=q
    · rw[if_pos h2,if_pos h2,if_neg (fun e=>h (h2.trans e.symm))]
    · rw[if_neg h2,if_neg h2]
def zh4(S:List Nat):Nat->List (Int×Int)
 |0=> []
 |k+1=>z8h ((S.getD k 0:Nat):Int) (k:Int) (zh4 S k)
theorem zfs{S:List Nat}(hS:S.Nodup){j:Nat}:∀k,k<=S.length->j<k->z7r ((S.getD j 0:Nat):Int) (zh4 S k)=some (j:Int)
 |k+1,hk,hj=>by
  simp only[zh4]
  rw[zb1]
  by_cases e:j=k
  · subst e;rw[if_pos rfl]
  · rw[if_neg (fun h=>e (z7p hS (by omega) (by omega) (by omega))),zfs hS k (by omega) (by omega)]
theorem ztt{d:DFA}{w:List UInt8}{T:List Nat}{k:Nat}(h:k<T.length):(z3U d w T).getD k 0=T.idxOf (z4D d (T.getD k 0) w):=by
 simp[z3U,List.getD,h]
theorem z9M{l:List Nat}{k:Nat}(h:k<l.length):l.take (k+1)=l.take k++ [l.getD k 0]:=by
 rw[ZB h,List.getD,Z1 h,Z4]
section
variable {d:DFA} {m n:Nat} {S:List Nat} (hd:DfaOk d m n) (hn:n<=7) (hS:SetsP d m n S)
include hd hn hS
theorem z2S{c:Nat}(hc:c<(z6W d m n S).length):clN d m n S (z2j d m n S c)=c/\z2j d m n S c<S.length:=by
 have _u:=hn
 have he:=z9t hd hS
 have hk:z2j d m n S c<S.length:=znx hc
 obtain⟨h1,h2⟩:=zcE he hk
 refine⟨zjH he (zb3 he _ (Z8 _)) (fun f hf=>zc6 _ _ f hf) hk h1 hc h2 (he.refl _ hk),hk⟩
end
end
section
open Go Go.IntKind
def leH(H:Nat->Nat)(a b:Nat):Prop:=H b<H a∨(H a=H b/\a<=b)
abbrev zBt(H:Nat->Nat)(l:List Nat):Prop:=l.Pairwise (leH H)
end
section
open Go
def hL(N:Nat)(h:Nat->Nat):List Int:=(List.range N).map fun i=>((h i:Nat):Int)
theorem zp6{N:Nat}{b:Nat->Nat->Bool}(hb:BelN N b){z:Nat->Bool}{i j:Nat}(hi:i<N)(hj:j<N)(hz:z i=false)(hs:sbN b j i=true):znv N b z j<znv N b z i:=by
 rw[zh5 hb z i hi,hz]
 have:=zoL (g:=fun j=>if sbN b j i=true then znv N b z j+1 else 0) hj
 simp only[hs,if_true] at this
 simp only[ZP,if_false]
 omega
section
variable {d:DFA} {m n:Nat} {S:List Nat} (hd:DfaOk d m n) (hn:n<=7) (hS:SetsP d m n S) (hpos:∀x∈S,x≠0)
include hd hn hS hpos
end
end
section
open Go
def hC(d:DFA)(m n:Nat)(S:List Nat)(c:Nat):Nat:=z8e d m n S (z2j d m n S c)
def zaX(d:DFA)(m n:Nat)(S:List Nat)(k:Nat):List Nat:=(List.range (z1h (z2x d m n S) k).length).filter fun c=>decide (0<hC d m n S c)
def zhI(d:DFA)(m n:Nat)(S:List Nat):Prop:=∀i,i<S.length->z8e d m n S i=z8e d m n S (z6e d m n S i)
theorem zdr{d:DFA}{m n:Nat}(hd:DfaOk d m n)(hn:n<=7):zhI d m n (z2a d m n):=fun i hi=>by
 have hS:=z8j hd
 have hb:=zhA hd hS
 have hbot:∀i k,i<(z2a d m n).length->k<(z2a d m n).length->zaA (z2a d m n) k=true->z6Y d m n (z2a d m n) i k=true->zaA (z2a d m n) i=true:=fun i k hi hk hz h=>zmi hd hn hi hk hz h
 have hf:=zlS hd hn hS hi
 have c2:=zny hd hn hS hi
 simp only[z2x,Z6] at c2
 exact Nat.le_antisymm (zp7 hb hbot hi (by omega) c2.1) (zp7 hb hbot (by omega) hi c2.2)
section
variable {d:DFA} {m n:Nat} {S:List Nat} (hd:DfaOk d m n) (hn:n<=7) (hS:SetsP d m n S) (hH:zhI d m n S)
include hd hn hS hH
end
end
section
open Go
def zbX(d:DFA)(m n:Nat)(S:List Nat)(c:Nat):Hol:=⟨((S.getD (z2j d m n S c) 0:Nat):Int),toI (z3i S (z2j d m n S c)),(zkc d m n S (z3i S (z2j d m n S c)) c S.length).1,(zkc d m n S (z3i S (z2j d m n S c)) c S.length).2.map toI⟩
theorem zqK{N k:Nat}(h:k<N):(List.range N).getD k 0=k:=by simp[List.getD,h]
theorem ze9{S:List Nat}{k:Nat}:(z3i S k).length=(z6Z S k).length:=by simp[z3i]
section
variable {d:DFA} {m n:Nat} {S:List Nat} (hd:DfaOk d m n) (hn:n<=7) (hS:SetsP d m n S)
include hd hn hS
theorem zmM{k:Nat}(hk:k<S.length):(z3i S k).length<=128:=by
 have h128:2^n<=128:=Zl (n:=2) (by omega) hn
 obtain⟨h1,h2⟩:=z8R hd hn hS hk
 have:=z1C h1 fun t ht=>(h2 t ht).2.2
 omega
end
end
section
open Go
theorem zp5{d:DFA}{m n:Nat}{S:List Nat}{c B:Nat}{st:HS}(h:HInv d m n S c B st):∀y∈st.2,y.length=(z3i S (z2j d m n S c)).length:=fun y hy=>by
 obtain⟨j,hj,rfl⟩:=Zn hy
 obtain⟨w,_,_,_,e⟩:=h.ok j (by rw[h.len];exact hj)
 rw[List.getD,Z1 hj,Z4] at e
 rw[e,zdb]
theorem zdq{d:DFA}{m n:Nat}{S:List Nat}{c B:Nat}{st:HS}(h:HInv d m n S c B st){j:Nat}(hj:j<st.1.length):Lead d m n (S.getD (z2j d m n S c) 0) (S.getD (z2j d m n S c) 0) (st.1.getD j ByteArray.empty).data.toList/\(st.1.getD j ByteArray.empty).size<=2*2^n+1/\st.2.getD j []=z3U d (st.1.getD j ByteArray.empty).data.toList (z3i S (z2j d m n S c)):=by
 obtain⟨w,e1,e2,e3,e4⟩:=h.ok j hj
 rw[e1];exact⟨e2,e3,e4⟩
section
variable {d:DFA} {m n:Nat} {S:List Nat} (hd:DfaOk d m n) (hn:n<=7) (hS:SetsP d m n S)
include hd hn hS
end
end
section
open Go
variable{c i:Nat}
def zcI(d:DFA)(m n:Nat)(S:List Nat)(c k:Nat):List Nat:=(List.range k).filter fun j=>decide (clN d m n S j=c)
def zgI(d:DFA)(m n:Nat)(S:List Nat)(k:Nat):List (List Int):=(List.range (z1h (z2x d m n S) k).length).map fun c=>toI (zcI d m n S c k)
theorem zgJ(d:DFA)(m n:Nat)(S:List Nat)(c k:Nat):zcI d m n S c (k+1)=if clN d m n S k=c then zcI d m n S c k++ [k] else zcI d m n S c k:=by
 unfold zcI
 rw[YB,XB,Xa,XP]
 by_cases h:clN d m n S k=c
 · grind
 · grind
section
variable {d:DFA} {m n:Nat} {S:List Nat} (hd:DfaOk d m n) (hn:n<=7) (hS:SetsP d m n S)
include hd hn hS
theorem zFQ(hi:i<S.length){j:Nat}(hj:j<i):clN d m n S j<(z1h (z2x d m n S) i).length:=by
 have _u:=hn
 have he:=z9t hd hS
 obtain⟨R,hR⟩:=zev (z2x d m n S) (i:=j+1) i (by omega)
 have hl:(z1h (z2x d m n S) i).length=(z1h (z2x d m n S) (j+1)).length+R.length:=by rw[hR,Z7]
 rcases zds he (show j<S.length by omega) with⟨h1,_,h3⟩|⟨h1,_,h3⟩
 · rw[h3] at hl
   unfold clN;omega
 · rw[h3,Z7,ZE] at hl
   unfold clN;omega
theorem zxq(hi:i<S.length):zcI d m n S (z1h (z2x d m n S) i).length i= []:=by
 unfold zcI
 refine List.filter_eq_nil_iff.2 fun j hj=> ?_
 have:=zFQ hd hn hS hi (Zj.1 hj)
 simp only[decide_eq_true_eq]
 omega
theorem zxp(hi:i<S.length)(hSl:S.length<=1000):z4s (z3W d m n S) ((i:Int),zgI d m n S i)=z0c (((i+1:Nat):Int),zgI d m n S (i+1)):=by
 have he:=z9t hd hS
 have l2:(z3W d m n S).class_.length=S.length:=by simp[z3W,zvL]
 have hcat:atI (z3W d m n S).class_ (i:Int)=some ((clN d m n S i:Nat):Int):=z2K hi
 have hml:(zgI d m n S i).length=(z1h (z2x d m n S) i).length:=by simp[zgI]
 have hfl:=z6d (z2x d m n S) i
 have hcl:∀c,(toI (zcI d m n S c i)).length<=i:=fun c=>by
  rw[z0b];unfold zcI
  exact ZR (ZL _ _) (by rw[ZD];omega)
 simp only[z4s]
 rw[l2,if_pos (by omega),hcat,Z0]
 rcases zds he hi with⟨h1,_,h3⟩|⟨h1,_,h3⟩
 · have h1':clN d m n S i<(z1h (z2x d m n S) i).length:=h1
   have hc:=hcl (clN d m n S i)
   have hat:atI (zgI d m n S i) ((clN d m n S i:Nat):Int)=some (toI (zcI d m n S (clN d m n S i) i)):=z2K h1'
   rw[if_neg (by omega),hat,Z0,z0e _ (by unfold z1n;omega),z0H (by omega),Z2]
   congr 2
   refine Zf (by simp[zgI,h3]) fun c c1 c2=> ?_
   have hc':c<(z1h (z2x d m n S) i).length:=by simpa[zgI] using c1
   rw[Ye]
   simp only[zgI,Zw,ZJ]
   rw[zgJ]
   by_cases e:clN d m n S i=c
   · rw[if_pos e,if_pos e,z5O,e]
   · rw[if_neg e,if_neg e]
 · have h1':clN d m n S i=(z1h (z2x d m n S) i).length:=h1
   have hat:atI (zgI d m n S i++ [[]]) ((clN d m n S i:Nat):Int)=some []:=at0 (zgI d m n S i) [] [] (by omega)
   rw[if_pos (by omega),z0e _ (by unfold z1n;omega),hat,Z0,z0e _ (by unfold z1n;simp),z0H (by omega),Z2,Yb,zAc (zgI d m n S i) [] _ [] (by omega)]
   congr 2
   have hlen:(z1h (z2x d m n S) (i+1)).length=(z1h (z2x d m n S) i).length+1:=by grind
   show zgI d m n S i++ [[((i:Nat):Int)]]=zgI d m n S (i+1)
   unfold zgI
   rw[hlen,YB,ZI,Zt,Yt]
   congr 1
   · refine ZA fun c hc=> ?_
     have:=Zj.1 hc
     rw[zgJ,if_neg (by omega)]
   · rw[zgJ,if_pos h1',zxq hd hn hS hi,Yb];rfl
theorem zxr(hc:c<(z6W d m n S).length):∃R,zcI d m n S c S.length=z2j d m n S c::R:=by
 obtain⟨h1,h2⟩:=z2S hd hn hS hc
 have hh:(zcI d m n S c S.length).head?=some (z2j d m n S c):=by
  unfold zcI
  rw[List.head?_filter,YU]
  refine⟨by simpa using h1,Zj.2 h2,fun j hj=> ?_⟩
  simp only[ZX,decide_eq_false_iff_not]
  intro e
  have:=zlS hd hn hS (i:=j) (by omega)
  have e3:z2j d m n S c=z6e d m n S j:=by unfold z2j;rw[←e];rfl
  omega
 cases h:zcI d m n S c S.length with
 |nil=>rw[h] at hh;cases hh
 |cons x R=>
  rw[h] at hh
  exact⟨R,by rw[YF hh]⟩
theorem zoK(hc:c<(z6W d m n S).length):atI (zgI d m n S S.length) (c:Int)=some (toI (zcI d m n S c S.length))/\atI (toI (zcI d m n S c S.length)) 0=some ((z2j d m n S c:Nat):Int):=by
 obtain⟨R,hR⟩:=zxr hd hn hS hc
 refine⟨z2K hc,?_⟩
 rw[hR]
 exact at0 [] _ _ (i:=0) rfl
theorem znP(hSl:S.length<=1000):∃O,z5F (z3W d m n S)=some (toI O,zgI d m n S S.length)/\zBt (hC d m n S) O/\O.Perm (zaX d m n S S.length):=by
 have he:=z9t hd hS
 have l2:(z3W d m n S).class_.length=S.length:=by simp[z3W,zvL]
 have hhat:∀i,i<S.length->atI (z3W d m n S).height (i:Int)=some ((z8e d m n S i:Nat):Int):=fun i hi=>z2K hi
 have hml:(zgI d m n S S.length).length=(z6W d m n S).length:=by simp[zgI,z6W]
 have hfl:(z6W d m n S).length<=S.length:=z6d (z2x d m n S) S.length
 have hko:∀c,c<(z6W d m n S).length->zAK (zgI d m n S S.length) (z3W d m n S).height (c:Int)=some ((hC d m n S c:Nat):Int):=fun c hc=>by
  obtain⟨m1,m2⟩:=zoK hd hn hS hc
  unfold zAK
  rw[m1,Z0,m2,Z0,hhat _ (z2S hd hn hS hc).2];rfl
 have hout:∀c∈zaX d m n S S.length,c<(z6W d m n S).length:=fun c hc=>Zj.1 (ZV.1 hc).1
 have hol:(zaX d m n S S.length).length<=S.length:=by
  unfold zaX
  exact ZR (ZL _ _) (by rw[ZD];exact hfl)
 have hasc:(toI (zaX d m n S S.length)).Pairwise (·< ·):=by
  unfold toI zaX
  exact YA _ (fun a b (h:a<b)=>by omega) (YE _ XL)
 obtain⟨Z,e,z1,z2⟩:=zmP (K:=zBF (z3W d m n S).sets (z3W d m n S).class_ (z3W d m n S).height (z3W d m n S).tiles (z3W d m n S).words (z3W d m n S).back (zgI d m n S S.length)) (l:=toI (zaX d m n S S.length))
  (fun x hx=>by
    obtain⟨c,hc,rfl⟩:=Zh.1 hx
    have:=hout c hc
    exact⟨by omega,by omega,by rw[hko c this];rfl⟩) hasc (by rw[z0b];omega)
 have hZ:∃O,Z=toI O/\O.Perm (zaX d m n S S.length):=by
  refine⟨Z.map Int.toNat,?_,?_⟩
  · unfold toI
    rw[Ya]
    refine(W4 Z).symm.trans (ZA fun x hx=> ?_)
    obtain⟨c,hc,rfl⟩:=Zh.1 (z2.mem_iff.1 hx)
    simp
  · have:=z2.map Int.toNat
    refine this.trans ?_
    unfold toI
    rw[Ya]
    have:(Int.toNat∘fun x:Nat=>(x:Int))=id:=by funext x;simp
    rw[this,X2]
 obtain⟨O,rfl,hO⟩:=hZ
 refine⟨O,?_,?_,hO⟩
 · unfold z5F
   refine z0q (s:=((0:Int),([]:List (List Int)))) S.length (fun k=>((k:Int),zgI d m n S k)) rfl (by simp only[LFm];omega) (fun i hi=>zxp hd hn hS hi hSl) ?_
   simp only[z4s]
   rw[l2,if_neg (by omega)]
   congr 1
   refine z0q (s:=((0:Int),([]:List Int))) (z6W d m n S).length (fun k=>((k:Int),toI ((List.range k).filter fun c=>decide (0<hC d m n S c)))) rfl (by simp only[LFm];omega) (fun c hc=> ?_) ?_
   · obtain⟨m1,m2⟩:=zoK hd hn hS hc
     have hq:(toI ((List.range c).filter fun c=>decide (0<hC d m n S c))).length<=c:=by
      rw[z0b]
      exact ZR (ZL _ _) (by rw[ZD];omega)
     simp only[z5a]
     rw[hml,if_pos (by omega),m1,Z0,m2,Z0,hhat _ (z2S hd hn hS hc).2,Z0,z0H (by omega),YB,XB,Xa,XP]
     by_cases h:0<hC d m n S c
     · have h':0<z8e d m n S (z2j d m n S c):=h
       rw[if_pos (by omega),z0e _ (by unfold z1n;omega),if_pos (by simpa using h),z5O]
     · have h':¬0<z8e d m n S (z2j d m n S c):=h
       rw[if_neg (by omega),if_neg (by simpa using h),Yc]
   · simp only[z5a]
     rw[hml,if_neg (by omega),zsC]
     have e':toI ((List.range (z6W d m n S).length).filter fun c=>decide (0<hC d m n S c))=toI (zaX d m n S S.length):=rfl
     rw[e',e,Z0]
 · have z1':(O.map fun x:Nat=>(x:Int)).Pairwise _:=z1
   rw[Xj] at z1'
   refine YV (fun {x y} hx hy h=> ?_) z1'
   have ox:=hout x (hO.mem_iff.1 hx)
   have oy:=hout y (hO.mem_iff.1 hy)
   have h3:(x:Int)-(zAK (zgI d m n S S.length) (z3W d m n S).height (x:Int)).getD 0*1048576<=(y:Int)-(zAK (zgI d m n S S.length) (z3W d m n S).height (y:Int)).getD 0*1048576:=h
   rw[hko x ox,hko y oy,Z4,Z4] at h3
   unfold leH
   omega
end
end
section
open Go Go.IntKind
noncomputable section
abbrev z5w(a0:DFA)(a1:ByteArray)(w79:Int)(w80:List Int):Int×List Int->Option ((Int×List Int)⊕((Int×List Int)⊕List Int))
 |(w103,w104)=>
 if w103<(w80.length:Int) then
 (atI w104 w103).bind fun v110=>
 (atI a0.next v110).bind fun v111=>
 (zht a1 w79).bind fun v112=>
 (atI v111 (u8.wrap (v112-97))).bind fun v113=>
 z0c (i64.wrap (w103+1),(w104.set w103.toNat v113))
 else
 z0d<|
 z0c (i64.wrap (w79+1),w104)
variable{a1:ByteArray}{a0:List Int}
instance{a0:DFA}{w79:Int}{w80:List Int}:Hd (z5w a0 a1 w79 w80):=⟨fun(w103,w104)=>([(31,xI w103)],[(5,(tO w104))])⟩
abbrev z7m(a0:DFA)(a1:ByteArray):Int×List Int->Option ((Int×List Int)⊕List Int)
 |(w79,w80)=>
 if w79<(a1.size:Int) then
 z0h (z5w a0 a1 w79 w80) LFm (0,w80)
 else
 z0d<|
 some w80
instance{a0:DFA}:Hd (z7m a0 a1):=⟨fun(w79,w80)=>([(26,xI w79)],[(5,(tO w80))])⟩
abbrev z5Q(a0:DFA)(a1:ByteArray):Int×List Int->Option ((Int×List Int)⊕List Int)
 |(w58,w59)=>
 if w58<(a0.final.length:Int) then
 (atI w59 w58).bind fun v61=>
 z0c (i64.wrap (w58+1),(w59.set w58.toNat w58))
 else
 z0d<|
 z0h (z7m a0 a1) LFm (0,w59)
instance{a0:DFA}:Hd (z5Q a0 a1):=⟨fun(w58,w59)=>([(16,xI w58)],[(5,(tO w59))])⟩
def z5k(a0:DFA)(a1:ByteArray):Option (List Int):=
 chk (z0D 8 (a0.final.length:Int))<|
 z0h (z5Q a0 a1) LFm (0,List.replicate (a0.final.length:Int).toNat (0:Int))
instance{a0:DFA}:Ok (z5k a0 a1) (fun r=>L 139 [.agg [.sc (.int .i64 a0.letters),.sc (.int .i64 a0.start),(tB a0.final),(tR a0.next)],.sc (.string a1)]=some ((tO r),[.dead,.dead])):=⟨fun r h=>by have h:=z3c h;unfold z5k at h;exact z4b rfl Tryz.func139 (bdy Tryz.f139 rfl)⟩
abbrev z6u(a0:List Int)(a1:Int):Int×Int->Option ((Int×Int)⊕Int)
 |(w7,w8)=>
 if w8<(a0.length:Int) then
 (atI a0 w8).bind fun v10=>
 chk (¬w8<0)<|
 if(z3j .i64 (z1D .i64 a1 w8) 1)=1 then
 chk (¬v10<0)<|
 z0c (orI .i64 w7 (zmU .i64 1 v10),i64.wrap (w8+1))
 else
 z0c (w7,i64.wrap (w8+1))
 else
 z0d<|
 some w7
instance{a1:Int}:Hd (z6u a0 a1):=⟨fun(w7,w8)=>([(5,xI w7),(10,xI w8)],[])⟩
def z4l(a0:List Int)(a1:Int):Option (Int):=
 z0h (z6u a0 a1) LFm (0,0)
instance{a1:Int}:Ok (z4l a0 a1) (fun r=>L 138 [(tI a0),.sc (.int .i64 a1)]=some (.sc (.int .i64 r),[.dead,.dead])):=⟨fun r h=>by have h:=z3c h;unfold z4l at h;exact z4b rfl Tryz.func138 (bdy Tryz.f138 rfl)⟩
abbrev z4I(a0:List Int):Int->Option (Int⊕Bool)
 |w6=>
 if w6<(a0.length:Int) then
 (atI a0 w6).bind fun v8=>
 if w6=v8 then
 z0c (i64.wrap (w6+1))
 else
 z0d<|
 some false
 else
 z0d<|
 some true
instance:Hd (z4I a0):=⟨fun w6=>([(7,xI w6)],[])⟩
def z4J(a0:List Int):Option (Bool):=
 z0h (z4I a0) LFm 0
instance:Ok (z4J a0) (fun r=>L 141 [(tI a0)]=some (.sc (.bool r),[.dead])):=⟨fun r h=>by have h:=z3c h;unfold z4J at h;exact z4b rfl Tryz.func141 (bdy Tryz.f141 rfl)⟩
abbrev z6K(a0:List Int):Int×List Int->Option ((Int×List Int)⊕ByteArray)
 |(w7,w8)=>
 if w7<(a0.length:Int) then
 (atI a0 w7).bind fun v10=>
 chk (¬8<0)<|
 chk (z1n 1 (w8.length+2))<|
 z0c (i64.wrap (w7+1),w8++ [u8.wrap (z1D .i64 v10 8),u8.wrap v10])
 else
 z0d<|
 some (z1o w8)
instance:Hd (z6K a0):=⟨fun(w7,w8)=>([(12,xI w7)],[(3,.os 1 w8.length (w8.map fun x0=>.sc (.int .u8 x0)))])⟩
def z6t(a0:List Int):Option (ByteArray):=
 chk (z0D 1 (i64.wrap (2*(a0.length:Int))))<|
 z0h (z6K a0) LFm (0,[])
instance:Ok (z6t a0) (fun r=>L 142 [(tI a0)]=some (.sc (.string r),[.dead])):=⟨fun r h=>by have h:=z3c h;unfold z6t at h;exact z4b rfl Tryz.func142 (bdy Tryz.f142 rfl)⟩
abbrev z4e(a0:List Int)(a1:List Int)(w18:List (Int×Int)):Int×List Int->Option ((Int×List Int)⊕List Int)
 |(w23,w24)=>
 if w23<(a1.length:Int) then
 (atI a1 w23).bind fun v28=>
 (z4l a0 v28).bind fun v29=>
 (atI w24 w23).bind fun v30=>
 z0c (i64.wrap (w23+1),(w24.set w23.toNat ((z7r v29 w18).getD 0)))
 else
 z0d<|
 some w24
instance{a1:List Int}{w18:List (Int×Int)}:Hd (z4e a0 a1 w18):=⟨fun(w23,w24)=>([(30,xI w23)],[(8,(tO w24))])⟩
abbrev z4f(a0:List Int)(a1:List Int):Int×(List (Int×Int))->Option ((Int×(List (Int×Int)))⊕List Int)
 |(w17,w18)=>
 if w17<(a1.length:Int) then
 (atI a1 w17).bind fun v20=>
 z0c (i64.wrap (w17+1),z8h v20 w17 w18)
 else
 z0d<|
 chk (z0D 8 (a1.length:Int))<|
 z0h (z4e a0 a1 w18) LFm (0,List.replicate (a1.length:Int).toNat (0:Int))
instance{a1:List Int}:Hd (z4f a0 a1):=⟨fun(w17,w18)=>([(16,xI w17)],[(5,.mp (some .i64) (w18.map fun x0=>(.int .i64 x0.1,.int .i64 x0.2)))])⟩
def z3Y(a0:List Int)(a1:List Int):Option (List Int):=
 z0h (z4f a0 a1) LFm (0,([]:List (Int×Int)))
instance{a1:List Int}:Ok (z3Y a0 a1) (fun r=>L 140 [(tI a0),(tI a1)]=some ((tO r),[.dead,.dead])):=⟨fun r h=>by have h:=z3c h;unfold z3Y at h;exact z4b rfl Tryz.func140 (bdy Tryz.f140 rfl)⟩
end
end
section
open Go
variable{d:DFA}{w:List UInt8}{N k m n s:Nat}{α:Type}{f g:Nat->α}
def z9R{α:Type}(N:Nat)(f g:Nat->α)(k:Nat):List α:=(List.range N).map fun i=>if i<k then f i else g i
theorem zne:(z9R N f g k).length=N:=by simp[z9R]
theorem z8V:z9R N f g 0=(List.range N).map g:=by simp[z9R]
theorem z8U:z9R N f g N=(List.range N).map f:=ZA fun i hi=>by rw[if_pos (Zj.1 hi)]
theorem z5P(h:k<N):atI (z9R N f g k) (k:Int)=some (g k):=by
 rw[z0Q (by rw[zne];exact h)];simp[z9R]
theorem z4c(h:k<N):(z9R N f g k).set k (f k)=z9R N f g (k+1):=by
 refine Zf (by simp[z9R]) fun i h1 h2=> ?_
 have hi:i<N:=by simpa[z9R] using h2
 rw[Ye]
 simp only[z9R,Zw,ZJ]
 by_cases e:k=i
 · subst e;rw[if_pos rfl,if_pos (X9 k)]
 · grind
abbrev zf8(m:Nat)(w:List UInt8):Prop:=∀c∈w,97<=c.toNat/\c.toNat<97+m
theorem z8l{c:UInt8}(h:zf8 m (c::w)):zf8 m w/\c.toNat-97<m:=⟨fun c' hc'=>h c' (Zo _ hc'),by have:=h c (Zz ..);omega⟩
def nxN(d:DFA)(q a:Nat):Nat:=((d.next.getD q []).getD a 0).toNat
def z6y(d:DFA):Nat->List UInt8->Nat
 |q,[]=>q
 |q,c::w=>z6y d (nxN d q (c.toNat-97)) w
theorem zeI(d:DFA):∀(q:Nat) (u v:List UInt8),z6y d q (u++v)=z6y d (z6y d q u) v
 |q,[],v=>rfl
 |q,c::u,v=>by simp only[ZO,z6y,zeI]
theorem zf6(hd:DfaOk d m n){q a:Nat}(hq:q<n)(ha:a<m):∃r,atI d.next (q:Int)=some r/\atI r (a:Int)=some ((nxN d q a:Nat):Int)/\nxN d q a<n:=by
 obtain⟨h1,h2,h3,h4,h5⟩:=zak hd hq ha
 refine⟨d.next[q],z0Q h1,?_,?_⟩
 · rw[z0Q h2];unfold nxN;rw[h3];congr 1;omega
 · unfold nxN;rw[h3];omega
theorem zdI{d:DFA}{m n:Nat}(hd:DfaOk d m n):∀ {w:List UInt8} {q:Nat},q<n->zf8 m w->z6y d q w<n
 | [],q,hq,_=>hq
 |c::w,q,hq,hw=>by
  obtain⟨_,_,_,h⟩:=zf6 hd hq (z8l hw).2
  exact zdI (w:=w) (q:=nxN d q (c.toNat-97)) hd h (z8l hw).1
theorem zpF{p:Nat}(hs:s<2^n)(h:s.testBit p=true):p<n:=by
 rcases Yy p n with h1|h1
 · exact h1
 · have:=YX (Zy hs (Zl (n:=2) (by omega) h1))
   rw[this] at h;cases h
theorem zaj{d:DFA}{m n:Nat}(hd:DfaOk d m n):∀ {w:List UInt8} {s p:Nat},zf8 m w->s<2^n->((z4D d s w).testBit p=true↔ ∃i,i<n/\s.testBit i=true/\z6y d i w=p)
 | [],s,p,_,hs=>by
   refine⟨fun h=>⟨p,zpF hs h,h,rfl⟩,?_⟩
   rintro⟨i,_,h,rfl⟩;exact h
 |c::w,s,p,hw,hs=>by
  have ha:=(z8l hw).2
  rw[z4D,zaj hd (z8l hw).1 (zc3 hd ha)]
  constructor
  · rintro⟨j,h1,h2,h3⟩
    obtain⟨i,i1,i2,i3⟩:=(zan hd ha j).1 h2
    exact⟨i,i1,i2,by rw[z6y,nxN,i3];exact h3⟩
  · rintro⟨i,h1,h2,h3⟩
    obtain⟨_,_,_,h⟩:=zf6 hd h1 ha
    exact⟨_,h,(zan hd ha _).2 ⟨i,h1,h2,rfl⟩,h3⟩
def zhW(d:DFA)(n:Nat)(w:List UInt8):List Nat:=(List.range n).map fun q=>z6y d q w
theorem zFY(d:DFA)(n:Nat)(w:List UInt8):toI (zhW d n w)=(List.range n).map fun q=>((z6y d q w:Nat):Int):=by simp[toI,zhW]
theorem zmo(hd:DfaOk d m n)(hn:n<=12){w:ByteArray}(hw:zf8 m w.data.toList)(hs:w.size<2^40):z5k d w=some (toI (zhW d n w.data.toList)):=by
 have hl:w.data.toList.length=w.size:=by rw[ZZ];rfl
 have hm:=hd.m6
 unfold z5k
 rw[hd.fin,z0e _ (by unfold z0D;omega),Z2]
 refine z0q (s:=((0:Int),List.replicate n (0:Int))) n (fun k=>((k:Int),z9R n (fun q=>(q:Int)) (fun _=>0) k)) (by rw[z8V];congr 1;exact(Zf (by simp) fun i h1 h2=>by simp)) (by simp only[LFm];omega) (fun k hk=> ?_) ?_
 · simp only[z5Q]
   rw[hd.fin,if_pos (by omega),z5P hk,Z0,z0H (by omega),Z2,z4c hk]
 · simp only[z5Q]
   rw[hd.fin,if_neg (by omega),z8U]
   congr 1
   refine z0q (s:=((0:Int),(List.range n).map fun q:Nat=>(q:Int))) w.size (fun k=>((k:Int),toI (zhW d n (w.data.toList.take k)))) (by rw[zFY];rfl) (by simp only[LFm];omega) (fun k hk=> ?_) ?_
   · have hk':k<w.data.toList.length:=by omega
     have hc:=hw _ (Zm hk')
     have hb:w[k]=w.data.toList[k]:=by rw[za3 hk,List.getD,Z1 hk',Z4]
     have ht:zf8 m (w.data.toList.take k):=fun c hc=>hw c (ZK hc)
     simp only[z7m]
     rw[if_pos (by omega)]
     have hst:∀q,z6y d q (w.data.toList.take (k+1))=nxN d (z6y d q (w.data.toList.take k)) (w.data.toList[k].toNat-97):=fun q=>by
      rw[zkY hk',zeI];rfl
     refine z0q (s:=((0:Int),toI (zhW d n (w.data.toList.take k)))) n (fun q=>((q:Int),z9R n (fun q=>((z6y d q (w.data.toList.take (k+1)):Nat):Int)) (fun q=>((z6y d q (w.data.toList.take k):Nat):Int)) q)) (by rw[z8V,zFY];rfl) (by simp only[LFm];omega) (fun q hq=> ?_) ?_
     · obtain⟨r,r1,r2,r3⟩:=zf6 hd (zdI hd hq ht) (a:=w.data.toList[k].toNat-97) (by omega)
       have h256:w[k].toNat<256:=w[k].toNat_lt
       have wl:IntKind.u8.wrap ((w.data.toList[k].toNat:Int)-97)=((w.data.toList[k].toNat-97:Nat):Int):=by
        rw[YQ];rw[hb] at h256;omega
       simp only[z5w]
       rw[if_pos (by rw[z0b];simp[zhW];omega),z5P hq,Z0,r1,Z0,zbc hk,Z0,hb,wl,r2,Z0,z0H (by omega),Z2,←hst,z4c hq]
     · simp only[z5w]
       rw[if_neg (by rw[z0b];simp[zhW]),z8U,z0H (by omega),zFY]
   · grind
def zrT(F:List Nat)(s:Nat):Nat->Nat
 |0=>0
 |k+1=>if s.testBit k=true then zrT F s k|||2^F.getD k 0 else zrT F s k
theorem zpM{F:List Nat}{s p:Nat}:∀k,(zrT F s k).testBit p=true↔ ∃i,i<k/\s.testBit i=true/\F.getD i 0=p
 |0=>by simp[zrT]
 |k+1=>by
  have ih:=zpM (F:=F) (s:=s) (p:=p) k
  unfold zrT
  by_cases hb:s.testBit k=true
  · grind
  · grind
theorem znV{F:List Nat}{s n:Nat}(hF:∀x∈F,x<n):∀k,k<=F.length->zrT F s k<2^n
 |0,_=>Yu n
 |k+1,hk=>by
  unfold zrT
  split
  · exact zAn (znV hF k (by omega)) (Yq (by omega) (hF _ (z0i (by omega))))
  · exact znV hF k (by omega)
theorem zyr{F:List Nat}(hn:n<=12)(hF:∀x∈F,x<n)(hl:F.length<=60)(hs:s<2^62):z4l (toI F) (s:Int)=some ((zrT F s F.length:Nat):Int):=by
 unfold z4l
 have h62:∀k,k<=F.length->zrT F s k<2^62:=fun k hk=>Zy (znV hF k hk) (Zl (by omega) (by omega))
 refine z0q (s:=((0:Int),(0:Int))) F.length (fun k=>(((zrT F s k:Nat):Int),(k:Int))) rfl (by simp only[LFm];omega) (fun k hk=> ?_) ?_
 · have hx:=hF _ (z0i hk)
   simp only[z6u]
   rw[if_pos (by rw[z0b];omega),z1q hk,Z0,z0e _ (by omega),z0H (by omega)]
   have hb:=zhx (a:=s) (q:=k) hs (by omega)
   by_cases h:s.testBit k=true
   · rw[if_pos (hb.2 h),z0e _ (by omega),z9p (by omega),zn8 (h62 k (by omega)) (Yq (by omega) (by omega))]
     simp only[zrT];rw[if_pos h]
   · rw[if_neg (fun e=>h (hb.1 e))]
     simp only[zrT];rw[if_neg h]
 · simp only[z6u]
   rw[if_neg (by rw[z0b];omega)]
theorem zmm(hd:DfaOk d m n)(hn:n<=12)(hw:zf8 m w)(hs:s<2^n):z4l (toI (zhW d n w)) (s:Int)=some ((z4D d s w:Nat):Int):=by
 have hF:∀x∈zhW d n w,x<n:=fun x hx=>by
  obtain⟨q,hq,rfl⟩:=Zh.1 hx
  exact zdI hd (Zj.1 hq) hw
 have hl:(zhW d n w).length=n:=by simp[zhW]
 rw[zyr hn hF (by omega) (Zy hs (Zl (by omega) (by omega)))]
 congr 2
 refine Y0 fun p=> ?_
 rw[Yh,zpM,zaj hd hw hs,hl]
 refine exists_congr fun i=>and_congr_right fun hi=>and_congr_right fun _=> ?_
 simp[zhW,List.getD,hi]
end
section
open Go
variable{p:List Nat}
theorem zhP{d:DFA}{m n:Nat}(hd:DfaOk d m n)(hn:n<=12){T:List Nat}(hT:T.Nodup)(hl:T.length<=1000)(hlt:∀t∈T,t<2^n){w:List UInt8}(hw:zf8 m w)(hr:∀t∈T,z4D d t w∈T):z3Y (toI (zhW d n w)) (toI T)=some (toI (z3U d w T)):=by
 unfold z3Y
 refine z0q (s:=((0:Int),([]:List (Int×Int)))) T.length (fun k=>((k:Int),zh4 T k)) rfl (by simp only[LFm];omega) (fun k hk=> ?_) ?_
 · simp only[z4f]
   rw[if_pos (by rw[z0b];omega),z1q hk,Z0,z0H (by omega)]
   rfl
 · simp only[z4f]
   rw[if_neg (by rw[z0b];omega),z0b,z0e _ (by unfold z0D;omega),Z2]
   congr 1
   have e0:toI (z3U d w T)=(List.range T.length).map fun k=>((T.idxOf (z4D d (T.getD k 0) w):Nat):Int):=by
    refine Zf (by simp[toI,z3U]) fun i h1 h2=> ?_
    have hi:i<T.length:=by simpa[toI,z3U] using h1
    simp[toI,z3U,List.getD,hi]
   rw[e0]
   refine z0q (s:=((0:Int),List.replicate T.length (0:Int))) T.length (fun k=>((k:Int),z9R T.length (fun k=>((T.idxOf (z4D d (T.getD k 0) w):Nat):Int)) (fun _=>0) k)) (by rw[z8V];congr 1;exact(Zf (by simp) fun i h1 h2=>by simp)) (by simp only[LFm];omega) (fun k hk=> ?_) ?_
   · have hm:=hr _ (z0i hk)
     have hg:=zfs hT T.length (Z8 _) (z6F hm)
     rw[z3R hm] at hg
     simp only[z4e]
     rw[if_pos (by rw[z0b];omega),z1q hk,Z0,zmm hd hn hw (hlt _ (z0i hk)),Z0,z5P hk,Z0,z0H (by omega),Z2,hg,Z4,z4c (f:=fun k=>((T.idxOf (z4D d (T.getD k 0) w):Nat):Int)) hk]
   · simp only[z4e]
     rw[if_neg (by rw[z0b];omega),z8U]
theorem zlP(hl:p.length<=100000):z4J (toI p)=some (decide (p=List.range p.length)):=by
 unfold z4J
 rw[z5C (s:=(0:Int)) p.length (fun k=>(k:Int)) (fun k=> !decide (p.getD k 0=k)) (fun _=>some false) (x:=some true) rfl (by simp only[LFm];omega) ?_ ?_]
 · rw[zdu]
   simp only[Xy]
   have:((List.range p.length).all fun k=>decide (p.getD k 0=k))=decide (p=List.range p.length):=by
    rw[Yh,decide_eq_true_eq,Zr]
    constructor
    · intro h
      refine Zf (by simp) fun i h1 h2=> ?_
      have:=h i (Zj.2 h1)
      rw[decide_eq_true_eq,List.getD,Z1 h1,Z4] at this
      rw[this,ZJ]
    · intro h k hk
      have hk:=Zj.1 hk
      rw[decide_eq_true_eq]
      rw[h,zqK hk]
   rw[this]
   cases decide (p=List.range p.length)<;>rfl
 · intro k hk
   simp only[z4I]
   rw[if_pos (by rw[z0b];omega),z1q hk,Z0,z0H (by omega)]
   by_cases h:p.getD k 0=k
   · rw[if_pos (by omega),decide_eq_true h,if_neg (by simp)]
   · rw[if_neg (by omega),decide_eq_false h,if_pos (by simp)]
 · simp only[z4I]
   rw[if_neg (by rw[z0b];omega)]
def ziZ(p:List Nat):List Int:=p.flatMap fun k=> [((k/256:Nat):Int),((k%256:Nat):Int)]
theorem zzG(hl:p.length<=100000)(hp:∀k∈p,k<65536):z6t (toI p)=some (z1o (ziZ p)):=by
 have hlen:∀q:List Nat,(ziZ q).length=2*q.length:=fun q=>by
  unfold ziZ;rw[zpj (m:=2) (fun _=>rfl)];omega
 unfold z6t
 rw[z0b,z2z (by omega) (by omega),z0e _ (by unfold z0D;omega)]
 refine z0q (s:=((0:Int),([]:List Int))) p.length (fun k=>((k:Int),ziZ (p.take k))) rfl (by simp only[LFm];omega) (fun k hk=> ?_) ?_
 · have h1:=hp _ (z0i hk)
   have h2:=hlen (p.take k)
   rw[Zp] at h2
   have e1:IntKind.u8.wrap (z1D .i64 ((p.getD k 0:Nat):Int) 8)=((p.getD k 0/256:Nat):Int):=by
    have:=zor (a:=p.getD k 0) (q:=8) (by omega)
    rw[show((8:Nat):Int)=8 from rfl] at this
    rw[this,XD,YQ];omega
   have e2:IntKind.u8.wrap ((p.getD k 0:Nat):Int)=((p.getD k 0%256:Nat):Int):=by rw[YQ];omega
   simp only[z6K]
   rw[if_pos (by rw[z0b];omega),z1q hk,Z0,z0e _ (by omega),z0e _ (by unfold z1n;omega),z0H (by omega),e1,e2,z9M hk]
   unfold ziZ
   rw[List.flatMap_append]
   rfl
 · simp only[z6K]
   rw[if_neg (by rw[z0b];omega),Yd]
theorem zzB:∀ {p q:List Nat},(∀k∈p,k<65536)->(∀k∈q,k<65536)->p.length=q.length->z1o (ziZ p)=z1o (ziZ q)->p=q:=by
 have key:∀ {p q:List Nat},(∀k∈p,k<65536)->(∀k∈q,k<65536)->p.length=q.length->(ziZ p).map (fun z:Int=>UInt8.ofNat z.toNat)=(ziZ q).map (fun z:Int=>UInt8.ofNat z.toNat)->p=q:=by
  intro p
  induction p with
  |nil=>intro q _ _ hl _;exact(Y3 hl.symm).symm
  |cons a p ih=>
   intro q hp hq hl h
   cases q with
   |nil=>cases hl
   |cons b q=>
    simp only[ziZ,Y5,ZO,Yb,Zt,Xx] at h
    obtain⟨h1,h2,h3⟩:=h
    have ha:=hp a (Zz ..)
    have hb:=hq b (Zz ..)
    have g1:=congrArg UInt8.toNat h1
    have g2:=congrArg UInt8.toNat h2
    simp only[Z2,Xz] at g1 g2
    have:a=b:=by omega
    subst this
    rw[ih (fun k hk=>hp k (Zo _ hk)) (fun k hk=>hq k (Zo _ hk)) (by simpa using hl) h3]
 intro p q hp hq hl h
 refine key hp hq hl ?_
 have:=congrArg ByteArray.data h
 simpa[z1o] using this
end
section
open Go Go.IntKind
noncomputable section
abbrev z2P(a0:DFA)(a1:Imgs)(a2:List (Int×Int))(v139:Int)(w145:List Int)(w191:Int)(v236:Int)(v140:Int):Int×List ByteArray×List (List Int)×(List (ByteArray×Bool))->Option ((Int×List ByteArray×List (List Int)×(List (ByteArray×Bool)))⊕((Int×List ByteArray×List (List Int)×(List (ByteArray×Bool)))⊕(Hol×Int)))
 |(w249,w250,w251,w252)=>
 if w249<a0.letters then
 (atI a1.sets v236).bind fun v265=>
 (z5k a0 ⟨#[UInt8.ofNat (u8.wrap (i64.wrap (97+w249))).toNat]⟩).bind fun v266=>
 (z4l v266 v265).bind fun v267=>
 (atI a1.class_ ((z7r v267 a2).getD 0)).bind fun v268=>
 (atI a1.class_ v139).bind fun v269=>
 if v268=v269 then
 (atI a1.words v236).bind fun v270=>
 chk (zaH v270 ⟨#[UInt8.ofNat (u8.wrap (i64.wrap (97+w249))).toNat]⟩)<|
 (atI a1.back ((z7r v267 a2).getD 0)).bind fun v271=>
 chk (zaH (v270++⟨#[UInt8.ofNat (u8.wrap (i64.wrap (97+w249))).toNat]⟩) v271)<|
 (z5k a0 ((v270++⟨#[UInt8.ofNat (u8.wrap (i64.wrap (97+w249))).toNat]⟩)++v271)).bind fun v272=>
 (z3Y v272 w145).bind fun v273=>
 (z4J v273).bind fun v274=>
 if v274=true then
 z0c (i64.wrap (w249+1),w250,w251,w252)
 else
 (z6t v273).bind fun v275=>
 if((z7r v275 w252).getD false)=true then
 z0c (i64.wrap (w249+1),w250,w251,w252)
 else
 if 2048<((v270.size:Int)+1+(v271.size:Int)) then
 z0d<|
 z0d<|
 some ((⟨0,[],[],[]⟩:Hol),3)
 else
 (z6t v273).bind fun v276=>
 chk (z1n 16 (w250.length+1))<|
 chk (z1n 24 (w251.length+1))<|
 z0c (i64.wrap (w249+1),w250++ [(v270++⟨#[UInt8.ofNat (u8.wrap (i64.wrap (97+w249))).toNat]⟩)++v271],w251++ [v273],z8h v276 true w252)
 else
 z0c (i64.wrap (w249+1),w250,w251,w252)
 else
 z0d<|
 z0c (i64.wrap (w191+1),w250,w251,w252)
variable{a0:DFA}{a1:Imgs}{v139 v140:Int}{a2:List (Int×Int)}{a3 w145:List Int}
instance{w191:Int}{v236:Int}:Hd (z2P a0 a1 a2 v139 w145 w191 v236 v140):=⟨fun(w249,w250,w251,w252)=>([(61,xI w249)],[(11,.vr [.sc (.int .i64 v140),(tO w145),.os 1 w250.length (w250.map fun x0=>.sc (.string x0)),.os 1 w251.length (w251.map fun x0=>(tO x0))]),(14,.mp none (w252.map fun x0=>(.string x0.1,.bool x0.2)))])⟩
abbrev z4Z(a0:DFA)(a1:Imgs)(a2:List (Int×Int))(a3:List Int)(v139:Int)(v140:Int)(w145:List Int):Int×List ByteArray×List (List Int)×(List (ByteArray×Bool))->Option ((Int×List ByteArray×List (List Int)×(List (ByteArray×Bool)))⊕(Hol×Int))
 |(w191,w192,w193,w194)=>
 if w191<(a3.length:Int) then
 (atI a3 w191).bind fun v236=>
 z0h (z2P a0 a1 a2 v139 w145 w191 v236 v140) LFm (0,w192,w193,w194)
 else
 z0d<|
 some ((⟨v140,w145,w192,w193⟩:Hol),0)
instance:Hd (z4Z a0 a1 a2 a3 v139 v140 w145):=⟨fun(w191,w192,w193,w194)=>([(55,xI w191)],[(11,.vr [.sc (.int .i64 v140),(tO w145),.os 1 w192.length (w192.map fun x0=>.sc (.string x0)),.os 1 w193.length (w193.map fun x0=>(tO x0))]),(14,.mp none (w194.map fun x0=>(.string x0.1,.bool x0.2)))])⟩
abbrev z5v(a0:DFA)(a1:Imgs)(a2:List (Int×Int))(a3:List Int)(v139:Int)(v140:Int)(v141:List Int):Int×List Int->Option ((Int×List Int)⊕(Hol×Int))
 |(w144,w145)=>
 if w144<(v141.length:Int) then
 (atI v141 w144).bind fun v148=>
 (atI a1.sets v148).bind fun v149=>
 chk (z1n 8 (w145.length+1))<|
 z0c (i64.wrap (w144+1),w145++ [v149])
 else
 z0d<|
 z0h (z4Z a0 a1 a2 a3 v139 v140 w145) LFm (0,[],[],([]:List (ByteArray×Bool)))
instance{v141:List Int}:Hd (z5v a0 a1 a2 a3 v139 v140 v141):=⟨fun(w144,w145)=>([(37,xI w144)],[(11,.vr [.sc (.int .i64 v140),(tO w145),.os 1 0 [],.os 1 0 []])])⟩
def z5E(a0:DFA)(a1:Imgs)(a2:List (Int×Int))(a3:List Int):Option (Hol×Int):=
 (atI a3 0).bind fun v139=>
 (atI a1.sets v139).bind fun v140=>
 (atI a1.tiles v139).bind fun v141=>
 z0h (z5v a0 a1 a2 a3 v139 v140 v141) LFm (0,[])
instance:Ok (z5E a0 a1 a2 a3) (fun r=>L 81 [.agg [.sc (.int .i64 a0.letters),.sc (.int .i64 a0.start),(tB a0.final),(tR a0.next)],.agg [(tI a1.sets),(tI a1.class_),(tI a1.height),(tR a1.tiles),(tS a1.words),(tS a1.back)],.mr (some .i64) (a2.map fun x0=>(.int .i64 x0.1,.int .i64 x0.2)),(tI a3)]=some (.tup [.agg [.sc (.int .i64 r.1.set),(tI r.1.tiles),(tS r.1.words),(tR r.1.perms)],.sc (.int .i64 r.2)],[.dead,.dead,.dead,.dead])):=⟨fun r h=>by have h:=z3c h;unfold z5E at h;exact zhG rfl Tryz.func81 (bdy Tryz.f81 rfl)⟩
end
end
section
open Go Go.IntKind
noncomputable section
abbrev z7n(a0:DFA)(v19:Imgs×Int)(w22:List (Int×Int))(v25:List Int×List (List Int)):Int×List Hol->Option ((Int×List Hol)⊕(List Hol×Int))
 |(w29,w30)=>
 if w29<(v25.1.length:Int) then
 (atI v25.1 w29).bind fun v34=>
 (atI v25.2 v34).bind fun v35=>
 (z5E a0 v19.1 w22 v35).bind fun v36=>
 if v36.2=0 then
 chk (z1n 80 (w30.length+1))<|
 z0c (i64.wrap (w29+1),w30++ [v36.1])
 else
 z0d<|
 some ([],v36.2)
 else
 z0d<|
 some (w30,0)
variable{a0:DFA}{v19:Imgs×Int}
instance{w22:List (Int×Int)}{v25:List Int×List (List Int)}:Hd (z7n a0 v19 w22 v25):=⟨fun(w29,w30)=>([(50,xI w29)],[(11,.os 4 w30.length (w30.flatMap fun x0=> [.sc (.int .i64 x0.set),(tI x0.tiles),(tS x0.words),(tR x0.perms)]))])⟩
abbrev z7V(a0:DFA)(v19:Imgs×Int):Int×(List (Int×Int))->Option ((Int×(List (Int×Int)))⊕(List Hol×Int))
 |(w21,w22)=>
 if w21<(v19.1.sets.length:Int) then
 (atI v19.1.sets w21).bind fun v24=>
 z0c (i64.wrap (w21+1),z8h v24 w21 w22)
 else
 z0d<|
 (z5F v19.1).bind fun v25=>
 chk (z0D 80 (v25.1.length:Int))<|
 z0h (z7n a0 v19 w22 v25) LFm (0,[])
instance:Hd (z7V a0 v19):=⟨fun(w21,w22)=>([(31,xI w21)],[(6,.mp (some .i64) (w22.map fun x0=>(.int .i64 x0.1,.int .i64 x0.2)))])⟩
def z4R(a0:DFA):Option (List Hol×Int):=
 (z9b a0).bind fun v19=>
 if v19.2=0 then
 z0h (z7V a0 v19) LFm (0,([]:List (Int×Int)))
 else
 some ([],v19.2)
instance:Ok (z4R a0) (fun r=>L 36 [.agg [.sc (.int .i64 a0.letters),.sc (.int .i64 a0.start),(tB a0.final),(tR a0.next)]]=some (.tup [.sl r.1.length (r.1.flatMap fun x0=> [.sc (.int .i64 x0.set),(tI x0.tiles),(tS x0.words),(tR x0.perms)]),.sc (.int .i64 r.2)],[.dead])):=⟨fun r h=>by have h:=z3c h;unfold z4R at h;exact zhG rfl Tryz.func36 (bdy Tryz.f36 rfl)⟩
end
end
section
open Go
variable{st:HS}{B c i:Nat}
def zf3:List (List Nat)->List (ByteArray×Bool):=List.foldl (fun mp q=>z8h (z1o (ziZ q)) true mp) []
theorem zsX(Q:List (List Nat))(p:List Nat):zf3 (Q++ [p])=z8h (z1o (ziZ p)) true (zf3 Q):=by
 unfold zf3;rw[YT];rfl
theorem zwX{L:Nat}{p:List Nat}(hp:p.length=L)(hb:∀k∈p,k<65536):∀ {Q:List (List Nat)},(∀q∈Q,q.length=L/\ ∀k∈q,k<65536)->(((z7r (z1o (ziZ p)) (zf3 Q)).getD false)=true↔p∈Q):=by
 have key:∀(Q:List (List Nat)) (mp:List (ByteArray×Bool)),(∀q∈Q,q.length=L/\ ∀k∈q,k<65536)->(((z7r (z1o (ziZ p)) (Q.foldl (fun mp q=>z8h (z1o (ziZ q)) true mp) mp)).getD false)=true↔(p∈Q∨((z7r (z1o (ziZ p)) mp).getD false)=true)):=by
  intro Q
  induction Q with
  |nil=>intro mp _;simp
  |cons q Q ih=>
   intro mp hQ
   rw[Xw,ih _ (fun x hx=>hQ x (Zo _ hx)),zb1,Zv]
   have hq:=hQ q (Zz ..)
   by_cases e:q=p
   · grind
   · have:¬z1o (ziZ q)=z1o (ziZ p):=fun h=>e (zzB hq.2 hb (by rw[hq.1,hp]) h)
     rw[if_neg this]
     constructor
     · grind
     · grind
 intro Q hQ
 have:=key Q [] hQ
 rw[show zf3 Q=Q.foldl (fun mp q=>z8h (z1o (ziZ q)) true mp) [] from rfl,this]
 simp[z7r]
def zxy(d:DFA)(m n:Nat)(S T:List Nat)(l:List Nat):HS:=l.foldl (fun st i=>zmp d m n S T i st m) ([],[])
theorem zAC(d:DFA)(m n:Nat)(S T:List Nat)(c k:Nat):zxy d m n S T (zcI d m n S c k)=zkc d m n S T c k:=by
 unfold zxy zcI zkc
 rw[List.foldl_filter]
 congr 1
 funext st i
 by_cases h:clN d m n S i=c
 · grind
 · grind
theorem zxx(d:DFA)(m n:Nat)(S T l:List Nat)(i:Nat):zxy d m n S T (l++ [i])=zmp d m n S T i (zxy d m n S T l) m:=by
 unfold zxy;rw[YT];rfl
section
variable {d:DFA} {m n:Nat} {S:List Nat} (hd:DfaOk d m n) (hn:n<=7) (hS:SetsP d m n S)
include hd hn hS
theorem ztP{k:Nat}(h:i∈zcI d m n S c k):i<k/\clN d m n S i=c:=by
 have _u:=hd
 have _v:=hn
 have _w:=hS
 unfold zcI at h
 rw[ZV,Zj,decide_eq_true_eq] at h
 exact h
theorem zCP:∀ {l:List Nat},(∀i∈l,i<S.length/\clN d m n S i=c)->HInv d m n S c (l.length*m) (zxy d m n S (z3i S (z2j d m n S c)) l):=by
 have key:∀(l:List Nat) (st:HS) (B:Nat),HInv d m n S c B st->(∀i∈l,i<S.length/\clN d m n S i=c)->HInv d m n S c (B+l.length*m) (l.foldl (fun st i=>zmp d m n S (z3i S (z2j d m n S c)) i st m) st):=by
  intro l
  induction l with
  |nil=>intro st B h _;simpa using h
  |cons i l ih=>
   intro st B h hl
   have hi:=hl i (Zz ..)
   have:=ih _ _ (zox hd hn hS h hi.1 hi.2 m (Z8 _)) (fun j hj=>hl j (Zo _ hj))
   rw[Xw]
   have e:B+(i::l).length*m=B+m+l.length*m:=by grind
   rw[e];exact this
 intro l hl
 have:=key l ([],[]) 0 ⟨rfl,by simp,fun j hj=>by simp at hj⟩ hl
 rw[Zs] at this
 exact this
theorem zAP(hc:c<(z6W d m n S).length)(h:HInv d m n S c B st):∀q∈st.2,q.length=(z3i S (z2j d m n S c)).length/\ ∀k∈q,k<65536:=fun q hq=>by
 have hk:=(z2S hd hn hS hc).2
 have htl:=zmM hd hn hS hk
 refine⟨zp5 h q hq,fun k hkq=> ?_⟩
 obtain⟨j,hj,rfl⟩:=Zn hq
 obtain⟨l1,l2,l3⟩:=zdq h (j:=j) (by rw[h.len];exact hj)
 rw[List.getD,Z1 hj,Z4] at l3
 rw[l3] at hkq
 have:=(zbB hd hn hS hk l1).2.1 k hkq
 omega
theorem znq{a:Nat}{w:Int}(hB:B<=10000)(h:HInv d m n S c B st)(hi:i<S.length)(ha:a<m)(hc:clN d m n S i=c)(hcl:c<(z6W d m n S).length)(z:Int):
 z2P d (z3W d m n S) (zh4 S S.length) ((z2j d m n S c:Nat):Int) (toI (z3i S (z2j d m n S c))) w (i:Int) z ((a:Int),st.1,st.2.map toI,zf3 st.2)=z0c (((a+1:Nat):Int),(zhM d m n S (z3i S (z2j d m n S c)) i st a).1,(zhM d m n S (z3i S (z2j d m n S c)) i st a).2.map toI,zf3 (zhM d m n S (z3i S (z2j d m n S c)) i st a).2):=by
 have h128:2^n<=128:=Zl (n:=2) (by omega) hn
 have hm:=hd.m6
 obtain⟨j1,j2⟩:=zeW hd hn hS hi ha
 obtain⟨f1,hk⟩:=z2S hd hn hS hcl
 have hsat:atI (z3W d m n S).sets (i:Int)=some ((S.getD i 0:Nat):Int):=z1q hi
 have hcat:∀i,i<S.length->atI (z3W d m n S).class_ (i:Int)=some ((clN d m n S i:Nat):Int):=fun i hi=>z2K hi
 have hwat:atI (z3W d m n S).words (i:Int)=some (zeZ d m n S i):=z2K hi
 have hbat:∀i,i<S.length->atI (z3W d m n S).back (i:Int)=some (zw4 d m n S i):=fun i hi=>z2K hi
 have hix:(z7r ((mvN d (S.getD i 0) a:Nat):Int) (zh4 S S.length)).getD 0=((z7W d S i a:Nat):Int):=by
  rw[←j2,zfs hS.nd _ (Z8 _) j1];rfl
 have h26:(UInt8.ofNat (97+a)).toNat=97+a:=z7j (by omega)
 have hlw:zf8 m (zrP a).data.toList:=fun c hc=>by
  rw[z8W,Zi] at hc
  subst hc;omega
 have hap:z4l (toI (zhW d n (zrP a).data.toList)) ((S.getD i 0:Nat):Int)=some ((mvN d (S.getD i 0) a:Nat):Int):=by
  rw[zmm hd (by omega) hlw (hS.lt _ (z0i hi)),z8W,z4D,z4D,h26,Y4]
 simp only[z2P]
 rw[hd.lt,if_pos (by omega),hsat,Z0,zjp (by omega),zmo hd (by omega) hlw (by rw[z8b];omega),Z0,hap,Z0,hix,hcat _ j1,Z0,hcat _ hk,Z0,f1]
 unfold zhM
 by_cases hj:clN d m n S (z7W d S i a)=clN d m n S i
 · obtain⟨l1,l2⟩:=znu hd hn hS hi ha hj
   have hf:z2j d m n S c=z6e d m n S i:=by unfold z2j;rw[←hc];rfl
   rw[←hf] at l1
   obtain⟨_,w1⟩:=z9l hd hn hS hi
   obtain⟨_,w2⟩:=zbS hd hn hS j1
   have htl:=zmM hd hn hS hk
   obtain⟨t1,t2⟩:=z8R hd hn hS hk
   have hwd:(zeZ d m n S i++zrP a++zw4 d m n S (z7W d S i a))=hwN d m n S i a:=rfl
   have hbd:=h.bd
   have hln:=h.len
   have hpl:=zdb d (hwN d m n S i a).data.toList (z3i S (z2j d m n S c))
   have hpf:=(zbB hd hn hS hk l1).2.1
   have hp6:∀k∈z3U d (hwN d m n S i a).data.toList (z3i S (z2j d m n S c)),k<65536:=fun k hk'=>by have:=hpf k hk';omega
   have hsg:=zwX hpl hp6 (zAP hd hn hS hcl h)
   rw[if_pos (by omega),hwat,Z0,z0e _ (by unfold zaH;rw[z8b];omega),hbat _ j1,Z0,z0e _ (by unfold zaH;rw[zfB,z8b];omega),hwd,
    zmo hd (by omega) l1.hw (by omega),Z0,zhP hd (by omega) t1 (by omega) (fun t ht=>(t2 t ht).2.2) l1.hw (zmL hd hn hS hk l1),Z0,zlP (by omega),Z0,hpl,if_pos hj,z0H (by omega)]
   by_cases hid:z3U d (hwN d m n S i a).data.toList (z3i S (z2j d m n S c))=List.range (z3i S (z2j d m n S c)).length
   · grind
   · rw[if_neg (by simpa using hid),zzG (by omega) hp6,Z0]
     by_cases hin:z3U d (hwN d m n S i a).data.toList (z3i S (z2j d m n S c))∈st.2
     · grind
     · rw[if_neg (fun e=>hin (hsg.1 e)),if_neg (by omega),Z0,z0e _ (by unfold z1n;omega),z0e _ (by unfold z1n;rw[Zg];omega),if_neg (fun e=>e.elim hid hin)]
       simp only[zsX,ZI,Zt,Yt]
 · rw[if_neg (by omega),if_neg hj,z0H (by omega)]
theorem zrk{w:Nat}(hB:B<=9000)(h:HInv d m n S c B st)(hi:i<S.length)(hc:clN d m n S i=c)(hcl:c<(z6W d m n S).length)(hw:w<1000)(z:Int):
 z0h (z2P d (z3W d m n S) (zh4 S S.length) ((z2j d m n S c:Nat):Int) (toI (z3i S (z2j d m n S c))) (w:Int) (i:Int) z) LFm (0,st.1,st.2.map toI,zf3 st.2)=z0c (((w+1:Nat):Int),(zmp d m n S (z3i S (z2j d m n S c)) i st m).1,(zmp d m n S (z3i S (z2j d m n S c)) i st m).2.map toI,zf3 (zmp d m n S (z3i S (z2j d m n S c)) i st m).2):=by
 have hm:=hd.m6
 refine z0q (s:=((0:Int),st.1,st.2.map toI,zf3 st.2)) m (fun a=>((a:Int),(zmp d m n S (z3i S (z2j d m n S c)) i st a).1,(zmp d m n S (z3i S (z2j d m n S c)) i st a).2.map toI,zf3 (zmp d m n S (z3i S (z2j d m n S c)) i st a).2)) rfl (by simp only[LFm];omega) (fun a ha=> ?_) ?_
 · rw[znq hd hn hS (B:=B+a) (by omega) (zox hd hn hS h hi hc a (by omega)) hi ha hc hcl,zja]
 · simp only[z2P]
   rw[hd.lt,if_neg (by omega),z0H (by omega)]
theorem zqT(hcl:c<(z6W d m n S).length)(hSl:S.length<=128):z5E d (z3W d m n S) (zh4 S S.length) (toI (zcI d m n S c S.length))=some (zbX d m n S c,0):=by
 have hm:=hd.m6
 obtain⟨f1,hk⟩:=z2S hd hn hS hcl
 obtain⟨_,m2⟩:=zoK hd hn hS hcl
 have hta:atI (z3W d m n S).tiles ((z2j d m n S c:Nat):Int)=some (toI (z6Z S (z2j d m n S c))):=z2K hk
 have hsat:atI (z3W d m n S).sets ((z2j d m n S c:Nat):Int)=some ((S.getD (z2j d m n S c) 0:Nat):Int):=z1q hk
 have htl:=zmM hd hn hS hk
 have hl:=ze9 (S:=S) (k:=z2j d m n S c)
 have hmf:∀i∈zcI d m n S c S.length,i<S.length/\clN d m n S i=c:=fun i hi=>ztP hd hn hS hi
 have hml:(zcI d m n S c S.length).length<=128:=by
  unfold zcI
  exact ZR (ZL _ _) (by rw[ZD];exact hSl)
 unfold z5E
 rw[m2,Z0,hsat,Z0,hta,Z0]
 refine z0q (s:=((0:Int),([]:List Int))) (z6Z S (z2j d m n S c)).length (fun q=>((q:Int),toI ((z3i S (z2j d m n S c)).take q))) rfl (by simp only[LFm];omega) (fun q hq=> ?_) ?_
 · have hx:(z6Z S (z2j d m n S c)).getD q 0<S.length:=zdp (z5M (z0i hq)).1
   have e:(z3i S (z2j d m n S c)).getD q 0=S.getD ((z6Z S (z2j d m n S c)).getD q 0) 0:=by simp[z3i,List.getD,hq]
   have hsat:atI (z3W d m n S).sets (((z6Z S (z2j d m n S c)).getD q 0:Nat):Int)=some ((S.getD ((z6Z S (z2j d m n S c)).getD q 0) 0:Nat):Int):=z1q hx
   simp only[z5v]
   rw[if_pos (by rw[z0b];omega),z1q hq,Z0,hsat,Z0,z0e _ (by unfold z1n;rw[z0b,Zp];omega),z0H (by omega),z9M (by omega),z5O,e]
 · simp only[z5v]
   rw[if_neg (by rw[z0b];omega),←hl,Yd]
   congr 1
   refine z0q (s:=((0:Int),([]:List ByteArray),([]:List (List Int)),([]:List (ByteArray×Bool)))) (zcI d m n S c S.length).length (fun k=>((k:Int),(zxy d m n S (z3i S (z2j d m n S c)) ((zcI d m n S c S.length).take k)).1,(zxy d m n S (z3i S (z2j d m n S c)) ((zcI d m n S c S.length).take k)).2.map toI,zf3 (zxy d m n S (z3i S (z2j d m n S c)) ((zcI d m n S c S.length).take k)).2)) rfl (by simp only[LFm];omega) (fun k hk'=> ?_) ?_
   · have hmem:=hmf _ (z0i hk')
     have hI:=zCP hd hn hS (c:=c) (l:=(zcI d m n S c S.length).take k) (fun i hi=>hmf i (ZK hi))
     have hB:((zcI d m n S c S.length).take k).length*m<=128*6:=XT (by rw[Zp];omega) hm
     simp only[z4Z]
     rw[if_pos (by rw[z0b];omega),z1q hk',Z0,zrk hd hn hS (by omega) hI hmem.1 hmem.2 hcl (by omega),z9M hk',zxx]
   · simp only[z4Z]
     rw[if_neg (by rw[z0b];omega),Yd,zAC]
     rfl
end
theorem zCZ{d:DFA}{m n:Nat}(hd:DfaOk d m n)(hn:n<=7):∃O,z4R d=some (O.map (zbX d m n (z2a d m n)),0)/\zBt (hC d m n (z2a d m n)) O/\O.Perm (zaX d m n (z2a d m n) (z2a d m n).length):=by
 have h128:2^n<=128:=Zl (n:=2) (by omega) hn
 have hS:=z8j hd
 have hSl:=z1C hS.nd hS.lt
 unfold z4R
 rw[zEn hd hn,Z0,if_pos rfl]
 generalize z2a d m n=S at*
 obtain⟨O,e,o1,o2⟩:=znP hd hn hS (by omega)
 refine⟨O,?_,o1,o2⟩
 have hOc:∀c∈O,c<(z6W d m n S).length:=fun c hc=>by
  have:=o2.mem_iff.1 hc
  unfold zaX at this
  exact Zj.1 (ZV.1 this).1
 have hOl:O.length<=128:=by
  rw[o2.length_eq];unfold zaX
  refine ZR (ZL _ _) ?_
  rw[ZD]
  have:=z6d (z2x d m n S) S.length
  omega
 have hsl:(z3W d m n S).sets.length=S.length:=z0b _
 refine z0q (s:=((0:Int),([]:List (Int×Int)))) S.length (fun k=>((k:Int),zh4 S k)) rfl (by simp only[LFm];omega) (fun k hk=> ?_) ?_
 · have hsat:atI (z3W d m n S).sets (k:Int)=some ((S.getD k 0:Nat):Int):=z1q hk
   simp only[z7V]
   rw[hsl,if_pos (by omega),hsat,Z0,z0H (by omega)]
   rfl
 · simp only[z7V]
   rw[hsl,if_neg (by omega),e,Z0,z0e _ (by unfold z0D;rw[z0b];omega)]
   congr 1
   refine z0q (s:=((0:Int),([]:List Hol))) O.length (fun t=>((t:Int),(O.take t).map (zbX d m n S))) rfl (by simp only[LFm];omega) (fun t ht=> ?_) ?_
   · have hc:=hOc _ (z0i ht)
     have hma:=(zoK hd hn hS hc).1
     simp only[z7n]
     rw[if_pos (by rw[z0b];omega),z1q ht,Z0,hma,Z0,zqT hd hn hS hc (by omega),Z0,if_pos rfl,z0e _ (by unfold z1n;rw[Zg,Zp];omega),z0H (by omega),z9M ht,ZI,Zt,Yt]
   · simp only[z7n]
     rw[if_neg (by rw[z0b];omega),Yd]
theorem zAl{H:Nat->Nat}{O P X:List Nat}(h1:zBt H O)(h2:zBt H P)(p1:O.Perm X)(p2:P.Perm X):O=P:=by
 refine XJ (le:=leH H) (fun a b _ _ h3 h4=> ?_) h1 h2 (p1.trans p2.symm)
 unfold leH at h3 h4
 omega
end
section
open Go
structure OrdC(d:DFA)(m n:Nat)(S O:List Nat):Prop where
 srt:zBt (hC d m n S) O
 prm:O.Perm (zaX d m n S S.length)
variable{a i t:Nat}
def cpN(d:DFA)(m n:Nat)(S O:List Nat)(i:Nat):Nat:=O.idxOf (clN d m n S i)
def tlR(d:DFA)(m n:Nat)(S:List Nat)(i:Nat):List Nat:=(z6Z S (z6e d m n S i)).map fun t=>S.idxOf (z4D d (S.getD t 0) (zeZ d m n S i).data.toList)
def szO(d:DFA)(m n:Nat)(S O:List Nat)(c:Nat):Nat:=(z6Z S (z2j d m n S (O.getD c 0))).length
theorem zrl{H:Nat->Nat}{O:List Nat}(h:zBt H O){b:Nat}(ha:a∈O)(hb:b∈O)(hlt:H a<H b):O.idxOf b<O.idxOf a:=by
 have la:=z6F ha
 have lb:=z6F hb
 rcases Xi (O.idxOf b) (O.idxOf a) with h1|h1|h1
 · exact h1
 · have e1:=z3R ha
   have e2:=z3R hb
   rw[h1,e1] at e2;subst e2;omega
 · have:=(ZG.1 h) _ _ la lb h1
   simp only[YZ] at this
   unfold leH at this
   omega
section
variable {d:DFA} {m n:Nat} {S:List Nat} (hd:DfaOk d m n) (hn:n<=7) (hS:SetsP d m n S)
include hd hn hS
theorem zjI(hi:i<S.length):z6e d m n S i<S.length:=by
 have:=zlS hd hn hS hi;omega
theorem zmN:(tlR d m n S i).length=(z6Z S (z6e d m n S i)).length:=by
 have _u:=hd;have _v:=hn;have _w:=hS
 simp[tlR]
theorem zff(hi:i<S.length):(tlR d m n S i).length=(z6Z S i).length:=by
 rw[zmN hd hn hS]
 exact zsm hd hn hS (zjI hd hn hS hi) hi (z9l hd hn hS hi).1 (zbS hd hn hS hi).1
theorem zgd{s:Nat}(hi:i<S.length)(hs:s<(tlR d m n S i).length):(tlR d m n S i).getD s 0∈z6Z S i/\S.getD ((tlR d m n S i).getD s 0) 0=z4D d (S.getD ((z6Z S (z6e d m n S i)).getD s 0) 0) (zeZ d m n S i).data.toList:=by
 have hk:=zjI hd hn hS hi
 have hl:=(z9l hd hn hS hi).1
 have hs':s<(z6Z S (z6e d m n S i)).length:=by rw[←zmN hd hn hS];exact hs
 have e:(tlR d m n S i).getD s 0=S.idxOf (z4D d (S.getD ((z6Z S (z6e d m n S i)).getD s 0) 0) (zeZ d m n S i).data.toList):=by
  simp[tlR,List.getD,hs']
 have ht:(z6Z S (z6e d m n S i)).getD s 0∈z6Z S (z6e d m n S i):=z0i hs'
 rw[e]
 exact⟨zj1 hd hn hS hk hi hl (zbS hd hn hS hi).1 ht,((zh0 hd hn hS hk hi hl).1 _ (z5M ht).1).2⟩
theorem zzF(hi:i<S.length)(ht:t∈tlR d m n S i):t∈z6Z S i:=by
 obtain⟨s,hs,rfl⟩:=Zn ht
 have:=(zgd hd hn hS hi hs).1
 simpa[List.getD,hs] using this
theorem zkW(hi:i<S.length):(tlR d m n S i).Nodup:=by
 have hk:=zjI hd hn hS hi
 have hl:=(z9l hd hn hS hi).1
 refine z5z (zcY S _) fun x hx y hy e=> ?_
 obtain⟨x1,_,_⟩:=z5M hx
 obtain⟨y1,_,_⟩:=z5M hy
 have h1:=(zh0 hd hn hS hk hi hl).1
 have e2:z4D d (S.getD x 0) (zeZ d m n S i).data.toList=z4D d (S.getD y 0) (zeZ d m n S i).data.toList:=by grind
 exact z7p hS.nd (z4C.1 x1).1 (z4C.1 y1).1 (zdj hd hn hl (z4C.1 x1).2.2 (z4C.1 y1).2.2 e2)
theorem zsn(hi:i<S.length)(ht:t∈z6Z S i):z8e d m n S t<z8e d m n S i:=by
 obtain⟨h1,h2,h3⟩:=z5M ht
 obtain⟨f1,f2,f3,f4⟩:=zge hn hS hi ht
 have h128:2^n<=128:=Zl (n:=2) (by omega) hn
 refine zp6 (zhA hd hS) hi f2 (by simpa[zaA] using h3) ?_
 simp only[sbN,Z6,ZX]
 refine⟨(z4k hd hS hi).2 ⟨[],fun c hc=>by simp at hc,f3⟩,?_⟩
 rw[←XK]
 intro hb
 obtain⟨w,w1,w2⟩:=(z4k hd hS f2).1 hb
 have a1:=zgg w2
 have a2:=zcl hd hn (hS.lt _ (z0i f2)) w1
 have a3:=zwH (by have:=hS.lt _ (z0i hi);omega) f3 f4
 omega
theorem zB7(hi:i<S.length)(ha:a<m)(hbot:∀i k,i<S.length->k<S.length->zaA S k=true->z6Y d m n S i k=true->zaA S i=true):
 clN d m n S (z7W d S i a)=clN d m n S i∨z8e d m n S (z7W d S i a)<z8e d m n S i∨z8e d m n S (z7W d S i a)=0:=by
 obtain⟨h1,h2⟩:=zeW hd hn hS hi ha
 have hb:z6Y d m n S (z7W d S i a) i=true:=(z4k hd hS hi).2 ⟨[UInt8.ofNat (97+a)],fun c hc=>by
  have hm:=hd.m6
  have:=z7j (a:=a) (by omega)
  rw[Zi.1 hc,this];omega,by
  have hm:=hd.m6
  have:=z7j (a:=a) (by omega)
  simp only[z4D,this]
  rw[h2]
  have:97+a-97=a:=by omega
  rw[this];exact z9m _⟩
 cases hz:zaA S i with
 |true=>
  have:=hbot _ _ h1 hi hz hb
  right;right
  show znv S.length (z6Y d m n S) (zaA S) (z7W d S i a)=0
  rw[zh5 (zhA hd hS) (zaA S) _ h1,this];rfl
 |false=>
  cases hb2:z6Y d m n S i (z7W d S i a) with
  |true=>
   left
   refine(zvK (z9t hd hS) h1 hi).2 ?_
   simp[z2x,hb,hb2]
  |false=>
   right;left
   exact zp6 (zhA hd hS) hi h1 hz (by simp[sbN,hb,hb2])
theorem zAQ(hi:i<S.length)(h:z6Z S i≠ []):0<z8e d m n S i:=by
 obtain⟨t,ht⟩:=List.exists_mem_of_ne_nil _ h
 have:=zsn hd hn hS hi ht
 omega
theorem ztz(hi:i<S.length)(h:szN (S.getD i 0)=1):z8e d m n S i=0:=by
 have _u:=hn
 show znv S.length (z6Y d m n S) (zaA S) i=0
 have hb:zaA S i=true:=decide_eq_true h
 rw[zh5 (zhA hd hS) (zaA S) _ hi,hb];rfl
section
variable {O:List Nat} (hH:zhI d m n S) (hO:OrdC d m n S O)
include hH hO
theorem zAS(hi:i<S.length):hC d m n S (clN d m n S i)=z8e d m n S i:=by
 have _u:=hd;have _v:=hn;have _w:=hS;have _x:=hO
 unfold hC;rw[hH i hi];rfl
theorem zvO(hi:i<S.length):clN d m n S i∈O↔0<z8e d m n S i:=by
 rw[hO.prm.mem_iff]
 unfold zaX
 rw[ZV,Zj,decide_eq_true_eq,zAS hd hn hS hH hO hi]
 exact and_iff_right (zm9 hd hn hS hi).1
theorem zyb(hi:i<S.length):cpN d m n S O i<O.length↔0<z8e d m n S i:=by
 rw[←zvO hd hn hS hH hO hi]
 unfold cpN
 exact XH
theorem zDb(i:Nat):cpN d m n S O i<=O.length:=by
 have _u:=hd;have _v:=hn;have _w:=hS;have _x:=hO;have _y:=hH
 exact List.idxOf_le_length
theorem ztw:O.Nodup:=by
 have _u:=hd;have _v:=hn;have _w:=hS;have _y:=hH
 exact hO.prm.nodup_iff.2 (YE _ YK)
theorem zvE{j:Nat}(hi:i<S.length)(hj:j<S.length)(h:z8e d m n S j<z8e d m n S i):cpN d m n S O i<cpN d m n S O j∨O.length<=cpN d m n S O j:=by
 by_cases hp:0<z8e d m n S j
 · left
   refine zrl hO.srt ((zvO hd hn hS hH hO hj).2 hp) ((zvO hd hn hS hH hO hi).2 (by omega)) ?_
   rw[zAS hd hn hS hH hO hi,zAS hd hn hS hH hO hj];exact h
 · right
   have:=mt (zyb hd hn hS hH hO hj).1 hp
   omega
theorem zBe(hi:i<S.length)(ht:t∈z6Z S i):cpN d m n S O i<cpN d m n S O t:=by
 have h1:=zsn hd hn hS hi ht
 have ht':=zdp (z5M ht).1
 have:=(zyb hd hn hS hH hO hi).2 (by omega)
 rcases zvE hd hn hS hH hO hi ht' h1 with h|h<;>omega
theorem zDc(hi:i<S.length)(ha:a<m)(hbot:∀i k,i<S.length->k<S.length->zaA S k=true->z6Y d m n S i k=true->zaA S i=true):cpN d m n S O i<=cpN d m n S O (z7W d S i a):=by
 have hj:=(zeW hd hn hS hi ha).1
 rcases zB7 hd hn hS hi ha hbot with h|h|h
 · unfold cpN;rw[h];exact Z8 _
 · rcases zvE hd hn hS hH hO hi hj h with h1|h1
   · omega
   · have:=zDb hd hn hS hH hO i;omega
 · have:=mt (zyb hd hn hS hH hO hj).1 (by omega)
   have:=zDb hd hn hS hH hO i
   omega
theorem zeb(hi:i<S.length)(hc:cpN d m n S O i<O.length):szO d m n S O (cpN d m n S O i)=(tlR d m n S i).length:=by
 have _x:=hH;have _y:=hO
 unfold szO
 rw[zmN hd hn hS]
 have:O.getD (cpN d m n S O i) 0=clN d m n S i:=z3R (XH.1 hc)
 rw[this];rfl
theorem zDf{c:Nat}(hi:i<S.length)(hc:c<O.length):clN d m n S i=O.getD c 0↔cpN d m n S O i=c:=by
 constructor
 · intro h
   unfold cpN;rw[h]
   have e:O.getD c 0=O[c]:=by simp[List.getD,hc]
   rw[e];exact(ztw hd hn hS hH hO).idxOf_getElem c hc
 · intro h
   subst h
   exact(z3R (XH.1 hc)).symm
end
end
section
variable (d:DFA) (m n:Nat) (S O:List Nat)
def zhn(i o:Nat):Nat:=
 let k:=(tlR d m n S i).findIdx fun t=>decide (S.getD o 0&&&S.getD t 0=S.getD o 0)
 if k<(tlR d m n S i).length then k else 0
def ix0(l:List Nat)(x:Nat):Nat:=if x∈l then l.idxOf x else 0
def zf7(a c o i:Nat):List Nat:=
 if cpN d m n S O i=c then
  (if cpN d m n S O o=c/\z7W d S o a=i then(tlR d m n S o).map fun t=>ix0 (tlR d m n S i) (z7W d S t a)
   else List.replicate (szO d m n S O c) (zhn d m n S i (z7W d S o a)))
 else List.replicate (szO d m n S O c) 0
def dnN(c i s:Nat):Nat:=if cpN d m n S O i=c then(tlR d m n S i).getD s 0 else i
def stN(a:Nat):Nat->Nat->Nat->List Nat->List (Nat×List Nat)
 |_,_,_,[]=> []
 |c,o,i,s::x=>((zf7 d m n S O a c o i).getD s 0,zf7 d m n S O a c o i)::stN a (c+1) (dnN d m n S O c o s) (dnN d m n S O c i ((zf7 d m n S O a c o i).getD s 0)) x
def z5n(a:Nat)(x:List Nat):List Nat:=(stN d m n S O a 0 0 0 x).map (·.1)
def z8i(a:Nat)(x:List Nat):List (List Nat):=(stN d m n S O a 0 0 0 x).map (·.2)
def z7s:Nat->Nat->List Nat->Nat
 |_,i,[]=>i
 |c,i,s::x=>z7s (c+1) (dnN d m n S O c i s) x
def srN(q:Nat):Nat->Nat->Nat->List Nat
 |0,_,_=> []
 |k+1,c,i=>
  let s:=if cpN d m n S O i=c then zhn d m n S i q else 0
  s::srN q k (c+1) (dnN d m n S O c i s)
def z3m:List Nat:=srN d m n S O (S.idxOf (2^d.start.toNat)) O.length 0 0
def zeJ(x:List Nat):Prop:=x.length=O.length/\ ∀c,c<O.length->x.getD c 0<szO d m n S O c
end
end
section
open Go
variable{a c i:Nat}
theorem zxQ{d:DFA}{m n:Nat}(hd:DfaOk d m n):2^n-1∈z2a d m n:=by
 have hp:=Yu n
 have hf:2^n-1<2^n:=by omega
 have hi:=z7e hd hf
 obtain⟨h1,h2,h3⟩:=z7M hi.nd n
 exact(z9O _).mem_iff.2 ((h2 _).2 (.inl (zbz hd hf)))
theorem zfg{n x:Nat}(hx:x<2^n):z6H x (2^n-1):=by
 refine z2e.2 fun q hq=> ?_
 rw[Nat.testBit_two_pow_sub_one]
 have:=zpF hx hq
 simpa using this
theorem zbL{d:DFA}{m n:Nat}(hd:DfaOk d m n)(hn:n<=7):0<(z2a d m n).length/\(z2a d m n).getD 0 0=2^n-1:=by
 have h128:2^n<=128:=Zl (n:=2) (by omega) hn
 have hS:=z8j hd
 have hm:=zxQ hd
 have hl:0<(z2a d m n).length:=ZM.2 (List.ne_nil_of_mem hm)
 refine⟨hl,?_⟩
 obtain⟨j,hj,e⟩:=Zn hm
 by_cases h0:j=0
 · subst h0;simp[List.getD,hl,e]
 · have hs:=(ZG.1 hS.srt) 0 j hl hj (by omega)
   rw[e,zk3] at hs
   have hx:(z2a d m n)[0]<2^n:=hS.lt _ (Zm hl)
   have h1:=zgg (zfg hx)
   have h2:=zsq (by have:=Yu n;omega) (zfg hx) (by omega)
   simp[List.getD,hl,h2]
theorem zCT{l:List Nat}{x k:Nat}(h:l.length<=k)(h0:0<k):ix0 l x<k:=by
 unfold ix0
 split
 · rename_i hx
   have:=z6F hx
   omega
 · exact h0
section
variable {d:DFA} {m n:Nat} {S:List Nat} (hd:DfaOk d m n) (hn:n<=7) (hS:SetsP d m n S) {O:List Nat} (hH:zhI d m n S) (hO:OrdC d m n S O) (hpos:∀x∈S,x≠0)
include hd hn hS hH hO hpos
theorem zec(hc:c<O.length):0<szO d m n S O c:=by
 have _u:=hH
 have hmem:O.getD c 0∈O:=z0i hc
 have hout:=hO.prm.mem_iff.1 hmem
 unfold zaX at hout
 obtain⟨h1,h2⟩:=ZV.1 hout
 have h1:=Zj.1 h1
 simp only[decide_eq_true_eq] at h2
 have hk:z2j d m n S (O.getD c 0)<S.length:=(z2S hd hn hS h1).2
 unfold szO
 unfold hC at h2
 have h128:2^n<=128:=Zl (n:=2) (by omega) hn
 generalize z2j d m n S (O.getD c 0)=k at*
 have hz:szN (S.getD k 0)≠1:=fun e=>by
  have:=ztz hd hn hS hk e
  omega
 have hne:=hpos _ (z0i hk:S.getD k 0∈S)
 obtain⟨q,hq⟩:∃q,(S.getD k 0).testBit q=true:=by
  rcases YC hne with⟨q,hq⟩
  exact⟨q,hq⟩
 obtain⟨t,ht,_⟩:=zgf hd hn hS hk hz hq
 exact YI ht
theorem zfd{s:Nat}(hcO:c<O.length)(hi:i<S.length)(hc:c<=cpN d m n S O i)(hs:s<szO d m n S O c):dnN d m n S O c i s<S.length/\c+1<=cpN d m n S O (dnN d m n S O c i s):=by
 have _u:=hpos
 unfold dnN
 by_cases e:cpN d m n S O i=c
 · rw[if_pos e]
   have hz:=zeb hd hn hS hH hO hi (by omega)
   rw[e] at hz
   have ht:=(zgd hd hn hS hi (s:=s) (by omega)).1
   have:=zBe hd hn hS hH hO hi ht
   exact⟨zdp (z5M ht).1,by omega⟩
 · rw[if_neg e]
   exact⟨hi,by omega⟩
theorem zoM{o:Nat}(hcO:c<O.length)(ho:o<S.length)(hi:i<S.length):(zf7 d m n S O a c o i).length=szO d m n S O c/\ ∀y∈zf7 d m n S O a c o i,y<szO d m n S O c:=by
 have h0:=zec hd hn hS hH hO hpos hcO
 unfold zf7
 split
 · rename_i e
   have hz:=zeb hd hn hS hH hO hi (by omega)
   rw[e] at hz
   split
   · rename_i e2
     have hz2:=zeb hd hn hS hH hO ho (by omega)
     rw[e2.1] at hz2
     refine⟨by rw[Zg,hz2],fun y hy=> ?_⟩
     obtain⟨t,ht,rfl⟩:=Zh.1 hy
     exact zCT (by omega) h0
   · refine⟨List.length_replicate,fun y hy=> ?_⟩
     rw[List.eq_of_mem_replicate hy]
     unfold zhn
     simp only
     split<;>omega
 · refine⟨List.length_replicate,fun y hy=> ?_⟩
   rw[List.eq_of_mem_replicate hy];exact h0
theorem zji{o s:Nat}(hcO:c<O.length)(ho:o<S.length)(hi:i<S.length):(zf7 d m n S O a c o i).getD s 0<szO d m n S O c:=by
 obtain⟨h1,h2⟩:=zoM hd hn hS hH hO hpos (a:=a) hcO ho hi
 by_cases hs:s<(zf7 d m n S O a c o i).length
 · exact h2 _ (z0i hs)
 · have e:(zf7 d m n S O a c o i).getD s 0=0:=by simp[List.getD,YN (Nat.le_of_not_lt hs)]
   rw[e];exact zec hd hn hS hH hO hpos hcO
theorem zC2{a:Nat}:∀(x:List Nat) (c o i:Nat),o<S.length->i<S.length->c<=cpN d m n S O o->c<=cpN d m n S O i->c+x.length<=O.length->(∀j,j<x.length->x.getD j 0<szO d m n S O (c+j))->
 (stN d m n S O a c o i x).length=x.length/\ ∀j,j<x.length->((stN d m n S O a c o i x).map (·.1)).getD j 0<szO d m n S O (c+j)
 | [],c,o,i,ho,hi,hco,hci,hl,hx=>⟨rfl,fun j hj=>by simp at hj⟩
 |s::x,c,o,i,ho,hi,hco,hci,hl,hx=>by
  simp only[Zq] at hl
  have hcO:c<O.length:=by omega
  have hs:s<szO d m n S O c:=by simpa using hx 0 (by simp)
  have hy:=zji hd hn hS hH hO hpos (a:=a) (s:=s) hcO ho hi
  obtain⟨o1,o2⟩:=zfd hd hn hS hH hO hpos hcO ho hco hs
  obtain⟨i1,i2⟩:=zfd hd hn hS hH hO hpos hcO hi hci hy
  obtain⟨r1,r2⟩:=zC2 (a:=a) x (c+1) _ _ o1 i1 o2 i2 (by omega) (fun j hj=>by have:=hx (j+1) (by simp;omega);simp only[Yg] at this;rwa [show c+1+j=c+(j+1) by omega])
  refine⟨by simp only[stN,Zq];rw[r1],fun j hj=> ?_⟩
  match j,hj with
  |0,_=>simpa only[stN,Zt,Xe,YH] using hy
  |j+1,hj=>
   have:=r2 j (by simpa using hj)
   rw[show c+1+j=c+(j+1) by omega] at this
   simp only[stN,Zt,Yg]
   exact this
theorem zah{x:List Nat}(hx:zeJ d m n S O x)(h0:0<S.length):zeJ d m n S O (z5n d m n S O a x)/\(z8i d m n S O a x).length=O.length:=by
 obtain⟨h1,h2⟩:=hx
 obtain⟨r1,r2⟩:=zC2 hd hn hS hH hO hpos (a:=a) x 0 0 0 h0 h0 (by omega) (by omega) (by omega) (fun j hj=>by rw[Zs];exact h2 j (by omega))
 exact⟨⟨by simp[z5n,r1,h1],fun c hc=>by have:=r2 c (by omega);rwa [Zs] at this⟩,by simp[z8i,r1,h1]⟩
theorem zzk{q:Nat}(hcO:c<O.length)(hi:i<S.length)(e:cpN d m n S O i=c):zhn d m n S i q<szO d m n S O c:=by
 have h0:=zec hd hn hS hH hO hpos hcO
 have hz:=zeb hd hn hS hH hO hi (by omega)
 rw[e] at hz
 unfold zhn
 simp only
 split<;>omega
theorem zC6{q:Nat}:∀(k c i:Nat),c+k=O.length->i<S.length->c<=cpN d m n S O i->(srN d m n S O q k c i).length=k/\ ∀j,j<k->(srN d m n S O q k c i).getD j 0<szO d m n S O (c+j)
 |0,c,i,hk,hi,hc=>⟨rfl,fun j hj=>by omega⟩
 |k+1,c,i,hk,hi,hc=>by
  have hcO:c<O.length:=by omega
  have hs:(if cpN d m n S O i=c then zhn d m n S i q else 0)<szO d m n S O c:=by
   split
   · rename_i e;exact zzk hd hn hS hH hO hpos hcO hi e
   · exact zec hd hn hS hH hO hpos hcO
  obtain⟨i1,i2⟩:=zfd hd hn hS hH hO hpos hcO hi hc hs
  obtain⟨r1,r2⟩:=zC6 (q:=q) k (c+1) _ (by omega) i1 i2
  refine⟨by simp only[srN];rw[Zq,r1],fun j hj=> ?_⟩
  match j,hj with
  |0,_=>simpa only[srN,Xe,YH] using hs
  |j+1,hj=>
   have:=r2 j (by omega)
   simp only[srN,Yg]
   rwa [show c+(j+1)=c+1+j by omega]
theorem zai(h0:0<S.length):zeJ d m n S O (z3m d m n S O):=by
 obtain⟨r1,r2⟩:=zC6 hd hn hS hH hO hpos (q:=S.idxOf (2^d.start.toNat)) O.length 0 0 (by omega) h0 (by omega)
 exact⟨r1,fun c hc=>by have:=r2 c hc;rwa [Zs] at this⟩
end
end
section
open Go
instance:Inhabited Casc:=⟨⟨0,[],[]⟩⟩
structure Frm where
 d:DFA
 x:Imgs
 comp:List Int
 sizes:List Int
 tiles:List (List Int)
 next:List (List Int)
deriving Inhabited
structure Cover where
 casc:Casc
 start:List Int
 tuples:List (List Int)
 states:List Int
 groups:List Hol
deriving Inhabited
structure Runner where
 c:Casc
deriving Inhabited
instance:IsS CRow:=⟨⟩
@[simp] theorem rangeL7:List.range 7= [0,1,2,3,4,5,6]:=rfl
@[simp] theorem rangeL8:List.range 8= [0,1,2,3,4,5,6,7]:=rfl
@[simp] theorem rangeL9:List.range 9= [0,1,2,3,4,5,6,7,8]:=rfl
@[simp] theorem rangeL10:List.range 10= [0,1,2,3,4,5,6,7,8,9]:=rfl
@[simp] theorem rangeL11:List.range 11= [0,1,2,3,4,5,6,7,8,9,10]:=rfl
@[simp] theorem rangeL12:List.range 12= [0,1,2,3,4,5,6,7,8,9,10,11]:=rfl
@[simp] theorem rangeL13:List.range 13= [0,1,2,3,4,5,6,7,8,9,10,11,12]:=rfl
@[simp] theorem rangeL14:List.range 14= [0,1,2,3,4,5,6,7,8,9,10,11,12,13]:=rfl
@[simp] theorem rangeL15:List.range 15= [0,1,2,3,4,5,6,7,8,9,10,11,12,13,14]:=rfl
@[simp] theorem rangeL16:List.range 16= [0,1,2,3,4,5,6,7,8,9,10,11,12,13,14,15]:=rfl
@[simp] theorem rangeL17:List.range 17= [0,1,2,3,4,5,6,7,8,9,10,11,12,13,14,15,16]:=rfl
@[simp] theorem rangeL18:List.range 18= [0,1,2,3,4,5,6,7,8,9,10,11,12,13,14,15,16,17]:=rfl
@[simp] theorem rangeL19:List.range 19= [0,1,2,3,4,5,6,7,8,9,10,11,12,13,14,15,16,17,18]:=rfl
@[simp] theorem rangeL20:List.range 20= [0,1,2,3,4,5,6,7,8,9,10,11,12,13,14,15,16,17,18,19]:=rfl
end
section
open Go Go.IntKind
noncomputable section
abbrev z5S(a0:DFA)(a2:ByteArray)(w47:Int)(w48:Int):Int×Int->Option ((Int×Int)⊕((Int×Int)⊕Int))
 |(w63,w64)=>
 if w64<(a0.next.length:Int) then
 (atI a0.next w64).bind fun v68=>
 chk (¬w64<0)<|
 if(z3j .i64 (z1D .i64 w47 w64) 1)=1 then
 (zht a2 w48).bind fun v69=>
 (atI v68 (u8.wrap (v69-97))).bind fun v70=>
 chk (¬v70<0)<|
 z0c (orI .i64 w63 (zmU .i64 1 v70),i64.wrap (w64+1))
 else
 z0c (w63,i64.wrap (w64+1))
 else
 z0d<|
 z0c (w63,i64.wrap (w48+1))
variable{m0 m3 m5:Frm}{v99:Imgs×Int}{a1 a2 a3 w137:Int}{w103:List (Int×Int)}{w138 w139:List (List Int)}{a0 m1 m6 m8 v40 w104:List Int}{rf:List Int->Int->Int->Int->Frm->List Int->Option (List Int)}
instance{a0:DFA}{a2:ByteArray}{w47:Int}{w48:Int}:Hd (z5S a0 a2 w47 w48):=⟨fun(w63,w64)=>([(8,xI w63),(19,xI w64)],[])⟩
abbrev z5T(a0:DFA)(a2:ByteArray):Int×Int->Option ((Int×Int)⊕Int)
 |(w47,w48)=>
 if w48<(a2.size:Int) then
 z0h (z5S a0 a2 w47 w48) LFm (0,0)
 else
 z0d<|
 some w47
instance{a0:DFA}{a2:ByteArray}:Hd (z5T a0 a2):=⟨fun(w47,w48)=>([(1,xI w47),(13,xI w48)],[])⟩
def z5l(a0:DFA)(a1:Int)(a2:ByteArray):Option (Int):=
 z0h (z5T a0 a2) LFm (a1,0)
instance{a0:DFA}{a2:ByteArray}:Ok (z5l a0 a1 a2) (fun r=>L 94 [.agg [.sc (.int .i64 a0.letters),.sc (.int .i64 a0.start),(tB a0.final),(tR a0.next)],.sc (.int .i64 a1),.sc (.string a2)]=some (.sc (.int .i64 r),[.dead,.dead,.dead])):=⟨fun r h=>by have h:=z3c h;unfold z5l at h;exact z4b rfl Tryz.func94 (bdy Tryz.f94 rfl)⟩
def z1f(a0:Int)(a1:Int)(m2:Frm)(m4:List Int):Option (Int):=
 (atI m4 a1).bind fun v6=>
 (atI m2.x.height v6).bind fun v7=>
 (atI m4 a0).bind fun v8=>
 (atI m2.x.height v8).bind fun v9=>
 (cmp_Compare_int v7 v9).bind fun v10=>
 some v10
instance{a0:Int}{m2:Frm}{m4:List Int}:Ok (z1f a0 a1 m2 m4) (fun r=>L 149 [.sc (.int .i64 a0),.sc (.int .i64 a1),.pr [.pr [.sc (.int .i64 m2.d.letters),.sc (.int .i64 m2.d.start),(tB m2.d.final),(tR m2.d.next),(tI m2.x.sets),(tI m2.x.class_),(tI m2.x.height),(tR m2.x.tiles),(tS m2.x.words),(tS m2.x.back),(tI m2.comp),(tI m2.sizes),(tR m2.tiles),(tR m2.next)]],.pr [(tI m4)]]=some (.sc (.int .i64 r),[.dead,.dead,.dead,.dead])):=⟨fun r h=>by have h:=z3c h;unfold z1f at h;exact z4b rfl Tryz.func149 (bdy Tryz.f149 rfl)⟩
abbrev z1A(a1:Int)(m5:Frm)(m8:List Int)(w95:Int):Int×List Int->Option ((Int×List Int)⊕((Int×List Int)⊕List Int))
 |(w127,w128)=>
 if a1<w127 then
 (atI w128 w127).bind fun v136=>
 (atI w128 (i64.wrap (w127-1))).bind fun v137=>
 (z1f v136 v137 m5 m8).bind fun v138=>
 if v138<0 then
 (atI (w128.set w127.toNat v137) (i64.wrap (w127-1))).bind fun v142=>
 z0c (i64.wrap (w127-1),((w128.set w127.toNat v137).set (i64.wrap (w127-1)).toNat v136))
 else
 z0d<|
 z0c (i64.wrap (w95+1),w128)
 else
 z0d<|
 z0c (i64.wrap (w95+1),w128)
instance{w95:Int}:Hd (z1A a1 m5 m8 w95):=⟨fun(w127,w128)=>([(9,xI w127)],[(0,(tO w128))])⟩
abbrev z1B(a1:Int)(a2:Int)(m5:Frm)(m8:List Int):Int×List Int->Option ((Int×List Int)⊕List Int)
 |(w95,w96)=>
 if w95<a2 then
 z0h (z1A a1 m5 m8 w95) LFm (w95,w96)
 else
 z0d<|
 some w96
instance:Hd (z1B a1 a2 m5 m8):=⟨fun(w95,w96)=>([(8,xI w95)],[(0,(tO w96))])⟩
def z0C(a0:List Int)(a1:Int)(a2:Int)(m5:Frm)(m8:List Int):Option (List Int):=
 z0h (z1B a1 a2 m5 m8) LFm (i64.wrap (a1+1),a0)
instance:Ok (z0C a0 a1 a2 m5 m8) (fun r=>L 208 [(tO a0),.sc (.int .i64 a1),.sc (.int .i64 a2),.cl 149 [.pr [.pr [.sc (.int .i64 m5.d.letters),.sc (.int .i64 m5.d.start),(tB m5.d.final),(tR m5.d.next),(tI m5.x.sets),(tI m5.x.class_),(tI m5.x.height),(tR m5.x.tiles),(tS m5.x.words),(tS m5.x.back),(tI m5.comp),(tI m5.sizes),(tR m5.tiles),(tR m5.next)]],.pr [(tI m8)]]]=some (.tup [],[(tO r),.dead,.dead,.dead])):=⟨fun r h=>by have h:=z3c h;unfold z0C at h;exact z4b rfl Tryz.func208 (bdy Tryz.f208 rfl)⟩
abbrev z1Q(a1:Int)(a2:Int)(a3:Int):Int×List Int->Option ((Int×List Int)⊕List Int)
 |(w19,w20)=>
 if w19<a3 then
 (atI w20 (i64.wrap (a2+w19))).bind fun v25=>
 (atI w20 (i64.wrap (a1+w19))).bind fun v26=>
 (atI (w20.set (i64.wrap (a1+w19)).toNat v25) (i64.wrap (a2+w19))).bind fun v28=>
 z0c (i64.wrap (w19+1),((w20.set (i64.wrap (a1+w19)).toNat v25).set (i64.wrap (a2+w19)).toNat v26))
 else
 z0d<|
 some w20
instance:Hd (z1Q a1 a2 a3):=⟨fun(w19,w20)=>([(10,xI w19)],[(0,(tO w20))])⟩
def z0v(a0:List Int)(a1:Int)(a2:Int)(a3:Int)(m0:Frm)(m1:List Int):Option (List Int):=
 z0h (z1Q a1 a2 a3) LFm (0,a0)
instance:Ok (z0v a0 a1 a2 a3 m0 m1) (fun r=>L 236 [(tO a0),.sc (.int .i64 a1),.sc (.int .i64 a2),.sc (.int .i64 a3),.cl 149 [.pr [.pr [.sc (.int .i64 m0.d.letters),.sc (.int .i64 m0.d.start),(tB m0.d.final),(tR m0.d.next),(tI m0.x.sets),(tI m0.x.class_),(tI m0.x.height),(tR m0.x.tiles),(tS m0.x.words),(tS m0.x.back),(tI m0.comp),(tI m0.sizes),(tR m0.tiles),(tR m0.next)]],.pr [(tI m1)]]]=some (.tup [],[(tO r),.dead,.dead,.dead,.dead])):=⟨fun r h=>by have h:=z3c h;unfold z0v at h;exact z4b rfl Tryz.func236 (bdy Tryz.f236 rfl)⟩
abbrev z2c(a2:Int)(m0:Frm)(m1:List Int):Int×Int×List Int->Option ((Int×Int×List Int)⊕List Int)
 |(w13,w15,w14)=>
 if w13=w15 then
 z0d<|
 (z0v w14 (i64.wrap (a2-w13)) a2 w13 m0 m1).bind fun v18=>
 some v18
 else
 if w15<w13 then
 (z0v w14 (i64.wrap (a2-w13)) a2 w15 m0 m1).bind fun v19=>
 z0c (i64.wrap (w13-w15),w15,v19)
 else
 (z0v w14 (i64.wrap (a2-w13)) (i64.wrap ((i64.wrap (a2+w15))-w13)) w13 m0 m1).bind fun v20=>
 z0c (w13,i64.wrap (w15-w13),v20)
instance:Hd (z2c a2 m0 m1):=⟨fun(w13,w15,w14)=>([(10,xI w13),(11,xI w15)],[(0,(tO w14))])⟩
def z0W(a0:List Int)(a1:Int)(a2:Int)(a3:Int)(m0:Frm)(m1:List Int):Option (List Int):=
 z0h (z2c a2 m0 m1) LFm (i64.wrap (a2-a1),i64.wrap (a3-a2),a0)
instance:Ok (z0W a0 a1 a2 a3 m0 m1) (fun r=>L 229 [(tO a0),.sc (.int .i64 a1),.sc (.int .i64 a2),.sc (.int .i64 a3),.cl 149 [.pr [.pr [.sc (.int .i64 m0.d.letters),.sc (.int .i64 m0.d.start),(tB m0.d.final),(tR m0.d.next),(tI m0.x.sets),(tI m0.x.class_),(tI m0.x.height),(tR m0.x.tiles),(tS m0.x.words),(tS m0.x.back),(tI m0.comp),(tI m0.sizes),(tR m0.tiles),(tR m0.next)]],.pr [(tI m1)]]]=some (.tup [],[(tO r),.dead,.dead,.dead,.dead])):=⟨fun r h=>by have h:=z3c h;unfold z0W at h;exact z4b rfl Tryz.func229 (bdy Tryz.f229 rfl)⟩
abbrev z1T(w102:Int):Int×List Int->Option ((Int×List Int)⊕List Int)
 |(w114,w115)=>
 if w114<(i64.wrap (w102-1)) then
 (atI w115 (i64.wrap (w114+1))).bind fun v120=>
 (atI w115 w114).bind fun v121=>
 (atI (w115.set w114.toNat v120) (i64.wrap (w114+1))).bind fun v123=>
 z0c (i64.wrap (w114+1),((w115.set w114.toNat v120).set (i64.wrap (w114+1)).toNat v121))
 else
 z0d<|
 some w115
instance{w102:Int}:Hd (z1T w102):=⟨fun(w114,w115)=>([(13,xI w114)],[(0,(tO w115))])⟩
abbrev z1U(a0:List Int)(a1:Int)(m0:Frm)(m1:List Int):Int×Int->Option ((Int×Int)⊕List Int)
 |(w102,w103)=>
 if w102<w103 then
 chk (¬1<0)<|
 (atI a0 (md w102 w103)).bind fun v107=>
 (atI a0 a1).bind fun v108=>
 (z1f v107 v108 m0 m1).bind fun v109=>
 if v109<0 then
 z0c (i64.wrap ((md w102 w103)+1),w103)
 else
 z0c (w102,i64.wrap (z1D .u64 (u64.wrap (i64.wrap (w102+w103))) 1))
 else
 z0d<|
 z0h (z1T w102) LFm (a1,a0)
instance:Hd (z1U a0 a1 m0 m1):=⟨fun(w102,w103)=>([(10,xI w102),(11,xI w103)],[])⟩
abbrev z1N(w128:Int):Int×List Int->Option ((Int×List Int)⊕List Int)
 |(w139,w140)=>
 if w128<w139 then
 (atI w140 (i64.wrap (w139-1))).bind fun v145=>
 (atI w140 w139).bind fun v146=>
 (atI (w140.set w139.toNat v145) (i64.wrap (w139-1))).bind fun v148=>
 z0c (i64.wrap (w139-1),((w140.set w139.toNat v145).set (i64.wrap (w139-1)).toNat v146))
 else
 z0d<|
 some w140
instance{w128:Int}:Hd (z1N w128):=⟨fun(w139,w140)=>([(17,xI w139)],[(0,(tO w140))])⟩
abbrev z1O(a0:List Int)(a2:Int)(m0:Frm)(m1:List Int):Int×Int->Option ((Int×Int)⊕List Int)
 |(w128,w127)=>
 if w128<w127 then
 chk (¬1<0)<|
 (atI a0 a2).bind fun v132=>
 (atI a0 (md w128 w127)).bind fun v133=>
 (z1f v132 v133 m0 m1).bind fun v134=>
 if v134<0 then
 z0c (w128,i64.wrap (z1D .u64 (u64.wrap (i64.wrap (w128+w127))) 1))
 else
 z0c (i64.wrap ((md w128 w127)+1),w127)
 else
 z0d<|
 z0h (z1N w128) LFm (a2,a0)
instance:Hd (z1O a0 a2 m0 m1):=⟨fun(w128,w127)=>([(14,xI w128),(15,xI w127)],[])⟩
abbrev z1M(a0:List Int)(a1:Int)(a2:Int)(a3:Int)(m0:Frm)(m1:List Int)(rf:List Int->Int->Int->Int->Frm->List Int->Option (List Int)):Int×Int->Option ((Int×Int)⊕List Int)
 |(w153,w152)=>
 if w153<w152 then
 chk (¬1<0)<|
 (atI a0 (i64.wrap ((i64.wrap ((i64.wrap ((md a1 a3)+a2))-1))-(md w153 w152)))).bind fun v157=>
 (atI a0 (md w153 w152)).bind fun v158=>
 (z1f v157 v158 m0 m1).bind fun v159=>
 if v159<0 then
 z0c (w153,i64.wrap (z1D .u64 (u64.wrap (i64.wrap (w153+w152))) 1))
 else
 z0c (i64.wrap ((md w153 w152)+1),w152)
 else
 z0d<|
 if w153<a2 then
 if a2<(i64.wrap ((i64.wrap ((md a1 a3)+a2))-w153)) then
 (z0W a0 w153 a2 (i64.wrap ((i64.wrap ((md a1 a3)+a2))-w153)) m0 m1).bind fun v160=>
 if a1<w153 then
 if w153<(md a1 a3) then
 (rf v160 a1 w153 (md a1 a3) m0 m1).bind fun v161=>
 if(md a1 a3)<(i64.wrap ((i64.wrap ((md a1 a3)+a2))-w153)) then
 if(i64.wrap ((i64.wrap ((md a1 a3)+a2))-w153))<a3 then
 (rf v161 (md a1 a3) (i64.wrap ((i64.wrap ((md a1 a3)+a2))-w153)) a3 m0 m1).bind fun v162=>
 some v162
 else
 some v161
 else
 some v161
 else
 if(md a1 a3)<(i64.wrap ((i64.wrap ((md a1 a3)+a2))-w153)) then
 if(i64.wrap ((i64.wrap ((md a1 a3)+a2))-w153))<a3 then
 (rf v160 (md a1 a3) (i64.wrap ((i64.wrap ((md a1 a3)+a2))-w153)) a3 m0 m1).bind fun v163=>
 some v163
 else
 some v160
 else
 some v160
 else
 if(md a1 a3)<(i64.wrap ((i64.wrap ((md a1 a3)+a2))-w153)) then
 if(i64.wrap ((i64.wrap ((md a1 a3)+a2))-w153))<a3 then
 (rf v160 (md a1 a3) (i64.wrap ((i64.wrap ((md a1 a3)+a2))-w153)) a3 m0 m1).bind fun v164=>
 some v164
 else
 some v160
 else
 some v160
 else
 if a1<w153 then
 if w153<(md a1 a3) then
 (rf a0 a1 w153 (md a1 a3) m0 m1).bind fun v165=>
 if(md a1 a3)<(i64.wrap ((i64.wrap ((md a1 a3)+a2))-w153)) then
 if(i64.wrap ((i64.wrap ((md a1 a3)+a2))-w153))<a3 then
 (rf v165 (md a1 a3) (i64.wrap ((i64.wrap ((md a1 a3)+a2))-w153)) a3 m0 m1).bind fun v166=>
 some v166
 else
 some v165
 else
 some v165
 else
 if(md a1 a3)<(i64.wrap ((i64.wrap ((md a1 a3)+a2))-w153)) then
 if(i64.wrap ((i64.wrap ((md a1 a3)+a2))-w153))<a3 then
 (rf a0 (md a1 a3) (i64.wrap ((i64.wrap ((md a1 a3)+a2))-w153)) a3 m0 m1).bind fun v167=>
 some v167
 else
 some a0
 else
 some a0
 else
 if(md a1 a3)<(i64.wrap ((i64.wrap ((md a1 a3)+a2))-w153)) then
 if(i64.wrap ((i64.wrap ((md a1 a3)+a2))-w153))<a3 then
 (rf a0 (md a1 a3) (i64.wrap ((i64.wrap ((md a1 a3)+a2))-w153)) a3 m0 m1).bind fun v168=>
 some v168
 else
 some a0
 else
 some a0
 else
 if a1<w153 then
 if w153<(md a1 a3) then
 (rf a0 a1 w153 (md a1 a3) m0 m1).bind fun v169=>
 if(md a1 a3)<(i64.wrap ((i64.wrap ((md a1 a3)+a2))-w153)) then
 if(i64.wrap ((i64.wrap ((md a1 a3)+a2))-w153))<a3 then
 (rf v169 (md a1 a3) (i64.wrap ((i64.wrap ((md a1 a3)+a2))-w153)) a3 m0 m1).bind fun v170=>
 some v170
 else
 some v169
 else
 some v169
 else
 if(md a1 a3)<(i64.wrap ((i64.wrap ((md a1 a3)+a2))-w153)) then
 if(i64.wrap ((i64.wrap ((md a1 a3)+a2))-w153))<a3 then
 (rf a0 (md a1 a3) (i64.wrap ((i64.wrap ((md a1 a3)+a2))-w153)) a3 m0 m1).bind fun v171=>
 some v171
 else
 some a0
 else
 some a0
 else
 if(md a1 a3)<(i64.wrap ((i64.wrap ((md a1 a3)+a2))-w153)) then
 if(i64.wrap ((i64.wrap ((md a1 a3)+a2))-w153))<a3 then
 (rf a0 (md a1 a3) (i64.wrap ((i64.wrap ((md a1 a3)+a2))-w153)) a3 m0 m1).bind fun v172=>
 some v172
 else
 some a0
 else
 some a0
instance:Hd (z1M a0 a1 a2 a3 m0 m1 rf):=⟨fun(w153,w152)=>([(20,xI w153),(21,xI w152)],[])⟩
abbrev z1I(a0:List Int)(a1:Int)(a2:Int)(a3:Int)(m0:Frm)(m1:List Int)(rf:List Int->Int->Int->Int->Frm->List Int->Option (List Int)):Int×Int->Option ((Int×Int)⊕List Int)
 |(w177,w176)=>
 if w177<w176 then
 chk (¬1<0)<|
 (atI a0 (i64.wrap ((i64.wrap ((i64.wrap ((md a1 a3)+a2))-1))-(md w177 w176)))).bind fun v181=>
 (atI a0 (md w177 w176)).bind fun v182=>
 (z1f v181 v182 m0 m1).bind fun v183=>
 if v183<0 then
 z0c (w177,i64.wrap (z1D .u64 (u64.wrap (i64.wrap (w177+w176))) 1))
 else
 z0c (i64.wrap ((md w177 w176)+1),w176)
 else
 z0d<|
 if w177<a2 then
 if a2<(i64.wrap ((i64.wrap ((md a1 a3)+a2))-w177)) then
 (z0W a0 w177 a2 (i64.wrap ((i64.wrap ((md a1 a3)+a2))-w177)) m0 m1).bind fun v184=>
 if a1<w177 then
 if w177<(md a1 a3) then
 (rf v184 a1 w177 (md a1 a3) m0 m1).bind fun v185=>
 if(md a1 a3)<(i64.wrap ((i64.wrap ((md a1 a3)+a2))-w177)) then
 if(i64.wrap ((i64.wrap ((md a1 a3)+a2))-w177))<a3 then
 (rf v185 (md a1 a3) (i64.wrap ((i64.wrap ((md a1 a3)+a2))-w177)) a3 m0 m1).bind fun v186=>
 some v186
 else
 some v185
 else
 some v185
 else
 if(md a1 a3)<(i64.wrap ((i64.wrap ((md a1 a3)+a2))-w177)) then
 if(i64.wrap ((i64.wrap ((md a1 a3)+a2))-w177))<a3 then
 (rf v184 (md a1 a3) (i64.wrap ((i64.wrap ((md a1 a3)+a2))-w177)) a3 m0 m1).bind fun v187=>
 some v187
 else
 some v184
 else
 some v184
 else
 if(md a1 a3)<(i64.wrap ((i64.wrap ((md a1 a3)+a2))-w177)) then
 if(i64.wrap ((i64.wrap ((md a1 a3)+a2))-w177))<a3 then
 (rf v184 (md a1 a3) (i64.wrap ((i64.wrap ((md a1 a3)+a2))-w177)) a3 m0 m1).bind fun v188=>
 some v188
 else
 some v184
 else
 some v184
 else
 if a1<w177 then
 if w177<(md a1 a3) then
 (rf a0 a1 w177 (md a1 a3) m0 m1).bind fun v189=>
 if(md a1 a3)<(i64.wrap ((i64.wrap ((md a1 a3)+a2))-w177)) then
 if(i64.wrap ((i64.wrap ((md a1 a3)+a2))-w177))<a3 then
 (rf v189 (md a1 a3) (i64.wrap ((i64.wrap ((md a1 a3)+a2))-w177)) a3 m0 m1).bind fun v190=>
 some v190
 else
 some v189
 else
 some v189
 else
 if(md a1 a3)<(i64.wrap ((i64.wrap ((md a1 a3)+a2))-w177)) then
 if(i64.wrap ((i64.wrap ((md a1 a3)+a2))-w177))<a3 then
 (rf a0 (md a1 a3) (i64.wrap ((i64.wrap ((md a1 a3)+a2))-w177)) a3 m0 m1).bind fun v191=>
 some v191
 else
 some a0
 else
 some a0
 else
 if(md a1 a3)<(i64.wrap ((i64.wrap ((md a1 a3)+a2))-w177)) then
 if(i64.wrap ((i64.wrap ((md a1 a3)+a2))-w177))<a3 then
 (rf a0 (md a1 a3) (i64.wrap ((i64.wrap ((md a1 a3)+a2))-w177)) a3 m0 m1).bind fun v192=>
 some v192
 else
 some a0
 else
 some a0
 else
 if a1<w177 then
 if w177<(md a1 a3) then
 (rf a0 a1 w177 (md a1 a3) m0 m1).bind fun v193=>
 if(md a1 a3)<(i64.wrap ((i64.wrap ((md a1 a3)+a2))-w177)) then
 if(i64.wrap ((i64.wrap ((md a1 a3)+a2))-w177))<a3 then
 (rf v193 (md a1 a3) (i64.wrap ((i64.wrap ((md a1 a3)+a2))-w177)) a3 m0 m1).bind fun v194=>
 some v194
 else
 some v193
 else
 some v193
 else
 if(md a1 a3)<(i64.wrap ((i64.wrap ((md a1 a3)+a2))-w177)) then
 if(i64.wrap ((i64.wrap ((md a1 a3)+a2))-w177))<a3 then
 (rf a0 (md a1 a3) (i64.wrap ((i64.wrap ((md a1 a3)+a2))-w177)) a3 m0 m1).bind fun v195=>
 some v195
 else
 some a0
 else
 some a0
 else
 if(md a1 a3)<(i64.wrap ((i64.wrap ((md a1 a3)+a2))-w177)) then
 if(i64.wrap ((i64.wrap ((md a1 a3)+a2))-w177))<a3 then
 (rf a0 (md a1 a3) (i64.wrap ((i64.wrap ((md a1 a3)+a2))-w177)) a3 m0 m1).bind fun v196=>
 some v196
 else
 some a0
 else
 some a0
instance:Hd (z1I a0 a1 a2 a3 m0 m1 rf):=⟨fun(w177,w176)=>([(20,xI w177),(21,xI w176)],[])⟩
def z0J(rf:List Int->Int->Int->Int->Frm->List Int->Option (List Int))(a0:List Int)(a1:Int)(a2:Int)(a3:Int)(m0:Frm)(m1:List Int):Option (List Int):=
 if(i64.wrap (a2-a1))=1 then
 z0h (z1U a0 a1 m0 m1) LFm (a2,a3)
 else
 if(i64.wrap (a3-a2))=1 then
 z0h (z1O a0 a2 m0 m1) LFm (a1,a2)
 else
 chk (¬1<0)<|
 if(md a1 a3)<a2 then
 z0h (z1M a0 a1 a2 a3 m0 m1 rf) LFm (i64.wrap ((i64.wrap ((md a1 a3)+a2))-a3),i64.wrap (z1D .u64 (u64.wrap (i64.wrap (a1+a3))) 1))
 else
 z0h (z1I a0 a1 a2 a3 m0 m1 rf) LFm (a1,a2)
theorem z3Q[ih:∀(a0:List Int) (a1:Int) (a2:Int) (a3:Int) (m0:Frm) (m1:List Int),Ok (rf a0 a1 a2 a3 m0 m1) (fun r=>L 209 [(tO a0),.sc (.int .i64 a1),.sc (.int .i64 a2),.sc (.int .i64 a3),.cl 149 [.pr [.pr [.sc (.int .i64 m0.d.letters),.sc (.int .i64 m0.d.start),(tB m0.d.final),(tR m0.d.next),(tI m0.x.sets),(tI m0.x.class_),(tI m0.x.height),(tR m0.x.tiles),(tS m0.x.words),(tS m0.x.back),(tI m0.comp),(tI m0.sizes),(tR m0.tiles),(tR m0.next)]],.pr [(tI m1)]]]=some (.tup [],[(tO r),.dead,.dead,.dead,.dead]))]:Ok (z0J rf a0 a1 a2 a3 m0 m1) (fun r=>L 209 [(tO a0),.sc (.int .i64 a1),.sc (.int .i64 a2),.sc (.int .i64 a3),.cl 149 [.pr [.pr [.sc (.int .i64 m0.d.letters),.sc (.int .i64 m0.d.start),(tB m0.d.final),(tR m0.d.next),(tI m0.x.sets),(tI m0.x.class_),(tI m0.x.height),(tR m0.x.tiles),(tS m0.x.words),(tS m0.x.back),(tI m0.comp),(tI m0.sizes),(tR m0.tiles),(tR m0.next)]],.pr [(tI m1)]]]=some (.tup [],[(tO r),.dead,.dead,.dead,.dead])):=⟨fun r h=>by have h:=z3c h;unfold z0J at h;exact z4b rfl Tryz.func209 (bdy Tryz.f209 rfl)⟩
def z0k:Nat->List Int->Int->Int->Int->Frm->List Int->Option (List Int)
 |0=>fun _ _ _ _ _ _=>none
 |k+1=>z0J (z0k k)
instance:∀ {k:Nat} {a0:List Int} {a1:Int} {a2:Int} {a3:Int} {m0:Frm} {m1:List Int},Ok (z0k k a0 a1 a2 a3 m0 m1) (fun r=>L 209 [(tO a0),.sc (.int .i64 a1),.sc (.int .i64 a2),.sc (.int .i64 a3),.cl 149 [.pr [.pr [.sc (.int .i64 m0.d.letters),.sc (.int .i64 m0.d.start),(tB m0.d.final),(tR m0.d.next),(tI m0.x.sets),(tI m0.x.class_),(tI m0.x.height),(tR m0.x.tiles),(tS m0.x.words),(tS m0.x.back),(tI m0.comp),(tI m0.sizes),(tR m0.tiles),(tR m0.next)]],.pr [(tI m1)]]]=some (.tup [],[(tO r),.dead,.dead,.dead,.dead])):=by
 intro k
 induction k with
 |zero=>intros;exact⟨fun r h=>by cases h⟩
 |succ k ih=>intros;have ih2:= @ih;exact z3Q (rf:=z0k k)
abbrev z0N(a1:Int)(m3:Frm)(m6:List Int)(w45:Int):Int×Int×List Int->Option ((Int×Int×List Int)⊕((Int×List Int)⊕List Int))
 |(w55,w56,w57)=>
 if w56<=a1 then
 (z0k 5000 w57 w55 (i64.wrap (w55+w45)) w56 m3 m6).bind fun v59=>
 z0c (w56,i64.wrap (w56+(i64.wrap (2*w45))),v59)
 else
 z0d<|
 if(i64.wrap (w55+w45))<a1 then
 (z0k 5000 w57 w55 (i64.wrap (w55+w45)) a1 m3 m6).bind fun v60=>
 z0c (i64.wrap (w45*2),v60)
 else
 z0c (i64.wrap (w45*2),w57)
instance{w45:Int}:Hd (z0N a1 m3 m6 w45):=⟨fun(w55,w56,w57)=>([(7,xI w55),(8,xI w56)],[(0,(tO w57))])⟩
abbrev z0O(a1:Int)(m3:Frm)(m6:List Int):Int×List Int->Option ((Int×List Int)⊕List Int)
 |(w45,w46)=>
 if w45<a1 then
 z0h (z0N a1 m3 m6 w45) LFm (0,i64.wrap (2*w45),w46)
 else
 z0d<|
 some w46
instance:Hd (z0O a1 m3 m6):=⟨fun(w45,w46)=>([(6,xI w45)],[(0,(tO w46))])⟩
abbrev z0P(a1:Int)(m3:Frm)(m6:List Int):Int×Int×List Int->Option ((Int×Int×List Int)⊕List Int)
 |(w32,w33,w34)=>
 if w33<=a1 then
 (z0C w34 w32 w33 m3 m6).bind fun v36=>
 z0c (w33,i64.wrap (w33+20),v36)
 else
 z0d<|
 (z0C w34 w32 a1 m3 m6).bind fun v37=>
 z0h (z0O a1 m3 m6) LFm (20,v37)
instance:Hd (z0P a1 m3 m6):=⟨fun(w32,w33,w34)=>([(7,xI w32),(8,xI w33)],[(0,(tO w34))])⟩
def z0U(a0:List Int)(a1:Int)(m3:Frm)(m6:List Int):Option (List Int):=
 z0h (z0P a1 m3 m6) LFm (0,20,a0)
instance:Ok (z0U a0 a1 m3 m6) (fun r=>L 181 [(tO a0),.sc (.int .i64 a1),.cl 149 [.pr [.pr [.sc (.int .i64 m3.d.letters),.sc (.int .i64 m3.d.start),(tB m3.d.final),(tR m3.d.next),(tI m3.x.sets),(tI m3.x.class_),(tI m3.x.height),(tR m3.x.tiles),(tS m3.x.words),(tS m3.x.back),(tI m3.comp),(tI m3.sizes),(tR m3.tiles),(tR m3.next)]],.pr [(tI m6)]]]=some (.tup [],[(tO r),.dead,.dead])):=⟨fun r h=>by have h:=z3c h;unfold z0U at h;exact z4b rfl Tryz.func181 (bdy Tryz.f181 rfl)⟩
def z0t(a0:List Int)(m7:Frm)(m9:List Int):Option (List Int):=
 (z0U a0 (a0.length:Int) m7 m9).bind fun v2=>
 some v2
instance{m7:Frm}{m9:List Int}:Ok (z0t a0 m7 m9) (fun r=>L 136 [(tO a0),.cl 149 [.pr [.pr [.sc (.int .i64 m7.d.letters),.sc (.int .i64 m7.d.start),(tB m7.d.final),(tR m7.d.next),(tI m7.x.sets),(tI m7.x.class_),(tI m7.x.height),(tR m7.x.tiles),(tS m7.x.words),(tS m7.x.back),(tI m7.comp),(tI m7.sizes),(tR m7.tiles),(tR m7.next)]],.pr [(tI m9)]]]=some (.tup [],[(tO r),.dead])):=⟨fun r h=>by have h:=z3c h;unfold z0t at h;exact z4b rfl Tryz.func136 (bdy Tryz.f136 rfl)⟩
abbrev z2Y(a0:Frm)(v40:List Int)(w45:List Int):Int×List Int->Option ((Int×List Int)⊕Frm)
 |(w55,w56)=>
 if w55<(a0.x.class_.length:Int) then
 (atI a0.x.class_ w55).bind fun v60=>
 (z1u v40 v60).bind fun v61=>
 (atI w56 w55).bind fun v62=>
 z0c (i64.wrap (w55+1),(w56.set w55.toNat v61))
 else
 z0d<|
 some (⟨⟨a0.d.letters,a0.d.start,a0.d.final,a0.d.next⟩,⟨a0.x.sets,a0.x.class_,a0.x.height,a0.x.tiles,a0.x.words,a0.x.back⟩,w56,w45,a0.tiles,a0.next⟩:Frm)
instance{a0:Frm}{w45:List Int}:Hd (z2Y a0 v40 w45):=⟨fun(w55,w56)=>([(69,xI w55)],[(2,.vr [.vr [.sc (.int .i64 a0.d.letters),.sc (.int .i64 a0.d.start),(tB a0.d.final),(tR a0.d.next),(tI a0.x.sets),(tI a0.x.class_),(tI a0.x.height),(tR a0.x.tiles),(tS a0.x.words),(tS a0.x.back),(tO w56),(tO w45),.os 1 a0.tiles.length (a0.tiles.map fun x0=>(tO x0)),.os 1 a0.next.length (a0.next.map fun x0=>(tO x0))]])])⟩
abbrev z2Z(a0:Frm)(a1:List Int)(v40:List Int):Int×List Int->Option ((Int×List Int)⊕Frm)
 |(w44,w45)=>
 if w44<(v40.length:Int) then
 (atI v40 w44).bind fun v49=>
 (atI a1 v49).bind fun v50=>
 (atI a0.x.tiles v50).bind fun v51=>
 chk (z1n 8 (w45.length+1))<|
 z0c (i64.wrap (w44+1),w45++ [(v51.length:Int)])
 else
 z0d<|
 z0h (z2Y a0 v40 w45) LFm (0,a0.comp)
instance{a0:Frm}{a1:List Int}:Hd (z2Z a0 a1 v40):=⟨fun(w44,w45)=>([(37,xI w44)],[(2,.vr [.vr [.sc (.int .i64 a0.d.letters),.sc (.int .i64 a0.d.start),(tB a0.d.final),(tR a0.d.next),(tI a0.x.sets),(tI a0.x.class_),(tI a0.x.height),(tR a0.x.tiles),(tS a0.x.words),(tS a0.x.back),(tO a0.comp),(tO w45),.os 1 a0.tiles.length (a0.tiles.map fun x0=>(tO x0)),.os 1 a0.next.length (a0.next.map fun x0=>(tO x0))]])])⟩
abbrev z3v(a0:Frm)(a1:List Int):Int×List Int->Option ((Int×List Int)⊕Frm)
 |(w34,w35)=>
 if w34<(a1.length:Int) then
 (atI a1 w34).bind fun v38=>
 (atI a0.x.height v38).bind fun v39=>
 if 1<=v39 then
 chk (z1n 8 (w35.length+1))<|
 z0c (i64.wrap (w34+1),w35++ [w34])
 else
 z0c (i64.wrap (w34+1),w35)
 else
 z0d<|
 (z0t w35 a0 a1).bind fun v40=>
 z0h (z2Z a0 a1 v40) LFm (0,a0.sizes)
instance{a0:Frm}{a1:List Int}:Hd (z3v a0 a1):=⟨fun(w34,w35)=>([(13,xI w34)],[(4,(tO w35))])⟩
def z3h(a0:Frm)(a1:List Int):Option (Frm):=
 z0h (z3v a0 a1) LFm (0,[])
instance{a0:Frm}{a1:List Int}:Ok (z3h a0 a1) (fun r=>L 95 [.vr [.sc (.int .i64 a0.d.letters),.sc (.int .i64 a0.d.start),(tB a0.d.final),(tR a0.d.next),(tI a0.x.sets),(tI a0.x.class_),(tI a0.x.height),(tR a0.x.tiles),(tS a0.x.words),(tS a0.x.back),(tO a0.comp),(tO a0.sizes),.os 1 a0.tiles.length (a0.tiles.map fun x0=>(tO x0)),.os 1 a0.next.length (a0.next.map fun x0=>(tO x0))],(tI a1)]=some (.tup [],[.vr [.sc (.int .i64 r.d.letters),.sc (.int .i64 r.d.start),(tB r.d.final),(tR r.d.next),(tI r.x.sets),(tI r.x.class_),(tI r.x.height),(tR r.x.tiles),(tS r.x.words),(tS r.x.back),(tO r.comp),(tO r.sizes),.os 1 r.tiles.length (r.tiles.map fun x0=>(tO x0)),.os 1 r.next.length (r.next.map fun x0=>(tO x0))],.dead])):=⟨fun r h=>by have h:=z3c h;unfold z3h at h;exact z4b rfl Tryz.func95 (bdy Tryz.f95 rfl)⟩
abbrev z4w(a0:DFA)(v99:Imgs×Int)(w103:List (Int×Int))(w137:Int)(w138:List (List Int))(w139:List (List Int))(w171:List Int)(v179:List Int):Int×List Int->Option ((Int×List Int)⊕((Int×List (List Int)×List (List Int))⊕(Frm×Int)))
 |(w184,w185)=>
 if w184<(v179.length:Int) then
 (atI v179 w184).bind fun v191=>
 (atI v99.1.sets v191).bind fun v192=>
 (atI v99.1.words w137).bind fun v193=>
 (z5l a0 v192 v193).bind fun v194=>
 (atI w185 w184).bind fun v195=>
 z0c (i64.wrap (w184+1),(w185.set w184.toNat ((z7r v194 w103).getD 0)))
 else
 z0d<|
 chk (z1n 24 (w138.length+1))<|
 z0c (i64.wrap (w137+1),w138++ [w185],w139++ [w171])
instance{a0:DFA}{w171:List Int}{v179:List Int}:Hd (z4w a0 v99 w103 w137 w138 w139 w171 v179):=⟨fun(w184,w185)=>([(119,xI w184)],[(15,(tO w185))])⟩
abbrev z4x(a0:DFA)(v99:Imgs×Int)(w103:List (Int×Int))(w104:List Int)(w137:Int)(w138:List (List Int))(w139:List (List Int))(v168:Int):Int×List Int->Option ((Int×List Int)⊕((Int×List (List Int)×List (List Int))⊕(Frm×Int)))
 |(w170,w171)=>
 if w170<a0.letters then
 (z5l a0 v168 ⟨#[UInt8.ofNat (u8.wrap (i64.wrap (97+w170))).toNat]⟩).bind fun v174=>
 (atI w171 w170).bind fun v175=>
 z0c (i64.wrap (w170+1),(w171.set w170.toNat ((z7r v174 w103).getD 0)))
 else
 z0d<|
 chk (z1n 24 (w139.length+1))<|
 (atI v99.1.tiles w137).bind fun v176=>
 chk (z0D 8 (v176.length:Int))<|
 (atI v99.1.class_ w137).bind fun v177=>
 (atI w104 v177).bind fun v178=>
 (atI v99.1.tiles v178).bind fun v179=>
 z0h (z4w a0 v99 w103 w137 w138 w139 w171 v179) LFm (0,List.replicate (v176.length:Int).toNat (0:Int))
instance{a0:DFA}{v168:Int}:Hd (z4x a0 v99 w103 w104 w137 w138 w139 v168):=⟨fun(w170,w171)=>([(76,xI w170)],[(13,(tO w171))])⟩
abbrev z4y(a0:DFA)(v99:Imgs×Int)(w103:List (Int×Int))(w104:List Int):Int×List (List Int)×List (List Int)->Option ((Int×List (List Int)×List (List Int))⊕(Frm×Int))
 |(w137,w138,w139)=>
 if w137<(v99.1.sets.length:Int) then
 (atI v99.1.sets w137).bind fun v168=>
 chk (z0D 8 a0.letters)<|
 z0h (z4x a0 v99 w103 w104 w137 w138 w139 v168) LFm (0,List.replicate a0.letters.toNat (0:Int))
 else
 z0d<|
 (z3h (⟨⟨a0.letters,a0.start,a0.final,a0.next⟩,⟨v99.1.sets,v99.1.class_,v99.1.height,v99.1.tiles,v99.1.words,v99.1.back⟩,List.replicate (v99.1.sets.length:Int).toNat (0:Int),[],w138,w139⟩:Frm) w104).bind fun v196=>
 some (v196,0)
instance{a0:DFA}:Hd (z4y a0 v99 w103 w104):=⟨fun(w137,w138,w139)=>([(66,xI w137)],[(6,.vr [.sc (.int .i64 a0.letters),.sc (.int .i64 a0.start),(tB a0.final),(tR a0.next),(tI v99.1.sets),(tI v99.1.class_),(tI v99.1.height),(tR v99.1.tiles),(tS v99.1.words),(tS v99.1.back),.os 1 (List.replicate (v99.1.sets.length:Int).toNat (0:Int)).length ((List.replicate (v99.1.sets.length:Int).toNat (0:Int)).map fun x0=>.sc (.int .i64 x0)),.os 1 0 [],.os 1 w138.length (w138.map fun x0=>(tO x0)),.os 1 w139.length (w139.map fun x0=>(tO x0))])])⟩
abbrev z4O(a0:DFA)(v99:Imgs×Int):Int×(List (Int×Int))×List Int->Option ((Int×(List (Int×Int))×List Int)⊕(Frm×Int))
 |(w102,w103,w104)=>
 if w102<(v99.1.sets.length:Int) then
 (atI v99.1.sets w102).bind fun v107=>
 (atI v99.1.class_ w102).bind fun v108=>
 if v108=(w104.length:Int) then
 chk (z1n 8 (w104.length+1))<|
 z0c (i64.wrap (w102+1),z8h v107 w102 w103,w104++ [w102])
 else
 z0c (i64.wrap (w102+1),z8h v107 w102 w103,w104)
 else
 z0d<|
 z0h (z4y a0 v99 w103 w104) LFm (0,[],[])
instance{a0:DFA}:Hd (z4O a0 v99):=⟨fun(w102,w103,w104)=>([(42,xI w102)],[(7,.mp (some .i64) (w103.map fun x0=>(.int .i64 x0.1,.int .i64 x0.2))),(8,(tO w104))])⟩
def z3I(a0:DFA):Option (Frm×Int):=
 (z9b a0).bind fun v99=>
 if v99.2=0 then
 chk (z0D 8 (v99.1.sets.length:Int))<|
 z0h (z4O a0 v99) LFm (0,([]:List (Int×Int)),[])
 else
 some ((⟨⟨0,0,[],[]⟩,⟨[],[],[],[],[],[]⟩,[],[],[],[]⟩:Frm),v99.2)
instance{a0:DFA}:Ok (z3I a0) (fun r=>L 44 [.agg [.sc (.int .i64 a0.letters),.sc (.int .i64 a0.start),(tB a0.final),(tR a0.next)]]=some (.tup [.agg [.sc (.int .i64 r.1.d.letters),.sc (.int .i64 r.1.d.start),(tB r.1.d.final),(tR r.1.d.next),(tI r.1.x.sets),(tI r.1.x.class_),(tI r.1.x.height),(tR r.1.x.tiles),(tS r.1.x.words),(tS r.1.x.back),(tI r.1.comp),(tI r.1.sizes),(tR r.1.tiles),(tR r.1.next)],.sc (.int .i64 r.2)],[.dead])):=⟨fun r h=>by have h:=z3c h;unfold z3I at h;exact zhG rfl Tryz.func44 (bdy Tryz.f44 rfl)⟩
end
end
section
open Go
def zzb(M H:List Int)(x:Int):Option Int:=(atI M x).bind fun r=>atI H r
def zBG(F:Frm)(M:List Int):SrtC where
 cmp x y:=z1f x y F M
 key x:=x-(zzb M F.x.height x).getD 0*1048576
 ok x:=0<=x/\x<1048576/\(zzb M F.x.height x).isSome
 law x y hx hy hl:=by
  obtain⟨x0,x1,x2⟩:=hx
  obtain⟨y0,y1,y2⟩:=hy
  obtain⟨u,hu⟩:=ZW.1 x2
  obtain⟨v,hv⟩:=ZW.1 y2
  have hu':=hu
  have hv':=hv
  unfold zzb at hu hv
  cases h1:atI M x with
  |none=>rw[h1] at hu;cases hu
  |some p=>
   cases h2:atI M y with
   |none=>rw[h2] at hv;cases hv
   |some q=>
    rw[h1,Z0] at hu
    rw[h2,Z0] at hv
    obtain⟨z,e1,e2⟩:=zvG v u
    refine⟨z,?_,?_⟩
    · unfold z1f
      rw[h2,Z0,hv,Z0,h1,Z0,hu,Z0,e1];rfl
    · rw[e2,hu',hv',Z4,Z4]
      omega
theorem zkZ:∀k,z0k k=fun l a m b F M=>zxP k l a m b (zBG F M)
 |0=>rfl
 |k+1=>by
  show z0J (z0k k)=_
  rw[zkZ k]
  rfl
theorem zsB(l:List Int)(F:Frm)(M:List Int):z0t l F M=zD1 l (zBG F M):=by
 have h9:z0N=fun a F M k=>zcA a (zBG F M) k:=by
  unfold z0N
  rw[zkZ]
  all_goals rfl
 have h7:z0O=fun a F M=>zet a (zBG F M):=by
  unfold z0O
  rw[h9]
  all_goals rfl
 have h2:z0P=fun a F M=>zeu a (zBG F M):=by
  unfold z0P
  rw[h7]
  all_goals rfl
 unfold z0t z0U
 rw[h2]
 all_goals rfl
end
section
open Go
theorem zBK{k:Nat}(h:97<=k)(h2:k<256):IntKind.u8.wrap ((k:Int)-97)=((k-97:Nat):Int):=by
 rw[YQ];omega
theorem zp4{d:DFA}{m n:Nat}(hd:DfaOk d m n)(hn:n<=12){s:Nat}(hs:s<2^n){w:ByteArray}(hw:zf8 m w.data.toList)(hsz:w.size<2^40):z5l d (s:Int) w=some ((z4D d s w.data.toList:Nat):Int):=by
 have hl:w.data.toList.length=w.size:=by rw[ZZ];rfl
 have h12:=zgA hn
 unfold z5l
 refine z0q (s:=((s:Int),(0:Int))) w.size (fun k=>(((z4D d s (w.data.toList.take k):Nat):Int),(k:Int))) rfl (by simp only[LFm];omega) (fun k hk=> ?_) ?_
 · have hk':k<w.data.toList.length:=by omega
   have hc:=hw _ (Zm hk')
   have hb:w[k]=w.data.toList[k]:=by rw[za3 hk,List.getD,Z1 hk',Z4]
   have h256:w.data.toList[k].toNat<256:=w.data.toList[k].toNat_lt
   have hcur:=zgr hd hs (w:=w.data.toList.take k) fun c hc=>hw c (ZK hc)
   simp only[z5T]
   rw[if_pos (by omega),zkY hk',z7D]
   show _=z0c (((mvN d (z4D d s (w.data.toList.take k)) (w.data.toList[k].toNat-97):Nat):Int),_)
   generalize z4D d s (w.data.toList.take k)=s' at*
   unfold mvN
   refine z0q (s:=((0:Int),(0:Int))) n (fun q=>(((zjg d.next s' (w.data.toList[k].toNat-97) q:Nat):Int),(q:Int))) rfl (by simp only[LFm];omega) (fun q hq=> ?_) ?_
   · have ha:w.data.toList[k].toNat-97<m:=by omega
     have hlt:=zgH hd (s:=s') ha q (by omega)
     obtain⟨h1,h2,e,h3,h4⟩:=zak hd (q:=q) hq ha
     simp only[z5S]
     rw[if_pos (by omega),z0Q h1]
     simp only[Z0]
     rw[z0e _ (by omega),z0H (by omega)]
     by_cases hbt:s'.testBit q=true
     · rw[if_pos ((zhx (by omega) (by omega)).2 hbt),zbc hk]
       simp only[Z0]
       rw[hb,zBK hc.1 h256,z0Q h2]
       simp only[Z0]
       obtain⟨v,hv⟩:=ZF h3
       rw[z0e _ (by omega),hv,z9p (by omega),zn8 (by omega) (Yq (by omega) (by omega))]
       simp only[zjg]
       rw[if_pos hbt,e,hv,Z2]
     · rw[if_neg (fun h=>hbt ((zhx (by omega) (by omega)).1 h))]
       simp only[zjg]
       rw[if_neg hbt]
   · simp only[z5S]
     rw[if_neg (by rw[hd.nl];omega),hd.nl,z0H (by omega)]
 · simp only[z5T]
   rw[if_neg (by omega),←hl,Yd]
def cpI(d:DFA)(m n:Nat)(S O:List Nat)(i:Nat):Int:=if clN d m n S i∈O then((cpN d m n S O i:Nat):Int) else-1
def z9i(d:DFA)(m n:Nat)(S O:List Nat):Frm:=⟨d,z3W d m n S,(List.range S.length).map (cpI d m n S O),toI ((List.range O.length).map (szO d m n S O)),(List.range S.length).map fun i=>toI (tlR d m n S i),(List.range S.length).map fun i=>toI ((List.range m).map (z7W d S i))⟩
theorem zjw{l:List Nat}{x:Nat}(hl:l.length<4611686018427387904):z1u (toI l) (x:Int)=some (if x∈l then((l.idxOf x:Nat):Int) else-1):=by
 unfold z1u
 rw[z5C (s:=(0:Int)) l.length (fun k=>(k:Int)) (fun k=>decide (x=l.getD k 0)) (fun k=>some (k:Int)) (x:=some (-1)) rfl (by simp only[LFm];omega) (fun k hk=> ?_) ?_]
 · by_cases hx:x∈l
   · have h1:=z6F hx
     rw[if_pos hx]
     have hf:(List.range l.length).find? (fun k=>decide (x=l.getD k 0))=some (l.idxOf x):=by
      rw[YU]
      refine⟨by rw[decide_eq_true_eq,z3R hx],by simpa using h1,fun j hj=> ?_⟩
      have hjl:j<l.length:=by omega
      have h3:=List.not_of_lt_findIdx (p:=(·==x)) (xs:=l) (i:=j) hj
      simp only[ZX,decide_eq_false_iff_not]
      intro e
      rw[List.getD,Z1 hjl,Z4] at e
      rw[←e] at h3
      simp at h3
     rw[hf]
   · rw[if_neg hx]
     have hf:(List.range l.length).find? (fun k=>decide (x=l.getD k 0))=none:=by
      rw[W0]
      intro k hk
      have hk:=Zj.1 hk
      simp only[decide_eq_true_eq]
      intro e
      exact hx (e▸z0i hk)
     rw[hf]
 · simp only[z2d]
   rw[if_neg (by rw[z0b];omega)]
 · simp only[z2d]
   rw[if_pos (by rw[z0b];omega),z1q hk]
   simp only[Z0]
   by_cases e:x=l.getD k 0
   · rw[if_pos (by rw[e]),if_pos (by rw[decide_eq_true_eq];exact e)]
   · rw[if_neg (by omega),if_neg (by rw[decide_eq_true_eq];exact e),z0H (by omega)]
end
section
open Go
section
variable {d:DFA} {m n:Nat} {S:List Nat} (hd:DfaOk d m n) (hn:n<=7) (hS:SetsP d m n S) (hH:zhI d m n S) {O:List Nat} (hO:OrdC d m n S O)
include hd hn hS hH hO
theorem ztC(hSl:S.length<=1000)(C:List Int)(hC0:C=List.replicate S.length 0)(T N:List (List Int)):
 z3h ⟨d,z3W d m n S,C,[],T,N⟩ (toI (z6W d m n S))=some ⟨d,z3W d m n S,(List.range S.length).map (cpI d m n S O),toI ((List.range O.length).map (szO d m n S O)),T,N⟩:=by
 have hhat:∀i,i<S.length->atI (z3W d m n S).height (i:Int)=some ((z8e d m n S i:Nat):Int):=fun i hi=>z2K hi
 have htat:∀i,i<S.length->atI (z3W d m n S).tiles (i:Int)=some (toI (z6Z S i)):=fun i hi=>z2K hi
 have hcat:∀i,i<S.length->atI (z3W d m n S).class_ (i:Int)=some ((clN d m n S i:Nat):Int):=fun i hi=>z2K hi
 have l2:(z3W d m n S).class_.length=S.length:=by simp[z3W,zvL]
 have hfl:(z6W d m n S).length<=S.length:=z6d (z2x d m n S) S.length
 have hfat:∀c,c<(z6W d m n S).length->atI (toI (z6W d m n S)) (c:Int)=some ((z2j d m n S c:Nat):Int):=fun c hc=>z1q hc
 have hflt:∀c,c<(z6W d m n S).length->z2j d m n S c<S.length:=fun c hc=>(z2S hd hn hS hc).2
 have hout:∀c∈zaX d m n S S.length,c<(z6W d m n S).length:=fun c hc=>Zj.1 (ZV.1 hc).1
 have hol:(zaX d m n S S.length).length<=S.length:=by
  unfold zaX
  exact ZR (ZL _ _) (by rw[ZD];exact hfl)
 have hOl:O.length<=S.length:=by rw[hO.prm.length_eq];exact hol
 have hko:∀c,c<(z6W d m n S).length->zzb (toI (z6W d m n S)) (z3W d m n S).height (c:Int)=some ((hC d m n S c:Nat):Int):=fun c hc=>by
  unfold zzb
  rw[hfat c hc,Z0,hhat _ (hflt c hc)];rfl
 have hasc:(toI (zaX d m n S S.length)).Pairwise (·< ·):=by
  unfold toI zaX
  exact YA _ (fun a b (h:a<b)=>by omega) (YE _ XL)
 obtain⟨Z,e,z1,z2⟩:=zmP (K:=zBG ⟨d,z3W d m n S,C,[],T,N⟩ (toI (z6W d m n S))) (l:=toI (zaX d m n S S.length))
  (fun x hx=>by
    obtain⟨c,hc,rfl⟩:=Zh.1 hx
    have:=hout c hc
    exact⟨by omega,by omega,by show(zzb (toI (z6W d m n S)) (z3W d m n S).height (c:Int)).isSome=true;rw[hko c this];rfl⟩) hasc (by rw[z0b];omega)
 have hZ:∃O',Z=toI O'/\O'.Perm (zaX d m n S S.length):=by
  refine⟨Z.map Int.toNat,?_,?_⟩
  · unfold toI
    rw[Ya]
    refine(W4 Z).symm.trans (ZA fun x hx=> ?_)
    obtain⟨c,hc,rfl⟩:=Zh.1 (z2.mem_iff.1 hx)
    simp
  · have:=z2.map Int.toNat
    refine this.trans ?_
    unfold toI
    rw[Ya]
    have:(Int.toNat∘fun x:Nat=>(x:Int))=id:=by funext x;simp
    rw[this,X2]
 obtain⟨O',rfl,hO'⟩:=hZ
 have hs':zBt (hC d m n S) O':=by
  have z1':(O'.map fun x:Nat=>(x:Int)).Pairwise _:=z1
  rw[Xj] at z1'
  refine YV (fun {x y} hx hy h=> ?_) z1'
  have ox:=hout x (hO'.mem_iff.1 hx)
  have oy:=hout y (hO'.mem_iff.1 hy)
  have h3:(x:Int)-(zzb (toI (z6W d m n S)) (z3W d m n S).height (x:Int)).getD 0*1048576<=(y:Int)-(zzb (toI (z6W d m n S)) (z3W d m n S).height (y:Int)).getD 0*1048576:=h
  rw[hko x ox,hko y oy,Z4,Z4] at h3
  unfold leH
  omega
 obtain rfl:O'=O:=zAl hs' hO.srt hO' hO.prm
 have hOat:∀c,c<O'.length->O'.getD c 0<(z6W d m n S).length:=fun c hc=>hout _ (hO'.mem_iff.1 (z0i hc))
 unfold z3h
 refine z0q (s:=((0:Int),([]:List Int))) (z6W d m n S).length (fun k=>((k:Int),toI ((List.range k).filter fun c=>decide (0<hC d m n S c)))) rfl (by simp only[LFm];omega) (fun c hc=> ?_) ?_
 · have hq:(toI ((List.range c).filter fun c=>decide (0<hC d m n S c))).length<=c:=by
    rw[z0b]
    exact ZR (ZL _ _) (by rw[ZD];omega)
   simp only[z3v]
   rw[z0b,if_pos (by omega),hfat c hc,Z0,hhat _ (hflt c hc),Z0,z0H (by omega),YB,XB,Xa,XP]
   by_cases h:0<hC d m n S c
   · have h':0<z8e d m n S (z2j d m n S c):=h
     rw[if_pos (by omega),z0e _ (by unfold z1n;omega),if_pos (by simpa using h),z5O]
   · have h':¬0<z8e d m n S (z2j d m n S c):=h
     rw[if_neg (by omega),if_neg (by simpa using h),Yc]
 · simp only[z3v]
   rw[z0b,if_neg (by omega),zsB]
   have e':toI ((List.range (z6W d m n S).length).filter fun c=>decide (0<hC d m n S c))=toI (zaX d m n S S.length):=rfl
   rw[e',e,Z0]
   congr 1
   refine z0q (s:=((0:Int),([]:List Int))) O'.length (fun k=>((k:Int),toI ((List.range k).map (szO d m n S O')))) rfl (by simp only[LFm];omega) (fun c hc=> ?_) ?_
   · have h1:=hOat c hc
     simp only[z2Z]
     rw[z0b,if_pos (by omega),z1q hc,Z0,hfat _ h1,Z0,htat _ (hflt _ h1),Z0,z0b,Zg,ZD,z0e _ (by unfold z1n;omega),z0H (by omega),YB,ZI,Zt,Yt,z5O,z0b]
     rfl
   · simp only[z2Z]
     rw[z0b,if_neg (by omega)]
     congr 1
     refine z0q (s:=((0:Int),C)) S.length (fun k=>((k:Int),z9R S.length (cpI d m n S O') (fun _=>0) k)) (by rw[z8V,hC0];congr 1;exact(Zf (by simp) fun i h1 h2=>by simp)) (by simp only[LFm];omega) (fun i hi=> ?_) ?_
     · simp only[z2Y]
       rw[l2,if_pos (by omega),hcat i hi,Z0,zjw (by omega),Z0,z5P hi,Z0,z0H (by omega),Z2]
       have e2:(if clN d m n S i∈O' then((O'.idxOf (clN d m n S i):Nat):Int) else-1)=cpI d m n S O' i:=rfl
       rw[e2,z4c hi]
     · simp only[z2Y]
       rw[l2,if_neg (by omega),z8U]
theorem zlC(hSl:S.length<=1000)(hOf:z9b d=some (z3W d m n S,0)):z3I d=some (z9i d m n S O,0):=by
 have h12:=zgA (show n<=12 by omega)
 have hm6:=hd.m6
 have hhat:∀i,i<S.length->atI (z3W d m n S).height (i:Int)=some ((z8e d m n S i:Nat):Int):=fun i hi=>z2K hi
 have htat:∀i,i<S.length->atI (z3W d m n S).tiles (i:Int)=some (toI (z6Z S i)):=fun i hi=>z2K hi
 have hcat:∀i,i<S.length->atI (z3W d m n S).class_ (i:Int)=some ((clN d m n S i:Nat):Int):=fun i hi=>z2K hi
 have hwat:∀i,i<S.length->atI (z3W d m n S).words (i:Int)=some (zeZ d m n S i):=fun i hi=>z2K hi
 have hsat:∀i,i<S.length->atI (z3W d m n S).sets (i:Int)=some ((S.getD i 0:Nat):Int):=fun i hi=>z1q hi
 have ls:(z3W d m n S).sets.length=S.length:=z0b S
 have hfl:(z6W d m n S).length<=S.length:=z6d (z2x d m n S) S.length
 have he:=z9t hd hS
 have hget:∀x,x∈S->(z7r ((x:Nat):Int) (zh4 S S.length)).getD 0=((S.idxOf x:Nat):Int):=fun x hx=>by
  have:=zfs hS.nd S.length (Z8 _) (z6F hx)
  rw[z3R hx] at this
  rw[this];rfl
 unfold z3I
 rw[hOf,Z0]
 simp only[if_true]
 rw[ls,z0e _ (by unfold z0D;omega)]
 refine z0q (s:=((0:Int),([]:List (Int×Int)),([]:List Int))) S.length (fun k=>((k:Int),zh4 S k,toI (z1h (z2x d m n S) k))) rfl (by simp only[LFm];omega) (fun i hi=> ?_) ?_
 · have hfi:=z6d (z2x d m n S) i
   simp only[z4O]
   rw[ls,if_pos (by omega),hsat i hi,Z0,hcat i hi,Z0,z0b,z0H (by omega)]
   rcases zds he hi with⟨h1,_,h3⟩|⟨h1,_,h3⟩
   · rw[if_neg (by unfold clN;omega),h3];rfl
   · rw[if_pos (by unfold clN;omega),z0e _ (by unfold z1n;omega),h3,z5O];rfl
 · simp only[z4O]
   rw[ls,if_neg (by omega)]
   congr 1
   refine z0q (s:=((0:Int),([]:List (List Int)),([]:List (List Int)))) S.length (fun k=>((k:Int),(List.range k).map (fun i=>toI (tlR d m n S i)),(List.range k).map fun i=>toI ((List.range m).map (z7W d S i)))) rfl (by simp only[LFm];omega) (fun i hi=> ?_) ?_
   · have hil:=hS.lt _ (z0i hi:S.getD i 0∈S)
     have hfi:=zjI hd hn hS hi
     simp only[z4y]
     rw[ls,if_pos (by omega),hsat i hi,Z0,hd.lt,z0e _ (by unfold z0D;omega),Z2]
     refine z0q (s:=((0:Int),List.replicate m (0:Int))) m (fun a=>((a:Int),z9R m (fun a=>((z7W d S i a:Nat):Int)) (fun _=>0) a)) (by rw[z8V];congr 1;exact(Zf (by simp) fun i h1 h2=>by simp)) (by simp only[LFm];omega) (fun a ha=> ?_) ?_
     · simp only[z4x]
       have hlw:(zrP a).data.toList= [UInt8.ofNat (97+a)]:=z8W a
       have hln:=z7j (a:=a) (by omega)
       rw[hd.lt,if_pos (by omega),zjp (by omega),zp4 hd (by omega) hil (w:=zrP a) (fun c hc=>by rw[hlw] at hc;rw[Zi.1 hc,hln];omega) (by rw[z8b];omega),Z0,z5P ha,Z0,z0H (by omega),Z2]
       have er:z4D d (S.getD i 0) (zrP a).data.toList=mvN d (S.getD i 0) a:=by
        rw[hlw]
        simp only[z4D,hln]
        rw[show 97+a-97=a by omega]
       rw[er,hget _ (hS.cl _ (z0i hi) a ha)]
       exact congrArg (fun x=>z0c (((a+1:Nat):Int),x)) (z4c (f:=fun a=>((z7W d S i a:Nat):Int)) ha)
     · simp only[z4x]
       have htl:=zsm hd hn hS hfi hi (z9l hd hn hS hi).1 (zbS hd hn hS hi).1
       have htb:=zmM hd hn hS hi
       rw[ze9] at htb
       rw[hd.lt,if_neg (by omega)]
       congr 1
       rw[Zg,ZD,z0e _ (by unfold z1n;omega),htat i hi,Z0,z0b,z0e _ (by unfold z0D;omega),hcat i hi,Z0]
       have hcf:atI (toI (z1h (z2x d m n S) S.length)) ((clN d m n S i:Nat):Int)=some ((z6e d m n S i:Nat):Int):=by
        obtain⟨c1,c2⟩:=zm9 hd hn hS hi
        have:=z1q c1
        rw[c2] at this
        exact this
       rw[hcf,Z0,htat _ hfi,Z0,Z2]
       refine z0q (s:=((0:Int),List.replicate (z6Z S i).length (0:Int))) (z6Z S i).length (fun s=>((s:Int),z9R (z6Z S i).length (fun s=>(((tlR d m n S i).getD s 0:Nat):Int)) (fun _=>0) s)) (by rw[z8V];congr 1;exact(Zf (by simp) fun i h1 h2=>by simp)) (by simp only[LFm];omega) (fun s hs=> ?_) ?_
       · have hs':s<(z6Z S (z6e d m n S i)).length:=by omega
         obtain⟨_,t2,_,_⟩:=zge hn hS hfi (z0i hs')
         obtain⟨hl,hz⟩:=z9l hd hn hS hi
         have hmem:z4D d (S.getD ((z6Z S (z6e d m n S i)).getD s 0) 0) (zeZ d m n S i).data.toList∈S:=zlh hS hl.hw (z0i t2)
         simp only[z4w]
         rw[z0b,if_pos (by omega),z1q hs',Z0,hsat _ t2,Z0,hwat i hi,Z0,zp4 hd (by omega) (hS.lt _ (z0i t2)) hl.hw (by omega),Z0,z5P hs,Z0,z0H (by omega),Z2,hget _ hmem]
         have e1:(tlR d m n S i).getD s 0=S.idxOf (z4D d (S.getD ((z6Z S (z6e d m n S i)).getD s 0) 0) (zeZ d m n S i).data.toList):=by
          simp[tlR,List.getD,hs']
         rw[←e1]
         exact congrArg (fun x=>z0c (((s+1:Nat):Int),x)) (z4c (f:=fun s=>(((tlR d m n S i).getD s 0:Nat):Int)) hs)
       · simp only[z4w]
         rw[z0b,if_neg (by omega)]
         congr 1
         rw[Zg,ZD,z0e _ (by unfold z1n;omega),z0H (by omega),z8U,z8U,YB,ZI,ZI,Zt,Zt,Yt,Yt]
         have e1:(List.range (z6Z S i).length).map (fun s=>(((tlR d m n S i).getD s 0:Nat):Int))=toI (tlR d m n S i):=by
          refine Zf (by rw[Zg,ZD,z0b,zff hd hn hS hi]) fun k h1 h2=> ?_
          have:k<(tlR d m n S i).length:=by rwa [z0b] at h2
          simp[toI,List.getD,this]
         have e2:(List.range m).map (fun a=>((z7W d S i a:Nat):Int))=toI ((List.range m).map (z7W d S i)):=by simp[toI,Function.comp_def]
         rw[e1,e2]
   · simp only[z4y]
     rw[ls,if_neg (by omega)]
     congr 1
     have:=ztC hd hn hS hH hO hSl (List.replicate S.length 0) rfl ((List.range S.length).map fun i=>toI (tlR d m n S i)) ((List.range S.length).map fun i=>toI ((List.range m).map (z7W d S i)))
     rw[Z2]
     have e3:toI (z1h (z2x d m n S) S.length)=toI (z6W d m n S):=rfl
     rw[e3]
     refine(congrArg (fun x=>Option.bind x fun v196=>some (v196,(0:Int))) this).trans ?_
     rfl
end
end
section
open Go Go.IntKind
noncomputable section
abbrev z3L(a0:Frm)(a1:List Int):Int×Int×List Int->Option ((Int×Int×List Int)⊕List Int)
 |(w20,w21,w22)=>
 if w21<(a1.length:Int) then
 (atI a1 w21).bind fun v27=>
 (atI a0.comp w20).bind fun v28=>
 if v28=w21 then
 (atI a0.tiles w20).bind fun v29=>
 (atI v29 v27).bind fun v30=>
 chk (z1n 8 (w22.length+1))<|
 z0c (v30,i64.wrap (w21+1),w22++ [v30])
 else
 z0c (w20,i64.wrap (w21+1),w22)
 else
 z0d<|
 some w22
variable{a0 m1:Frm}{a2 a3 a4 m2 v40:Int}{a1:List Int}
instance:Hd (z3L a0 a1):=⟨fun(w20,w21,w22)=>([(6,xI w20),(12,xI w21)],[(5,(tO w22))])⟩
def z3F(a0:Frm)(a1:List Int):Option (List Int):=
 z0h (z3L a0 a1) LFm (0,0,[0])
instance:Ok (z3F a0 a1) (fun r=>L 73 [.pr [.sc (.int .i64 a0.d.letters),.sc (.int .i64 a0.d.start),(tB a0.d.final),(tR a0.d.next),(tI a0.x.sets),(tI a0.x.class_),(tI a0.x.height),(tR a0.x.tiles),(tS a0.x.words),(tS a0.x.back),(tI a0.comp),(tI a0.sizes),(tR a0.tiles),(tR a0.next)],(tI a1)]=some ((tO r),[.dead,.dead])):=⟨fun r h=>by have h:=z3c h;unfold z3F at h;exact z4b rfl Tryz.func73 (bdy Tryz.f73 rfl)⟩
def z3E(a0:Frm)(a1:List Int):Option (Int):=
 (z3F a0 a1).bind fun v5=>
 (atI v5 (i64.wrap ((v5.length:Int)-1))).bind fun v6=>
 (atI a0.x.sets v6).bind fun v7=>
 (vTz (u64.wrap v7)).bind fun v8=>
 some v8
instance:Ok (z3E a0 a1) (fun r=>L 49 [.pr [.sc (.int .i64 a0.d.letters),.sc (.int .i64 a0.d.start),(tB a0.d.final),(tR a0.d.next),(tI a0.x.sets),(tI a0.x.class_),(tI a0.x.height),(tR a0.x.tiles),(tS a0.x.words),(tS a0.x.back),(tI a0.comp),(tI a0.sizes),(tR a0.tiles),(tR a0.next)],(tI a1)]=some (.sc (.int .i64 r),[.dead,.dead])):=⟨fun r h=>by have h:=z3c h;unfold z3E at h;exact z4b rfl Tryz.func49 (bdy Tryz.f49 rfl)⟩
def z3a(a0:Int)(m0:Frm)(m3:Int):Option (Bool):=
 (atI m0.x.sets m3).bind fun v3=>
 (atI m0.x.sets a0).bind fun v4=>
 some (decide ((zhE .i64 v3 v4)=0))
instance{a0:Int}{m0:Frm}{m3:Int}:Ok (z3a a0 m0 m3) (fun r=>L 161 [.sc (.int .i64 a0),.pr [.pr [.sc (.int .i64 m0.d.letters),.sc (.int .i64 m0.d.start),(tB m0.d.final),(tR m0.d.next),(tI m0.x.sets),(tI m0.x.class_),(tI m0.x.height),(tR m0.x.tiles),(tS m0.x.words),(tS m0.x.back),(tI m0.comp),(tI m0.sizes),(tR m0.tiles),(tR m0.next)]],.pr [.sc (.int .i64 m3)]]=some (.sc (.bool r),[.dead,.dead,.dead])):=⟨fun r h=>by have h:=z3c h;unfold z3a at h;exact z4b rfl Tryz.func161 (bdy Tryz.f161 rfl)⟩
abbrev z0E(a0:List Int)(m1:Frm)(m2:Int):Int->Option (Int⊕Int)
 |w10=>
 if w10<(a0.length:Int) then
 (atI a0 w10).bind fun v13=>
 (z3a v13 m1 m2).bind fun v14=>
 if v14=true then
 z0d<|
 some w10
 else
 z0c (i64.wrap (w10+1))
 else
 z0d<|
 some (-1)
instance{a0:List Int}:Hd (z0E a0 m1 m2):=⟨fun w10=>([(8,xI w10)],[])⟩
def z0w(a0:List Int)(m1:Frm)(m2:Int):Option (Int):=
 z0h (z0E a0 m1 m2) LFm 0
instance{a0:List Int}:Ok (z0w a0 m1 m2) (fun r=>L 96 [(tI a0),.cl 161 [.pr [.pr [.sc (.int .i64 m1.d.letters),.sc (.int .i64 m1.d.start),(tB m1.d.final),(tR m1.d.next),(tI m1.x.sets),(tI m1.x.class_),(tI m1.x.height),(tR m1.x.tiles),(tS m1.x.words),(tS m1.x.back),(tI m1.comp),(tI m1.sizes),(tR m1.tiles),(tR m1.next)]],.pr [.sc (.int .i64 m2)]]]=some (.sc (.int .i64 r),[.dead,.dead])):=⟨fun r h=>by have h:=z3c h;unfold z0w at h;exact z4b rfl Tryz.func96 (bdy Tryz.f96 rfl)⟩
def z1s(a0:Frm)(a1:Int)(a2:Int):Option (Int):=
 (atI a0.tiles a1).bind fun v3=>
 (z0w v3 a0 a2).bind fun v4=>
 some (if 0<v4 then v4 else 0)
instance{a1:Int}:Ok (z1s a0 a1 a2) (fun r=>L 110 [.pr [.sc (.int .i64 a0.d.letters),.sc (.int .i64 a0.d.start),(tB a0.d.final),(tR a0.d.next),(tI a0.x.sets),(tI a0.x.class_),(tI a0.x.height),(tR a0.x.tiles),(tS a0.x.words),(tS a0.x.back),(tI a0.comp),(tI a0.sizes),(tR a0.tiles),(tR a0.next)],.sc (.int .i64 a1),.sc (.int .i64 a2)]=some (.sc (.int .i64 r),[.dead,.dead,.dead])):=⟨fun r h=>by have h:=z3c h;unfold z1s at h;exact z4b rfl Tryz.func110 (bdy Tryz.f110 rfl)⟩
abbrev z3J(a0:Frm)(v22:Int):Int×Int×List Int->Option ((Int×Int×List Int)⊕List Int)
 |(w28,w29,w30)=>
 if w29<(a0.sizes.length:Int) then
 (atI a0.comp w28).bind fun v37=>
 if v37=w29 then
 (z1s a0 w28 v22).bind fun v38=>
 (atI w30 w29).bind fun v39=>
 (atI a0.tiles w28).bind fun v40=>
 (atI (w30.set w29.toNat v38) w29).bind fun v41=>
 (atI v40 v41).bind fun v42=>
 z0c (v42,i64.wrap (w29+1),(w30.set w29.toNat v38))
 else
 z0c (w28,i64.wrap (w29+1),w30)
 else
 z0d<|
 some w30
instance{v22:Int}:Hd (z3J a0 v22):=⟨fun(w28,w29,w30)=>([(4,xI w28),(27,xI w29)],[(3,(tO w30))])⟩
def z2E(a0:Frm):Option (List Int):=
 chk (z0D 8 (a0.sizes.length:Int))<|
 chk (¬a0.d.start<0)<|
 (z1u a0.x.sets (zmU .i64 1 a0.d.start)).bind fun v22=>
 z0h (z3J a0 v22) LFm (0,0,List.replicate (a0.sizes.length:Int).toNat (0:Int))
instance:Ok (z2E a0) (fun r=>L 51 [.pr [.sc (.int .i64 a0.d.letters),.sc (.int .i64 a0.d.start),(tB a0.d.final),(tR a0.d.next),(tI a0.x.sets),(tI a0.x.class_),(tI a0.x.height),(tR a0.x.tiles),(tS a0.x.words),(tS a0.x.back),(tI a0.comp),(tI a0.sizes),(tR a0.tiles),(tR a0.next)]]=some ((tO r),[.dead])):=⟨fun r h=>by have h:=z3c h;unfold z2E at h;exact z4b rfl Tryz.func51 (bdy Tryz.f51 rfl)⟩
abbrev z3x(a0:Frm)(a3:Int)(a4:Int)(v45:List Int):Int×List Int->Option ((Int×List Int)⊕List Int)
 |(w51,w52)=>
 if w51<(v45.length:Int) then
 (atI v45 w51).bind fun v59=>
 (atI a0.tiles a3).bind fun v60=>
 (atI a0.next v59).bind fun v61=>
 (atI v61 a4).bind fun v62=>
 (z1u v60 v62).bind fun v63=>
 (atI w52 w51).bind fun v64=>
 z0c (i64.wrap (w51+1),(w52.set w51.toNat (if 0<v63 then v63 else 0)))
 else
 z0d<|
 some w52
instance{v45:List Int}:Hd (z3x a0 a3 a4 v45):=⟨fun(w51,w52)=>([(89,xI w51)],[(11,(tO w52))])⟩
abbrev z3K(v40:Int)(v67:Int):Int×List Int->Option ((Int×List Int)⊕List Int)
 |(w68,w69)=>
 if w68<v40 then
 (atI w69 w68).bind fun v71=>
 z0c (i64.wrap (w68+1),(w69.set w68.toNat v67))
 else
 z0d<|
 some w69
instance{v67:Int}:Hd (z3K v40 v67):=⟨fun(w68,w69)=>([(39,xI w68)],[(11,(tO w69))])⟩
abbrev z3w(v40:Int)(v74:Int):Int×List Int->Option ((Int×List Int)⊕List Int)
 |(w75,w76)=>
 if w75<v40 then
 (atI w76 w75).bind fun v78=>
 z0c (i64.wrap (w75+1),(w76.set w75.toNat v74))
 else
 z0d<|
 some w76
instance{v74:Int}:Hd (z3w v40 v74):=⟨fun(w75,w76)=>([(39,xI w75)],[(11,(tO w76))])⟩
def z2F(a0:Frm)(a1:Int)(a2:Int)(a3:Int)(a4:Int):Option (List Int):=
 (atI a0.sizes a1).bind fun v40=>
 chk (z0D 8 v40)<|
 (atI a0.comp a3).bind fun v41=>
 if v41=a1 then
 (atI a0.comp a2).bind fun v42=>
 if v42=a1 then
 (atI a0.next a2).bind fun v43=>
 (atI v43 a4).bind fun v44=>
 if v44=a3 then
 (atI a0.tiles a2).bind fun v45=>
 z0h (z3x a0 a3 a4 v45) LFm (0,List.replicate v40.toNat (0:Int))
 else
 (z1s a0 a3 v44).bind fun v67=>
 z0h (z3K v40 v67) LFm (0,List.replicate v40.toNat (0:Int))
 else
 (atI a0.next a2).bind fun v72=>
 (atI v72 a4).bind fun v73=>
 (z1s a0 a3 v73).bind fun v74=>
 z0h (z3w v40 v74) LFm (0,List.replicate v40.toNat (0:Int))
 else
 some (List.replicate v40.toNat (0:Int))
instance{a1:Int}:Ok (z2F a0 a1 a2 a3 a4) (fun r=>L 154 [.pr [.sc (.int .i64 a0.d.letters),.sc (.int .i64 a0.d.start),(tB a0.d.final),(tR a0.d.next),(tI a0.x.sets),(tI a0.x.class_),(tI a0.x.height),(tR a0.x.tiles),(tS a0.x.words),(tS a0.x.back),(tI a0.comp),(tI a0.sizes),(tR a0.tiles),(tR a0.next)],.sc (.int .i64 a1),.sc (.int .i64 a2),.sc (.int .i64 a3),.sc (.int .i64 a4)]=some ((tO r),[.dead,.dead,.dead,.dead,.dead])):=⟨fun r h=>by have h:=z3c h;unfold z2F at h;exact z4b rfl Tryz.func154 (bdy Tryz.f154 rfl)⟩
abbrev z4h(a0:Frm)(a1:List Int)(a2:Int):Int×Int×Int×List Int×List (List Int)->Option ((Int×Int×Int×List Int×List (List Int))⊕(List Int×List (List Int)))
 |(w64,w65,w66,w67,w68)=>
 if w66<(a1.length:Int) then
 (atI a1 w66).bind fun v86=>
 (z2F a0 w66 w64 w65 a2).bind fun v87=>
 (atI w68 w66).bind fun v88=>
 (atI (w68.set w66.toNat v87) w66).bind fun v89=>
 (atI v89 v86).bind fun v90=>
 (atI w67 w66).bind fun v91=>
 (atI a0.comp w64).bind fun v92=>
 if v92=w66 then
 (atI a0.tiles w64).bind fun v93=>
 (atI v93 v86).bind fun v94=>
 (atI a0.comp w65).bind fun v95=>
 if v95=w66 then
 (atI a0.tiles w65).bind fun v96=>
 (atI (w67.set w66.toNat v90) w66).bind fun v97=>
 (atI v96 v97).bind fun v98=>
 z0c (v94,v98,i64.wrap (w66+1),(w67.set w66.toNat v90),(w68.set w66.toNat v87))
 else
 z0c (v94,w65,i64.wrap (w66+1),(w67.set w66.toNat v90),(w68.set w66.toNat v87))
 else
 (atI a0.comp w65).bind fun v99=>
 if v99=w66 then
 (atI a0.tiles w65).bind fun v100=>
 (atI (w67.set w66.toNat v90) w66).bind fun v101=>
 (atI v100 v101).bind fun v102=>
 z0c (w64,v102,i64.wrap (w66+1),(w67.set w66.toNat v90),(w68.set w66.toNat v87))
 else
 z0c (w64,w65,i64.wrap (w66+1),(w67.set w66.toNat v90),(w68.set w66.toNat v87))
 else
 z0d<|
 some (w67,w68)
instance:Hd (z4h a0 a1 a2):=⟨fun(w64,w65,w66,w67,w68)=>([(10,xI w64),(11,xI w65),(22,xI w66)],[(8,(tO w67)),(9,.os 1 w68.length (w68.map fun x0=>(tO x0)))])⟩
def z2Q(a0:Frm)(a1:List Int)(a2:Int):Option (List Int×List (List Int)):=
 chk (z0D 8 (a1.length:Int))<|
 chk (z0D 24 (a1.length:Int))<|
 z0h (z4h a0 a1 a2) LFm (0,0,0,List.replicate (a1.length:Int).toNat (0:Int),List.replicate (a1.length:Int).toNat ([]:List Int))
instance:Ok (z2Q a0 a1 a2) (fun r=>L 99 [.pr [.sc (.int .i64 a0.d.letters),.sc (.int .i64 a0.d.start),(tB a0.d.final),(tR a0.d.next),(tI a0.x.sets),(tI a0.x.class_),(tI a0.x.height),(tR a0.x.tiles),(tS a0.x.words),(tS a0.x.back),(tI a0.comp),(tI a0.sizes),(tR a0.tiles),(tR a0.next)],(tI a1),.sc (.int .i64 a2)]=some (.tup [(tO r.1),.os 1 r.2.length (r.2.map fun x0=>(tO x0))],[.dead,.dead,.dead])):=⟨fun r h=>by have h:=z3c h;unfold z2Q at h;exact z4b rfl Tryz.func99 (bdy Tryz.f99 rfl)⟩
abbrev z4i(a0:Frm)(a1:List Int):Int×List (List (List Int))->Option ((Int×List (List (List Int)))⊕List (List (List Int)))
 |(w9,w10)=>
 if w9<a0.d.letters then
 (z2Q a0 a1 w9).bind fun v13=>
 (atI w10 w9).bind fun v14=>
 z0c (i64.wrap (w9+1),(w10.set w9.toNat v13.2))
 else
 z0d<|
 some w10
instance:Hd (z4i a0 a1):=⟨fun(w9,w10)=>([(15,xI w9)],[(5,.os 1 w10.length (w10.map fun x0=>.os 1 x0.length (x0.map fun x1=>(tO x1))))])⟩
def z2R(a0:Frm)(a1:List Int):Option (List (List (List Int))):=
 chk (z0D 24 a0.d.letters)<|
 z0h (z4i a0 a1) LFm (0,List.replicate a0.d.letters.toNat ([]:List (List Int)))
instance:Ok (z2R a0 a1) (fun r=>L 103 [.pr [.sc (.int .i64 a0.d.letters),.sc (.int .i64 a0.d.start),(tB a0.d.final),(tR a0.d.next),(tI a0.x.sets),(tI a0.x.class_),(tI a0.x.height),(tR a0.x.tiles),(tS a0.x.words),(tS a0.x.back),(tI a0.comp),(tI a0.sizes),(tR a0.tiles),(tR a0.next)],(tI a1)]=some (.sl r.length (r.map fun x0=>(tR x0)),[.dead,.dead])):=⟨fun r h=>by have h:=z3c h;unfold z2R at h;exact zhG rfl Tryz.func103 (bdy Tryz.f103 rfl)⟩
abbrev z6N(a0:List Int):Int×List Int->Option ((Int×List Int)⊕ByteArray)
 |(w9,w10)=>
 if w9<(a0.length:Int) then
 (atI a0 w9).bind fun v13=>
 (atI w10 w9).bind fun v14=>
 z0c (i64.wrap (w9+1),(w10.set w9.toNat (u8.wrap v13)))
 else
 z0d<|
 some (z1o w10)
instance{a0:List Int}:Hd (z6N a0):=⟨fun(w9,w10)=>([(11,xI w9)],[(3,.os 1 w10.length (w10.map fun x0=>.sc (.int .u8 x0)))])⟩
def z4g(a0:List Int):Option (ByteArray):=
 chk (z0D 1 (a0.length:Int))<|
 z0h (z6N a0) LFm (0,List.replicate (a0.length:Int).toNat (0:Int))
instance{a0:List Int}:Ok (z4g a0) (fun r=>L 85 [(tI a0)]=some (.sc (.string r),[.dead])):=⟨fun r h=>by have h:=z3c h;unfold z4g at h;exact z4b rfl Tryz.func85 (bdy Tryz.f85 rfl)⟩
abbrev z2w(a0:Frm)(w67:Int):Int×List (List Int)×(List (ByteArray×Bool))->Option ((Int×List (List Int)×(List (ByteArray×Bool)))⊕((Int×List (List Int)×(List (ByteArray×Bool)))⊕(List (List Int)×Int)))
 |(w89,w90,w91)=>
 if w89<a0.d.letters then
 (atI w90 w67).bind fun v96=>
 (z2Q a0 v96 w89).bind fun v97=>
 (z4g v97.1).bind fun v98=>
 if((z7r v98 w91).getD false)=true then
 z0c (i64.wrap (w89+1),w90,w91)
 else
 if(w90.length:Int)=2000 then
 z0d<|
 z0d<|
 some ([],3)
 else
 (z4g v97.1).bind fun v99=>
 chk (z1n 24 (w90.length+1))<|
 z0c (i64.wrap (w89+1),w90++ [v97.1],z8h v99 true w91)
 else
 z0d<|
 z0c (i64.wrap (w67+1),w90,w91)
instance{w67:Int}:Hd (z2w a0 w67):=⟨fun(w89,w90,w91)=>([(30,xI w89)],[(5,.os 1 w90.length (w90.map fun x0=>(tI x0))),(6,.mp none (w91.map fun x0=>(.string x0.1,.bool x0.2)))])⟩
abbrev z3u(a0:Frm):Int×List (List Int)×(List (ByteArray×Bool))->Option ((Int×List (List Int)×(List (ByteArray×Bool)))⊕(List (List Int)×Int))
 |(w67,w68,w69)=>
 if w67<(w68.length:Int) then
 z0h (z2w a0 w67) LFm (0,w68,w69)
 else
 z0d<|
 (zkr w68).bind fun v100=>
 some (v100,0)
instance:Hd (z3u a0):=⟨fun(w67,w68,w69)=>([(7,xI w67)],[(5,.os 1 w68.length (w68.map fun x0=>(tI x0))),(6,.mp none (w69.map fun x0=>(.string x0.1,.bool x0.2)))])⟩
def z1V(a0:Frm):Option (List (List Int)×Int):=
 (z2E a0).bind fun v51=>
 (z4g v51).bind fun v52=>
 z0h (z3u a0) LFm (0,[v51],z8h v52 true ([]:List (ByteArray×Bool)))
instance:Ok (z1V a0) (fun r=>L 48 [.pr [.sc (.int .i64 a0.d.letters),.sc (.int .i64 a0.d.start),(tB a0.d.final),(tR a0.d.next),(tI a0.x.sets),(tI a0.x.class_),(tI a0.x.height),(tR a0.x.tiles),(tS a0.x.words),(tS a0.x.back),(tI a0.comp),(tI a0.sizes),(tR a0.tiles),(tR a0.next)]]=some (.tup [(tR r.1),.sc (.int .i64 r.2)],[.dead])):=⟨fun r h=>by have h:=z3c h;unfold z1V at h;exact zhG rfl Tryz.func48 (bdy Tryz.f48 rfl)⟩
end
end
section
open Go
variable{l:List Nat}{c i k:Nat}
theorem zxS(p:Nat->Bool):(List.range l.length).find? (fun k=>p (l.getD k 0))=if l.findIdx p<l.length then some (l.findIdx p) else none:=by
 by_cases h:l.findIdx p<l.length
 · rw[if_pos h,YU]
   have h1:=X5 (w:=h)
   refine⟨by rw[List.getD,Z1 h];exact h1,by simpa using h,fun j hj=> ?_⟩
   have hjl:j<l.length:=by omega
   have:=List.not_of_lt_findIdx hj
   rw[List.getD,Z1 hjl,Z4]
   simpa using this
 · grind
theorem znf{α:Type}{N:Nat}{f g:Nat->α}(h:k<N):atI (z9R N f g (k+1)) (k:Int)=some (f k):=by
 rw[z0Q (by rw[zne];exact h)];simp[z9R]
section
variable {d:DFA} {m n:Nat} {S O:List Nat}
theorem zpp(s:Nat):∀(x:List Nat) (c i:Nat),z7s d m n S O c i (x++ [s])=dnN d m n S O (c+x.length) (z7s d m n S O c i x) s
 | [],c,i=>rfl
 |t::x,c,i=>by
  simp only[ZO,z7s,Zq]
  rw[zpp s x,show c+1+x.length=c+(x.length+1) by omega]
theorem zdx{x:List Nat}(hk:k<x.length)(c i:Nat):z7s d m n S O c i (x.take (k+1))=dnN d m n S O (c+k) (z7s d m n S O c i (x.take k)) (x.getD k 0):=by
 rw[z9M hk,zpp,Zp,Nat.min_eq_left (by omega)]
theorem zsG(a:Nat):∀(x:List Nat) (c o i:Nat),(stN d m n S O a c o i x).length=x.length
 | [],c,o,i=>rfl
 |s::x,c,o,i=>by simp only[stN,Zq];rw[zsG a x]
theorem zl3(a:Nat):∀(x:List Nat) (c o i k:Nat),k<x.length->
 ((stN d m n S O a c o i x).map (·.2)).getD k []=zf7 d m n S O a (c+k) (z7s d m n S O c o (x.take k)) (z7s d m n S O c i (((stN d m n S O a c o i x).map (·.1)).take k))/\
 ((stN d m n S O a c o i x).map (·.1)).getD k 0=(zf7 d m n S O a (c+k) (z7s d m n S O c o (x.take k)) (z7s d m n S O c i (((stN d m n S O a c o i x).map (·.1)).take k))).getD (x.getD k 0) 0
 | [],c,o,i,k,hk=>by simp at hk
 |s::x,c,o,i,0,hk=>by
  exact⟨by simp[stN,z7s],by simp[stN,z7s]⟩
 |s::x,c,o,i,k+1,hk=>by
  have:=zl3 a x (c+1) (dnN d m n S O c o s) (dnN d m n S O c i ((zf7 d m n S O a c o i).getD s 0)) k (by simpa using hk)
  simp only[stN,Zt,Yg,Xd,z7s]
  rw[show c+(k+1)=c+1+k by omega]
  exact this
theorem zsy(a:Nat)(x:List Nat):(z5n d m n S O a x).length=x.length:=by simp[z5n,zsG]
theorem zl1(a:Nat)(x:List Nat):(z8i d m n S O a x).length=x.length:=by simp[z8i,zsG]
end
section
variable {d:DFA} {m n:Nat} {S:List Nat} (hd:DfaOk d m n) (hn:n<=7) (hS:SetsP d m n S) {O:List Nat} (hH:zhI d m n S) (hO:OrdC d m n S O) (hpos:∀x∈S,x≠0)
theorem zew(hi:i<S.length):atI (z9i d m n S O).comp (i:Int)=some (cpI d m n S O i):=z2K hi
theorem zaq(hi:i<S.length):atI (z9i d m n S O).tiles (i:Int)=some (toI (tlR d m n S i)):=z2K hi
theorem znC(hi:i<S.length):atI (z9i d m n S O).x.sets (i:Int)=some ((S.getD i 0:Nat):Int):=z1q hi
theorem zvl{a:Nat}(hi:i<S.length)(ha:a<m):atI (z9i d m n S O).next (i:Int)=some (toI ((List.range m).map (z7W d S i)))/\atI (toI ((List.range m).map (z7W d S i))) (a:Int)=some ((z7W d S i a:Nat):Int):=by
 refine⟨z2K hi,?_⟩
 have h:a<((List.range m).map (z7W d S i)).length:=by simpa using ha
 rw[z1q h]
 simp[List.getD,ha]
theorem zvk(hc:c<O.length):atI (z9i d m n S O).sizes (c:Int)=some ((szO d m n S O c:Nat):Int):=by
 have h:c<((List.range O.length).map (szO d m n S O)).length:=by simpa using hc
 show atI (toI ((List.range O.length).map (szO d m n S O))) (c:Int)=_
 rw[z1q h]
 simp[List.getD,hc]
theorem z9v(hc:c<O.length):cpI d m n S O i=(c:Int)↔cpN d m n S O i=c:=by
 unfold cpI
 by_cases h:clN d m n S i∈O
 · rw[if_pos h];omega
 · rw[if_neg h]
   have:cpN d m n S O i=O.length:=List.idxOf_eq_length h
   omega
include hd hn hS
theorem zcB(hSl:S.length<=1000){o:Nat}(hi:i<S.length)(ho:o<S.length):z1s (z9i d m n S O) (i:Int) (o:Int)=some ((zhn d m n S i o:Nat):Int):=by
 have h128:2^n<=128:=Zl (n:=2) (by omega) hn
 have htl:=zff hd hn hS hi
 have htb:=zmM hd hn hS hi
 rw[ze9] at htb
 have hidx:z0w (toI (tlR d m n S i)) (z9i d m n S O) (o:Int)=some (if(tlR d m n S i).findIdx (fun t=>decide (S.getD o 0&&&S.getD t 0=S.getD o 0))<(tlR d m n S i).length then(((tlR d m n S i).findIdx (fun t=>decide (S.getD o 0&&&S.getD t 0=S.getD o 0)):Nat):Int) else-1):=by
  unfold z0w
  rw[z5C (s:=(0:Int)) (tlR d m n S i).length (fun k=>(k:Int)) (fun k=>(fun t=>decide (S.getD o 0&&&S.getD t 0=S.getD o 0)) ((tlR d m n S i).getD k 0)) (fun k=>some (k:Int)) (x:=some (-1)) rfl (by simp only[LFm];omega) (fun k hk=> ?_) ?_,zxS (l:=tlR d m n S i) (fun t=>decide (S.getD o 0&&&S.getD t 0=S.getD o 0))]
  · grind
  · simp only[z0E]
    rw[z0b,if_neg (by omega)]
  · have ht:=zdp (z5M (zgd hd hn hS hi hk).1).1
    have l1:=hS.lt _ (z0i ht)
    have l2:=hS.lt _ (z0i ho)
    simp only[z0E]
    rw[z0b,if_pos (by omega),z1q hk,Z0]
    unfold z3a
    rw[znC ho,Z0,znC ht,Z0,Z0,z0H (by omega)]
    have e:=zhD (a:=S.getD o 0) (b:=S.getD ((tlR d m n S i).getD k 0) 0) (by omega) (by omega)
    by_cases h:S.getD o 0&&&S.getD ((tlR d m n S i).getD k 0) 0=S.getD o 0
    · grind
    · grind
 unfold z1s
 rw[zaq hi,Z0,hidx,Z0]
 unfold zhn
 simp only
 split
 · split
   · rfl
   · congr 1;omega
 · rfl
theorem zCU{x:Nat}:(if 0<(if x∈l then((l.idxOf x:Nat):Int) else-1) then(if x∈l then((l.idxOf x:Nat):Int) else-1) else 0)=((ix0 l x:Nat):Int):=by
 have _u:=hd;have _v:=hn;have _w:=hS
 unfold ix0
 by_cases h:x∈l
 · rw[if_pos h,if_pos h]
   split
   · rfl
   · omega
 · rw[if_neg h,if_neg h];rfl
include hH hO hpos
theorem zxw(hSl:S.length<=1000){a o:Nat}(ha:a<m)(hc:c<O.length)(ho:o<S.length)(hi:i<S.length):
 z2F (z9i d m n S O) (c:Int) (o:Int) (i:Int) (a:Int)=some (toI (zf7 d m n S O a c o i)):=by
 have _u:=hpos
 have hm6:=hd.m6
 have hdo:=zeW hd hn hS ho ha
 obtain⟨nx1,nx2⟩:=zvl (n:=n) (O:=O) ho ha
 have hzb:∀i,i<S.length->cpN d m n S O i=c->szO d m n S O c=(tlR d m n S i).length/\(tlR d m n S i).length<=128:=fun i hi e=>by
  have hz:=zeb hd hn hS hH hO hi (by omega)
  rw[e] at hz
  have htl:=zff hd hn hS hi
  have htb:=zmM hd hn hS hi
  rw[ze9] at htb
  omega
 have hz1000:szO d m n S O c<=128:=by
  have hmem:O.getD c 0∈O:=z0i hc
  have hout:=hO.prm.mem_iff.1 hmem
  unfold zaX at hout
  have h1:=Zj.1 (ZV.1 hout).1
  have hk:=(z2S hd hn hS h1).2
  have htb:=zmM hd hn hS hk
  rw[ze9] at htb
  exact htb
 have hfill:∀(v:Nat),(List.range (szO d m n S O c)).map (fun _=>(v:Int))=toI (List.replicate (szO d m n S O c) v):=fun v=>by
  refine Zf (by simp[toI]) fun k h1 h2=>by simp[toI]
 have hzero:List.replicate (szO d m n S O c) (0:Int)=(List.range (szO d m n S O c)).map (fun _=>(0:Int)):=(Zf (by simp) fun i h1 h2=>by simp)
 unfold z2F zf7
 rw[zvk hc,Z0,z0e _ (by unfold z0D;omega),zew hi,Z0,Z2]
 by_cases e1:cpN d m n S O i=c
 · rw[if_pos ((z9v hc).2 e1),if_pos e1,zew ho,Z0]
   by_cases e2:cpN d m n S O o=c
   · rw[if_pos ((z9v hc).2 e2),nx1,Z0,nx2,Z0]
     by_cases e3:z7W d S o a=i
     · obtain⟨z1,z2⟩:=hzb o ho e2
       rw[if_pos (by rw[e3]),if_pos ⟨e2,e3⟩,zaq ho,Z0]
       refine z0q (s:=((0:Int),List.replicate (szO d m n S O c) (0:Int))) (szO d m n S O c) (fun k=>((k:Int),z9R (szO d m n S O c) (fun k=>((ix0 (tlR d m n S i) (z7W d S ((tlR d m n S o).getD k 0) a):Nat):Int)) (fun _=>0) k)) (by rw[z8V,hzero];rfl) (by simp only[LFm];omega) (fun k hk=> ?_) ?_
       · have hkl:k<(tlR d m n S o).length:=by omega
         have ht:=zdp (z5M (zgd hd hn hS ho hkl).1).1
         obtain⟨x1,x2⟩:=zvl (n:=n) (O:=O) ht ha
         simp only[z3x]
         rw[z0b,if_pos (by omega),z1q hkl,Z0,zaq hi,Z0,x1,Z0,x2,Z0,zjw (by have:=(hzb i hi e1).2;omega),Z0,z5P hk,Z0,z0H (by omega),Z2,zCU hd hn hS]
         exact congrArg (fun x=>z0c (((k+1:Nat):Int),x)) (z4c (f:=fun k=>((ix0 (tlR d m n S i) (z7W d S ((tlR d m n S o).getD k 0) a):Nat):Int)) hk)
       · simp only[z3x]
         rw[z0b,if_neg (by omega),z8U]
         congr 2
         refine Zf (by simp[toI,z1]) fun k h1 h2=> ?_
         have hk:k<(tlR d m n S o).length:=by simpa[toI] using h2
         simp[toI,List.getD,hk]
     · rw[if_neg (by omega),if_neg (fun h=>e3 h.2),zcB hd hn hS hSl hi hdo.1,Z0]
       refine z0q (s:=((0:Int),List.replicate (szO d m n S O c) (0:Int))) (szO d m n S O c) (fun k=>((k:Int),z9R (szO d m n S O c) (fun _=>((zhn d m n S i (z7W d S o a):Nat):Int)) (fun _=>0) k)) (by rw[z8V,hzero];rfl) (by simp only[LFm];omega) (fun k hk=> ?_) ?_
       · simp only[z3K]
         rw[if_pos (by omega),z5P hk,Z0,z0H (by omega),Z2]
         exact congrArg (fun x=>z0c (((k+1:Nat):Int),x)) (z4c (f:=fun _=>((zhn d m n S i (z7W d S o a):Nat):Int)) hk)
       · simp only[z3K]
         rw[if_neg (by omega),z8U,hfill]
   · rw[if_neg (fun h=>e2 ((z9v hc).1 h)),if_neg (fun h=>e2 h.1),nx1,Z0,nx2,Z0,zcB hd hn hS hSl hi hdo.1,Z0]
     refine z0q (s:=((0:Int),List.replicate (szO d m n S O c) (0:Int))) (szO d m n S O c) (fun k=>((k:Int),z9R (szO d m n S O c) (fun _=>((zhn d m n S i (z7W d S o a):Nat):Int)) (fun _=>0) k)) (by rw[z8V,hzero];rfl) (by simp only[LFm];omega) (fun k hk=> ?_) ?_
     · simp only[z3w]
       rw[if_pos (by omega),z5P hk,Z0,z0H (by omega),Z2]
       exact congrArg (fun x=>z0c (((k+1:Nat):Int),x)) (z4c (f:=fun _=>((zhn d m n S i (z7W d S o a):Nat):Int)) hk)
     · simp only[z3w]
       rw[if_neg (by omega),z8U,hfill]
 · rw[if_neg (fun h=>e1 ((z9v hc).1 h)),if_neg e1,hzero]
   exact congrArg some (hfill 0)
end
end
section
open Go
variable{x:List Nat}
section
variable {d:DFA} {m n:Nat} {S:List Nat} (hd:DfaOk d m n) (hn:n<=7) (hS:SetsP d m n S) {O:List Nat} (hH:zhI d m n S) (hO:OrdC d m n S O) (hpos:∀x∈S,x≠0)
include hd hn hS hH hO hpos
theorem zhl{x:List Nat}(hx:zeJ d m n S O x)(h0:0<S.length):∀k,k<=x.length->z7s d m n S O 0 0 (x.take k)<S.length/\k<=cpN d m n S O (z7s d m n S O 0 0 (x.take k))
 |0,_=>⟨by simpa[z7s] using h0,Y7 _⟩
 |k+1,hk=>by
  obtain⟨h1,h2⟩:=zhl hx h0 k (by omega)
  rw[zdx (by omega),Zs]
  exact zfd hd hn hS hH hO hpos (by have:=hx.1;omega) h1 h2 (hx.2 k (by have:=hx.1;omega))
theorem zsx(hSl:S.length<=1000)(h0:0<S.length){a:Nat}(ha:a<m)(hx:zeJ d m n S O x):
 z2Q (z9i d m n S O) (toI x) (a:Int)=some (toI (z5n d m n S O a x),(z8i d m n S O a x).map toI):=by
 have hOl:O.length<=S.length:=by
  rw[hO.prm.length_eq]
  unfold zaX
  exact ZR (ZL _ _) (by rw[ZD];exact z6d (z2x d m n S) S.length)
 have hxl:=hx.1
 have hy:=(zah hd hn hS hH hO hpos (a:=a) hx h0).1
 have hyl:=hy.1
 have hend:=zhl hd hn hS hH hO hpos hx h0
 have hend2:=zhl hd hn hS hH hO hpos hy h0
 have hget:=fun k (hk:k<x.length)=>zl3 (d:=d) (m:=m) (n:=n) (S:=S) (O:=O) a x 0 0 0 k hk
 let oK:=fun k=>z7s d m n S O 0 0 (x.take k)
 let iK:=fun k=>z7s d m n S O 0 0 ((z5n d m n S O a x).take k)
 let mK:=fun k=>(z8i d m n S O a x).getD k []
 let yK:=fun k=>(z5n d m n S O a x).getD k 0
 have hm:∀k,k<x.length->mK k=zf7 d m n S O a k (oK k) (iK k):=fun k hk=>by
  have:=(hget k hk).1
  rw[Zs] at this
  exact this
 have hyk:∀k,k<x.length->yK k=(mK k).getD (x.getD k 0) 0:=fun k hk=>by
  have:=(hget k hk).2
  rw[Zs] at this
  rw[hm k hk]
  exact this
 have ho1:∀k,k<x.length->oK (k+1)=dnN d m n S O k (oK k) (x.getD k 0):=fun k hk=>by
  have:=zdx (d:=d) (m:=m) (n:=n) (S:=S) (O:=O) hk 0 0
  rwa [Zs] at this
 have hi1:∀k,k<x.length->iK (k+1)=dnN d m n S O k (iK k) (yK k):=fun k hk=>by
  have:=zdx (d:=d) (m:=m) (n:=n) (S:=S) (O:=O) (x:=z5n d m n S O a x) (k:=k) (by omega) 0 0
  rwa [Zs] at this
 unfold z2Q
 rw[z0b,hxl,z0e _ (by unfold z0D;omega),z0e _ (by unfold z0D;omega)]
 simp only[Z2]
 refine z0q (n:=O.length) (f:=fun k=>(((oK k:Nat):Int),((iK k:Nat):Int),(k:Int),z9R O.length (fun k=>((yK k:Nat):Int)) (fun _=>0) k,z9R O.length (fun k=>toI (mK k)) (fun _=> []) k)) ?_ (by simp only[LFm];omega) (fun k hk=> ?_) ?_
 · rw[z8V,z8V]
   have e1:List.replicate O.length (0:Int)=(List.range O.length).map (fun _=>(0:Int)):=(Zf (by simp) fun i h1 h2=>by simp)
   have e2:List.replicate O.length ([]:List Int)=(List.range O.length).map (fun _=>([]:List Int)):=(Zf (by simp) fun i h1 h2=>by simp)
   rw[e1,e2]
   rfl
 · have hk':k<x.length:=by omega
   obtain⟨o1,o2⟩:=hend k (by omega)
   obtain⟨i1,i2⟩:=hend2 k (by omega)
   have hxk:=hx.2 k hk
   have hmo:=zoM hd hn hS hH hO hpos (a:=a) (o:=oK k) (i:=iK k) hk o1 i1
   rw[←hm k hk'] at hmo
   have hsz:∀i,i<S.length->cpN d m n S O i=k->szO d m n S O k=(tlR d m n S i).length:=fun i hi e=>by
    have hz:=zeb hd hn hS hH hO hi (by omega)
    rwa [e] at hz
   have hykl:yK k<szO d m n S O k:=by
    rw[hyk k hk']
    exact hmo.2 _ (z0i (by omega))
   have hxat:atI (toI x) (k:Int)=some ((x.getD k 0:Nat):Int):=z1q hk'
   have hmat:z2F (z9i d m n S O) (k:Int) ((oK k:Nat):Int) ((iK k:Nat):Int) (a:Int)=some (toI (mK k)):=by
    rw[hm k hk']
    exact zxw hd hn hS hH hO hpos hSl ha hk o1 i1
   have hset:=z4c (f:=fun k=>toI (mK k)) (g:=fun _=>([]:List Int)) hk
   have hset2:=z4c (f:=fun k=>((yK k:Nat):Int)) (g:=fun _=>(0:Int)) hk
   have hat1:=znf (f:=fun k=>toI (mK k)) (g:=fun _=>([]:List Int)) hk
   have hat2:=znf (f:=fun k=>((yK k:Nat):Int)) (g:=fun _=>(0:Int)) hk
   have hmx:atI (toI (mK k)) ((x.getD k 0:Nat):Int)=some ((yK k:Nat):Int):=by
    rw[hyk k hk']
    exact z1q (by omega)
   have hco:=zew (d:=d) (m:=m) (n:=n) (O:=O) o1
   have hci:=zew (d:=d) (m:=m) (n:=n) (O:=O) i1
   have hto:=zaq (d:=d) (m:=m) (n:=n) (O:=O) o1
   have hti:=zaq (d:=d) (m:=m) (n:=n) (O:=O) i1
   simp only[z4h]
   rw[z0b,if_pos (by omega),hxat,Z0,hmat,Z0,z5P hk,Z0,Z2,hset,hat1,Z0,hmx,Z0,z5P hk,Z0,hset2,hco,Z0,z0H (by omega),ho1 k hk',hi1 k hk']
   unfold dnN
   by_cases e1:cpN d m n S O (oK k)=k
   · have htat:atI (toI (tlR d m n S (oK k))) ((x.getD k 0:Nat):Int)=some (((tlR d m n S (oK k)).getD (x.getD k 0) 0:Nat):Int):=z1q (by have:=hsz (oK k) o1 e1;omega)
     rw[if_pos ((z9v hk).2 e1),if_pos e1,hto,Z0,htat,Z0,hci,Z0]
     by_cases e2:cpN d m n S O (iK k)=k
     · have htai:atI (toI (tlR d m n S (iK k))) ((yK k:Nat):Int)=some (((tlR d m n S (iK k)).getD (yK k) 0:Nat):Int):=z1q (by have:=hsz (iK k) i1 e2;omega)
       rw[if_pos ((z9v hk).2 e2),if_pos e2,hti,Z0,hat2,Z0,htai,Z0]
     · rw[if_neg (fun h=>e2 ((z9v hk).1 h)),if_neg e2]
   · rw[if_neg (fun h=>e1 ((z9v hk).1 h)),if_neg e1,hci,Z0]
     by_cases e2:cpN d m n S O (iK k)=k
     · have htai:atI (toI (tlR d m n S (iK k))) ((yK k:Nat):Int)=some (((tlR d m n S (iK k)).getD (yK k) 0:Nat):Int):=z1q (by have:=hsz (iK k) i1 e2;omega)
       rw[if_pos ((z9v hk).2 e2),if_pos e2,hti,Z0,hat2,Z0,htai,Z0]
     · rw[if_neg (fun h=>e2 ((z9v hk).1 h)),if_neg e2]
 · simp only[z4h]
   rw[z0b,if_neg (by omega),z8U,z8U]
   have e1:(List.range O.length).map (fun k=>((yK k:Nat):Int))=toI (z5n d m n S O a x):=by
    refine Zf (by simp[toI,hyl]) fun k h1 h2=> ?_
    have:k<(z5n d m n S O a x).length:=by simpa[toI] using h2
    simp[toI,yK,List.getD,this]
   have e2:(List.range O.length).map (fun k=>toI (mK k))=(z8i d m n S O a x).map toI:=by
    refine Zf (by simp[zl1,hxl]) fun k h1 h2=> ?_
    have:k<(z8i d m n S O a x).length:=by simpa using h2
    simp[mK,List.getD,this]
   rw[e1,e2]
theorem zAz(hSl:S.length<=1000)(h0:0<S.length)(hx:zeJ d m n S O x):
 z2R (z9i d m n S O) (toI x)=some ((List.range m).map fun a=>(z8i d m n S O a x).map toI):=by
 have hm6:=hd.m6
 have hlt:(z9i d m n S O).d.letters=m:=hd.lt
 unfold z2R
 rw[hlt,z0e _ (by unfold z0D;omega),Z2]
 refine z0q (n:=m) (f:=fun k=>((k:Int),z9R m (fun a=>(z8i d m n S O a x).map toI) (fun _=> []) k)) ?_ (by simp only[LFm];omega) (fun a ha=> ?_) ?_
 · rw[z8V]
   exact congrArg (fun x=>((0:Int),x)) (Zf (by simp) fun i h1 h2=>by simp)
 · simp only[z4i]
   rw[hlt,if_pos (by omega),zsx hd hn hS hH hO hpos hSl h0 ha hx,Z0,z5P ha,Z0,z0H (by omega),Z2]
   exact congrArg (fun x=>z0c (((a+1:Nat):Int),x)) (z4c (f:=fun a=>(z8i d m n S O a x).map toI) ha)
 · simp only[z4i]
   rw[hlt,if_neg (by omega),z8U]
end
def zaz(d:DFA)(m n:Nat)(S O:List Nat):Nat->Nat->List Nat->List Nat
 |_,_,[]=> []
 |c,i,s::x=>(if cpN d m n S O i=c then [dnN d m n S O c i s] else [])++zaz d m n S O (c+1) (dnN d m n S O c i s) x
theorem zpv{d:DFA}{m n:Nat}{S O:List Nat}(s:Nat):∀(x:List Nat) (c i:Nat),zaz d m n S O c i (x++ [s])=zaz d m n S O c i x++(if cpN d m n S O (z7s d m n S O c i x)=c+x.length then [dnN d m n S O (c+x.length) (z7s d m n S O c i x) s] else [])
 | [],c,i=>by
   simp only[Yb,zaz,z7s,Ys,YH,Yc]
   all_goals rfl
 |t::x,c,i=>by
  simp only[ZO,zaz,Zq,z7s]
  rw[zpv s x,show c+1+x.length=c+(x.length+1) by omega,Zu]
  all_goals rfl
theorem zpu{d:DFA}{m n:Nat}{S O:List Nat}{k:Nat}(hk:k<x.length):zaz d m n S O 0 0 (x.take (k+1))=zaz d m n S O 0 0 (x.take k)++(if cpN d m n S O (z7s d m n S O 0 0 (x.take k))=k then [dnN d m n S O k (z7s d m n S O 0 0 (x.take k)) (x.getD k 0)] else []):=by
 rw[z9M hk,zpv,Zp,Nat.min_eq_left (by omega),Zs]
theorem zpx{d:DFA}{m n:Nat}{S O:List Nat}:∀(x:List Nat) (c i:Nat),(i::zaz d m n S O c i x).getLastD 0=z7s d m n S O c i x
 | [],c,i=>rfl
 |s::x,c,i=>by
  have ih:=zpx (d:=d) (m:=m) (n:=n) (S:=S) (O:=O) x (c+1) (dnN d m n S O c i s)
  simp only[zaz,z7s]
  by_cases h:cpN d m n S O i=c
  · grind
  · rw[if_neg h,Yb]
    have e:dnN d m n S O c i s=i:=by unfold dnN;rw[if_neg h]
    rw[e] at ih⊢
    exact ih
section
variable {d:DFA} {m n:Nat} {S:List Nat} (hd:DfaOk d m n) (hn:n<=7) (hS:SetsP d m n S) {O:List Nat} (hH:zhI d m n S) (hO:OrdC d m n S O) (hpos:∀x∈S,x≠0)
include hd hn hS hH hO hpos
theorem zyh(hSl:S.length<=1000)(h0:0<S.length)(hx:zeJ d m n S O x):z3F (z9i d m n S O) (toI x)=some (toI (0::zaz d m n S O 0 0 x)):=by
 have hOl:O.length<=S.length:=by
  rw[hO.prm.length_eq]
  unfold zaX
  exact ZR (ZL _ _) (by rw[ZD];exact z6d (z2x d m n S) S.length)
 have hxl:=hx.1
 have hend:=zhl hd hn hS hH hO hpos hx h0
 have hcl:∀k,k<=x.length->(zaz d m n S O 0 0 (x.take k)).length<=k:=fun k=>by
  induction k with
  |zero=>intro _;simp[zaz]
  |succ k ih=>
   intro hk
   have:=ih (by omega)
   rw[zpu (by omega),Z7]
   split<;>simp<;>omega
 unfold z3F
 refine z0q (n:=x.length) (f:=fun k=>(((z7s d m n S O 0 0 (x.take k):Nat):Int),(k:Int),toI (0::zaz d m n S O 0 0 (x.take k)))) (by simp[z7s,zaz,toI]) (by simp only[LFm];omega) (fun k hk=> ?_) ?_
 · obtain⟨o1,o2⟩:=hend k (by omega)
   have hlk:=hcl k (by omega)
   simp only[z3L]
   rw[z0b,if_pos (by omega),z1q hk,Z0,zew o1,Z0,z0H (by omega),zdx hk,zpu hk,Zs]
   by_cases e:cpN d m n S O (z7s d m n S O 0 0 (x.take k))=k
   · have hz:=zeb hd hn hS hH hO o1 (by omega)
     rw[e] at hz
     have hlt:=hx.2 k (by omega)
     have ed:dnN d m n S O k (z7s d m n S O 0 0 (x.take k)) (x.getD k 0)=(tlR d m n S (z7s d m n S O 0 0 (x.take k))).getD (x.getD k 0) 0:=by unfold dnN;rw[if_pos e]
     rw[if_pos ((z9v (by omega)).2 e),if_pos e,zaq o1,Z0,z1q (by omega),Z0,ed,z0b,Zq,z0e _ (by unfold z1n;omega),←z5O,ZO]
   · have ed:dnN d m n S O k (z7s d m n S O 0 0 (x.take k)) (x.getD k 0)=z7s d m n S O 0 0 (x.take k):=by unfold dnN;rw[if_neg e]
     rw[if_neg (fun h=>e ((z9v (by omega)).1 h)),if_neg e,Yc,ed]
 · simp only[z3L]
   rw[z0b,if_neg (by omega),Yd]
theorem zom(hSl:S.length<=1000)(h0:0<S.length):z2E (z9i d m n S O)=some (toI (z3m d m n S O)):=by
 have h128:2^n<=128:=Zl (n:=2) (by omega) hn
 have hOl:O.length<=S.length:=by
  rw[hO.prm.length_eq]
  unfold zaX
  exact ZR (ZL _ _) (by rw[ZD];exact z6d (z2x d m n S) S.length)
 obtain⟨q,hq⟩:=ZF hd.s0
 have hqn:q<n:=by have:=hd.s1;omega
 have hmem:=hS.one q hqn
 have hlen:((z9i d m n S O).sizes.length:Int)=(O.length:Int):=by simp[z9i,z0b]
 have hst:=zai hd hn hS hH hO hpos h0
 have hend:=zhl hd hn hS hH hO hpos hst h0
 have hq2:d.start.toNat=q:=by omega
 have hsl:=hst.1
 let w:=S.idxOf (2^q)
 have hw:w<S.length:=z6F hmem
 let xK:=fun k=>(z3m d m n S O).getD k 0
 let iK:=fun k=>z7s d m n S O 0 0 ((z3m d m n S O).take k)
 have hsr:∀(k c i j:Nat),j<k->(srN d m n S O w k c i).getD j 0=if cpN d m n S O (z7s d m n S O c i ((srN d m n S O w k c i).take j))=c+j then zhn d m n S (z7s d m n S O c i ((srN d m n S O w k c i).take j)) w else 0:=fun k=>by
  induction k with
  |zero=>intro c i j hj;omega
  |succ k ih=>
   intro c i j hj
   match j with
   |0=>simp only[srN,Xe,XA,z7s,YH]
   |j+1=>
    simp only[srN,Yg,Xd,z7s]
    rw[ih _ _ j (by omega),show c+1+j=c+(j+1) by omega]
 have hx:∀k,k<O.length->xK k=if cpN d m n S O (iK k)=k then zhn d m n S (iK k) w else 0:=fun k hk=>by
  have:=hsr O.length 0 0 k hk
  rw[Zs] at this
  have e:z3m d m n S O=srN d m n S O w O.length 0 0:=by unfold z3m;rw[hq2]
  show(z3m d m n S O).getD k 0=if cpN d m n S O (z7s d m n S O 0 0 ((z3m d m n S O).take k))=k then zhn d m n S (z7s d m n S O 0 0 ((z3m d m n S O).take k)) w else 0
  rw[e];exact this
 have hi1:∀k,k<O.length->iK (k+1)=dnN d m n S O k (iK k) (xK k):=fun k hk=>by
  have:=zdx (d:=d) (m:=m) (n:=n) (S:=S) (O:=O) (x:=z3m d m n S O) (k:=k) (by omega) 0 0
  rwa [Zs] at this
 unfold z2E
 have hsd:(z9i d m n S O).d.start=(q:Int):=hq
 have hss:(z9i d m n S O).x.sets=toI S:=rfl
 rw[hlen,z0e _ (by unfold z0D;omega),hsd,z0e _ (by omega),hss,z9p (by omega),zjw (by omega),if_pos hmem,Z0,Z2]
 refine z0q (n:=O.length) (f:=fun k=>(((iK k:Nat):Int),(k:Int),z9R O.length (fun k=>((xK k:Nat):Int)) (fun _=>0) k)) ?_ (by simp only[LFm];omega) (fun k hk=> ?_) ?_
 · rw[z8V]
   exact congrArg (fun x=>((0:Int),(0:Int),x)) (Zf (by simp) fun i h1 h2=>by simp)
 · obtain⟨i1,i2⟩:=hend k (by omega)
   have hset2:=z4c (f:=fun k=>((xK k:Nat):Int)) (g:=fun _=>(0:Int)) hk
   have hat2:=znf (f:=fun k=>((xK k:Nat):Int)) (g:=fun _=>(0:Int)) hk
   simp only[z3J]
   rw[hlen,if_pos (by omega),zew i1,Z0,z0H (by omega),Z2,hi1 k hk]
   by_cases e:cpN d m n S O (iK k)=k
   · have e':cpN d m n S O (z7s d m n S O 0 0 ((z3m d m n S O).take k))=k:=e
     have hz:=zeb hd hn hS hH hO i1 (by omega)
     have hlt:=hst.2 k hk
     rw[e'] at hz
     have hxk:xK k=zhn d m n S (iK k) w:=by rw[hx k hk,if_pos e]
     have hcov:=zcB hd hn hS (O:=O) hSl i1 hw
     rw[if_pos ((z9v hk).2 e)]
     have hc2:z1s (z9i d m n S O) ((iK k:Nat):Int) (w:Int)=some ((xK k:Nat):Int):=by rw[hxk];exact hcov
     have hta:atI (toI (tlR d m n S (iK k))) ((xK k:Nat):Int)=some (((tlR d m n S (iK k)).getD (xK k) 0:Nat):Int):=z1q (by
      show(z3m d m n S O).getD k 0<(tlR d m n S (z7s d m n S O 0 0 ((z3m d m n S O).take k))).length
      omega)
     rw[hc2,Z0,z5P hk,Z0,zaq i1,Z0,hset2,hat2,Z0,hta,Z0]
     unfold dnN
     rw[if_pos e]
   · have hxk:xK k=0:=by rw[hx k hk,if_neg e]
     rw[if_neg (fun h=>e ((z9v hk).1 h))]
     unfold dnN
     rw[if_neg e,←hset2,hxk]
     congr 3
     refine(List.set_getElem_self (by rw[zne];exact hk)).symm.trans ?_
     congr 1
     simp[z9R]
 · simp only[z3J]
   rw[hlen,if_neg (by omega),z8U]
   congr 2
   refine Zf (by simp[toI,hsl]) fun k h1 h2=> ?_
   have:k<(z3m d m n S O).length:=by simpa[toI] using h2
   simp[toI,xK,List.getD,this]
end
end
section
open Go Go.IntKind
noncomputable section
abbrev z3H(a1:Int)(w42:Int)(v53:List Int):Int×List Bool->Option ((Int×List Bool)⊕(Int⊕Bool))
 |(w55,w56)=>
 if w55<(v53.length:Int) then
 (atI v53 w55).bind fun v60=>
 if v60<0 then
 z0d<|
 z0d<|
 some false
 else
 if a1<=v60 then
 z0d<|
 z0d<|
 some false
 else
 (atI w56 v60).bind fun v61=>
 if v61=true then
 z0d<|
 z0d<|
 some false
 else
 z0c (i64.wrap (w55+1),(w56.set v60.toNat true))
 else
 z0d<|
 z0c (i64.wrap (w42+1))
variable{a1:Int}{a0:List (List Int)}
instance{w42:Int}{v53:List Int}:Hd (z3H a1 w42 v53):=⟨fun(w55,w56)=>([(24,xI w55)],[(7,.os 1 w56.length (w56.map fun x0=>.sc (.bool x0)))])⟩
abbrev z2D(a0:List (List Int))(a1:Int):Int->Option (Int⊕Bool)
 |w42=>
 if w42<(a0.length:Int) then
 (atI a0 w42).bind fun v53=>
 if(v53.length:Int)=a1 then
 chk (z0D 1 a1)<|
 z0h (z3H a1 w42 v53) LFm (0,List.replicate a1.toNat (false:Bool))
 else
 z0d<|
 some false
 else
 z0d<|
 some true
instance:Hd (z2D a0 a1):=⟨fun w42=>([(12,xI w42)],[])⟩
def z3D(a0:List (List Int))(a1:Int):Option (Bool):=
 z0h (z2D a0 a1) LFm 0
instance:Ok (z3D a0 a1) (fun r=>L 97 [(tR a0),.sc (.int .i64 a1)]=some (.sc (.bool r),[.dead,.dead])):=⟨fun r h=>by have h:=z3c h;unfold z3D at h;exact z4b rfl Tryz.func97 (bdy Tryz.f97 rfl)⟩
end
end
section
open Go Go.IntKind
noncomputable section
abbrev z7O(a0:List Int):Int->Option (Int⊕Bool)
 |w6=>
 if w6<(a0.length:Int) then
 (atI a0 w6).bind fun v8=>
 if v8<0 then
 z0d<|
 some false
 else
 if(a0.length:Int)<=v8 then
 z0d<|
 some false
 else
 z0c (i64.wrap (w6+1))
 else
 z0d<|
 some true
variable{a0 a1:List Int}
instance:Hd (z7O a0):=⟨fun w6=>([(15,xI w6)],[])⟩
def z7B(a0:List Int):Option (Bool):=
 if(a0.length:Int)<1 then
 some false
 else
 if 32<(a0.length:Int) then
 some false
 else
 z0h (z7O a0) LFm 0
instance:Ok (z7B a0) (fun r=>L 210 [(tI a0)]=some (.sc (.bool r),[.dead])):=⟨fun r h=>by have h:=z3c h;unfold z7B at h;exact z4b rfl Tryz.func210 (bdy Tryz.f210 rfl)⟩
abbrev z4B(a0:List Int):Int->Option (Int⊕List Int)
 |w10=>
 if w10<(a0.length:Int) then
 (atI a0 w10).bind fun v13=>
 (atI a0 (i64.wrap (w10-1))).bind fun v14=>
 if v13=v14 then
 none
 else
 z0c (i64.wrap (w10+1))
 else
 z0d<|
 some a0
instance:Hd (z4B a0):=⟨fun w10=>([(3,xI w10)],[])⟩
def z2J(a0:List Int):Option (List Int):=
 if(a0.length:Int)<2 then
 some a0
 else
 z0h (z4B a0) LFm 1
instance:Ok (z2J a0) (fun r=>L 238 [(tI a0)]=some ((tI r),[.dead])):=⟨fun r h=>by have h:=z3c h;unfold z2J at h;exact z4b rfl Tryz.func238 (bdy Tryz.f238 rfl)⟩
def zaa(a0:List Int):Option (List Int):=
 (z7B a0).bind fun v5=>
 if v5=true then
 (z9F a0).bind fun v6=>
 (zav v6).bind fun v7=>
 (z2J v7).bind fun v8=>
 some v8
 else
 some []
instance:Ok (zaa a0) (fun r=>L 230 [(tI a0)]=some ((tI r),[.dead])):=⟨fun r h=>by have h:=z3c h;unfold zaa at h;exact zhG rfl Tryz.func230 (bdy Tryz.f230 rfl)⟩
def zbh(a0:List Int):Option (Int):=
 (zaa a0).bind fun v2=>
 some (v2.length:Int)
instance:Ok (zbh a0) (fun r=>L 211 [(tI a0)]=some (.sc (.int .i64 r),[.dead])):=⟨fun r h=>by have h:=z3c h;unfold zbh at h;exact z4b rfl Tryz.func211 (bdy Tryz.f211 rfl)⟩
def z4n(a0:List Int):Option (Bool):=
 (z7B a0).bind fun v3=>
 if v3=true then
 (zbh a0).bind fun v4=>
 some (decide (v4=(a0.length:Int)))
 else
 some false
instance:Ok (z4n a0) (fun r=>L 183 [(tI a0)]=some (.sc (.bool r),[.dead])):=⟨fun r h=>by have h:=z3c h;unfold z4n at h;exact z4b rfl Tryz.func183 (bdy Tryz.f183 rfl)⟩
abbrev z6c(a0:List (List Int))(a1:Int):Int->Option (Int⊕Bool)
 |w10=>
 if w10<(a0.length:Int) then
 (atI a0 w10).bind fun v13=>
 if(v13.length:Int)=a1 then
 (z4n v13).bind fun v14=>
 if v14=true then
 z0c (i64.wrap (w10+1))
 else
 z0d<|
 some false
 else
 z0d<|
 some false
 else
 z0d<|
 some true
instance{a0:List (List Int)}{a1:Int}:Hd (z6c a0 a1):=⟨fun w10=>([(9,xI w10)],[])⟩
def z4K(a0:List (List Int))(a1:Int):Option (Bool):=
 z0h (z6c a0 a1) LFm 0
instance{a0:List (List Int)}{a1:Int}:Ok (z4K a0 a1) (fun r=>L 150 [(tR a0),.sc (.int .i64 a1)]=some (.sc (.bool r),[.dead,.dead])):=⟨fun r h=>by have h:=z3c h;unfold z4K at h;exact z4b rfl Tryz.func150 (bdy Tryz.f150 rfl)⟩
abbrev z6i(a0:Int):Int×List Int->Option ((Int×List Int)⊕List Int)
 |(w5,w6)=>
 if w5<a0 then
 (atI w6 w5).bind fun v8=>
 z0c (i64.wrap (w5+1),(w6.set w5.toNat w5))
 else
 z0d<|
 some w6
instance{a0:Int}:Hd (z6i a0):=⟨fun(w5,w6)=>([(15,xI w5)],[(3,(tO w6))])⟩
def z6z(a0:Int):Option (List Int):=
 if a0<1 then
 some []
 else
 if 32<a0 then
 some []
 else
 chk (z0D 8 a0)<|
 z0h (z6i a0) LFm (0,List.replicate a0.toNat (0:Int))
instance{a0:Int}:Ok (z6z a0) (fun r=>L 151 [.sc (.int .i64 a0)]=some ((tO r),[.dead])):=⟨fun r h=>by have h:=z3c h;unfold z6z at h;exact z4b rfl Tryz.func151 (bdy Tryz.f151 rfl)⟩
abbrev z8y(a0:List Int):Int×List Int->Option ((Int×List Int)⊕ByteArray)
 |(w9,w10)=>
 if w9<(a0.length:Int) then
 (atI a0 w9).bind fun v13=>
 (atI w10 w9).bind fun v14=>
 z0c (i64.wrap (w9+1),(w10.set w9.toNat (u8.wrap v13)))
 else
 z0d<|
 some (z1o w10)
instance:Hd (z8y a0):=⟨fun(w9,w10)=>([(11,xI w9)],[(3,.os 1 w10.length (w10.map fun x0=>.sc (.int .u8 x0)))])⟩
def z7I(a0:List Int):Option (ByteArray):=
 chk (z0D 1 (a0.length:Int))<|
 z0h (z8y a0) LFm (0,List.replicate (a0.length:Int).toNat (0:Int))
instance:Ok (z7I a0) (fun r=>L 152 [(tI a0)]=some (.sc (.string r),[.dead])):=⟨fun r h=>by have h:=z3c h;unfold z7I at h;exact z4b rfl Tryz.func152 (bdy Tryz.f152 rfl)⟩
abbrev z6L(a0:List Int)(a1:List Int):Int×List Int->Option ((Int×List Int)⊕List Int)
 |(w13,w14)=>
 if w13<(a0.length:Int) then
 (atI a0 w13).bind fun v18=>
 (atI a1 v18).bind fun v19=>
 (atI w14 w13).bind fun v20=>
 z0c (i64.wrap (w13+1),(w14.set w13.toNat v19))
 else
 z0d<|
 some w14
instance:Hd (z6L a0 a1):=⟨fun(w13,w14)=>([(13,xI w13)],[(5,(tO w14))])⟩
def z6v(a0:List Int)(a1:List Int):Option (List Int):=
 chk (z0D 8 (a0.length:Int))<|
 z0h (z6L a0 a1) LFm (0,List.replicate (a0.length:Int).toNat (0:Int))
instance:Ok (z6v a0 a1) (fun r=>L 153 [(tI a0),(tI a1)]=some ((tO r),[.dead,.dead])):=⟨fun r h=>by have h:=z3c h;unfold z6v at h;exact z4b rfl Tryz.func153 (bdy Tryz.f153 rfl)⟩
end
end
section
open Go Go.IntKind
noncomputable section
abbrev z4L(w225:List (List Int))(v276:List Int)(w293:Int):Int×List (List Int)×(List (ByteArray×Bool))->Option ((Int×List (List Int)×(List (ByteArray×Bool)))⊕((Int×List (List Int)×(List (ByteArray×Bool)))⊕((Int×List (List Int)×(List (ByteArray×Bool))×List (List Int))⊕(List (List Int)×Int))))
 |(w315,w316,w317)=>
 if w315<((w225.length:Int)+1) then
 (atI (w225++ [v276]) w315).bind fun v322=>
 (atI w316 w293).bind fun v323=>
 (z6v v323 v322).bind fun v324=>
 (z7I v324).bind fun v325=>
 if((z7r v325 w317).getD false)=true then
 z0c (i64.wrap (w315+1),w316,w317)
 else
 chk (z1n 24 (w316.length+1))<|
 z0c (i64.wrap (w315+1),w316++ [v324],z8h v325 true w317)
 else
 z0d<|
 if 2000<(w316.length:Int) then
 z0d<|
 z0d<|
 some ([],3)
 else
 z0c (i64.wrap (w293+1),w316,w317)
variable{a0 w225:List (List Int)}{v276:List Int}
instance{w293:Int}:Hd (z4L w225 v276 w293):=⟨fun(w315,w316,w317)=>([(57,xI w315)],[(6,.os 1 w316.length (w316.map fun x0=>(tI x0))),(7,.mp none (w317.map fun x0=>(.string x0.1,.bool x0.2)))])⟩
abbrev z4M(w222:Int)(w225:List (List Int))(v276:List Int):Int×List (List Int)×(List (ByteArray×Bool))->Option ((Int×List (List Int)×(List (ByteArray×Bool)))⊕((Int×List (List Int)×(List (ByteArray×Bool))×List (List Int))⊕(List (List Int)×Int)))
 |(w293,w294,w295)=>
 if w293<(w294.length:Int) then
 z0h (z4L w225 v276 w293) LFm (0,w294,w295)
 else
 z0d<|
 z0c (i64.wrap (w222+1),w294,w295,w225++ [v276])
instance{w222:Int}:Hd (z4M w222 w225 v276):=⟨fun(w293,w294,w295)=>([(11,xI w293)],[(6,.os 1 w294.length (w294.map fun x0=>(tI x0))),(7,.mp none (w295.map fun x0=>(.string x0.1,.bool x0.2)))])⟩
abbrev z5R(a0:List (List Int)):Int×List (List Int)×(List (ByteArray×Bool))×List (List Int)->Option ((Int×List (List Int)×(List (ByteArray×Bool))×List (List Int))⊕(List (List Int)×Int))
 |(w222,w223,w224,w225)=>
 if w222<(a0.length:Int) then
 (atI a0 w222).bind fun v276=>
 (z7I v276).bind fun v277=>
 if((z7r v277 w224).getD false)=true then
 z0c (i64.wrap (w222+1),w223,w224,w225)
 else
 chk (z1n 24 (w225.length+1))<|
 z0h (z4M w222 w225 v276) LFm (0,w223,w224)
 else
 z0d<|
 (zkr w223).bind fun v326=>
 some (v326,0)
instance:Hd (z5R a0):=⟨fun(w222,w223,w224,w225)=>([(37,xI w222)],[(6,.os 1 w223.length (w223.map fun x0=>(tI x0))),(7,.mp none (w224.map fun x0=>(.string x0.1,.bool x0.2))),(8,.os 1 w225.length (w225.map fun x0=>(tI x0)))])⟩
def z5L(a0:List (List Int)):Option (List (List Int)×Int):=
 if(a0.length:Int)=0 then
 some ([],1)
 else
 (atI a0 0).bind fun v164=>
 (z4K a0 (v164.length:Int)).bind fun v165=>
 if v165=true then
 (z6z (v164.length:Int)).bind fun v166=>
 (z7I v166).bind fun v167=>
 z0h (z5R a0) LFm (0,[v166],z8h v167 true ([]:List (ByteArray×Bool)),[])
 else
 some ([],4)
instance:Ok (z5L a0) (fun r=>L 98 [(tR a0)]=some (.tup [(tR r.1),.sc (.int .i64 r.2)],[.dead])):=⟨fun r h=>by have h:=z3c h;unfold z5L at h;exact zhG rfl Tryz.func98 (bdy Tryz.f98 rfl)⟩
abbrev z5b(a0:Hol):Int×List Int->Option ((Int×List Int)⊕(List (List Int)×Int))
 |(w8,w9)=>
 if w8<(a0.tiles.length:Int) then
 (atI w9 w8).bind fun v11=>
 z0c (i64.wrap (w8+1),(w9.set w8.toNat w8))
 else
 z0d<|
 if(a0.perms.length:Int)=0 then
 some ([w9],0)
 else
 (z5L a0.perms).bind fun v12=>
 some (v12.1,v12.2)
instance{a0:Hol}:Hd (z5b a0):=⟨fun(w8,w9)=>([(27,xI w8)],[(5,(tO w9))])⟩
def z3k(a0:Hol):Option (List (List Int)×Int):=
 if(a0.tiles.length:Int)<1 then
 some ([],4)
 else
 if 32<(a0.tiles.length:Int) then
 some ([],4)
 else
 (z3D a0.perms (a0.tiles.length:Int)).bind fun v7=>
 if v7=true then
 chk (z0D 8 (a0.tiles.length:Int))<|
 z0h (z5b a0) LFm (0,List.replicate (a0.tiles.length:Int).toNat (0:Int))
 else
 some ([],4)
instance{a0:Hol}:Ok (z3k a0) (fun r=>L 47 [.agg [.sc (.int .i64 a0.set),(tI a0.tiles),(tS a0.words),(tR a0.perms)]]=some (.tup [(tR r.1),.sc (.int .i64 r.2)],[.dead])):=⟨fun r h=>by have h:=z3c h;unfold z3k at h;exact zhG rfl Tryz.func47 (bdy Tryz.f47 rfl)⟩
end
end
section
open Go Go.RowKit Go.Sort
variable{os:Array Obj}{x:List Int}{args outs:List T}{g n:Nat}{K:Nat->z0a}{r:T}{e:TypeId}{v:Value}{w w':World}{I:World->(Nat->z0a)->Prop}{c:z0a}
theorem z9f:∀x y:List Int,z8D y x= -z8D x y
 | [],[]=>by simp[z8D]
 | [],_::_=>by simp[z8D]
 |_::_,[]=>by simp[z8D]
 |a::x,b::y=>by
  have ih:=z9f x y
  simp only[z8D]
  by_cases h1:a<b
  · have h2:¬b<a:=by omega
    simp only[if_neg h2,if_pos h1];omega
  · by_cases h2:b<a
    · simp only[if_pos h2,if_neg h1]
    · simp only[if_neg h2,if_neg h1];exact ih
theorem z8K:∀x y z:List Int,z8D x y<=0->z8D y z<=0->z8D x z<=0/\(z8D x z=0->z8D x y=0/\z8D y z=0)
 | [],[],z,_,h2=>⟨h2,fun e=>⟨by simp[z8D],e⟩⟩
 | [],b::y,[],_,h2=>by simp[z8D] at h2
 | [],b::y,c::z,_,_=>by simp[z8D]
 |a::x,[],_,h1,_=>by simp[z8D] at h1
 |a::x,b::y,[],_,h2=>by simp[z8D] at h2
 |a::x,b::y,c::z,h1,h2=>by
  have ih:=z8K x y z
  simp only[z8D] at h1 h2⊢
  by_cases h3:a<b
  · by_cases h4:b<c
    · rw[if_pos (show a<c by omega)];exact⟨by omega,fun e=>by omega⟩
    · rw[if_neg h4] at h2
      by_cases h5:c<b
      · rw[if_pos h5] at h2;omega
      · rw[if_pos (show a<c by omega)];exact⟨by omega,fun e=>by omega⟩
  · rw[if_neg h3] at h1
    by_cases h4:b<a
    · rw[if_pos h4] at h1;omega
    · rw[if_neg h4] at h1
      have hab:a=b:=by omega
      subst hab
      by_cases h5:a<c
      · simp only[if_pos h5];exact⟨by omega,fun e=>by omega⟩
      · simp only[if_neg h5] at h2
        by_cases h6:c<a
        · simp only[if_pos h6] at h2;omega
        · simp only[if_neg h6] at h2
          simp only[if_neg h5,if_neg h6,if_neg h3,if_neg h4]
          exact ih h1 h2
theorem zgT(x:List Int):∀l:List (List Int),(zAN x l).Perm (x::l)
 | []=>.refl _
 |y::l=>by
  unfold zAN
  split
  · exact .refl _
  · exact((zgT x l).cons y).trans (.swap x y l)
theorem z8F:∀l:List (List Int),(z9y l).Perm l
 | []=>.refl _
 |x::l=>(zgT x (z9y l)).trans ((z8F l).cons x)
abbrev zyy(l:List (List Int)):Prop:=l.Pairwise fun a b=>z8D a b<=0
theorem zgS(x:List Int):∀l:List (List Int),zyy l->zyy (zAN x l)
 | [],_=>by simp[zAN]
 |y::l,h=>by
  unfold zAN
  rw[zyy,ZC] at h
  split
  · rename_i hxy
    refine ZC.2 ⟨fun z hz=> ?_,ZC.2 h⟩
    rcases Zv.1 hz with rfl|hz
    · exact hxy
    · exact(z8K _ _ _ hxy (h.1 z hz)).1
  · rename_i hxy
    refine ZC.2 ⟨fun z hz=> ?_,zgS x l h.2⟩
    rcases Zv.1 ((zgT x l).mem_iff.1 hz) with rfl|hz
    · rw[z9f];omega
    · exact h.1 z hz
theorem z9n:∀l:List (List Int),zyy (z9y l)
 | []=>by simp[z9y]
 |x::l=>zgS x _ (z9n l)
theorem zwR{l r:List (List Int)}(h:l.Perm r)(h1:zyy l)(h2:zyy r):l=r:=by
 refine XJ (le:=fun a b=>z8D a b<=0) (fun a b _ _ h3 h4=> ?_) h1 h2 h
 rw[z9f] at h4
 exact(zb9 a b).1 (by omega)
def zlB(B:Nat)(K:Nat->z0a)(b:Nat):z0a:=if B<=b then [0] else K b
def rwN(n j:Nat):Nat:=if j<n then j else 0
def cfR(rows:List (List Int))(i j:Nat):Int:=z8D (rows.getD (rwN rows.length i) []) (rows.getD (rwN rows.length j) [])
theorem zH6(rows:List (List Int)):SWO (ltOf (cfR rows)) where
 irrefl x:=by
  unfold ltOf cfR
  rw[(zb9 _ _).2 rfl];simp
 trans x y z h1 h2:=by
  unfold ltOf cfR at*
  simp only[decide_eq_true_eq] at*
  obtain⟨a,b⟩:=z8K _ _ _ (Int.le_of_lt h1) (Int.le_of_lt h2)
  rcases Int.lt_or_eq_of_le a with h|h
  · exact h
  · have:=(b h).1;omega
 ntrans x y z h1 h2:=by
  unfold ltOf cfR at*
  simp only[decide_eq_false_iff_not] at*
  rw[z9f] at h1 h2⊢
  have:=(z8K _ _ _ (show z8D (rows.getD (rwN rows.length z) []) (rows.getD (rwN rows.length y) [])<=0 by omega) (show z8D (rows.getD (rwN rows.length y) []) (rows.getD (rwN rows.length x) [])<=0 by omega)).1
  omega
theorem zmQ{rows:List (List Int)}{d':Array Nat}(hp:PermIn 0 (List.range rows.length).toArray.size (List.range rows.length).toArray d')(hs:SortedIn (ltOf (cfR rows)) 0 (List.range rows.length).toArray.size d'):d'.size=rows.length/\(∀x∈d'.toList,x<rows.length)/\d'.toList.map (fun j=>rows.getD j [])=z9y rows:=by
 obtain⟨h1,_,h3⟩:=hp
 have hsz:d'.size=rows.length:=by simpa using h1
 have hp2:d'.toList.Perm (List.range rows.length):=by
  have:(d'.extract 0 (List.range rows.length).toArray.size).toList=d'.toList:=by
   rw[←h1];simp
  rw[this] at h3
  simp at h3
  exact h3
 have hlt:∀x∈d'.toList,x<rows.length:=fun x hx=>Zj.1 (hp2.mem_iff.1 hx)
 have e1:(List.range rows.length).map (fun j=>rows.getD j [])=rows:=by
  refine Zf (by simp) fun i h1 h2=> ?_
  simp[List.getD,h2]
 refine⟨hsz,hlt,zwR ?_ ?_ (z9n rows)⟩
 · have:=hp2.map (fun j=>rows.getD j [])
   rw[e1] at this
   exact this.trans (z8F rows).symm
 · rw[zyy,ZG]
   intro i j hi hj hij
   simp only[Zg,ZZ] at hi hj
   have:=hs i j (by omega) hij (by simp;omega)
   rw[getElem!_pos d' i hi,getElem!_pos d' j hj] at this
   unfold ltOf cfR rwN at this
   simp only[decide_eq_false_iff_not] at this
   have l1:=hlt d'[i] (by simp)
   have l2:=hlt d'[j] (by simp)
   rw[if_pos l1,if_pos l2,z9f] at this
   simp only[Zw,X7]
   omega
theorem z9U{α:Type}[Inhabited α]{enc:α->Value}{cur:Array Value}{fr:Nat×Nat}(d:Array α)(hb:w.heap[g]? =some (.cells cur e fr)):(sortWorld enc w g 0 n d os).heap[g]? =some (.cells (putCells enc 0 d cur) e fr):=by
 unfold sortWorld
 rw[heap_grow_old _ _ (by rw[size_putRow];exact z1d hb)]
 simp[putRow,mapBlock,Sort.ahead,Yf,hb,onCells]
theorem z6b{α:Type}[Inhabited α]{enc:α->Value}(d:Array α){b:Nat}(hb:b<w.heap.size)(hne:b≠g):(sortWorld enc w g 0 n d os).heap[b]? =w.heap[b]? :=by
 unfold sortWorld
 rw[heap_grow_old _ _ (by rw[size_putRow];exact hb)]
 simp[putRow,mapBlock,Sort.ahead,Yf,Ne.symm hne]
theorem z7b{α:Type}[Inhabited α]{enc:α->Value}(d:Array α):w.heap.size<=(sortWorld enc w g 0 n d os).heap.size:=by
 unfold sortWorld
 rw[size_grow,size_putRow]
 show w.heap.size<=w.heap.size+_
 omega
theorem zby{K':Nat->z0a}{c':z0a}(h:TRep w K c v (zf4 x))(hk:∀b,b<w.heap.size->K b= []->K' b= []/\w'.heap[b]? =w.heap[b]?)(hs:w.heap.size<=w'.heap.size):TRep w' K' c' v (zf4 x)/\IntsAt w' v x:=by
 unfold zf4 at*
 generalize hT:T.sl x.length (x.map fun z=>T.sc (.int .i64 z))=t at h
 cases h with
 |emp c a cap hc=>
  injection hT with e1 e2
  have:x= []:=Y3 e1
  subst this
  exact⟨.emp c' a cap hc,a,cap,rfl,by simp,hc,fun j hj=>by simp at hj⟩
 |fro c g o n cap cs F hK hg hn hc hF hh=>
  injection hT with e1 e2
  subst e1 e2
  obtain⟨k1,k2⟩:=hk g hg hK
  have hcell:∀j,j<x.length->w'.cell? ⟨g,o+j,none⟩=some (F j):=fun j hj=>by
   rw[z1m k2];exact hF j (by simpa using hj)
  have hv:∀j (hj:j<x.length),F j= .int .i64 (x.getD j 0):=fun j hj=>by
   have:=hh j (.sc (.int .i64 x[j])) (by simp[hj])
   rw[this.sc_eq,List.getD,Z1 hj,Z4]
  refine⟨.fro c' g o _ cap _ F k1 (by omega) hn hc (fun j hj=>hcell j (by simpa using hj)) (fun j t ht=> ?_),some ⟨g,o,none⟩,cap,rfl,hn,hc,fun j hj=>⟨g,o,rfl,by rw[hcell j hj,hv j hj]⟩⟩
  have:=hh j t ht
  simp only[Zd,Z5] at ht
  obtain⟨z,hz,rfl⟩:=ht
  rw[this.sc_eq]
  exact .sc _ _ rfl
 |_=>cases hT
theorem zoy(h:TRep w K c v (zf4 x)):v.oneCell'=true:=by
 unfold zf4 at h
 generalize hT:T.sl x.length (x.map fun z=>T.sc (.int .i64 z))=t at h
 cases h with
 |emp=>rfl
 |fro=>rfl
 |_=>cases hT
theorem zmw(h:zwt 101 args=some (r,outs)):CallOk Tryz.prog I 100 args r outs:=by
 unfold zwt at h
 split at h
 case h_2=>cases h
 rename_i n cs f fs gs
 split at h
 case isFalse=>cases h
 rename_i hfg
 obtain⟨rfl,hfs,hgs⟩:=hfg
 simp only[Xl] at hfs hgs
 subst hfs hgs
 split at h
 case h_2=>cases h
 rename_i xs hxs
 split at h
 case isFalse=>cases h
 rename_i hn
 subst hn
 unfold zkr at h
 split at h
 case isFalse=>cases h
 rename_i hc
 obtain⟨hne,hlen⟩:=hc
 obtain⟨rfl,rfl⟩:T.tup []=r/\ [T.os 1 (z9y xs).length ((z9y xs).map zf4),.dead]=outs:=by simpa using h
 have hcs:=zlk hxs
 subst hcs
 clear h hxs
 refine⟨fun vals w=> ?_,fun w K vals hs ha hI=> ?_⟩
 · have hb:∃c,Tryz.f100.body=some c:=⟨_,rfl⟩
   obtain⟨c,hb⟩:=hb
   have hname:Tryz.f100.name≠ "runtime.NumGoroutine" :=by decide
   simp[callFunc,program,Sem.run,Tryz.func100,hname,hb]
 · obtain⟨v,u,rfl⟩:∃v u,vals= #[v,u]:=by
    obtain⟨l⟩:=vals
    match l,hs with
    | [v,u],_=>exact⟨v,u,rfl⟩
   have hv:TRep w K (col 0) v (.os 1 xs.length (xs.map zf4)):=ha 0 _ rfl
   have hu:TRep w K [] u (.sc (.func (.func 101) #[] #[])):=ha 1 _ rfl
   rw[hu.sc_eq]
   clear hu ha
   have hl0:0<xs.length:=ZM.2 hne
   generalize hT:T.os 1 xs.length (xs.map zf4)=t at hv
   cases hv with
   |nil=>injection hT with _ e _;omega
   |own c g n cap size cs arr e fz F hfz hc0 hK hg hsz hl hz hn hcap hF hh=>
    injection hT with e1 e2 e3
    subst e1 e2 e3
    have hrow:∀j,j<xs.length->TRep w K (col 0++ [j]) (F j) (zf4 (xs.getD j [])):=fun j hj=>by
     have:=hh j (zf4 xs[j]) (by simp[hj])
     rwa [List.getD,Z1 hj,Z4]
    have hcell:∀j,j<xs.length->arr[j]? =some (F j):=fun j hj=>hF j (by simpa using hj)
    let enc:Nat->Value:=fun j=>F (rwN xs.length j)
    have hdg:∀j,j<xs.length->(List.range xs.length).toArray[j]! =j:=fun j hj=>by
     rw[getElem!_pos _ j (by simpa using hj)];simp
    have hH:Holds enc w g 0 (List.range xs.length).toArray:=fun j hj=>by
     have hj':j<xs.length:=by simpa using hj
     constructor
     · rw[Zs,z4j hg,hcell j hj',hdg j hj']
       show some (F j)=some (F (rwN xs.length j))
       rw[rwN,if_pos hj']
     · unfold World.frozen?
       rw[Zs]
       simp only[hg]
       have:=hfz j (by omega)
       obtain⟨lo,hi⟩:=fz
       simp only at this⊢
       simp only[YO,decide_eq_false_iff_not]
       omega
    have eg:∀args w,(callFunc 101 args).run Tryz.prog w= .ok (.enter 101 args) w:=enters_of Tryz.func101 (by kernel_rfl) rfl
    have hlay:∀(d:Array Nat) (m:Nat) (os:Array Obj) (b:Nat),b<w.heap.size->K b= []->K b= []/\(sortWorld enc w g 0 m d os).heap[b]? =w.heap[b]? :=fun d m os b hb hk=>⟨hk,z6b d hb (by rintro rfl;rw[hK] at hk;simp[col] at hk)⟩
    have hrw:∀j,rwN xs.length j<xs.length:=fun j=>by unfold rwN;split<;>omega
    have hcmp:CmpLays1 Tryz.prog 101 #[] enc (cfR xs) g 0 (List.range xs.length).toArray.size w:=fun m os dk _ x y=>by
     refine(zd2 (enc x) (enc y) _ _ _ (zby (c':= []) (hrow _ (hrw x)) (hlay dk m os) (z7b dk)).2 (zby (c':= []) (hrow _ (hrw y)) (hlay dk m os) (z7b dk)).2).mono ?_
     rintro e' w' ⟨he,hw⟩
     exact⟨he,0,#[],by rw[←hw,grow_empty];rfl⟩
    have hcon:=Tryz.slices_SortFunc_f100 enc (fun j=>zoy (hrow _ (hrw j))) (cfR xs) (zH6 xs) 101 #[] g 0 cap (List.range xs.length).toArray w eg hcmp hH (z1d hg) (by simpa using hlen)
    have hsize:(List.range xs.length).toArray.size=xs.length:=by simp
    rw[hsize] at hcon
    refine hcon.mono fun e' w' ⟨he,d',m,os,hp,hso,hw⟩=> ?_
    subst hw
    obtain⟨hd,hdl,hsort⟩:=zmQ (by rw[hsize];exact hp) (by rw[hsize];exact hso)
    have hys:(z9y xs).length=xs.length:=(z8F xs).length_eq
    refine⟨.tuple #[],zlB w.heap.size K,he,?_,fun i t hi hio=> ?_,rfl,rfl,rfl,z7b d',fun b hb hcb=>⟨by unfold zlB;rw[if_neg (by omega)],z6b d' hb ?_⟩,?_⟩
    · exact .tup _ #[] [] (fun _=>undef) rfl (fun j hj=>by simp at hj) (fun j t ht=>by simp at ht)
    · match i,hi with
      |0,hi=>
       refine⟨_,rfl,?_⟩
       show TRep _ _ (col 0) (.slice (some ⟨g,0,none⟩) xs.length cap) _
       rw[←hys]
       refine .own (col 0) g _ cap 1 _ (putCells enc 0 d' arr) e fz (fun j=>F (d'.toList.getD j 0)) (fun i hi=>hfz i (by simpa[putCells] using hi)) (by simp[col]) (by unfold zlB;rw[if_neg (by have:=z1d hg;omega)];exact hK) (z9U d' hg) (by simpa[putCells] using hsz) (by simp) (by omega) (by omega) hcap (fun j hj=> ?_) (fun j t ht=> ?_)
       · have hj':j<xs.length:=by simpa[hys] using hj
         have hja:j<arr.size:=(ZY.1 (hcell j hj')).1
         have hjd:j<d'.size:=by omega
         have hjl:=hdl d'[j] (by simp)
         simp only[putCells,Xn,hcell j hj',ZN]
         rw[if_pos (by omega),YR,getElem!_pos d' j hjd]
         show some (F (rwN xs.length d'[j]))=some (F (d'.toList.getD j 0))
         rw[rwN,if_pos hjl]
         simp[List.getD,hjd]
       · simp only[Zd,Z5] at ht
         obtain⟨x,hx',rfl⟩:=ht
         have hjs:j<(z9y xs).length:=(Za.1 hx').1
         have hjd:j<d'.toList.length:=by rw[ZZ];omega
         have hjl:=hdl d'.toList[j] (Zm hjd)
         have ex:x=xs.getD d'.toList[j] []:=by
          have h1:(d'.toList.map fun j=>xs.getD j [])[j]? =some x:=by rw[hsort];exact hx'
          rw[Zd,Z1 hjd,ZN] at h1
          exact(YF h1).symm
         have e2:d'.toList.getD j 0=d'.toList[j]:=by rw[List.getD,Z1 hjd,Z4]
         rw[e2,ex]
         exact(zby (hrow _ hjl) (fun b hb hk=>⟨by unfold zlB;rw[if_neg (by omega)];exact hk,(hlay d' m os b hb hk).2⟩) (z7b d')).1
      |1,hi=>cases hi;cases hio
    · rintro rfl
      rw[hK] at hcb
      simp[col] at hcb
    · intro b arr0 e0 fz0 hb0
      by_cases hbg:b=g
      · subst hbg
        rw[hg] at hb0
        cases hb0
        exact⟨_,_,_,z9U d' hg,by simp[putCells]⟩
      · exact⟨_,_,_,(z6b d' (z1d hb0) hbg).trans hb0,rfl⟩
   |_=>cases hT
theorem zki(h:znY args=some (r,outs)):CallOk Tryz.prog I 237 args r outs:=by
 unfold znY at h
 split at h
 case h_2=>cases h
 rename_i n cs
 split at h
 case h_2=>cases h
 rename_i xs hxs
 split at h
 case isFalse=>cases h
 rename_i hn
 subst hn
 unfold zav at h
 split at h
 case isFalse=>cases h
 rename_i hc
 obtain⟨hne,hlen⟩:=hc
 have hcs:=z8Y hxs
 subst hcs
 clear hxs
 have hys:(xs.mergeSort fun x y=>decide (x<=y)).length=xs.length:=List.length_mergeSort xs
 simp only[ZN,Z9,Prod.mk.injEq] at h
 generalize hgen:(xs.mergeSort fun x y=>decide (x<=y))=ys at h hys
 obtain⟨rfl,rfl⟩:=h
 refine⟨fun vals w=> ?_,fun w K vals hs ha hI=> ?_⟩
 · have hb:∃c,Tryz.f237.body=some c:=⟨_,rfl⟩
   obtain⟨c,hb⟩:=hb
   have hname:Tryz.f237.name≠ "runtime.NumGoroutine" :=by decide
   simp[callFunc,program,Sem.run,Tryz.func237,hname,hb]
 · obtain⟨v,rfl⟩:∃v,vals= #[v]:=by
    obtain⟨l⟩:=vals
    match l,hs with
    | [v],_=>exact⟨v,rfl⟩
   have hv:TRep w K (col 0) v (.os 1 xs.length (xs.map fun x=>.sc (.int .i64 x))):=ha 0 _ rfl
   clear ha
   have hl0:0<xs.length:=ZM.2 hne
   generalize hT:T.os 1 xs.length (xs.map fun x=>T.sc (.int .i64 x))=t at hv
   cases hv with
   |nil=>injection hT with _ e _;omega
   |own c g n cap size cs arr e fz F hfz hc0 hK hg hsz hl hz hn hcap hF hh=>
    injection hT with e1 e2 e3
    subst e1 e2 e3
    have hcell:∀j (hj:j<xs.length),arr[j]? =some (.int .i64 xs[j]):=fun j hj=>by
     rw[hF j (by simpa using hj)]
     have:=hh j (.sc (.int .i64 xs[j])) (by simp[hj])
     rw[this.sc_eq]
    have hH:Holds (Value.int .i64) w g 0 xs.toArray:=fun j hj=>by
     have hj':j<xs.length:=by simpa using hj
     constructor
     · rw[Zs,z4j hg,hcell j hj',getElem!_pos _ j hj];simp
     · unfold World.frozen?
       rw[Zs]
       simp only[hg]
       have:=hfz j (by omega)
       obtain⟨lo,hi⟩:=fz
       simp only at this⊢
       simp only[YO,decide_eq_false_iff_not]
       omega
    have hcon:=Tryz.slices_Sort_int g 0 cap xs w hH (z1d hg) hlen
    refine hcon.mono fun e' w' ⟨he,m,os,hw⟩=> ?_
    rw[hgen] at hw
    have hw':w'=sortWorld (Value.int .i64) w g 0 m ys.toArray os:=hw
    clear hw
    subst hw'
    refine⟨.tuple #[],zlB w.heap.size K,he,?_,fun i t hi hio=> ?_,rfl,rfl,rfl,z7b _,fun b hb hcb=>⟨by unfold zlB;rw[if_neg (by omega)],z6b _ hb ?_⟩,?_⟩
    · exact .tup _ #[] [] (fun _=>undef) rfl (fun j hj=>by simp at hj) (fun j t ht=>by simp at ht)
    · match i,hi with
      |0,hi=>
       refine⟨_,rfl,?_⟩
       show TRep _ _ (col 0) (.slice (some ⟨g,0,none⟩) xs.length cap) _
       rw[←hys]
       refine .own (col 0) g _ cap 1 _ (putCells (Value.int .i64) 0 ys.toArray arr) e fz (fun j=>.int .i64 (ys.getD j 0)) (fun i hi=>hfz i (by simpa[putCells] using hi)) (by simp[col]) (by unfold zlB;rw[if_neg (by have:=z1d hg;omega)];exact hK) (z9U _ hg) (by simpa[putCells] using hsz) (by simp) (by omega) (by omega) hcap (fun j hj=> ?_) (fun j t ht=> ?_)
       · have hj':j<xs.length:=by simpa[hys] using hj
         have hjd:j<ys.toArray.size:=by simp;omega
         simp only[putCells,Xn,hcell j hj',ZN]
         rw[if_pos (by omega),YR,getElem!_pos _ j hjd]
         have hjy:j<ys.length:=by omega
         simp[List.getD,hjy]
       · simp only[Zd,Z5] at ht
         obtain⟨x,hx',rfl⟩:=ht
         simp only[List.getD,hx']
         exact .sc _ _ rfl
    · rintro rfl
      rw[hK] at hcb
      simp[col] at hcb
    · intro b arr0 e0 fz0 hb0
      by_cases hbg:b=g
      · subst hbg
        rw[hg] at hb0
        cases hb0
        exact⟨_,_,_,z9U _ hg,by simp[putCells]⟩
      · exact⟨_,_,_,(z6b _ (z1d hb0) hbg).trans hb0,rfl⟩
   |_=>cases hT
theorem zBk(h:Below w.heap.size w w'):Step w K w' (zlB w.heap.size K):=
 ⟨h.os,h.tape,h.output,h.size,fun b hb _=>⟨by unfold zlB;rw[if_neg (by omega)],h.block b hb⟩,.olds fun b hb=>h.block b hb⟩
theorem zDe{B:Nat}{xs:List Int}(hn:xs.length=n)(h:w.ownsRow B e 1 v n (xs.map (Value.int .i64))):TRep w (zlB B K) [0] v (.os 1 xs.length (xs.map fun x=>.sc (.int .i64 x))):=by
 obtain⟨h1,h2⟩:=h
 subst hn
 rcases h2 with⟨rfl,h0⟩|⟨g,cap,cur,rfl,hb,hg,hc1,hc2,hs,ht⟩
 · have:xs= []:=Y3 h0
   subst this
   exact .nil _ _
 · refine .own [0] g xs.length cap 1 _ cur e (0,0) (fun j=>.int .i64 (xs.getD j 0)) (fun i _=>by simp) (by simp) (by unfold zlB;rw[if_pos hb]) hg hs (by simp) (by omega) hc1 hc2 (fun j hj=> ?_) (fun j t ht=> ?_)
   · have hj':j<xs.length:=by simpa using hj
     have h3:(cur.toList.take (xs.length*1))[j]? =(xs.map (Value.int .i64))[j]? :=by rw[ht]
     rw[Xf (by omega),Zd,Z1 hj'] at h3
     simp only[ZN,Zx] at h3
     rw[h3,List.getD,Z1 hj']
     rfl
   · simp only[Zd,Z5] at ht
     obtain⟨x,hx,rfl⟩:=ht
     simp only[List.getD,hx]
     exact .sc _ _ rfl
theorem zkl(h:znZ args=some (r,outs)):CallOk Tryz.prog I 104 args r outs:=by
 unfold znZ at h
 split at h
 case h_2=>cases h
 rename_i n cs
 split at h
 case h_2=>cases h
 rename_i xs hxs
 split at h
 case isFalse=>cases h
 rename_i hn
 subst hn
 unfold z9F at h
 split at h
 case isFalse=>cases h
 rename_i hb
 have hcs:=z8Y hxs
 subst hcs
 clear hxs
 simp only[ZN,Z9,Prod.mk.injEq] at h
 obtain⟨rfl,rfl⟩:=h
 refine⟨fun vals w=> ?_,fun w K vals hs ha hI=> ?_⟩
 · have hb:∃c,Tryz.f104.body=some c:=⟨_,rfl⟩
   obtain⟨c,hb⟩:=hb
   have hname:Tryz.f104.name≠ "runtime.NumGoroutine" :=by decide
   simp[callFunc,program,Sem.run,Tryz.func104,hname,hb]
 · obtain⟨v,rfl⟩:∃v,vals= #[v]:=by
    obtain⟨l⟩:=vals
    match l,hs with
    | [v],_=>exact⟨v,rfl⟩
   have hv:TRep w K [] v (.sl xs.length (xs.map fun x=>.sc (.int .i64 x))):=ha 0 _ rfl
   have fin:∀e w',(∃v',e=Ending.returned v'/\w'.ownsRow w.heap.size 3 1 v' xs.length (xs.map (Value.int .i64))/\Below w.heap.size w w')->∃v' K',e=Ending.returned v'/\TRep w' K' [0] v' (.os 1 xs.length (xs.map fun x=>.sc (.int .i64 x)))/\(∀i t,[T.sl xs.length (xs.map fun x=>T.sc (.int .i64 x))][i]? =some t->z7q t=true->∃t',[T.dead][i]? =some t'/\TRep w' K' (col i) (#[v].getD i undef) t')/\Step w K w' K':=by
    rintro e w' ⟨v',he,ho,hbl⟩
    refine⟨v',zlB w.heap.size K,he,zDe rfl ho,fun i t hi hio=> ?_,zBk hbl⟩
    match i,hi with
    |0,hi=>cases hi;cases hio
   generalize hT:T.sl xs.length (xs.map fun x=>T.sc (.int .i64 x))=t at hv
   cases hv with
   |emp c a cap hcap=>
    have:xs= []:=by
     have:xs.length=0:=by injection hT
     exact Y3 this
    subst this
    cases a with
    |none=>exact(Tryz.slices_Clone_int_nil 0 cap w).mono fun e w' ⟨he,hw⟩=>fin e w' ⟨_,he,⟨by simp,.inl ⟨rfl,rfl⟩⟩,hw▸Below.refl _ _⟩
    |some a=>exact(Tryz.slices_Clone_int_zero a cap w).mono fun e w' ⟨v',he,ho,_,hb⟩=>fin e w' ⟨v',he,ho,hb⟩
   |fro c g o n cap cs F hK hg hn hcap hF hh=>
    injection hT with e1 e2
    subst e1
    subst e2
    refine(Tryz.slices_Clone_int g o xs.length cap xs w (Z8 _) hb (fun j hj=> ?_)).mono fun e w' ⟨v',he,ho,_,hbl⟩=>fin e w' ⟨v',he,?_,hbl⟩
    · have h1:=hF j (by simpa using hj)
      rw[h1]
      have h2:=hh j (.sc (.int .i64 (xs.getD j 0))) (by simp[List.getD,hj])
      rw[h2.sc_eq]
    · rw[Ym (Z8 _)] at ho
      exact ho
   |_=>cases hT
end
end Go.Proofs.YtiobkcdgggbljaaGreatDoor
