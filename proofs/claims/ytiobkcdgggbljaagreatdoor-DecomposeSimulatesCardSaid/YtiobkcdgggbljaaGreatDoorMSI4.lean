/- Proved here: a part of the proof of the law at hand, in one text: no condition. -/
import Derived.Test.YtiobkcdgggbljaaGreatDoorMSI3
set_option linter.unusedVariables false
set_option linter.unusedSimpArgs false
set_option linter.unusedSectionVars false
set_option maxRecDepth 100000
set_option maxHeartbeats 6000000
namespace Go.Proofs.YtiobkcdgggbljaaGreatDoor
section
open Go
theorem zt7x:∀xs:List (List Int),zt7 (xs.map zhS)=some xs
 | []=>rfl
 |x::l=>by simp only[List.map_cons,zhS,zt7,zgW,if_true,zt7x l,Option.map_some]
variable{a0 r:List Int}
theorem zul1(h:zs0 a0=some r):L 175 [.os 1 a0.length (a0.map fun x0=>.sc (.int .i64 x0)),.sc (.func (.func 176) #[] #[])]=some (.tup [],[.os 1 r.length (r.map fun x0=>.sc (.int .i64 x0)),.dead]):=by
 refine zzW rfl fun C=> ?_
 have e:(List.map (fun x0=>T.sc (Value.int IntKind.i64 x0)) a0)=a0.map fun x=>.sc (.int .i64 x):=rfl
 simp only[xt,xtF,xtC,Nat.reduceEqDiff,if_true,if_false,zyQ,Array.isEmpty_empty,and_self,zgW,h,ZY]
instance:Ok (zs0 a0) (fun r=>L 175 [.os 1 a0.length (a0.map fun x0=>.sc (.int .i64 x0)),.sc (.func (.func 176) #[] #[])]=some (.tup [],[.os 1 r.length (r.map fun x0=>.sc (.int .i64 x0)),.dead])):=⟨fun _ h=>zul1 h⟩
theorem zum1{a0:List (List Int)}{r:List (List Int)}(h:zpW a0=some r):L 100 [.os 1 a0.length (a0.map fun x0=>.sl x0.length (x0.map fun x1=>.sc (.int .i64 x1))),.sc (.func (.func 101) #[] #[])]=some (.tup [],[.os 1 r.length (r.map fun x0=>.sl x0.length (x0.map fun x1=>.sc (.int .i64 x1))),.dead]):=by
 refine zzW rfl fun C=> ?_
 have e:∀l:List (List Int),(l.map fun x0=>T.sl x0.length (x0.map fun x1=>T.sc (Value.int IntKind.i64 x1)))=l.map zhS:=fun _=>rfl
 simp only[xt,xtF,xtC,Nat.reduceEqDiff,if_true,if_false,zyR,Array.isEmpty_empty,and_self,e,zt7x,h,ZY]
instance{a0:List (List Int)}:Ok (zpW a0) (fun r=>L 100 [.os 1 a0.length (a0.map fun x0=>.sl x0.length (x0.map fun x1=>.sc (.int .i64 x1))),.sc (.func (.func 101) #[] #[])]=some (.tup [],[.os 1 r.length (r.map fun x0=>.sl x0.length (x0.map fun x1=>.sc (.int .i64 x1))),.dead])):=⟨fun _ h=>zum1 h⟩
instance:Ok (zaQ a0) (fun r=>L 237 [.os 1 a0.length (a0.map fun x0=>.sc (.int .i64 x0))]=some (.tup [],[.os 1 r.length (r.map fun x0=>.sc (.int .i64 x0))])):=⟨fun _ h=>z9L h⟩
theorem zqY1(h:zaR a0=some r):L 104 [.sl a0.length (a0.map fun x0=>.sc (.int .i64 x0))]=some (.os 1 r.length (r.map fun x0=>.sc (.int .i64 x0)),[.dead]):=by
 refine zzW rfl fun C=> ?_
 simp only[xt,xtF,xtC,Nat.reduceEqDiff,if_true,if_false,zrT,zgW,h,ZY]
instance:Ok (zaR a0) (fun r=>L 104 [.sl a0.length (a0.map fun x0=>.sc (.int .i64 x0))]=some (.os 1 r.length (r.map fun x0=>.sc (.int .i64 x0)),[.dead])):=⟨fun _ h=>zqY1 h⟩
theorem zyP1{a0:Int}{r:Int}(h:vTz a0=some r):L 102 [.sc (.int .u64 a0)]=some (.sc (.int .i64 r),[.dead]):=by
 refine zzW rfl fun C=> ?_
 simp only[xt,xtF,xtC,Nat.reduceEqDiff,if_true,if_false,xTz,h,ZY]
instance{a0:Int}:Ok (vTz a0) (fun r=>L 102 [.sc (.int .u64 a0)]=some (.sc (.int .i64 r),[.dead])):=⟨fun _ h=>zyP1 h⟩
end
section
open Go Go.IntKind
noncomputable section
abbrev z2J(w93:Int)(v122:List Int):Int×List Bool×List ByteArray×List Int->Option ((Int×List Bool×List ByteArray×List Int)⊕((Int×List Bool×List ByteArray×List Int)⊕(List Int×List ByteArray)))
 |(w129,w130,w131,w132)=>
 if w129<(v122.length:Int) then
 (atI v122 w129).bind fun v139=>
 (atI w130 v139).bind fun v140=>
 if v140=true then
 z0c (i64.wrap (w129+1),w130,w131,w132)
 else
 (atI w132 w93).bind fun v142=>
 (atI w131 v142).bind fun v143=>
 chk (zaM v143 ⟨#[UInt8.ofNat (u8.wrap (i64.wrap (97+w129))).toNat]⟩)<|
 (atI w131 v139).bind fun v144=>
 chk (z1C 8 (w132.length+1))<|
 z0c (i64.wrap (w129+1),(w130.set v139.toNat true),(w131.set v139.toNat (v143++⟨#[UInt8.ofNat (u8.wrap (i64.wrap (97+w129))).toNat]⟩)),w132++ [v139])
 else
 z0d<|
 z0c (i64.wrap (w93+1),w130,w131,w132)
variable{a0:Dgm}{w337:Int}{w247:List (List Int)}{a1 w226 w64:List Int}{v393:List Int×List ByteArray}
instance{w93:Int}{v122:List Int}:Hd (z2J w93 v122):=⟨fun(w129,w130,w131,w132)=>([(40,xI w129)],[(6,.os 1 w130.length (w130.map fun x0=>.sc (.bool x0))),(7,.os 1 w131.length (w131.map fun x0=>.sc (.string x0))),(8,(tO w132))])⟩
abbrev z5u(a0:Dgm):Int×List Bool×List ByteArray×List Int->Option ((Int×List Bool×List ByteArray×List Int)⊕(List Int×List ByteArray))
 |(w93,w94,w95,w96)=>
 if w93<(w96.length:Int) then
 (atI w96 w93).bind fun v121=>
 (atI a0.next v121).bind fun v122=>
 z0h (z2J w93 v122) LFm (0,w94,w95,w96)
 else
 z0d<|
 some (w96,w95)
instance:Hd (z5u a0):=⟨fun(w93,w94,w95,w96)=>([(9,xI w93)],[(6,.os 1 w94.length (w94.map fun x0=>.sc (.bool x0))),(7,.os 1 w95.length (w95.map fun x0=>.sc (.string x0))),(8,(tO w96))])⟩
def z2f(a0:Dgm)(a1:Int):Option (List Int×List ByteArray):=
 chk (z0S 1 (a0.sets.length:Int))<|
 chk (z0S 16 (a0.sets.length:Int))<|
 chk (0<=a1/\a1<(a0.sets.length:Int))<|
 z0h (z5u a0) LFm (0,((List.replicate (a0.sets.length:Int).toNat (false:Bool)).set a1.toNat true),List.replicate (a0.sets.length:Int).toNat (ByteArray.empty:ByteArray),[a1])
instance{a1:Int}:Ok (z2f a0 a1) (fun r=>L 135 [.agg [(tI a0.sets),(tR a0.next),.sl a0.below.length (a0.below.map fun x0=>(tB x0))],.sc (.int .i64 a1)]=some (.tup [(tO r.1),.os 1 r.2.length (r.2.map fun x0=>.sc (.string x0))],[.dead,.dead])):=⟨fun r h=>by have h:=z3p h;unfold z2f at h;exact z4q rfl Tryz.func135 (bdy Tryz.f135 rfl)⟩
abbrev z3J(a0:DFA)(a1:List Int)(w226:List Int)(w246:Int)(w248:List (List Bool))(v266:Int):Int×List (List Int)->Option ((Int×List (List Int))⊕((Int×List (List Int)×List (List Bool))⊕Dgm))
 |(w272,w273)=>
 if w272<a0.letters then
 (atI w273 w246).bind fun v278=>
 (z7P a0 v266 w272).bind fun v279=>
 (atI w226 v279).bind fun v280=>
 (atI v278 w272).bind fun v281=>
 z0c (i64.wrap (w272+1),(w273.set w246.toNat (v278.set w272.toNat v280)))
 else
 z0d<|
 chk (z0S 1 (a1.length:Int))<|
 (atI w248 w246).bind fun v282=>
 z0c (i64.wrap (w246+1),w273,(w248.set w246.toNat (List.replicate (a1.length:Int).toNat (false:Bool))))
instance{a0:DFA}{w246:Int}{w248:List (List Bool)}{v266:Int}:Hd (z3J a0 a1 w226 w246 w248 v266):=⟨fun(w272,w273)=>([(60,xI w272)],[(8,.vr [(tI a1),.os 1 w273.length (w273.map fun x0=>(tO x0)),.os 1 w248.length (w248.map fun x0=>.os 1 x0.length (x0.map fun x1=>.sc (.bool x1)))])])⟩
abbrev z3I(a1:List Int)(w337:Int)(v393:List Int×List ByteArray)(w411:Int)(w412:List (List Bool))(v430:Int):Int->Option (Int⊕((Int×List (List Bool))⊕((Int×List (List Bool))⊕Dgm)))
 |w436=>
 if w436<(v393.1.length:Int) then
 (atI v393.1 w436).bind fun v442=>
 (atI a1 v442).bind fun v443=>
 (z4u v443 v430).bind fun v444=>
 if v444=true then
 (atI w412 w411).bind fun v445=>
 (atI v445 w337).bind fun v446=>
 z0d<|
 z0c (i64.wrap (w411+1),(w412.set w411.toNat (v445.set w337.toNat true)))
 else
 z0c (i64.wrap (w436+1))
 else
 z0d<|
 z0c (i64.wrap (w411+1),w412)
instance{w411:Int}{w412:List (List Bool)}{v430:Int}:Hd (z3I a1 w337 v393 w411 w412 v430):=⟨fun w436=>([(106,xI w436)],[])⟩
abbrev z4O(a1:List Int)(w337:Int)(v393:List Int×List ByteArray)(w247:List (List Int)):Int×List (List Bool)->Option ((Int×List (List Bool))⊕((Int×List (List Bool))⊕Dgm))
 |(w411,w412)=>
 if w411<(a1.length:Int) then
 (atI a1 w411).bind fun v430=>
 z0h (z3I a1 w337 v393 w411 w412 v430) LFm 0
 else
 z0d<|
 z0c (i64.wrap (w337+1),w412)
instance:Hd (z4O a1 w337 v393 w247):=⟨fun(w411,w412)=>([(99,xI w411)],[(8,.vr [(tI a1),.os 1 w247.length (w247.map fun x0=>(tO x0)),.os 1 w412.length (w412.map fun x0=>.os 1 x0.length (x0.map fun x1=>.sc (.bool x1)))])])⟩
abbrev z4P(a1:List Int)(w247:List (List Int)):Int×List (List Bool)->Option ((Int×List (List Bool))⊕Dgm)
 |(w337,w338)=>
 if w337<(a1.length:Int) then
 (z2f (⟨a1,w247,w338⟩:Dgm) w337).bind fun v393=>
 z0h (z4O a1 w337 v393 w247) LFm (0,w338)
 else
 z0d<|
 some (⟨a1,w247,w338⟩:Dgm)
instance:Hd (z4P a1 w247):=⟨fun(w337,w338)=>([(88,xI w337)],[(8,.vr [(tI a1),.os 1 w247.length (w247.map fun x0=>(tO x0)),.os 1 w338.length (w338.map fun x0=>.os 1 x0.length (x0.map fun x1=>.sc (.bool x1)))])])⟩
abbrev z5g(a0:DFA)(a1:List Int)(w226:List Int):Int×List (List Int)×List (List Bool)->Option ((Int×List (List Int)×List (List Bool))⊕Dgm)
 |(w246,w247,w248)=>
 if w246<(a1.length:Int) then
 (atI a1 w246).bind fun v266=>
 chk (z0S 8 a0.letters)<|
 (atI w247 w246).bind fun v267=>
 z0h (z3J a0 a1 w226 w246 w248 v266) LFm (0,(w247.set w246.toNat (List.replicate a0.letters.toNat (0:Int))))
 else
 z0d<|
 z0h (z4P a1 w247) LFm (0,w248)
instance{a0:DFA}:Hd (z5g a0 a1 w226):=⟨fun(w246,w247,w248)=>([(46,xI w246)],[(8,.vr [(tI a1),.os 1 w247.length (w247.map fun x0=>(tO x0)),.os 1 w248.length (w248.map fun x0=>.os 1 x0.length (x0.map fun x1=>.sc (.bool x1)))])])⟩
abbrev z5h(a0:DFA)(a1:List Int):Int×List Int->Option ((Int×List Int)⊕Dgm)
 |(w225,w226)=>
 if w225<(a1.length:Int) then
 (atI a1 w225).bind fun v229=>
 (atI w226 v229).bind fun v230=>
 z0c (i64.wrap (w225+1),(w226.set v229.toNat w225))
 else
 z0d<|
 chk (z0S 24 (a1.length:Int))<|
 z0h (z5g a0 a1 w226) LFm (0,List.replicate (a1.length:Int).toNat ([]:List Int),List.replicate (a1.length:Int).toNat ([]:List Bool))
instance{a0:DFA}:Hd (z5h a0 a1):=⟨fun(w225,w226)=>([(26,xI w225)],[(5,(tO w226))])⟩
def z5t(a0:DFA)(a1:List Int):Option (Dgm):=
 chk (¬(a0.final.length:Int)<0)<|
 chk (z0S 8 (zmA .i64 1 (a0.final.length:Int)))<|
 z0h (z5h a0 a1) LFm (0,List.replicate (zmA .i64 1 (a0.final.length:Int)).toNat (0:Int))
instance{a0:DFA}:Ok (z5t a0 a1) (fun r=>L 131 [.agg [.sc (.int .i64 a0.letters),.sc (.int .i64 a0.start),(tB a0.final),(tR a0.next)],(tI a1)]=some (.agg [(tI r.sets),.os 1 r.next.length (r.next.map fun x0=>(tO x0)),.os 1 r.below.length (r.below.map fun x0=>.os 1 x0.length (x0.map fun x1=>.sc (.bool x1)))],[.dead,.dead])):=⟨fun r h=>by have h:=z3p h;unfold z5t at h;exact z4q rfl Tryz.func131 (bdy Tryz.f131 rfl)⟩
abbrev z3v(a0:Dgm)(w50:Int)(w52:List Int):Int×List Int->Option ((Int×List Int)⊕((Int×List Int×List Int)⊕(List Int×List Int)))
 |(w82,w83)=>
 if w82<(w52.length:Int) then
 (atI w52 w82).bind fun v90=>
 (atI a0.below w50).bind fun v91=>
 (atI v91 v90).bind fun v92=>
 if v92=true then
 (atI a0.below v90).bind fun v93=>
 (atI v93 w50).bind fun v94=>
 if v94=true then
 (atI w83 w50).bind fun v95=>
 z0c (i64.wrap (w82+1),(w83.set w50.toNat w82))
 else
 z0c (i64.wrap (w82+1),w83)
 else
 z0c (i64.wrap (w82+1),w83)
 else
 z0d<|
 (atI w83 w50).bind fun v96=>
 if v96=(w52.length:Int) then
 chk (z1C 8 (w52.length+1))<|
 z0c (i64.wrap (w50+1),w83,w52++ [w50])
 else
 z0c (i64.wrap (w50+1),w83,w52)
instance{w50:Int}{w52:List Int}:Hd (z3v a0 w50 w52):=⟨fun(w82,w83)=>([(26,xI w82)],[(4,(tO w83))])⟩
abbrev z3w(a0:Dgm):Int×List Int×List Int->Option ((Int×List Int×List Int)⊕(List Int×List Int))
 |(w50,w51,w52)=>
 if w50<(a0.sets.length:Int) then
 (atI w51 w50).bind fun v75=>
 z0h (z3v a0 w50 w52) LFm (0,(w51.set w50.toNat (w52.length:Int)))
 else
 z0d<|
 some (w51,w52)
instance:Hd (z3w a0):=⟨fun(w50,w51,w52)=>([(16,xI w50)],[(4,(tO w51)),(5,(tO w52))])⟩
def z3i(a0:Dgm):Option (List Int×List Int):=
 chk (z0S 8 (a0.sets.length:Int))<|
 z0h (z3w a0) LFm (0,List.replicate (a0.sets.length:Int).toNat (0:Int),[])
instance:Ok (z3i a0) (fun r=>L 132 [.agg [(tI a0.sets),(tR a0.next),.sl a0.below.length (a0.below.map fun x0=>(tB x0))]]=some (.tup [(tO r.1),(tO r.2)],[.dead])):=⟨fun r h=>by have h:=z3p h;unfold z3i at h;exact z4q rfl Tryz.func132 (bdy Tryz.f132 rfl)⟩
abbrev z3O(a0:Dgm)(w64:List Int)(w85:Int)(w86:List Int)(v101:Int):Int->Option (Int⊕((Int×List Int)⊕List Int))
 |w106=>
 if w106<(w64.length:Int) then
 (atI w64 w106).bind fun v111=>
 if v111=v101 then
 z0c (i64.wrap (w106+1))
 else
 (atI a0.sets v111).bind fun v112=>
 (atI a0.sets v101).bind fun v113=>
 (z4u v112 v113).bind fun v114=>
 if v114=true then
 z0d<|
 z0c (i64.wrap (w85+1),w86)
 else
 z0c (i64.wrap (w106+1))
 else
 z0d<|
 chk (z1C 8 (w86.length+1))<|
 z0c (i64.wrap (w85+1),w86++ [v101])
instance{w85:Int}{w86:List Int}{v101:Int}:Hd (z3O a0 w64 w85 w86 v101):=⟨fun w106=>([(53,xI w106)],[])⟩
abbrev z2I(a0:Dgm)(w64:List Int):Int×List Int->Option ((Int×List Int)⊕List Int)
 |(w85,w86)=>
 if w85<(w64.length:Int) then
 (atI w64 w85).bind fun v101=>
 z0h (z3O a0 w64 w85 w86 v101) LFm 0
 else
 z0d<|
 some w86
instance:Hd (z2I a0 w64):=⟨fun(w85,w86)=>([(47,xI w85)],[(8,(tO w86))])⟩
abbrev z4j(a0:Dgm)(a1:Int):Int×List Int->Option ((Int×List Int)⊕List Int)
 |(w63,w64)=>
 if w63<(a0.sets.length:Int) then
 (atI a0.sets w63).bind fun v68=>
 if w63=a1 then
 z0c (i64.wrap (w63+1),w64)
 else
 (atI a0.sets a1).bind fun v69=>
 (z4u v69 v68).bind fun v70=>
 if v70=true then
 chk (z1C 8 (w64.length+1))<|
 z0c (i64.wrap (w63+1),w64++ [w63])
 else
 z0c (i64.wrap (w63+1),w64)
 else
 z0d<|
 z0h (z2I a0 w64) LFm (0,[])
instance{a1:Int}:Hd (z4j a0 a1):=⟨fun(w63,w64)=>([(23,xI w63)],[(5,(tO w64))])⟩
def z4e(a0:Dgm)(a1:Int):Option (List Int):=
 (atI a0.sets a1).bind fun v58=>
 (z7O v58).bind fun v59=>
 if v59=1 then
 some []
 else
 z0h (z4j a0 a1) LFm (0,[])
instance{a1:Int}:Ok (z4e a0 a1) (fun r=>L 134 [.agg [(tI a0.sets),(tR a0.next),.sl a0.below.length (a0.below.map fun x0=>(tB x0))],.sc (.int .i64 a1)]=some ((tO r),[.dead,.dead])):=⟨fun r h=>by have h:=z3p h;unfold z4e at h;exact z4q rfl Tryz.func134 (bdy Tryz.f134 rfl)⟩
abbrev z2b(a0:List Int)(a1:Int):Int->Option (Int⊕Int)
 |w6=>
 if w6<(a0.length:Int) then
 (atI a0 w6).bind fun v8=>
 if a1=v8 then
 z0d<|
 some w6
 else
 z0c (i64.wrap (w6+1))
 else
 z0d<|
 some (-1)
instance{a0:List Int}{a1:Int}:Hd (z2b a0 a1):=⟨fun w6=>([(8,xI w6)],[])⟩
def z1r(a0:List Int)(a1:Int):Option (Int):=
 z0h (z2b a0 a1) LFm 0
instance{a0:List Int}{a1:Int}:Ok (z1r a0 a1) (fun r=>L 109 [(tI a0),.sc (.int .i64 a1)]=some (.sc (.int .i64 r),[.dead,.dead])):=⟨fun r h=>by have h:=z3p h;unfold z1r at h;exact z4q rfl Tryz.func109 (bdy Tryz.f109 rfl)⟩
def z2H(a0:List Int)(a1:Int):Option (Bool):=
 (z1r a0 a1).bind fun v2=>
 some (decide (0<=v2))
instance{a0:List Int}{a1:Int}:Ok (z2H a0 a1) (fun r=>L 174 [(tI a0),.sc (.int .i64 a1)]=some (.sc (.bool r),[.dead,.dead])):=⟨fun r h=>by have h:=z3p h;unfold z2H at h;exact z4q rfl Tryz.func174 (bdy Tryz.f174 rfl)⟩
abbrev z8d(a0:DFA):Int×List Int->Option ((Int×List Int)⊕List Int)
 |(w10,w11)=>
 if w10<(a0.final.length:Int) then
 chk (¬w10<0)<|
 (z2H w11 (zmA .i64 1 w10)).bind fun v13=>
 if v13=true then
 z0c (i64.wrap (w10+1),w11)
 else
 chk (z1C 8 (w11.length+1))<|
 z0c (i64.wrap (w10+1),w11++ [zmA .i64 1 w10])
 else
 z0d<|
 (zs0 w11).bind fun v14=>
 some v14
instance{a0:DFA}:Hd (z8d a0):=⟨fun(w10,w11)=>([(19,xI w10)],[(3,(tO w11))])⟩
def z9e(a0:DFA):Option (List Int):=
 chk (¬(a0.final.length:Int)<0)<|
 (z8m a0 (i64.wrap ((zmA .i64 1 (a0.final.length:Int))-1))).bind fun v8=>
 z0h (z8d a0) LFm (0,v8.1)
instance{a0:DFA}:Ok (z9e a0) (fun r=>L 130 [.agg [.sc (.int .i64 a0.letters),.sc (.int .i64 a0.start),(tB a0.final),(tR a0.next)]]=some ((tO r),[.dead])):=⟨fun r h=>by have h:=z3p h;unfold z9e at h;exact z4q rfl Tryz.func130 (bdy Tryz.f130 rfl)⟩
def z7w(v69:List Int)(v71:List Int×List Int)(w107:Int)(v123:List Int×List ByteArray):Int×List ByteArray->Option ((Int×List ByteArray)⊕((Int×List ByteArray)⊕(Imgs×Int)))
 |(w127,w128)=>
 if w127<(v69.length:Int) then
 (atI v71.1 w127).bind fun v132=>
 if v132=w107 then
 (atI v123.2 w127).bind fun v133=>
 (atI w128 w127).bind fun v134=>
 z0c (i64.wrap (w127+1),(w128.set w127.toNat v133))
 else
 z0c (i64.wrap (w127+1),w128)
 else
 z0d<|
 z0c (i64.wrap (w107+1),w128)
def z7v(v69:List Int)(v70:Dgm)(v71:List Int×List Int)(v72:List Int)(w79:List (List Int))(w80:List ByteArray)(w107:Int)(v123:List Int×List ByteArray):Int×List ByteArray->Fr
 |(w127,w128)=>⟨120,[(2,.one (.a 2 [] (0))),(5,.one (.t none ((tI v69)))),(7,.one (.a 7 [] (0))),(8,.one (.t none ((tI v71.1)))),(10,.one (.a 10 [] (0))),(14,.one (.t none (.sc (.int .i64 w107)))),(17,.one (.h 17 [])),(85,.one (.h 9 [])),(86,.one (.t none (.sc (.int .i64 (v71.2.length:Int))))),(87,.one (.t none (.sc (.int .i64 w107)))),(99,.one (.t none (.sc (.int .i64 (v69.length:Int))))),(100,.one (.t none (.sc (.int .i64 w127))))],[(2,.vr [.os 1 0 [],.os 1 0 [],.os 1 0 [],.os 1 0 [],.os 1 0 [],.os 1 0 []]),(7,.vr [(tI v70.sets),.os 1 v70.next.length (v70.next.map fun x0=>(tO x0)),.os 1 v70.below.length (v70.below.map fun x0=>.os 1 x0.length (x0.map fun x1=>.sc (.bool x1)))]),(10,.vr [(tI v69),(tI v71.1),(tO v72),.os 1 w79.length (w79.map fun x0=>(tO x0)),.os 1 w128.length (w128.map fun x0=>.sc (.string x0)),.os 1 w80.length (w80.map fun x0=>.sc (.string x0))]),(17,.os 1 v123.2.length (v123.2.map fun x0=>.sc (.string x0))),(9,(tO v71.2))]⟩
def z8E(v69:List Int)(v70:Dgm)(v71:List Int×List Int)(v72:List Int)(w79:List (List Int))(w80:List ByteArray):Int×List ByteArray->Option ((Int×List ByteArray)⊕(Imgs×Int))
 |(w107,w108)=>
 if w107<(v71.2.length:Int) then
 (atI v71.2 w107).bind fun v122=>
 (z2f v70 v122).bind fun v123=>
 z0h (z7w v69 v71 w107 v123) LFm (0,w108)
 else
 z0d<|
 some ((⟨v69,v71.1,v72,w79,w108,w80⟩:Imgs),0)
def z8C(v69:List Int)(v70:Dgm)(v71:List Int×List Int)(v72:List Int)(w79:List (List Int))(w80:List ByteArray):Int×List ByteArray->Fr
 |(w107,w108)=>⟨120,[(2,.one (.a 2 [] (0))),(5,.one (.t none ((tI v69)))),(7,.one (.a 7 [] (0))),(8,.one (.t none ((tI v71.1)))),(10,.one (.a 10 [] (0))),(85,.one (.h 9 [])),(86,.one (.t none (.sc (.int .i64 (v71.2.length:Int))))),(87,.one (.t none (.sc (.int .i64 w107))))],[(2,.vr [.os 1 0 [],.os 1 0 [],.os 1 0 [],.os 1 0 [],.os 1 0 [],.os 1 0 []]),(7,.vr [(tI v70.sets),.os 1 v70.next.length (v70.next.map fun x0=>(tO x0)),.os 1 v70.below.length (v70.below.map fun x0=>.os 1 x0.length (x0.map fun x1=>.sc (.bool x1)))]),(10,.vr [(tI v69),(tI v71.1),(tO v72),.os 1 w79.length (w79.map fun x0=>(tO x0)),.os 1 w108.length (w108.map fun x0=>.sc (.string x0)),.os 1 w80.length (w80.map fun x0=>.sc (.string x0))]),(9,(tO v71.2))]⟩
def z8F(v69:List Int)(v70:Dgm)(v71:List Int×List Int)(v72:List Int):Int×List (List Int)×List ByteArray->Option ((Int×List (List Int)×List ByteArray)⊕(Imgs×Int))
 |(w78,w79,w80)=>
 if w78<(v69.length:Int) then
 (z4e v70 w78).bind fun v88=>
 (atI w79 w78).bind fun v89=>
 (z2f v70 w78).bind fun v90=>
 (atI v71.1 w78).bind fun v91=>
 (atI v71.2 v91).bind fun v92=>
 (atI v90.2 v92).bind fun v93=>
 (atI w80 w78).bind fun v94=>
 z0c (i64.wrap (w78+1),(w79.set w78.toNat v88),(w80.set w78.toNat v93))
 else
 z0d<|
 z0h (z8E v69 v70 v71 v72 w79 w80) LFm (0,List.replicate (v69.length:Int).toNat (ByteArray.empty:ByteArray))
def z8D(v69:List Int)(v70:Dgm)(v71:List Int×List Int)(v72:List Int):Int×List (List Int)×List ByteArray->Fr
 |(w78,w79,w80)=>⟨120,[(2,.one (.a 2 [] (0))),(5,.one (.t none ((tI v69)))),(7,.one (.a 7 [] (0))),(8,.one (.t none ((tI v71.1)))),(9,.one (.h 9 [])),(10,.one (.a 10 [] (0))),(53,.one (.t none (.sc (.int .i64 (v69.length:Int))))),(54,.one (.t none (.sc (.int .i64 w78))))],[(2,.vr [.os 1 0 [],.os 1 0 [],.os 1 0 [],.os 1 0 [],.os 1 0 [],.os 1 0 []]),(7,.vr [(tI v70.sets),.os 1 v70.next.length (v70.next.map fun x0=>(tO x0)),.os 1 v70.below.length (v70.below.map fun x0=>.os 1 x0.length (x0.map fun x1=>.sc (.bool x1)))]),(9,(tO v71.2)),(10,.vr [(tI v69),(tI v71.1),(tO v72),.os 1 w79.length (w79.map fun x0=>(tO x0)),.os 1 (List.replicate (v69.length:Int).toNat (ByteArray.empty:ByteArray)).length ((List.replicate (v69.length:Int).toNat (ByteArray.empty:ByteArray)).map fun x0=>.sc (.string x0)),.os 1 w80.length (w80.map fun x0=>.sc (.string x0))])]⟩
def z9f(a0:DFA):Option (Imgs×Int):=
 (z6j a0).bind fun v68=>
 if v68=0 then
 (z9e a0).bind fun v69=>
 if 400<(v69.length:Int) then
 some ((⟨[],[],[],[],[],[]⟩:Imgs),3)
 else
 (z5t a0 v69).bind fun v70=>
 (z3i v70).bind fun v71=>
 (z3h v70 v71.1).bind fun v72=>
 chk (z0S 24 (v69.length:Int))<|
 chk (z0S 16 (v69.length:Int))<|
 z0h (z8F v69 v70 v71 v72) LFm (0,List.replicate (v69.length:Int).toNat ([]:List Int),List.replicate (v69.length:Int).toNat (ByteArray.empty:ByteArray))
 else
 some ((⟨[],[],[],[],[],[]⟩:Imgs),v68)
instance{a0:DFA}:Ok (z9f a0) (fun r=>L 79 [.agg [.sc (.int .i64 a0.letters),.sc (.int .i64 a0.start),(tB a0.final),(tR a0.next)]]=some (.tup [.agg [(tI r.1.sets),(tI r.1.class_),(tI r.1.height),(tR r.1.tiles),(tS r.1.words),(tS r.1.back)],.sc (.int .i64 r.2)],[.dead])):=⟨fun r h0=>by
 simp only[z9f] at h0
 refine zw5 rfl Tryz.func79 (zfn (bdy Tryz.f79 rfl) ⟨of_decide_eq_true rfl,of_decide_eq_true rfl⟩ rfl ?_)
 simp only[z9l,z9k,z8w,zbb,z7N]
 refine zp (zs ?_)
 refine z0m (zp (zp ?_))
 obtain⟨v68,f87,h1⟩:=z2E h0
 have f87k:=Ok.ok _ f87
 try simp at f87k
 refine zr rfl rfl rfl (by simp[f87k];rfl) ?_
 refine z0m (zp (zs ?_))
 refine z0m ?_
 by_cases c88:v68=0
 ·rw[if_pos c88] at h1
  have c88e:=eq_true c88
  refine zcs rfl (by simp[c88e]) (z8v rfl (z0m (zp ?_)))
  obtain⟨v69,f89,h2⟩:=z2E h1
  have f89k:=Ok.ok _ f89
  try simp at f89k
  refine zr rfl rfl rfl (by simp[f89k];rfl) ?_
  refine z0m (zp (zs ?_))
  refine z0m (zp (zp (zs ?_)))
  refine z0m ?_
  by_cases c90:400<(v69.length:Int)
  ·rw[if_pos c90] at h2
   refine zcr rfl (by simp[c90]) (zp (zs ?_))
   refine z0m (zn5 rfl (zje ?_))
   cases h2
   simp
  ·rw[if_neg c90] at h2
   refine zcs rfl (by simp[c90]) (z8v rfl (z0m (zp (ztl rfl rfl (by simp;rfl) ?_))))
   obtain⟨v70,f91,h3⟩:=z2E h2
   have f91k:=Ok.ok _ f91
   try simp at f91k
   refine zr rfl rfl rfl (by simp[f91k];rfl) ?_
   refine z0m (zp ?_)
   obtain⟨v71,f92,h4⟩:=z2E h3
   have f92k:=Ok.ok _ f92
   try simp at f92k
   refine zr rfl rfl rfl (by simp[f92k];rfl) ?_
   refine z0m (zp (ztl rfl rfl (by simp;rfl) ?_))
   obtain⟨v72,f93,h5⟩:=z2E h4
   have f93k:=Ok.ok _ f93
   try simp at f93k
   obtain⟨f94,h6⟩:=zEq h5
   obtain⟨f95,h7⟩:=zEq h6
   refine zlB rfl rfl rfl rfl ?_
   refine zyj [(0,0,0,1),(1,1,0,2),(2,2,0,3),(3,3,0,4),(4,5,0,5),(5,7,0,6),(6,9,0,7),(7,4,1,8),(7,6,1,9),(7,8,1,10),(7,10,1,11),(7,12,1,12),(8,6,1,13),(8,8,1,14),(8,10,1,15),(8,12,1,16),(9,4,1,13),(9,8,1,17),(9,10,1,18),(9,12,1,19),(10,4,1,14),(10,6,1,17),(10,10,1,20),(10,12,1,21),(11,4,1,15),(11,6,1,18),(11,8,1,20),(11,12,1,22),(12,4,1,16),(12,6,1,19),(12,8,1,21),(12,10,1,22),(13,8,1,23),(13,10,1,24),(13,12,1,25),(14,6,1,23),(14,10,1,26),(14,12,1,27),(15,6,1,24),(15,8,1,26),(15,12,1,28),(16,6,1,25),(16,8,1,27),(16,10,1,28),(17,4,1,23),(17,10,1,29),(17,12,1,30),(18,4,1,24),(18,8,1,29),(18,12,1,31),(19,4,1,25),(19,8,1,30),(19,10,1,31),(20,4,1,26),(20,6,1,29),(20,12,1,32),(21,4,1,27),(21,6,1,30),(21,10,1,32),(22,4,1,28),(22,6,1,31),(22,8,1,32),(23,10,1,33),(23,12,1,34),(24,8,1,33),(24,12,1,35),(25,8,1,34),(25,10,1,35),(26,6,1,33),(26,12,1,36),(27,6,1,34),(27,10,1,36),(28,6,1,35),(28,8,1,36),(29,4,1,33),(29,12,1,37),(30,4,1,34),(30,10,1,37),(31,4,1,35),(31,8,1,37),(32,4,1,36),(32,6,1,37),(33,11,0,38),(34,10,1,39),(35,8,1,39),(36,6,1,39),(37,4,1,39),(38,12,1,40),(39,11,0,40),(40,13,2,41)] 41 (by kernel_rfl) ?_
   iterate 16 (refine z1u rfl rfl rfl rfl (by simp[z0x,z0y,f93k,f94,f95];rfl) ?_)
   refine z1t rfl rfl rfl rfl (by simp[z0x,z0y,f93k,f94,f95]) ?_
   iterate 3 (refine z1u rfl rfl rfl rfl (by simp[z0x,z0y,f93k,f94,f95];rfl) ?_)
   refine z1t rfl rfl rfl rfl (by simp[z0x,z0y,f93k,f94,f95]) ?_
   refine z1t rfl rfl rfl rfl (by simp[z0x,z0y,f93k,f94,f95]) ?_
   refine z1u rfl rfl rfl rfl (by simp[z0x,z0y,f93k,f94,f95];rfl) ?_
   refine z1u rfl rfl rfl rfl (by simp[z0x,z0y,f93k,f94,f95];rfl) ?_
   iterate 3 (refine z1t rfl rfl rfl rfl (by simp[z0x,z0y,f93k,f94,f95]) ?_)
   refine z1u rfl rfl rfl rfl (by simp[z0x,z0y,f93k,f94,f95];rfl) ?_
   iterate 4 (refine z1t rfl rfl rfl rfl (by simp[z0x,z0y,f93k,f94,f95]) ?_)
   iterate 3 (refine z1u rfl rfl rfl rfl (by simp[z0x,z0y,f93k,f94,f95];rfl) ?_)
   refine z1t rfl rfl rfl rfl (by simp[z0x,z0y,f93k,f94,f95]) ?_
   refine z1u rfl rfl rfl rfl (by simp[z0x,z0y,f93k,f94,f95];rfl) ?_
   refine z1u rfl rfl rfl rfl (by simp[z0x,z0y,f93k,f94,f95];rfl) ?_
   refine z1t rfl rfl rfl rfl (by simp[z0x,z0y,f93k,f94,f95]) ?_
   refine z1t rfl rfl rfl rfl (by simp[z0x,z0y,f93k,f94,f95]) ?_
   refine z1u rfl rfl rfl rfl (by simp[z0x,z0y,f93k,f94,f95];rfl) ?_
   iterate 4 (refine z1t rfl rfl rfl rfl (by simp[z0x,z0y,f93k,f94,f95]) ?_)
   refine z1u rfl rfl rfl rfl (by simp[z0x,z0y,f93k,f94,f95];rfl) ?_
   refine z1u rfl rfl rfl rfl (by simp[z0x,z0y,f93k,f94,f95];rfl) ?_
   refine z1t rfl rfl rfl rfl (by simp[z0x,z0y,f93k,f94,f95]) ?_
   refine z1t rfl rfl rfl rfl (by simp[z0x,z0y,f93k,f94,f95]) ?_
   refine z1u rfl rfl rfl rfl (by simp[z0x,z0y,f93k,f94,f95];rfl) ?_
   iterate 5 (refine z1t rfl rfl rfl rfl (by simp[z0x,z0y,f93k,f94,f95]) ?_)
   refine z1u rfl rfl rfl rfl (by simp[z0x,z0y,f93k,f94,f95];rfl) ?_
   iterate 6 (refine z1t rfl rfl rfl rfl (by simp[z0x,z0y,f93k,f94,f95]) ?_)
   refine z1u rfl rfl rfl rfl (by simp[z0x,z0y,f93k,f94,f95];rfl) ?_
   refine z1u rfl rfl rfl rfl (by simp[z0x,z0y,f93k,f94,f95];rfl) ?_
   refine z1t rfl rfl rfl rfl (by simp[z0x,z0y,f93k,f94,f95]) ?_
   refine z1u rfl rfl rfl rfl (by simp[z0x,z0y,f93k,f94,f95];rfl) ?_
   iterate 3 (refine z1t rfl rfl rfl rfl (by simp[z0x,z0y,f93k,f94,f95]) ?_)
   refine z1u rfl rfl rfl rfl (by simp[z0x,z0y,f93k,f94,f95];rfl) ?_
   iterate 5 (refine z1t rfl rfl rfl rfl (by simp[z0x,z0y,f93k,f94,f95]) ?_)
   refine z1u rfl rfl rfl rfl (by simp[z0x,z0y,f93k,f94,f95];rfl) ?_
   iterate 6 (refine z1t rfl rfl rfl rfl (by simp[z0x,z0y,f93k,f94,f95]) ?_)
   refine z1u rfl rfl rfl rfl (by simp[z0x,z0y,f93k,f94,f95];rfl) ?_
   refine z1u rfl rfl rfl rfl (by simp[z0x,z0y,f93k,f94,f95];rfl) ?_
   iterate 3 (refine z1t rfl rfl rfl rfl (by simp[z0x,z0y,f93k,f94,f95]) ?_)
   refine z1u rfl rfl rfl rfl (by simp[z0x,z0y,f93k,f94,f95];rfl) ?_
   refine z1t rfl rfl rfl rfl (by simp[z0x,z0y,f93k,f94,f95]) ?_
   refine z1u rfl rfl rfl rfl (by simp[z0x,z0y,f93k,f94,f95];rfl) ?_
   refine zyH rfl ?_
   refine zl8 rfl (by simp[f93k,f94,f95];rfl) ?_
   refine z0m (zp (zp (zs ?_)))
   refine z0m (zb rfl (z9F h7 (z8D v69 v70 v71 v72) rfl rfl (by simp[z8D]) fun s o1 h8 hr1=> ?_))
   obtain⟨w78,w79,w80⟩:=s
   simp only[z8F] at h8
   simp only[z8D]
   refine zp (zs ?_)
   refine z0m (zp ?_)
   by_cases c111:w78<(v69.length:Int)
   ·rw[if_pos c111] at h8
    refine zcr rfl (by simp[c111]) (z8v rfl (z0m (zp (zb rfl (zp (zs ?_))))))
    refine z0m (zp ?_)
    obtain⟨v88,f112,h9⟩:=z2E h8
    have f112k:=Ok.ok _ f112
    try simp at f112k
    obtain⟨v89,f113,h10⟩:=za9 h9
    refine zaq rfl rfl rfl rfl ?_;repeat' ((first|refine z6w rfl rfl fun Q' hQ=> ?_|refine z5E rfl fun Q' hQ=> ?_);simp[f112k,f113];refine hQ.out _ ?_;clear hQ;clear Q')
    refine z0m (zp ?_)
    obtain⟨v90,f114,h11⟩:=z2E h10
    have f114k:=Ok.ok _ f114
    try simp at f114k
    refine zr rfl rfl rfl (by simp[f114k];rfl) ?_
    refine z0m ?_
    obtain⟨v91,f115,h12⟩:=za9 h11
    obtain⟨v92,f116,h13⟩:=za9 h12
    obtain⟨v93,f117,h14⟩:=za9 h13
    obtain⟨v94,f118,h15⟩:=za9 h14
    refine zaq rfl rfl rfl rfl ?_;repeat' ((first|refine z6w rfl rfl fun Q' hQ=> ?_|refine z5E rfl fun Q' hQ=> ?_);simp[f115,f116,f117,f118];refine hQ.out _ ?_;clear hQ;clear Q')
    refine z6d (z0m (zs ?_))
    have ho:=z5p h15
    refine z6v ho ?_
    simp[z8D]
   ·rw[if_neg c111] at h8
    refine zcs rfl (by simp[c111]) (zb3 rfl (z8Y ?_))
    obtain⟨rr1,h9,ho1⟩:=z6p h8
    have hs1:=hr1 _ ho1
    subst hs1
    refine z8a ho1 (z4y rfl (z0m (zp (zp (zs ?_)))))
    refine z0m (zb rfl (z9F h9 (z8C v69 v70 v71 v72 w79 w80) rfl rfl (by simp[z8C]) fun s o2 h10 hr2=> ?_))
    obtain⟨w107,w108⟩:=s
    simp only[z8E] at h10
    simp only[z8C]
    refine zp (zs ?_)
    refine z0m (zp ?_)
    by_cases c155:w107<(v71.2.length:Int)
    ·rw[if_pos c155] at h10
     refine zcr rfl (by simp[c155]) (z8v rfl (z0m (zp (zb rfl (zp ?_)))))
     obtain⟨v122,f156,h11⟩:=za9 h10
     refine zr rfl rfl rfl (by simp[f156];rfl) ?_
     refine z0m (zp ?_)
     obtain⟨v123,f157,h12⟩:=z2E h11
     have f157k:=Ok.ok _ f157
     try simp at f157k
     refine zr rfl rfl rfl (by simp[f157k];rfl) ?_
     refine z0m (zp (zs ?_))
     refine z0m (zb rfl (z9F h12 (z7v v69 v70 v71 v72 w79 w80 w107 v123) rfl rfl (by simp[z7v]) fun s o3 h13 hr3=> ?_))
     obtain⟨w127,w128⟩:=s
     simp only[z7w] at h13
     simp only[z7v]
     refine zp (zs ?_)
     refine z0m (zp ?_)
     by_cases c168:w127<(v69.length:Int)
     ·rw[if_pos c168] at h13
      refine zcr rfl (by simp[c168]) (z8v rfl (z0m (zp (zb rfl (zp (zs ?_))))))
      refine z0m (zp ?_)
      obtain⟨v132,f169,h14⟩:=za9 h13
      refine zr rfl rfl rfl (by simp[f169];rfl) ?_
      refine z0m ?_
      by_cases c170:v132=w107
      ·rw[if_pos c170] at h14
       have c170e:=eq_true c170
       refine zcr rfl (by simp[c170e]) ?_
       obtain⟨v133,f171,h15⟩:=za9 h14
       obtain⟨v134,f172,h16⟩:=za9 h15
       refine zaq rfl rfl rfl rfl ?_;repeat' ((first|refine z6w rfl rfl fun Q' hQ=> ?_|refine z5E rfl fun Q' hQ=> ?_);simp[f171,f172];refine hQ.out _ ?_;clear hQ;clear Q')
       refine z6d (z0m (zs ?_))
       have ho:=z5p h16
       refine z6v ho ?_
       simp[z7v]
      ·rw[if_neg c170] at h14
       have c170e:=eq_false c170
       refine zcs rfl (by simp[c170e]) (z8v rfl (z6d (z0m (zs ?_))))
       have ho:=z5p h14
       refine z6v ho ?_
       simp[z7v]
     ·rw[if_neg c168] at h13
      refine zcs rfl (by simp[c168]) (zb3 rfl (z8Y ?_))
      obtain⟨rr3,h14,ho3⟩:=z6p h13
      have hs3:=hr3 _ ho3
      subst hs3
      refine z8a ho3 (z4y rfl (z6d (z0m (zs ?_))))
      have ho:=z5p h14
      refine z6v ho ?_
      simp[z8C]
    ·rw[if_neg c155] at h10
     refine zcs rfl (by simp[c155]) (zb3 rfl (z8Y ?_))
     obtain⟨rr2,h11,ho2⟩:=z6p h10
     have hs2:=hr2 _ ho2
     subst hs2
     refine z8a ho2 (z4y rfl (z0m (zp (zs ?_))))
     refine z0m (zn5 rfl ?_)
     cases h11
     simp
 ·rw[if_neg c88] at h1
  have c88e:=eq_false c88
  refine zcr rfl (by simp[c88e]) (zp (zs ?_))
  refine z0m (zn5 rfl (zje ?_))
  cases h1
  simp⟩
end
end
section
open Go
theorem zki(a b:Nat):zyP a b=true↔(szN b<szN a∨(szN a=szN b/\a<=b)):=by unfold zyP;simp
def zxf(x:Nat):List Nat->List Nat
 | []=> [x]
 |y::l=>if zyP x y=true then x::y::l else y::zxf x l
def zjg:List Nat->List Nat
 | []=> []
 |x::l=>zxf x (zjg l)
abbrev zDo(l:List Nat):Prop:=l.Pairwise fun a b=>zyP a b=true
theorem zoZ(x:Nat):∀l:List Nat,zxg (x:Int) (toI l)=toI (zxf x l)
 | []=>rfl
 |y::l=>by
  have ih:=zoZ x l
  have e:leI (x:Int) (y:Int)=zyP x y:=by simp[leI]
  simp only[toI,Zq,zxg,zxf] at ih⊢
  rw[e]
  by_cases h:zyP x y=true
  · rw[if_pos h,if_pos h];rfl
  · rw[if_neg h,if_neg h,ih];rfl
theorem zli:∀l:List Nat,zd5 (toI l)=toI (zjg l)
 | []=>rfl
 |x::l=>by
  have ih:=zli l
  simp only[toI,Zq,zd5,zjg] at ih⊢
  rw[ih];exact zoZ x (zjg l)
theorem zh2(x:Nat):∀l:List Nat,(zxf x l).Perm (x::l)
 | []=>.refl _
 |y::l=>by
  unfold zxf
  split
  · exact .refl _
  · exact((zh2 x l).cons y).trans (.swap x y l)
theorem z9U:∀l:List Nat,(zjg l).Perm l
 | []=>.refl _
 |x::l=>(zh2 x (zjg l)).trans ((z9U l).cons x)
theorem zh1(x:Nat):∀l:List Nat,zDo l->zDo (zxf x l)
 | [],_=>by simp[zxf]
 |y::l,h=>by
  unfold zxf
  rw[zDo,ZA] at h
  split
  · rename_i hxy
    refine ZA.2 ⟨fun z hz=> ?_,ZA.2 h⟩
    rcases Zv.1 hz with rfl|hz
    · exact hxy
    · have:=h.1 z hz
      rw[zki] at*
      omega
  · rename_i hxy
    refine ZA.2 ⟨fun z hz=> ?_,zh1 x l h.2⟩
    rcases Zv.1 ((zh2 x l).mem_iff.1 hz) with rfl|hz
    · rw[zki] at*
      omega
    · exact h.1 z hz
theorem zf0:∀l:List Nat,zDo (zjg l)
 | []=>by simp[zjg]
 |x::l=>zh1 x _ (zf0 l)
def zc2(S:List Nat):Nat->List Nat
 |0=>S
 |q+1=>if 2^q∈zc2 S q then zc2 S q else zc2 S q++ [2^q]
theorem z7U{S:List Nat}(hS:S.Nodup):∀q,(zc2 S q).Nodup/\(∀x,x∈zc2 S q↔x∈S∨ ∃i,i<q/\x=2^i)/\(zc2 S q).length<=S.length+q
 |0=>⟨hS,fun x=>by simp[zc2],by simp[zc2]⟩
 |q+1=>by
  obtain⟨h1,h2,h3⟩:=z7U hS q
  unfold zc2
  split
  · rename_i h
    refine⟨h1,fun x=> ?_,by omega⟩
    rw[h2]
    constructor
    · rintro(h|⟨i,h,e⟩)
      · exact .inl h
      · exact .inr ⟨i,by omega,e⟩
    · rintro(h'|⟨i,h',e⟩)
      · exact .inl h'
      · by_cases ei:i=q
        · subst ei;rw[e];exact(h2 _).1 h
        · exact .inr ⟨i,by omega,e⟩
  · rename_i h
    refine⟨Ys.2 ⟨h1,by simp,fun a ha b hb e=> ?_⟩,fun x=> ?_,by rw[Zb,ZD];omega⟩
    · obtain rfl:=Zi.1 hb
      exact h (e▸ha)
    · rw[Zf,h2,Zi]
      constructor
      · rintro((h'|⟨i,h',e⟩)|e)
        · exact .inl h'
        · exact .inr ⟨i,by omega,e⟩
        · exact .inr ⟨q,by omega,e⟩
      · rintro(h'|⟨i,h',e⟩)
        · exact .inl (.inl h')
        · by_cases ei:i=q
          · subst ei;exact .inr e
          · exact .inl (.inr ⟨i,by omega,e⟩)
def z2d(d:DFA)(m n:Nat):List Nat:=zjg (zc2 (z0Z d m n (2^n-1)).1 n)
structure SetsP(d:DFA)(m n:Nat)(S:List Nat):Prop where
 nd:S.Nodup
 lt:∀x∈S,x<2^n
 cl:∀x∈S,∀a,a<m->mvN d x a∈S
 one:∀q,q<n->2^q∈S
 srt:zDo S
variable{d:DFA}{m n:Nat}
theorem zyA(hd:DfaOk d m n){q a:Nat}(hq:q<n)(ha:a<m):∃p,p<n/\mvN d (2^q) a=2^p:=by
 obtain⟨h1,h2,e,h3,h4⟩:=zcq hd hq ha
 refine⟨((d.next.getD q []).getD a 0).toNat,by rw[e];omega,ZZ fun i=> ?_⟩
 rw[Yg,zau hd ha,Y8,decide_eq_true_iff]
 constructor
 · rintro⟨j,j1,j2,j3⟩
   rw[Y8,decide_eq_true_iff] at j2
   subst j2;exact j3
 · intro h
   exact⟨q,hq,by rw[Y8];simp,h⟩
theorem z8r(hd:DfaOk d m n):SetsP d m n (z2d d m n):=by
 have hp:=Yu n
 have hf:2^n-1<2^n:=by omega
 have hi:=z6h hd hf
 obtain⟨h1,h2,h3⟩:=z7U hi.nd n
 have hpm:=z9U (zc2 (z0Z d m n (2^n-1)).1 n)
 have hm:∀x,x∈z2d d m n↔x∈(z0Z d m n (2^n-1)).1∨ ∃i,i<n/\x=2^i:=fun x=>hpm.mem_iff.trans (h2 x)
 refine⟨hpm.nodup_iff.2 h1,fun x hx=> ?_,fun x hx a ha=> ?_,fun q hq=>(hm _).2 (.inr ⟨q,hq,rfl⟩),zf0 _⟩
 · rcases(hm x).1 hx with h|⟨i,hi',rfl⟩
   · exact hi.lt x h
   · exact Yn (by omega) hi'
 · rcases(hm x).1 hx with h|⟨i,hi',rfl⟩
   · exact(hm _).2 (.inl (zf2 hd hf h ha))
   · obtain⟨p,hp1,hp2⟩:=zyA hd hi' ha
     exact(hm _).2 (.inr ⟨p,hp1,hp2⟩)
theorem znZ{S:List Nat}(hl:S.length<4611686018427387904)(x:Nat):z2H (toI S) (x:Int)=some (decide (x∈S)):=by
 unfold z2H z1r
 rw[z4N (s:=(0:Int)) S.length (fun k=>(k:Int)) (fun k=>decide (x=S.getD k 0)) (fun k=>some (k:Int)) (x:=some (-1)) rfl (by simp only[LFm];omega)]
 · cases h:(List.range S.length).find? (fun k=>decide (x=S.getD k 0)) with
   |none=>
    have:=zm9.1 h
    rw[Z0]
    congr 1
    have hn:¬x∈S:=fun hx=>by
     obtain⟨i,hi,rfl⟩:=Zo hx
     have:=this i hi
     simp[List.getD,hi] at this
    simp[hn]
   |some k=>
    obtain⟨k1,k2,_⟩:=zm7.1 h
    rw[Z0]
    congr 1
    have hx:x∈S:=by
     have:x=S.getD k 0:=by simpa using k2
     rw[this];exact z0e k1
    simp[hx]
 · intro k hk
   simp only[z2b]
   rw[if_pos (by rw[z0a];omega),z1o hk,Z0]
   by_cases h:x=S.getD k 0
   · rw[if_pos (by omega),if_pos (by simpa using h)]
   · rw[if_neg (by omega),if_neg (by simpa using h),z0H (by omega)]
 · simp only[z2b]
   rw[if_neg (by rw[z0a];omega)]
theorem zzU(hd:DfaOk d m n)(hn:n<=7):z9e d=some (toI (z2d d m n)):=by
 have hp:=Yu n
 have h128:2^n<=128:=Zm (n:=2) (by omega) hn
 have hf:2^n-1<2^n:=by omega
 have hi:=z6h hd hf
 have hl:=z2r hi.nd hi.lt
 obtain⟨h1,h2,h3⟩:=z7U hi.nd n
 unfold z9e
 have ew:IntKind.i64.wrap (((2^n:Nat):Int)-1)=((2^n-1:Nat):Int):=by rw[z2G (by omega) (by omega)];omega
 rw[hd.fin,z0i _ (by omega),z8B (by omega),ew,zwM hd (by omega) hf,Z0]
 refine z0n (s:=((0:Int),toI (z0Z d m n (2^n-1)).1)) n (fun q=>((q:Int),toI (zc2 (z0Z d m n (2^n-1)).1 q))) rfl (by simp only[LFm];omega) (fun q hq=> ?_) ?_
 · have h3':=(z7U hi.nd q).2.2
   simp only[z8d]
   rw[if_pos (by rw[hd.fin];omega),z0i _ (by omega),z8B (by omega),znZ (by omega),Z0,z0H (by omega),zc2]
   by_cases h:2^q∈zc2 (z0Z d m n (2^n-1)).1 q
   · rw[if_pos (by simpa using h),if_pos h]
   · rw[if_neg (by simpa using h),if_neg h,z0i _ (by unfold z1C;rw[z0a];omega),z6u]
 · simp only[z8d]
   rw[if_neg (by rw[hd.fin];omega)]
   have hv:zs0 (toI (zc2 (z0Z d m n (2^n-1)).1 n))=some (toI (z2d d m n)):=by
    unfold zs0
    rw[if_pos,zli];rfl
    refine⟨fun h=> ?_,by rw[z0a];omega,?_⟩
    · have hm:=(h2 (2^n-1)).2 (.inl (zbE hd hf))
      have:=congrArg List.length h
      rw[z0a] at this
      have h0:=YS hm
      simp at this
      rw[this] at h0;simp at h0
    · rw[Zn]
      intro x hx
      simp only[toI,Zj] at hx
      obtain⟨y,hy,rfl⟩:=hx
      have:y<2^n:=by
       rcases(h2 y).1 hy with h|⟨i,hi',rfl⟩
       · exact hi.lt y h
       · exact Yn (by omega) hi'
      simp;omega
   rw[hv,Z0]
end
section
open Go
variable{d:DFA}{S:List Nat}{N i j k m n x:Nat}{st:RS}{α:Type}{f:Nat->α}{z:α}
def z3m{α:Type}(N:Nat)(f:Nat->α)(z:α)(k:Nat):List α:=(List.range N).map fun i=>if i<k then f i else z
theorem zfA(N:Nat)(f:Nat->α)(z:α)(k:Nat):(z3m N f z k).length=N:=by simp[z3m]
theorem zdE(N:Nat)(f:Nat->α)(z:α):z3m N f z 0=List.replicate N z:=by
 apply Ze (by simp[z3m]);intro i h1 h2;simp[z3m]
theorem zdD(N:Nat)(f:Nat->α)(z:α):z3m N f z N=(List.range N).map f:=by
 apply Ze (by simp[z3m]);intro i h1 h2
 have:i<N:=by simpa[z3m] using h1
 simp[z3m,this]
theorem zba(h:i<N):atI (z3m N f z k) (i:Int)=some (if i<k then f i else z):=by
 rw[z0A (by rw[zfA];exact h)];simp[z3m]
theorem z8I(h:k<N):(z3m N f z k).set k (f k)=z3m N f z (k+1):=by
 apply Ze (by simp[z3m]);intro i h1 h2
 simp only[z3m,Yi,ZF,ZP]
 by_cases e:k=i
 · subst e;rw[if_pos rfl,if_pos (by omega)]
 · rw[if_neg e]
   by_cases e2:i<k
   · rw[if_pos e2,if_pos (by omega)]
   · rw[if_neg e2,if_neg (by omega)]
theorem zvd(h:f k=z):z3m N f z k=z3m N f z (k+1):=by
 apply Ze (by simp[z3m]);intro i h1 h2
 simp only[z3m,ZF,ZP]
 by_cases e:k=i
 · subst e;rw[if_neg (by omega),if_pos (by omega),h]
 · by_cases e2:i<k
   · rw[if_pos e2,if_pos (by omega)]
   · rw[if_neg e2,if_neg (by omega)]
theorem z2S(h:i<N):atI ((List.range N).map f) (i:Int)=some (f i):=by
 rw[z0A (by simpa using h)];simp
theorem zow{l:List α}{x:α}(h:i<l.length):atI (l.set i x) (i:Int)=some x:=by
 rw[z0A (by simpa using h)];simp
theorem set_set(l:List α)(i:Nat)(x y:α):(l.set i x).set i y=l.set i y:=by simp
theorem zcC(hS:S.Nodup)(h:i<S.length):S.idxOf (S.getD i 0)=i:=by
 rw[List.getD,Z1 h,Z4]
 have hm:S[i]∈S:=Zk h
 have h1:=Xq hm
 have h2:S[S.idxOf S[i]]=S[i]:=XV h1
 exact(XE hS).1 h2
theorem z2k(h:x∈S):S.getD (S.idxOf x) 0=x:=by
 have:=Xq h
 rw[List.getD,Z1 this,Z4,XV]
theorem z5d(h:x∈S):S.idxOf x<S.length:=Xq h
theorem z5I(hS:S.Nodup)(hi:i<S.length)(hj:j<S.length)(h:S.getD i 0=S.getD j 0):i=j:=by
 rw[←zcC hS hi,h,zcC hS hj]
def z6f(st:RS)(x:Nat):ByteArray:=st.2.getD (st.1.idxOf x) ByteArray.empty
theorem zmJ(hl:st.2.length=st.1.length)(hx:x∉st.1)(w:ByteArray)(y:Nat):z6f (st.1++ [x],st.2++ [w]) y=if y=x then w else z6f st y:=by
 unfold z6f
 simp only
 by_cases hy:y∈st.1
 · have hne:y≠x:=fun e=>hx (e▸hy)
   rw[if_neg hne,List.idxOf_append,if_pos hy,z5Z _ (by rw[hl];exact z5d hy)]
 · rw[List.idxOf_append,if_neg hy]
   by_cases e:y=x
   · subst e
     rw[if_pos rfl,show List.idxOf y [y]=0 by simp,Zt,z9h hl.symm]
   · rw[if_neg e]
     have h1:List.idxOf y [x]=1:=by
      rw[List.idxOf_cons]
      have:(x==y)=false:=by simpa using fun h=>e h.symm
      simp[this]
     have h2:st.1.idxOf y=st.1.length:=List.idxOf_eq_length hy
     rw[h1,h2,List.getD,List.getD,YV (by simp[hl];omega),YV (by omega)]
theorem ziF{d:DFA}{m n:Nat}{S:List Nat}(hS:SetsP d m n S):∀ {w:List UInt8} {s:Nat},(∀c∈w,97<=c.toNat/\c.toNat<97+m)->s∈S->z4i d s w∈S
 | [],s,_,h=>h
 |c::w,s,hw,h=>ziF (w:=w) (s:=mvN d s (c.toNat-97)) hS (fun c' hc'=>hw c' (Zp _ hc')) (hS.cl s h _ (by have:=hw c (Zz ..);omega))
theorem zuN{s:Nat}(hS:SetsP d m n S)(hs:s∈S)(h:RInv d m n s st)(hx:x∈st.1):x∈S:=by
 obtain⟨i,hi,rfl⟩:=Zo hx
 obtain⟨_,o2,o3⟩:=h.ok i hi
 rw[List.getD,List.getD,Z1 hi,Z4] at o3
 rw[←o3]
 exact ziF hS o2 hs
def zoH(d:DFA)(m:Nat)(S:List Nat)(i:Nat):List Int:=(List.range m).map fun a=>((S.idxOf (mvN d (S.getD i 0) a):Nat):Int)
def zAN(d:DFA)(m:Nat)(S:List Nat):List (List Int):=(List.range S.length).map (zoH d m S)
def ztH(S:List Nat)(st:RS):List Bool:=(List.range S.length).map fun i=>decide (S.getD i 0∈st.1)
def zkB(S:List Nat)(st:RS):List ByteArray:=(List.range S.length).map fun i=>z6f st (S.getD i 0)
def zi0(S:List Nat)(st:RS):List Int:=toI (st.1.map S.idxOf)
theorem zti(h:k<st.1.length):atI (zi0 S st) (k:Int)=some ((S.idxOf (st.1.getD k 0):Nat):Int):=by
 unfold zi0
 rw[z1o (by simpa using h)]
 simp[List.getD,h]
theorem zlp{s:Nat}(hd:DfaOk d m n)(hn:n<=12)(hS:SetsP d m n S)(hs:s∈S)(h:RInv d m n s st)(hk:k<st.1.length):
 z0h (z2J (k:Int) (zoH d m S (S.idxOf (st.1.getD k 0)))) LFm (0,ztH S st,zkB S st,zi0 S st)=z0c (((k+1:Nat):Int),ztH S (zaD d k st m),zkB S (zaD d k st m),zi0 S (zaD d k st m)):=by
 have h12:=zgG hn
 have hm6:=hd.m6
 have hSl:=z2r hS.nd hS.lt
 refine z0n (s:=((0:Int),ztH S st,zkB S st,zi0 S st)) m (fun a=>((a:Int),ztH S (zaD d k st a),zkB S (zaD d k st a),zi0 S (zaD d k st a))) rfl (by simp only[LFm];omega) (fun a ha=> ?_) ?_
 · obtain⟨k1,_,X,W,k3,k4⟩:=zh6 hd h hk a (by omega)
   have hk':k<(zaD d k st a).1.length:=by rw[k3,Zb];omega
   have hl:=z2r k1.nd k1.lt
   have eg:(zaD d k st a).1.getD k 0=st.1.getD k 0:=by rw[k3,z5Z _ hk]
   have hkS:st.1.getD k 0∈S:=zuN hS hs h (z0e hk)
   have hxS:mvN d (st.1.getD k 0) a∈S:=hS.cl _ hkS a ha
   obtain⟨o1,_,_⟩:=k1.ok k hk'
   have hwk:z6f (zaD d k st a) (st.1.getD k 0)=(zaD d k st a).2.getD k ByteArray.empty:=by
    unfold z6f;rw[←eg,zcC k1.nd hk']
   simp only[z2J]
   rw[if_pos (by simp[zoH];omega),zoH,z2S ha,Z0,z2k hkS,ztH,z2S (z5d hxS),Z0,z2k hxS,z0H (by omega),zaD]
   unfold zhX
   rw[eg]
   simp only[decide_eq_true_eq]
   by_cases hm:mvN d (st.1.getD k 0) a∈(zaD d k st a).1
   · rw[if_pos hm,if_pos hm];rfl
   · rw[if_neg hm,if_neg hm,zti hk',Z0,eg,zkB,z2S (z5d hkS),Z0,z2k hkS,hwk,zjB (by omega),z0i _ (by unfold zaM;rw[z8k];omega),z2S (z5d hxS),Z0,z0i _ (by unfold z1C zi0;rw[z0a,Z8];omega),Z2]
     congr 1
     refine XP rfl (XP ?_ (XP ?_ ?_))
     · simp only[ztH]
       apply Ze (by simp)
       intro i i1 i2
       have hi:i<S.length:=by simpa using i2
       simp only[Yi,ZF,ZP,Zf,Zi]
       by_cases e:S.idxOf (mvN d (st.1.getD k 0) a)=i
       · subst e;rw[if_pos rfl,z2k hxS];simp
       · rw[if_neg e]
         have:S.getD i 0≠mvN d (st.1.getD k 0) a:=fun hh=>e (by rw[←hh,zcC hS.nd hi])
         simp only[this,or_false]
     · simp only[zkB]
       apply Ze (by simp)
       intro i i1 i2
       have hi:i<S.length:=by simpa using i2
       simp only[Yi,ZF,ZP]
       rw[zmJ k1.len hm]
       by_cases e:S.idxOf (mvN d (st.1.getD k 0) a)=i
       · subst e;rw[if_pos rfl,z2k hxS,if_pos rfl]
       · have:S.getD i 0≠mvN d (st.1.getD k 0) a:=fun hh=>e (by rw[←hh,zcC hS.nd hi])
         rw[if_neg e,if_neg this]
     · simp only[zi0,Y0,Zq,Yr]
       rw[z6u]
 · simp only[z2J]
   have:=z2r h.nd h.lt
   rw[if_neg (by simp[zoH]),z0H (by omega)]
theorem zgv(hd:DfaOk d m n)(hn:n<=12)(hS:SetsP d m n S)(bl:List (List Bool))(hj:j<S.length):
 z2f ⟨toI S,zAN d m S,bl⟩ (j:Int)=some (zi0 S (z0Z d m n (S.getD j 0)),zkB S (z0Z d m n (S.getD j 0))):=by
 have h12:=zgG hn
 have hp:=Yu n
 have hSl:=z2r hS.nd hS.lt
 have hs:S.getD j 0∈S:=z0e hj
 have hs2:S.getD j 0<2^n:=hS.lt _ hs
 unfold z2f
 simp only
 rw[z0a,z0i _ (by unfold z0S;omega),z0i _ (by unfold z0S;omega),z0i _ (by omega),Z2,Z2]
 have e1:(List.replicate S.length false).set j true=ztH S (z8P d m (S.getD j 0) 0):=by
  apply Ze (by simp[ztH])
  intro i i1 i2
  have hi:i<S.length:=by simpa using i1
  simp only[ztH,z8P,Yi,ZF,ZP,List.getElem_replicate,Zi]
  by_cases e:j=i
  · subst e;simp
  · rw[if_neg e]
    have:S.getD i 0≠S.getD j 0:=fun hh=>e (z5I hS.nd hi hj hh).symm
    symm;simpa using this
 have e2:List.replicate S.length (ByteArray.empty:ByteArray)=zkB S (z8P d m (S.getD j 0) 0):=by
  apply Ze (by simp[zkB])
  intro i i1 i2
  simp only[zkB,z8P,ZF,ZP,List.getElem_replicate,z6f]
  generalize List.idxOf (S.getD i 0) [S.getD j 0]=q
  cases q<;>rfl
 have e3: [(j:Int)]=zi0 S (z8P d m (S.getD j 0) 0):=by
  simp only[zi0,z8P,Zq,Yr,zcC hS.nd hj];rfl
 rw[e1,e2,e3]
 refine zaw (s:=((0:Int),ztH S (z8P d m (S.getD j 0) 0),zkB S (z8P d m (S.getD j 0) 0),zi0 S (z8P d m (S.getD j 0) 0))) (fun z=>∃k:Nat,k<=2^n/\z=((k:Int),ztH S (z8P d m (S.getD j 0) k),zkB S (z8P d m (S.getD j 0) k),zi0 S (z8P d m (S.getD j 0) k))) (fun z=>2^n+1-z.1.toNat) ⟨0,by omega,rfl⟩ (by simp only[LFm];omega) ?_
 rintro z ⟨k,hk,rfl⟩
 have hl:=zmZ hd hs2 k
 have hqs:(zi0 S (z8P d m (S.getD j 0) k)).length=(z8P d m (S.getD j 0) k).1.length:=by simp[zi0,toI]
 simp only[z5u]
 by_cases h:k<(z8P d m (S.getD j 0) k).1.length
 · left
   have hinv:=(zb0 hd hs2 k).1
   have hkS:(z8P d m (S.getD j 0) k).1.getD k 0∈S:=zuN hS hs hinv (z0e h)
   rw[if_pos (by rw[hqs];omega),zti h,Z0,zAN,z2S (z5d hkS),Z0,zlp hd hn hS hs hinv h]
   refine⟨_,rfl,⟨k+1,by omega,?_⟩,by simp only;omega⟩
   rw[z8P,if_pos h]
 · right
   rw[if_neg (by rw[hqs];omega)]
   unfold z0Z
   rw[zjh h _ hk]
end
section
open Go
variable{d:DFA}{S:List Nat}{i j k m n:Nat}
def z7k(d:DFA)(m n:Nat)(S:List Nat)(i j:Nat):Bool:=(z0Z d m n (S.getD j 0)).1.any fun x=>decide (S.getD i 0&&&x=S.getD i 0)
def zxS(d:DFA)(m n:Nat)(S:List Nat):List (List Bool):=(List.range S.length).map fun i=>(List.range S.length).map (z7k d m n S i)
def dgm(d:DFA)(m n:Nat)(S:List Nat):Dgm:=⟨toI S,zAN d m S,zxS d m n S⟩
theorem z3f(hd:DfaOk d m n)(hS:SetsP d m n S)(hj:j<S.length):z7k d m n S i j=true↔znV d m (S.getD i 0) (S.getD j 0):=by
 rw[zvS hd (hS.lt _ (z0e hj))]
 unfold z7k z6T
 simp
def zrL(n:Nat)(S:List Nat)(k:Nat):List Int:=(List.range (2^n)).map fun x=>if x∈S.take k then((S.idxOf x:Nat):Int) else 0
theorem zxj(hS:S.Nodup)(hk:k<S.length):(zrL n S k).set (S.getD k 0) (k:Int)=zrL n S (k+1):=by
 have hg:S.getD k 0=S[k]:=by rw[List.getD,Z1 hk,Z4]
 apply Ze (by simp[zrL])
 intro i h1 h2
 simp only[zrL,Yi,ZF,ZP]
 rw[Zw hk]
 simp only[Zf,Zi]
 by_cases e:S.getD k 0=i
 · rw[if_pos e,if_pos (.inr (by rw[←hg];exact e.symm)),←e,zcC hS hk]
 · rw[if_neg e]
   have:¬i=S[k]:=fun h=>e (by rw[hg];exact h.symm)
   simp[this]
theorem zyD{x:Nat}(h:x<2^n):atI (zrL n S k) (x:Int)=some (if x∈S.take k then((S.idxOf x:Nat):Int) else 0):=by
 unfold zrL;rw[z2S h]
theorem zqX(hd:DfaOk d m n)(hn:n<=12)(hS:SetsP d m n S)(hi:i<S.length):
 z0h (z3J d (toI S) (zrL n S S.length) (i:Int) (z3m S.length (fun _=>List.replicate S.length false) [] i) ((S.getD i 0:Nat):Int)) LFm (0,(z3m S.length (zoH d m S) [] i).set i (List.replicate m 0))=
  z0c (((i+1:Nat):Int),z3m S.length (zoH d m S) [] (i+1),z3m S.length (fun _=>List.replicate S.length false) [] (i+1)):=by
 have h12:=zgG hn
 have hm6:=hd.m6
 have hSl:=z2r hS.nd hS.lt
 have hx:S.getD i 0∈S:=z0e hi
 refine z0n (s:=((0:Int),(z3m S.length (zoH d m S) [] i).set i (List.replicate m 0))) m (fun a=>((a:Int),(z3m S.length (zoH d m S) [] i).set i (z3m m (fun a=>((S.idxOf (mvN d (S.getD i 0) a):Nat):Int)) 0 a))) (by rw[zdE];rfl) (by simp only[LFm];omega) (fun a ha=> ?_) ?_
 · have hmv:mvN d (S.getD i 0) a∈S:=hS.cl _ hx a ha
   simp only[z3J]
   rw[if_pos (by rw[hd.lt];omega),zow (by rw[zfA];exact hi),Z0,ztE hd hn (hS.lt _ hx) ha,Z0,zyD (hS.lt _ hmv),Z0,Y9,if_pos hmv,zba ha,Z0,z0H (by omega),Z2,Z2,set_set]
   rw[z8I (f:=fun a=>((S.idxOf (mvN d (S.getD i 0) a):Nat):Int)) (z:=0) ha]
 · simp only[z3J]
   rw[if_neg (by rw[hd.lt];omega),z0a,z0i _ (by unfold z0S;omega),zba hi,Z0,z0H (by omega),Z2,Z2,zdD]
   have e1:=z8I (f:=zoH d m S) (z:= []) hi
   have e2:=z8I (f:=fun _=>List.replicate S.length false) (z:= []) hi
   rw[show((List.range m).map fun a=>((S.idxOf (mvN d (S.getD i 0) a):Nat):Int))=zoH d m S i from rfl,e1,e2]
def zfG(d:DFA)(m n:Nat)(S:List Nat)(j i:Nat):List (List Bool):=(List.range S.length).map fun i'=>z3m S.length (z7k d m n S i') false (if i'<i then j+1 else j)
theorem zEG:zfG d m n S j S.length=zfG d m n S (j+1) 0:=by
 unfold zfG
 refine ZB fun i hi=> ?_
 rw[if_pos (Zh.1 hi),if_neg (by omega)]
theorem zxX{α:Type}(p:α->Bool)(l:List α)(d:α):((List.range l.length).find? fun k=>p (l.getD k d)).isSome=l.any p:=by
 rw[Yg,Yk]
 rw[List.find?_isSome]
 constructor
 · rintro⟨k,hk,h⟩
   have hk:=Zh.1 hk
   exact⟨_,by rw[List.getD,Z1 hk,Z4];exact Zk hk,h⟩
 · rintro⟨x,hx,h⟩
   obtain⟨i,hi,rfl⟩:=Zo hx
   exact⟨i,Zh.2 hi,by rw[List.getD,Z1 hi,Z4];exact h⟩
theorem zvR(hd:DfaOk d m n)(hn:n<=12)(hS:SetsP d m n S)(hi:i<S.length)(hj:j<S.length)(w:List ByteArray):
 z0h (z3I (toI S) (j:Int) (zi0 S (z0Z d m n (S.getD j 0)),w) (i:Int) (zfG d m n S j i) ((S.getD i 0:Nat):Int)) LFm 0=z0c (((i+1:Nat):Int),zfG d m n S j (i+1)):=by
 have h12:=zgG hn
 have hSl:=z2r hS.nd hS.lt
 have hjS:=z0e hj
 have hinv:=z6h hd (hS.lt _ hjS)
 have hl:=z2r hinv.nd hinv.lt
 have hx62:S.getD i 0<2^n:=hS.lt _ (z0e hi)
 have hcol:z7k d m n S i j=true->(zfG d m n S j i).set i ((z3m S.length (z7k d m n S i) false j).set j true)=zfG d m n S j (i+1):=fun hb=>by
  have e:=z8I (f:=z7k d m n S i) (z:=false) hj
  rw[hb] at e
  rw[e]
  apply Ze (by simp[zfG])
  intro k h1 h2
  simp only[zfG,Yi,ZF,ZP]
  by_cases ek:i=k
  · subst ek;rw[if_pos rfl,if_pos (by omega)]
  · rw[if_neg ek]
    by_cases e2:k<i
    · rw[if_pos e2,if_pos (by omega)]
    · rw[if_neg e2,if_neg (by omega)]
 have hcol0:z7k d m n S i j=false->zfG d m n S j i=zfG d m n S j (i+1):=fun hb=>by
  unfold zfG
  refine ZB fun k hk=> ?_
  by_cases ek:k=i
  · subst ek;rw[if_neg (by omega),if_pos (by omega)];exact zvd hb
  · by_cases e2:k<i
    · rw[if_pos e2,if_pos (by omega)]
    · rw[if_neg e2,if_neg (by omega)]
 rw[z4N (s:=(0:Int)) (z0Z d m n (S.getD j 0)).1.length (fun k=>(k:Int)) (fun k=>decide (S.getD i 0&&&(z0Z d m n (S.getD j 0)).1.getD k 0=S.getD i 0)) (fun _=>z0c (((i+1:Nat):Int),(zfG d m n S j i).set i ((z3m S.length (z7k d m n S i) false j).set j true))) (x:=z0c (((i+1:Nat):Int),zfG d m n S j i)) rfl (by simp only[LFm];omega)]
 · have ha:((List.range (z0Z d m n (S.getD j 0)).1.length).find? fun k=>decide (S.getD i 0&&&(z0Z d m n (S.getD j 0)).1.getD k 0=S.getD i 0)).isSome=z7k d m n S i j:=zxX (fun x=>decide (S.getD i 0&&&x=S.getD i 0)) (z0Z d m n (S.getD j 0)).1 0
   revert ha
   cases(List.range (z0Z d m n (S.getD j 0)).1.length).find? fun k=>decide (S.getD i 0&&&(z0Z d m n (S.getD j 0)).1.getD k 0=S.getD i 0) with
   |none=>intro ha;simp only;rw[hcol0 (by simpa using ha.symm)]
   |some k=>intro ha;simp only;rw[hcol (by simpa using ha.symm)]
 · intro k hk
   have hkS:(z0Z d m n (S.getD j 0)).1.getD k 0∈S:=zuN hS hjS hinv (z0e hk)
   have hqs:(zi0 S (z0Z d m n (S.getD j 0))).length=(z0Z d m n (S.getD j 0)).1.length:=by simp[zi0,toI]
   have h62:=hS.lt _ hkS
   simp only[z3I]
   rw[if_pos (by rw[hqs];omega),zti hk,Z0,z1o (z5d hkS),z2k hkS,Z0,zcF (by omega) (by omega),Z0]
   simp only[decide_eq_true_eq]
   split
   · rw[zfG,z2S hi,Z0,zba hj,Z0,z0H (by omega),if_neg (by omega:¬i<i),Z2,Z2]
   · rw[z0H (by omega)]
 · have hqs:(zi0 S (z0Z d m n (S.getD j 0))).length=(z0Z d m n (S.getD j 0)).1.length:=by simp[zi0,toI]
   simp only[z3I]
   rw[if_neg (by rw[hqs];omega),z0H (by omega)]
theorem zrz(hd:DfaOk d m n)(hn:n<=12)(hS:SetsP d m n S):z5t d (toI S)=some (dgm d m n S):=by
 have h12:=zgG hn
 have hm6:=hd.m6
 have hp:=Yu n
 have hSl:=z2r hS.nd hS.lt
 unfold z5t
 rw[hd.fin,z0i _ (by omega),z8B (by omega),z0i _ (by unfold z0S;omega),Z2]
 have e0:List.replicate (2^n) (0:Int)=zrL n S 0:=by
  apply Ze (by simp[zrL]);intro i h1 h2;simp[zrL]
 rw[e0]
 refine z0n (s:=((0:Int),zrL n S 0)) S.length (fun k=>((k:Int),zrL n S k)) rfl (by simp only[LFm];omega) (fun k hk=> ?_) ?_
 · simp only[z5h]
   rw[if_pos (by rw[z0a];omega),z1o hk,Z0,zyD (hS.lt _ (z0e hk)),Z0,z0H (by omega),Z2,zxj hS.nd hk]
 · simp only[z5h]
   rw[if_neg (by rw[z0a];omega),z0a,z0i _ (by unfold z0S;omega),Z2]
   congr 1
   have f1:List.replicate S.length ([]:List Int)=z3m S.length (zoH d m S) [] 0:=(zdE _ _ _).symm
   have f2:List.replicate S.length ([]:List Bool)=z3m S.length (fun _=>List.replicate S.length false) [] 0:=(zdE _ _ _).symm
   rw[f1,f2]
   refine z0n (s:=((0:Int),z3m S.length (zoH d m S) [] 0,z3m S.length (fun _=>List.replicate S.length false) [] 0)) S.length (fun k=>((k:Int),z3m S.length (zoH d m S) [] k,z3m S.length (fun _=>List.replicate S.length false) [] k)) rfl (by simp only[LFm];omega) (fun k hk=> ?_) ?_
   · simp only[z5g]
     rw[if_pos (by rw[z0a];omega),z1o hk,Z0,hd.lt,z0i _ (by unfold z0S;omega),zba hk,Z0,Z2,Z2,zqX hd hn hS hk]
   · simp only[z5g]
     rw[if_neg (by rw[z0a];omega),zdD,zdD]
     congr 1
     have f3:((List.range S.length).map fun _=>List.replicate S.length false)=zfG d m n S 0 0:=by
      unfold zfG
      refine ZB fun i hi=> ?_
      rw[if_neg (by omega),zdE]
     rw[f3]
     refine z0n (s:=((0:Int),zfG d m n S 0 0)) S.length (fun j=>((j:Int),zfG d m n S j 0)) rfl (by simp only[LFm];omega) (fun j hj=> ?_) ?_
     · simp only[z4P]
       rw[if_pos (by rw[z0a];omega)]
       have es:=zgv hd hn hS (zfG d m n S j 0) hj
       unfold zAN at es
       rw[es,Z0]
       refine z0n (s:=((0:Int),zfG d m n S j 0)) S.length (fun i=>((i:Int),zfG d m n S j i)) rfl (by simp only[LFm];omega) (fun i hi=> ?_) ?_
       · simp only[z4O]
         rw[if_pos (by rw[z0a];omega),z1o hi,Z0,zvR hd hn hS hi hj]
       · simp only[z4O]
         rw[if_neg (by rw[z0a];omega),z0H (by omega),zEG]
     · simp only[z4P]
       rw[if_neg (by rw[z0a];omega)]
       have f4:zfG d m n S S.length 0=zxS d m n S:=by
        unfold zfG zxS
        refine ZB fun i hi=> ?_
        rw[if_neg (by omega),zdD]
       rw[f4];rfl
end
section
open Go
structure EqvN(N:Nat)(e:Nat->Nat->Bool):Prop where
 refl:∀i,i<N->e i i=true
 symm:∀i j,i<N->j<N->e i j=true->e j i=true
 trans:∀i j k,i<N->j<N->k<N->e i j=true->e j k=true->e i k=true
variable{d:DFA}{S:List Nat}{N i m n:Nat}{e:Nat->Nat->Bool}
def z1h(e:Nat->Nat->Bool):Nat->List Nat
 |0=> []
 |i+1=>if(z1h e i).any (e i)=true then z1h e i else z1h e i++ [i]
def z9K(e:Nat->Nat->Bool)(N i:Nat):Nat:=(z1h e N).findIdx (e i)
theorem zeH(e:Nat->Nat->Bool){i:Nat}:∀j,i<=j->∃R,z1h e j=z1h e i++R
 |0,h=>by
  obtain rfl:i=0:=by omega
  exact⟨[],by simp⟩
 |j+1,h=>by
  by_cases e0:i=j+1
  · subst e0;exact⟨[],by simp⟩
  · obtain⟨R,hR⟩:=zeH e (i:=i) j (by omega)
    rw[show z1h e (j+1)=if(z1h e j).any (e j)=true then z1h e j else z1h e j++ [j] from rfl]
    split
    · exact⟨R,hR⟩
    · exact⟨R++ [j],by rw[hR,Zu]⟩
theorem zc9(e:Nat->Nat->Bool):∀i,∀f∈z1h e i,f<i
 |0,f,h=>by simp[z1h] at h
 |i+1,f,h=>by
  unfold z1h at h
  split at h
  · have:=zc9 e i f h;omega
  · rcases Zf.1 h with h|h
    · have:=zc9 e i f h;omega
    · have:=Zi.1 h;omega
theorem z6o(e:Nat->Nat->Bool):∀i,(z1h e i).length<=i
 |0=>by simp[z1h]
 |i+1=>by
  have:=z6o e i
  unfold z1h
  split
  · omega
  · rw[Zb,ZD];omega
theorem zb9{N:Nat}{e:Nat->Nat->Bool}(he:EqvN N e):∀i,i<=N->(z1h e i).Pairwise fun f g=>e f g=false/\e g f=false
 |0,_=>by simp[z1h]
 |i+1,hi=>by
  have ih:=zb9 he i (by omega)
  unfold z1h
  split
  · exact ih
  · rename_i h
    refine YC.2 ⟨ih,by simp,fun a ha b hb=> ?_⟩
    obtain rfl:=Zi.1 hb
    have hlt:=zc9 e b a ha
    have h1:e b a=false:=by
     cases hh:e b a with
     |false=>rfl
     |true=>exact absurd (Yk.2 ⟨a,ha,hh⟩) h
    refine⟨?_,h1⟩
    cases hh:e a b with
    |false=>rfl
    |true=>rw[he.symm a b (by omega) (by omega) hh] at h1;cases h1
theorem zjT(he:EqvN N e){c c':Nat}{l:List Nat}(hl:l.Pairwise fun f g=>e f g=false/\e g f=false)(hlt:∀f∈l,f<N)(hi:i<N)(hc:c<l.length)(hc':c'<l.length)(h:e i (l.getD c 0)=true)(h':e i (l.getD c' 0)=true):c=c':=by
 have m1:l.getD c 0<N:=hlt _ (z0e hc)
 have m2:l.getD c' 0<N:=hlt _ (z0e hc')
 have hcc:=he.trans _ _ _ m1 hi m2 (he.symm _ _ hi m1 h) h'
 rcases Xd c c' with hlt'|rfl|hlt'
 · have:=(ZE.1 hl c c' hc hc' hlt').1
   rw[List.getD,List.getD,Z1 hc,Z1 hc',Z4,Z4,this] at hcc
   cases hcc
 · rfl
 · have:=(ZE.1 hl c' c hc' hc hlt').2
   rw[List.getD,List.getD,Z1 hc,Z1 hc',Z4,Z4,this] at hcc
   cases hcc
theorem zyL(he:EqvN N e)(hi:i<N):(z1h e i).findIdx (e i)=z9K e N i:=by
 unfold z9K
 obtain⟨R,hR⟩:=zeH e (i:=i+1) N (by omega)
 rw[hR]
 by_cases h:(z1h e i).any (e i)=true
 · have:z1h e (i+1)=z1h e i:=by rw[z1h,if_pos h]
   rw[this,List.findIdx_append,if_pos]
   obtain⟨x,hx,hp⟩:=Yk.1 h
   exact Yy ⟨x,hx,hp⟩
 · have e1:z1h e (i+1)=z1h e i++ [i]:=by rw[z1h,if_neg h]
   have e2:(z1h e i).findIdx (e i)=(z1h e i).length:=List.findIdx_eq_length.2 fun x hx=>by
    cases hh:e i x with
    |false=>rfl
    |true=>exact absurd (Yk.2 ⟨x,hx,hh⟩) h
   rw[e1,Zu,List.findIdx_append,if_neg (by rw[e2];omega),XN,List.findIdx_cons,he.refl i hi,e2]
   simp
theorem zcH(he:EqvN N e)(hi:i<N):z9K e N i<(z1h e N).length/\e i ((z1h e N).getD (z9K e N i) 0)=true:=by
 have hex:∃x∈z1h e N,e i x=true:=by
  obtain⟨R,hR⟩:=zeH e (i:=i+1) N (by omega)
  by_cases h:(z1h e i).any (e i)=true
  · obtain⟨x,hx,hp⟩:=Yk.1 h
    refine⟨x,?_,hp⟩
    rw[hR,z1h,if_pos h]
    exact Zf.2 (.inl hx)
  · refine⟨i,?_,he.refl i hi⟩
    rw[hR,z1h,if_neg h];simp
 have hlt:z9K e N i<(z1h e N).length:=Yy hex
 refine⟨hlt,?_⟩
 rw[List.getD,Z1 hlt,Z4]
 exact YZ (w:=hlt)
theorem zhv(he:EqvN N e){j:Nat}(hi:i<N)(hj:j<N):z9K e N i=z9K e N j↔e i j=true:=by
 obtain⟨a1,a2⟩:=zcH he hi
 obtain⟨b1,b2⟩:=zcH he hj
 have hF:=zc9 e N
 have m1:=hF _ (z0e a1)
 constructor
 · intro h
   rw[←h] at b2
   exact he.trans _ _ _ hi m1 hj a2 (he.symm _ _ hj m1 b2)
 · intro h
   exact zjT he (zb9 he N (Z7 _)) hF hj a1 b1 (he.trans _ _ _ hj hi m1 (he.symm _ _ hi hj h) a2) b2
def z2t(d:DFA)(m n:Nat)(S:List Nat)(i j:Nat):Bool:=z7k d m n S i j&&z7k d m n S j i
theorem z8o(hd:DfaOk d m n)(hS:SetsP d m n S):EqvN S.length (z2t d m n S) where
 refl i hi:=by
  have:=(z3f hd hS hi (i:=i)).2 (zdQ d m _)
  simp[z2t,this]
 symm i j hi hj h:=by
  simp only[z2t,Z5] at h⊢
  exact⟨h.2,h.1⟩
 trans i j k hi hj hk h1 h2:=by
  simp only[z2t,Z5] at h1 h2⊢
  exact⟨(z3f hd hS hk).2 (zdP hd ((z3f hd hS hj).1 h1.1) ((z3f hd hS hk).1 h2.1)),(z3f hd hS hi).2 (zdP hd ((z3f hd hS hj).1 h2.2) ((z3f hd hS hi).1 h1.2))⟩
theorem zpK(hi:i<S.length):atI (zxS d m n S) (i:Int)=some ((List.range S.length).map (z7k d m n S i)):=z2S hi
def zvC(d:DFA)(m n:Nat)(S:List Nat):List Int:=(List.range S.length).map fun i=>((z9K (z2t d m n S) S.length i:Nat):Int)
def z6L(d:DFA)(m n:Nat)(S:List Nat):List Nat:=z1h (z2t d m n S) S.length
theorem zrD(hd:DfaOk d m n)(hn:n<=12)(hS:SetsP d m n S):z3i (dgm d m n S)=some (zvC d m n S,toI (z6L d m n S)):=by
 have h12:=zgG hn
 have hSl:=z2r hS.nd hS.lt
 have he:=z8o hd hS
 unfold z3i
 have ed:(dgm d m n S).sets=toI S:=rfl
 have eb:(dgm d m n S).below=zxS d m n S:=rfl
 rw[ed,z0a,z0i _ (by unfold z0S;omega),Z2]
 have f1:List.replicate S.length (0:Int)=z3m S.length (fun i=>((z9K (z2t d m n S) S.length i:Nat):Int)) 0 0:=(zdE _ _ _).symm
 rw[f1]
 refine z0n (s:=((0:Int),z3m S.length (fun i=>((z9K (z2t d m n S) S.length i:Nat):Int)) 0 0,([]:List Int))) S.length (fun k=>((k:Int),z3m S.length (fun i=>((z9K (z2t d m n S) S.length i:Nat):Int)) 0 k,toI (z1h (z2t d m n S) k))) rfl (by simp only[LFm];omega) (fun i hi=> ?_) ?_
 · have hF:=z6o (z2t d m n S) i
   have hFl:=zc9 (z2t d m n S) i
   have hap:=zb9 he i (by omega)
   have hcl:=zyL he hi
   simp only[z3w]
   rw[ed,if_pos (by rw[z0a];omega),zba hi,Z0,z0a,Z2]
   generalize hL:z3m S.length (fun i=>((z9K (z2t d m n S) S.length i:Nat):Int)) 0 i=L at*
   have hLl:L.length=S.length:=by rw[←hL,zfA]
   have hstep:∀c,c<(z1h (z2t d m n S) i).length->(z2t d m n S i ((z1h (z2t d m n S) i).getD c 0)=true↔(z1h (z2t d m n S) i).findIdx (z2t d m n S i)=c):=fun c hc=>by
    constructor
    · intro h
      have hex:(z1h (z2t d m n S) i).findIdx (z2t d m n S i)<(z1h (z2t d m n S) i).length:=Yy ⟨_,z0e hc,h⟩
      have hp:z2t d m n S i ((z1h (z2t d m n S) i).getD ((z1h (z2t d m n S) i).findIdx (z2t d m n S i)) 0)=true:=by
       rw[List.getD,Z1 hex,Z4]
       exact YZ (w:=hex)
      exact zjT he hap (fun f hf=>by have:=hFl f hf;omega) hi hex hc hp h
    · intro h
      have hex:(z1h (z2t d m n S) i).findIdx (z2t d m n S i)<(z1h (z2t d m n S) i).length:=by omega
      have hp:z2t d m n S i ((z1h (z2t d m n S) i)[(z1h (z2t d m n S) i).findIdx (z2t d m n S i)])=true:=YZ (w:=hex)
      rw[←h,List.getD,Z1 hex,Z4]
      exact hp
   refine z0n (s:=((0:Int),L.set i (((z1h (z2t d m n S) i).length:Nat):Int))) (z1h (z2t d m n S) i).length (fun c=>((c:Int),L.set i (((if(z1h (z2t d m n S) i).findIdx (z2t d m n S i)<c then(z1h (z2t d m n S) i).findIdx (z2t d m n S i) else(z1h (z2t d m n S) i).length:Nat)):Int))) (by simp) (by simp only[LFm];omega) (fun c hc=> ?_) ?_
   · have hf:=hFl _ (z0e hc)
     simp only[z3v]
     rw[eb,if_pos (by rw[z0a];omega),z1o hc,Z0,zpK hi,Z0,z2S (by omega),Z0,z0H (by omega)]
     by_cases h1:z7k d m n S i ((z1h (z2t d m n S) i).getD c 0)=true
     · rw[if_pos h1,zpK (by omega),Z0,z2S hi,Z0]
       by_cases h2:z7k d m n S ((z1h (z2t d m n S) i).getD c 0) i=true
       · have:=(hstep c hc).1 ((Z5 _ _).mpr ⟨h1,h2⟩)
         rw[if_pos h2,zow (by omega),Z0,Z2,set_set,this,if_pos (by omega)]
       · have:¬(z1h (z2t d m n S) i).findIdx (z2t d m n S i)=c:=fun h=>by
          have:=(hstep c hc).2 h
          simp only[z2t,Z5] at this
          exact h2 this.2
         rw[if_neg h2]
         congr 3
         by_cases h3:(z1h (z2t d m n S) i).findIdx (z2t d m n S i)<c
         · rw[if_pos h3,if_pos (by omega)]
         · rw[if_neg h3,if_neg (by omega)]
     · have:¬(z1h (z2t d m n S) i).findIdx (z2t d m n S i)=c:=fun h=>by
        have:=(hstep c hc).2 h
        simp only[z2t,Z5] at this
        exact h1 this.1
       rw[if_neg h1]
       congr 3
       by_cases h3:(z1h (z2t d m n S) i).findIdx (z2t d m n S i)<c
       · rw[if_pos h3,if_pos (by omega)]
       · rw[if_neg h3,if_neg (by omega)]
   · have hle:(z1h (z2t d m n S) i).findIdx (z2t d m n S i)<=(z1h (z2t d m n S) i).length:=List.findIdx_le_length
     have hv:(if(z1h (z2t d m n S) i).findIdx (z2t d m n S i)<(z1h (z2t d m n S) i).length then(z1h (z2t d m n S) i).findIdx (z2t d m n S i) else(z1h (z2t d m n S) i).length)=(z1h (z2t d m n S) i).findIdx (z2t d m n S i):=by split<;>omega
     have hset:L.set i ((z9K (z2t d m n S) S.length i:Nat):Int)=z3m S.length (fun i=>((z9K (z2t d m n S) S.length i:Nat):Int)) 0 (i+1):=by
      rw[←hL];exact z8I (f:=fun i=>((z9K (z2t d m n S) S.length i:Nat):Int)) (z:=0) hi
     simp only[z3v]
     rw[if_neg (by rw[z0a];omega),hv,zow (by omega),Z0,hcl,hset,z0H (by omega),z0a,z1h]
     by_cases h:(z1h (z2t d m n S) i).any (z2t d m n S i)=true
     · obtain⟨x,hx,hpx⟩:=Yk.1 h
       have:=Yy ⟨x,hx,hpx⟩
       rw[if_pos h,if_neg (by omega)]
     · have e2:(z1h (z2t d m n S) i).findIdx (z2t d m n S i)=(z1h (z2t d m n S) i).length:=List.findIdx_eq_length.2 fun x hx=>by
        cases hh:z2t d m n S i x with
        |false=>rfl
        |true=>exact absurd (Yk.2 ⟨x,hx,hh⟩) h
       rw[if_neg h,if_pos (by omega),z0i _ (by unfold z1C;omega),z6u]
 · simp only[z3w]
   rw[ed,if_neg (by rw[z0a];omega),zdD]
   rfl
end
section
open Go
def z9t(g:Nat->Nat):Nat->Nat
 |0=>0
 |k+1=>max (z9t g k) (g k)
theorem zoN{g:Nat->Nat}{k j:Nat}(h:j<k):g j<=z9t g k:=by
 induction k with
 |zero=>omega
 |succ k ih=>
  simp only[z9t]
  by_cases e:j=k
  · subst e;omega
  · have:=ih (by omega);omega
theorem zcv{g:Nat->Nat}{k b:Nat}(h:∀j,j<k->g j<=b):z9t g k<=b:=by
 induction k with
 |zero=>simp[z9t]
 |succ k ih=>
  have:=ih fun j hj=>h j (by omega)
  have:=h k (by omega)
  simp only[z9t];omega
theorem zni{g g':Nat->Nat}{k:Nat}(h:∀j,j<k->g j=g' j):z9t g k=z9t g' k:=by
 induction k with
 |zero=>rfl
 |succ k ih=>simp only[z9t];rw[ih fun j hj=>h j (by omega),h k (by omega)]
def z6S(p:Nat->Bool):Nat->Nat
 |0=>0
 |k+1=>z6S p k+(if p k=true then 1 else 0)
theorem zpu(p:Nat->Bool)(k:Nat):z6S p k<=k:=by
 induction k with
 |zero=>simp[z6S]
 |succ k ih=>simp only[z6S];split<;>omega
theorem zpt{p q:Nat->Bool}{k:Nat}(h:∀j,j<k->p j=true->q j=true):z6S p k<=z6S q k:=by
 induction k with
 |zero=>simp[z6S]
 |succ k ih=>
  have:=ih fun j hj=>h j (by omega)
  have:=h k (by omega)
  simp only[z6S]
  by_cases h1:p k=true
  · grind
  · rw[if_neg h1];split<;>omega
theorem zj0{p q:Nat->Bool}{k i:Nat}(h:∀j,j<k->p j=true->q j=true)(hi:i<k)(hp:p i=false)(hq:q i=true):z6S p k<z6S q k:=by
 induction k with
 |zero=>omega
 |succ k ih=>
  simp only[z6S]
  by_cases e:i=k
  · subst e
    have:=zpt (p:=p) (q:=q) (k:=i) fun j hj=>h j (by omega)
    rw[hp,hq];simp;omega
  · grind
structure BelN(N:Nat)(b:Nat->Nat->Bool):Prop where
 refl:∀i,i<N->b i i=true
 trans:∀i j k,i<N->j<N->k<N->b i j=true->b j k=true->b i k=true
variable{d:DFA}{S:List Nat}{N i m n:Nat}{b:Nat->Nat->Bool}
def zjC(N:Nat)(b:Nat->Nat->Bool)(i:Nat):Nat:=z6S (fun j=>b j i) N
def sbN(b:Nat->Nat->Bool)(j i:Nat):Bool:=b j i&& !b i j
theorem zuG(hb:BelN N b){j:Nat}(hi:i<N)(hj:j<N)(h:sbN b j i=true):zjC N b j<zjC N b i:=by
 simp only[sbN,Z5,ZU] at h
 exact zj0 (fun k hk hkj=>hb.trans k j i hk hj hi hkj h.1) hi h.2 (hb.refl i hi)
def zES(N:Nat)(b:Nat->Nat->Bool)(z:Nat->Bool)(h:Nat->Nat):Prop:=∀i,i<N->h i=if z i=true then 0 else z9t (fun j=>if sbN b j i=true then h j+1 else 0) N
def zxm(N:Nat)(b:Nat->Nat->Bool)(z:Nat->Bool):Nat->Nat->Nat
 |0,_=>0
 |f+1,i=>if z i=true then 0 else z9t (fun j=>if sbN b j i=true then zxm N b z f j+1 else 0) N
def znw(N:Nat)(b:Nat->Nat->Bool)(z:Nat->Bool)(i:Nat):Nat:=zxm N b z N i
theorem ziU{N:Nat}{b:Nat->Nat->Bool}(hb:BelN N b)(z:Nat->Bool):∀f i,i<N->zjC N b i<=f->∀g,zjC N b i<=g->zxm N b z f i=zxm N b z g i
 |0,i,hi,hl,g,hg=>by
  exfalso
  have:=zj0 (p:=fun _=>false) (q:=fun j=>b j i) (k:=N) (i:=i) (fun j _ hf=>by simp at hf) hi rfl (hb.refl i hi)
  unfold zjC at hl;omega
 |f+1,i,hi,hl,0,hg=>by
  exfalso
  have:=zj0 (p:=fun _=>false) (q:=fun j=>b j i) (k:=N) (i:=i) (fun j _ hf=>by simp at hf) hi rfl (hb.refl i hi)
  unfold zjC at hg;omega
 |f+1,i,hi,hl,g+1,hg=>by
  simp only[zxm]
  split
  · rfl
  · refine zni fun j hj=> ?_
    by_cases hs:sbN b j i=true
    · have:=zuG hb hi hj hs
      rw[if_pos hs,if_pos hs,ziU hb z f j hj (by omega) g (by omega)]
    · rw[if_neg hs,if_neg hs]
theorem zhc(hb:BelN N b)(z:Nat->Bool):zES N b z (znw N b z):=fun i hi=>by
 have hl:zjC N b i<=N:=zpu _ _
 unfold znw
 rw[ziU hb z N i hi hl (N+1) (by omega)]
 rfl
theorem zyE(hb:BelN N b)(z:Nat->Bool)(hi:i<N):znw N b z i<=N:=by
 have:∀L i,i<N->zjC N b i<=L->znw N b z i<=L:=by
  intro L
  induction L with
  |zero=>
   intro i hi hl
   exfalso
   have:=zj0 (p:=fun _=>false) (q:=fun j=>b j i) (k:=N) (i:=i) (fun j _ hf=>by simp at hf) hi rfl (hb.refl i hi)
   unfold zjC at hl;omega
  |succ L ih=>
   intro i hi hl
   rw[zhc hb z i hi]
   split
   · omega
   · refine zcv fun j hj=> ?_
     by_cases hs:sbN b j i=true
     · have:=zuG hb hi hj hs
       have:=ih j hj (by omega)
       rw[if_pos hs];omega
     · rw[if_neg hs];omega
 exact this N i hi (zpu _ _)
theorem zhH(hd:DfaOk d m n)(hS:SetsP d m n S):BelN S.length (z7k d m n S) where
 refl i hi:=(z3f hd hS hi).2 (zdQ d m _)
 trans i j k hi hj hk h1 h2:=(z3f hd hS hk).2 (zdP hd ((z3f hd hS hj).1 h1) ((z3f hd hS hk).1 h2))
theorem zsN{s:Nat}(h:s<128):z7O (s:Int)=some ((szN s:Nat):Int):=by
 unfold z7O z5F
 rw[zDS (by omega)]
 have:z3G (s:Int)=some ((szN s:Nat):Int):=by
  unfold z3G
  rw[z0i _ (by omega),z0i _ (by omega),z0i _ (by omega),z0i _ (by omega),z0i _ (by omega),z0i _ (by omega)]
  congr 1
  revert s
  decide+kernel
 rw[this];rfl
def zad(S:List Nat)(i:Nat):Bool:=decide (szN (S.getD i 0)=1)
def z8n(d:DFA)(m n:Nat)(S:List Nat)(i:Nat):Nat:=znw S.length (z7k d m n S) (zad S) i
def zEw(d:DFA)(m n:Nat)(S:List Nat):List Int:=(List.range S.length).map fun i=>((z8n d m n S i:Nat):Int)
theorem zsh(N:Nat):toI (List.range N)=(List.range N).map fun i=>((i:Nat):Int):=rfl
theorem zr5(hl:S.length<4611686018427387904)(hi:i<S.length)(C O:List Int)(L:List Int)(hL:L.length=S.length)(h0:L.getD i 0=0):
 z0h (z2z (dgm d m n S) (i:Int) O) LFm (0,L)=z0c (((i+1:Nat):Int),L.set i ((zjC S.length (z7k d m n S) i:Nat):Int),O.set i (i:Int)):=by
 refine z0n (s:=((0:Int),L)) S.length (fun k=>((k:Int),L.set i ((z6S (fun j=>z7k d m n S j i) k:Nat):Int))) ?_ (by simp only[LFm];omega) (fun k hk=> ?_) ?_
 · refine XP rfl ?_
   show L=L.set i 0
   apply Ze (by simp)
   intro j h1 h2
   rw[Yi]
   by_cases e:i=j
   · grind
   · rw[if_neg e]
 · have hc:=zpu (fun j=>z7k d m n S j i) k
   have ed:(dgm d m n S).sets=toI S:=rfl
   have eb:(dgm d m n S).below=zxS d m n S:=rfl
   simp only[z2z]
   rw[ed,eb,if_pos (by rw[z0a];omega),zpK hk,Z0,z2S hi,Z0,z0H (by omega)]
   simp only[z6S]
   by_cases h:z7k d m n S k i=true
   · rw[if_pos h,if_pos h,zow (by omega),Z0,Z2,set_set,z0H (by omega)]
   · rw[if_neg h,if_neg h];rfl
 · have ed:(dgm d m n S).sets=toI S:=rfl
   simp only[z2z]
   rw[ed,if_neg (by rw[z0a];omega),z0H (by omega),Z2]
   rfl
theorem zuU(hd:DfaOk d m n)(hS:SetsP d m n S)(hl:S.length<100000)(k:Int)(hi:i<S.length){H:Nat->Nat}(h0:H i=0)(hlow:∀j,j<S.length->sbN (z7k d m n S) j i=true->H j=z8n d m n S j):
 z0h (z2s (dgm d m n S) (zvC d m n S) k (i:Int)) LFm (0,(List.range S.length).map fun j=>((H j:Nat):Int))=z0c (IntKind.i64.wrap (k+1),(List.range S.length).map fun j=>(((if j=i then z9t (fun j=>if sbN (z7k d m n S) j i=true then z8n d m n S j+1 else 0) S.length else H j):Nat):Int)):=by
 have he:=z8o hd hS
 have hb:=zhH hd hS
 have ed:(dgm d m n S).sets=toI S:=rfl
 have eb:(dgm d m n S).below=zxS d m n S:=rfl
 refine z0n (s:=((0:Int),(List.range S.length).map fun j=>((H j:Nat):Int))) S.length (fun q=>((q:Int),(List.range S.length).map fun j=>(((if j=i then z9t (fun j=>if sbN (z7k d m n S) j i=true then z8n d m n S j+1 else 0) q else H j):Nat):Int))) ?_ (by simp only[LFm];omega) (fun q hq=> ?_) ?_
 · refine XP rfl ?_
   refine ZB fun j hj=> ?_
   by_cases e:j=i
   · subst e;simp[z9t,h0]
   · rw[if_neg e]
 · have hle:=zyE hb (zad S) hq
   have hmx:z9t (fun j=>if sbN (z7k d m n S) j i=true then z8n d m n S j+1 else 0) q<=S.length+1:=zcv fun j hj=>by
    have:=zyE hb (zad S) (i:=j) (by omega)
    unfold z8n;split<;>omega
   have hse:z7k d m n S q i=true->(sbN (z7k d m n S) q i=true↔ ¬z9K (z2t d m n S) S.length q=z9K (z2t d m n S) S.length i):=fun h=>by
    rw[zhv he hq hi]
    simp only[sbN,z2t,h,YO,ZU,XG]
   have hfin:∀v:Nat,v=(if sbN (z7k d m n S) q i=true then max (z9t (fun j=>if sbN (z7k d m n S) j i=true then z8n d m n S j+1 else 0) q) (z8n d m n S q+1) else z9t (fun j=>if sbN (z7k d m n S) j i=true then z8n d m n S j+1 else 0) q)->((List.range S.length).map fun j=>(((if j=i then v else H j):Nat):Int))=(List.range S.length).map fun j=>(((if j=i then z9t (fun j=>if sbN (z7k d m n S) j i=true then z8n d m n S j+1 else 0) (q+1) else H j):Nat):Int):=fun v hv=>by
    refine ZB fun j hj=> ?_
    by_cases e:j=i
    · rw[if_pos e,if_pos e,hv]
      simp only[z9t]
      by_cases h:sbN (z7k d m n S) q i=true
      · rw[if_pos h,if_pos h]
      · grind
    · rw[if_neg e,if_neg e]
   simp only[z2s]
   rw[ed,eb,if_pos (by rw[z0a];omega),zpK hq,Z0,z2S hi,Z0,z0H (by omega)]
   by_cases h:z7k d m n S q i=true
   · rw[if_pos h,zvC,z2S hq,Z0,z2S hi,Z0]
     by_cases hc:z9K (z2t d m n S) S.length q=z9K (z2t d m n S) S.length i
     · grind
     · have hs:=(hse h).2 hc
       have hqi:q≠i:=fun e=>by subst e;exact hc rfl
       rw[if_neg (by omega),z2S hi,Z0,z2S hq,Z0,if_pos rfl,if_neg hqi,hlow q hq hs,z0H (by unfold z8n;omega),Z2]
       have hset:∀v:Nat,((List.range S.length).map fun j=>(((if j=i then z9t (fun j=>if sbN (z7k d m n S) j i=true then z8n d m n S j+1 else 0) q else H j):Nat):Int)).set i (v:Int)=(List.range S.length).map fun j=>(((if j=i then v else H j):Nat):Int):=fun v=>by
        apply Ze (by simp)
        intro j h1 h2
        simp only[Yi,ZF,ZP]
        by_cases e:i=j
        · grind
        · grind
       by_cases hlt:((z9t (fun j=>if sbN (z7k d m n S) j i=true then z8n d m n S j+1 else 0) q:Nat):Int)<((z8n d m n S q+1:Nat):Int)
       · rw[if_pos hlt,hset,hfin _ (by rw[if_pos hs];omega)]
       · rw[if_neg hlt,hset,hfin _ (by rw[if_pos hs];omega)]
   · have hs:¬sbN (z7k d m n S) q i=true:=fun hh=>by simp only[sbN,Z5] at hh;exact h hh.1
     rw[if_neg h,hfin _ (by rw[if_neg hs])]
 · simp only[z2s]
   rw[ed,if_neg (by rw[z0a];omega)]
theorem zrn(hd:DfaOk d m n)(hn:n<=7)(hS:SetsP d m n S):z3h (dgm d m n S) (zvC d m n S)=some (zEw d m n S):=by
 have h128:2^n<=128:=Zm (n:=2) (by omega) hn
 have hSl:=z2r hS.nd hS.lt
 have hb:=zhH hd hS
 have he:=z8o hd hS
 have ed:(dgm d m n S).sets=toI S:=rfl
 unfold z3h
 rw[ed,z0a,z0i _ (by unfold z0S;omega),Z2]
 have f1:List.replicate S.length (0:Int)=z3m S.length (fun i=>((zjC S.length (z7k d m n S) i:Nat):Int)) 0 0:=(zdE _ _ _).symm
 have f2:(List.replicate S.length (0:Int))=z3m S.length (fun i=>((i:Nat):Int)) 0 0:=(zdE _ _ _).symm
 conv=>lhs;arg 3;rw[show((0:Int),List.replicate S.length (0:Int),List.replicate S.length (0:Int))=((0:Int),z3m S.length (fun i=>((zjC S.length (z7k d m n S) i:Nat):Int)) 0 0,z3m S.length (fun i=>((i:Nat):Int)) 0 0) by rw[←f1,←f2]]
 refine z0n (s:=((0:Int),z3m S.length (fun i=>((zjC S.length (z7k d m n S) i:Nat):Int)) 0 0,z3m S.length (fun i=>((i:Nat):Int)) 0 0)) S.length (fun k=>((k:Int),z3m S.length (fun i=>((zjC S.length (z7k d m n S) i:Nat):Int)) 0 k,z3m S.length (fun i=>((i:Nat):Int)) 0 k)) rfl (by simp only[LFm];omega) (fun i hi=> ?_) ?_
 · simp only[z3u]
   rw[ed,if_pos (by rw[z0a];omega),zba hi,Z0,zr5 (by omega) hi [] _ _ (zfA _ _ _ _) (by simp[z3m,List.getD,hi])]
   have e1:=z8I (f:=fun i=>((zjC S.length (z7k d m n S) i:Nat):Int)) (z:=0) hi
   have e2:=z8I (f:=fun i=>((i:Nat):Int)) (z:=0) hi
   rw[e1,e2]
 · simp only[z3u]
   rw[ed,if_neg (by rw[z0a];omega),zdD,zdD]
   have hK:((List.range S.length).map fun i=>((zjC S.length (z7k d m n S) i:Nat):Int)).length=S.length:=by simp
   have hv:zFS ((List.range S.length).map fun i=>((zjC S.length (z7k d m n S) i:Nat):Int)) (toI (List.range S.length)):=fun x hx=>by
    simp only[toI,Zj,Zh] at hx
    obtain⟨i,hi,rfl⟩:=hx
    exact⟨by omega,by rw[hK];omega⟩
   obtain⟨O,hO,hs,hp⟩:=zsC hv (by rw[z0a,ZC];omega)
   rw[←zsh,hO,Z0,z0a,z0i _ (by unfold z0S;omega),Z2]
   have hOl:O.length=S.length:=by rw[hp.length_eq,z0a,ZC]
   have hOn:O.Nodup:=hp.nodup_iff.2 (by
    unfold toI
    exact Yt _ (fun a b h e=>h (by omega)) YG)
   have hmem:∀x,x∈O↔ ∃i,i<S.length/\x=(i:Int):=fun x=>by
    rw[hp.mem_iff];simp only[toI,Zj,Zh]
    constructor
    · grind
    · grind
   have hkv:∀i,i<S.length->kv ((List.range S.length).map fun i=>((zjC S.length (z7k d m n S) i:Nat):Int)) (i:Int)=((zjC S.length (z7k d m n S) i:Nat):Int):=fun i hi=>by
    simp[kv,List.getD,hi]
   congr 1
   have f3:List.replicate S.length (0:Int)=(List.range S.length).map fun(j:Nat)=>(((if(j:Int)∈O.take 0 then z8n d m n S j else 0):Nat):Int):=by
    apply Ze (by simp);intro i h1 h2;simp
   rw[f3]
   refine z0n (s:=((0:Int),(List.range S.length).map fun(j:Nat)=>(((if(j:Int)∈O.take 0 then z8n d m n S j else 0):Nat):Int))) S.length (fun k=>((k:Int),(List.range S.length).map fun(j:Nat)=>(((if(j:Int)∈O.take k then z8n d m n S j else 0):Nat):Int))) rfl (by simp only[LFm];omega) (fun k hk=> ?_) ?_
   · have hkO:k<O.length:=by omega
     obtain⟨i,hi,hOk⟩:=(hmem O[k]).1 (Zk hkO)
     have hnot:(i:Int)∉O.take k:=fun h=>by
      obtain⟨j,hj,hji⟩:=Zo h
      rw[Zr] at hj
      rw[Xx,←hOk] at hji
      have:=(XE hOn).1 hji
      omega
     have htake:∀j:Nat,(j:Int)∈O.take (k+1)↔(j=i∨(j:Int)∈O.take k):=fun j=>by
      rw[Zw hkO,Zf,Zi,hOk]
      constructor
      · grind
      · grind
     have hupd:((List.range S.length).map fun(j:Nat)=>(((if j=i then z8n d m n S i else if(j:Int)∈O.take k then z8n d m n S j else 0):Nat):Int))=(List.range S.length).map fun(j:Nat)=>(((if(j:Int)∈O.take (k+1) then z8n d m n S j else 0):Nat):Int):=by
      refine ZB fun j hj=> ?_
      by_cases e:j=i
      · grind
      · grind
     have hlt128:S.getD i 0<2^n:=hS.lt _ (z0e hi)
     simp only[z3b]
     rw[if_pos (by omega),z0A hkO,Z0,hOk,ed,z1o hi,Z0,zsN (by omega),Z0]
     have hok:=zhc hb (zad S) i hi
     by_cases hz:szN (S.getD i 0)=1
     · rw[if_pos (by omega),z0H (by omega)]
       have hh:z8n d m n S i=0:=by
        unfold z8n;rw[hok,if_pos (by simp only[zad,hz,decide_true])]
       refine congrArg z0c (XP rfl ?_)
       refine ZB fun j hj=> ?_
       by_cases e:j=i
       · grind
       · grind
     · rw[if_neg (by omega),zuU hd hS (by omega) (k:Int) hi (H:=fun(j:Nat)=>if(j:Int)∈O.take k then z8n d m n S j else 0) (if_neg hnot) (fun j hj hsb=> ?_),z0H (by omega)]
       · have hh:z9t (fun j=>if sbN (z7k d m n S) j i=true then z8n d m n S j+1 else 0) S.length=z8n d m n S i:=by
          have:z8n d m n S i=_:=hok
          rw[this,if_neg (by simp only[zad,hz,decide_false];simp)];rfl
         rw[hh,hupd]
       · have hl:=zuG hb hi hj hsb
         have hjO:(j:Int)∈O:=(hmem _).2 ⟨j,hj,rfl⟩
         obtain⟨p,hpO,hpj⟩:=Zo hjO
         refine if_pos ?_
         rcases Xd p k with h|h|h
         · rw[←hpj]
           exact List.mem_take_iff_getElem.2 ⟨p,by omega,rfl⟩
         · grind
         · have:=ZE.1 hs k p hkO hpO h
           rw[hOk,hpj,hkv i hi,hkv j hj] at this
           omega
   · simp only[z3b]
     rw[if_neg (by omega)]
     congr 2
     unfold zEw
     refine ZB fun j hj=> ?_
     rw[Yq (by omega),if_pos ((hmem _).2 ⟨j,Zh.1 hj,rfl⟩)]
end
section
open Go
variable{d:DFA}{S:List Nat}{c i m n:Nat}{α:Type}
def zxh(S:List Nat)(i j:Nat):Bool:= !decide (j=i)&&decide (S.getD j 0&&&S.getD i 0=S.getD j 0)
def zaO(S:List Nat)(i:Nat):List Nat:=(List.range S.length).filter (zxh S i)
def zqs(S:List Nat)(i j:Nat):Bool:=(zaO S i).all fun k=>decide (k=j)|| !decide (S.getD j 0&&&S.getD k 0=S.getD j 0)
def z7l(S:List Nat)(i:Nat):List Nat:=if szN (S.getD i 0)=1 then [] else(zaO S i).filter (zqs S i)
theorem zhp{p:α->Bool}{l:List α}{k:Nat}(h:k<l.length):(l.take (k+1)).filter p=(l.take k).filter p++(if p l[k]=true then [l[k]] else []):=by
 rw[Zw h,Xt,X3,XL]
theorem zdy{j:Nat}(h:j∈zaO S i):j<S.length:=Zh.1 (ZL.1 h).1
theorem zeJ(p:α->Bool)(l:List α):(l.filter p).length<=l.length:=ZI p l
theorem zwl(hn:n<=7)(hS:SetsP d m n S)(hi:i<S.length):z4e (dgm d m n S) (i:Int)=some (toI (z7l S i)):=by
 have h128:2^n<=128:=Zm (n:=2) (by omega) hn
 have hSl:=z2r hS.nd hS.lt
 have ed:(dgm d m n S).sets=toI S:=rfl
 have lt62:∀j,j<S.length->S.getD j 0<2^62:=fun j hj=>by have:=hS.lt _ (z0e hj);omega
 have hil:=hS.lt _ (z0e hi)
 unfold z4e z7l
 rw[ed,z1o hi,Z0,zsN (by omega),Z0]
 by_cases hz:szN (S.getD i 0)=1
 · rw[if_pos (by omega),if_pos hz];rfl
 rw[if_neg (by omega),if_neg hz]
 have hrl:(List.range S.length).length=S.length:=ZC
 refine z0n (s:=((0:Int),([]:List Int))) S.length (fun j=>((j:Int),toI (((List.range S.length).take j).filter (zxh S i)))) rfl (by simp only[LFm];omega) (fun j hj=> ?_) ?_
 · have hfl:(((List.range S.length).take j).filter (zxh S i)).length<=j:=ZO (zeJ _ _) (by rw[Zr];omega)
   have hst:=zhp (p:=zxh S i) (l:=List.range S.length) (k:=j) (by omega)
   rw[ZP] at hst
   simp only[z4j]
   rw[ed,if_pos (by rw[z0a];omega),z1o hj,Z0,z0H (by omega),hst]
   by_cases e:j=i
   · have:zxh S i j=false:=by unfold zxh;rw[decide_eq_true e];rfl
     rw[if_pos (by omega),this,if_neg (by simp),Yb]
   · rw[if_neg (by omega),z1o hi,Z0,zcF (lt62 i hi) (lt62 j hj),Z0]
     have:zxh S i j=decide (S.getD j 0&&&S.getD i 0=S.getD j 0):=by unfold zxh;rw[decide_eq_false e];rfl
     rw[this]
     by_cases h:decide (S.getD j 0&&&S.getD i 0=S.getD j 0)=true
     · rw[if_pos h,if_pos h,z0i _ (by unfold z1C;rw[z0a];omega),z6u]
     · grind
 · simp only[z4j]
   rw[ed,if_neg (by rw[z0a];omega),Yq (by omega)]
   congr 1
   have hil:(zaO S i).length<=S.length:=ZO (zeJ _ _) (by omega)
   show z0h (z2I (dgm d m n S) (toI (zaO S i))) LFm (0,[])=_
   refine z0n (s:=((0:Int),([]:List Int))) (zaO S i).length (fun q=>((q:Int),toI (((zaO S i).take q).filter (zqs S i)))) rfl (by simp only[LFm];omega) (fun q hq=> ?_) ?_
   · have hfl:(((zaO S i).take q).filter (zqs S i)).length<=q:=ZO (zeJ _ _) (by rw[Zr];omega)
     have hst:=zhp (p:=zqs S i) (l:=zaO S i) (k:=q) hq
     have hg:(zaO S i).getD q 0=(zaO S i)[q]:=by grind
     have hjl:(zaO S i)[q]<S.length:=zdy (Zk hq)
     simp only[z2I]
     rw[if_pos (by rw[z0a];omega),z1o hq,Z0,hg,hst]
     generalize (zaO S i)[q]=j at hjl
     rw[z4N (s:=(0:Int)) (zaO S i).length (fun k=>(k:Int)) (fun k=> !(decide ((zaO S i).getD k 0=j)|| !decide (S.getD j 0&&&S.getD ((zaO S i).getD k 0) 0=S.getD j 0))) (fun _=>z0c (((q+1:Nat):Int),toI (((zaO S i).take q).filter (zqs S i)))) (x:=z0c (((q+1:Nat):Int),toI (((zaO S i).take q).filter (zqs S i))++ [(j:Int)])) rfl (by simp only[LFm];omega)]
     · rw[zaA]
       simp only[X4]
       rw[zdd (fun k=>decide (k=j)|| !decide (S.getD j 0&&&S.getD k 0=S.getD j 0))]
       show(if zqs S i j=true then _ else _)=_
       by_cases h:zqs S i j=true
       · rw[if_pos h,if_pos h,z6u]
       · grind
     · intro k hk
       have hkl:(zaO S i).getD k 0<S.length:=zdy (z0e hk)
       simp only[z3O]
       rw[if_pos (by rw[z0a];omega),z1o hk,Z0]
       by_cases e:(zaO S i).getD k 0=j
       · rw[if_pos (by omega),decide_eq_true e,z0H (by omega)];rfl
       · rw[if_neg (by omega),decide_eq_false e,ed,z1o hkl,Z0,z1o hjl,Z0,zcF (lt62 _ hkl) (lt62 _ hjl),Z0,Xn,X4,z0H (by omega),z0H (by omega)]
     · simp only[z3O]
       rw[if_neg (by rw[z0a];omega),z0i _ (by unfold z1C;rw[z0a];omega),z0H (by omega)]
   · simp only[z2I]
     rw[if_neg (by rw[z0a];omega),Y9]
def z5w(d:DFA)(m n:Nat)(S:List Nat)(i:Nat):Nat:=(z6L d m n S).getD (z9K (z2t d m n S) S.length i) 0
def zaH(d:DFA)(m n:Nat)(S:List Nat)(i:Nat):ByteArray:=z6f (z0Z d m n (S.getD (z5w d m n S i) 0)) (S.getD i 0)
def zj5(d:DFA)(m n:Nat)(S:List Nat)(i:Nat):ByteArray:=z6f (z0Z d m n (S.getD i 0)) (S.getD (z5w d m n S i) 0)
def z4d(d:DFA)(m n:Nat)(S:List Nat):Imgs:=⟨toI S,zvC d m n S,zEw d m n S,(List.range S.length).map fun i=>toI (z7l S i),(List.range S.length).map (zaH d m n S),(List.range S.length).map (zj5 d m n S)⟩
theorem zny(hc:c<(z6L d m n S).length):(z6L d m n S).getD c 0<S.length:=zc9 _ _ _ (z0e hc)
theorem zmI(hd:DfaOk d m n)(hS:SetsP d m n S)(hSl:S.length<100000)(hc:c<(z6L d m n S).length)(q:List Int):
 z0h (z7w (toI S) (zvC d m n S,toI (z6L d m n S)) (c:Int) (q,zkB S (z0Z d m n (S.getD ((z6L d m n S).getD c 0) 0)))) LFm (0,(List.range S.length).map fun j=>if z9K (z2t d m n S) S.length j<c then zaH d m n S j else ByteArray.empty)=
  z0c (((c+1:Nat):Int),(List.range S.length).map fun j=>if z9K (z2t d m n S) S.length j<c+1 then zaH d m n S j else ByteArray.empty):=by
 have hcl:(z6L d m n S).length<=S.length:=z6o _ _
 refine z0n (s:=((0:Int),(List.range S.length).map fun j=>if z9K (z2t d m n S) S.length j<c then zaH d m n S j else ByteArray.empty)) S.length (fun k=>((k:Int),(List.range S.length).map fun j=>if z9K (z2t d m n S) S.length j<c∨(z9K (z2t d m n S) S.length j=c/\j<k) then zaH d m n S j else ByteArray.empty)) ?_ (by simp only[LFm];omega) (fun k hk=> ?_) ?_
 · grind
 · simp only[z7w]
   rw[if_pos (by rw[z0a];omega),zvC,z2S hk,Z0,z0H (by omega)]
   by_cases h:z9K (z2t d m n S) S.length k=c
   · have hw:z6f (z0Z d m n (S.getD ((z6L d m n S).getD c 0) 0)) (S.getD k 0)=zaH d m n S k:=by unfold zaH z5w;rw[h]
     rw[if_pos (by omega),zkB,z2S hk,Z0,hw,z2S hk,Z0,Z2]
     refine congrArg z0c (XP rfl ?_)
     apply Ze (by simp)
     intro j h1 h2
     simp only[Yi,ZF,ZP]
     by_cases e:k=j
     · grind
     · grind
   · grind
 · simp only[z7w]
   rw[if_neg (by rw[z0a];omega),z0H (by omega)]
   congr 3
   refine ZB fun j hj=> ?_
   have hj:=Zh.1 hj
   congr 1
   refine propext ⟨fun hh=> ?_,fun hh=> ?_⟩
   · rcases hh with hh|hh<;>omega
   · grind
theorem zDp(hd:DfaOk d m n)(hn:n<=7):z9f d=some (z4d d m n (z2d d m n),0):=by
 have h128:2^n<=128:=Zm (n:=2) (by omega) hn
 have hS:=z8r hd
 have hSl:=z2r hS.nd hS.lt
 have he:=z8o hd hS
 unfold z9f
 rw[zmK (zps hd (by omega)),zBS hd (by omega),Z0,if_pos rfl,zzU hd hn,Z0]
 generalize z2d d m n=S at hS hSl he
 have hcl:(z6L d m n S).length<=S.length:=z6o _ _
 rw[if_neg (by rw[z0a];omega),zrz hd (by omega) hS,Z0,zrD hd (by omega) hS,Z0]
 simp only
 rw[zrn hd hn hS,Z0,z0a,z0i _ (by unfold z0S;omega),z0i _ (by unfold z0S;omega),Z2]
 have f1:List.replicate S.length ([]:List Int)=z3m S.length (fun i=>toI (z7l S i)) [] 0:=(zdE _ _ _).symm
 have f2:List.replicate S.length (ByteArray.empty:ByteArray)=z3m S.length (zj5 d m n S) ByteArray.empty 0:=(zdE _ _ _).symm
 rw[f1,f2]
 refine z0n (s:=((0:Int),z3m S.length (fun i=>toI (z7l S i)) [] 0,z3m S.length (zj5 d m n S) ByteArray.empty 0)) S.length (fun k=>((k:Int),z3m S.length (fun i=>toI (z7l S i)) [] k,z3m S.length (zj5 d m n S) ByteArray.empty k)) rfl (by simp only[LFm];omega) (fun k hk=> ?_) ?_
 · obtain⟨c1,c2⟩:=zcH he hk
   have c1:z9K (z2t d m n S) S.length k<(z6L d m n S).length:=c1
   have hf:(z6L d m n S).getD (z9K (z2t d m n S) S.length k) 0<S.length:=zny c1
   simp only[z8F]
   rw[if_pos (by rw[z0a];omega),zwl hn hS hk,Z0,zba hk,Z0,show dgm d m n S=⟨toI S,zAN d m S,zxS d m n S⟩ from rfl,zgv hd (by omega) hS _ hk,Z0,zvC,z2S hk,Z0,z1o c1,Z0,show(zi0 S (z0Z d m n (S.getD k 0)),zkB S (z0Z d m n (S.getD k 0))).2=zkB S (z0Z d m n (S.getD k 0)) from rfl,zkB,z2S hf,Z0,zba hk,Z0,z0H (by omega),Z2]
   have e1:=z8I (f:=fun i=>toI (z7l S i)) (z:= []) hk
   have e2:=z8I (f:=zj5 d m n S) (z:=ByteArray.empty) hk
   have e3:z6f (z0Z d m n (S.getD k 0)) (S.getD ((z6L d m n S).getD (z9K (z2t d m n S) S.length k) 0) 0)=zj5 d m n S k:=rfl
   rw[e1,e3,e2]
 · simp only[z8F]
   rw[if_neg (by rw[z0a];omega),z0a,zdD,zdD,Z2]
   congr 1
   have f3:List.replicate S.length (ByteArray.empty:ByteArray)=(List.range S.length).map fun j=>if z9K (z2t d m n S) S.length j<0 then zaH d m n S j else ByteArray.empty:=by
    apply Ze (by simp);intro i h1 h2;simp
   rw[f3]
   refine z0n (s:=((0:Int),(List.range S.length).map fun j=>if z9K (z2t d m n S) S.length j<0 then zaH d m n S j else ByteArray.empty)) (z6L d m n S).length (fun c=>((c:Int),(List.range S.length).map fun j=>if z9K (z2t d m n S) S.length j<c then zaH d m n S j else ByteArray.empty)) rfl (by simp only[LFm];omega) (fun c hc=> ?_) ?_
   · have hf:=zny hc
     simp only[z8E]
     rw[if_pos (by rw[z0a];omega),z1o hc,Z0,show dgm d m n S=⟨toI S,zAN d m S,zxS d m n S⟩ from rfl,zgv hd (by omega) hS _ hf,Z0,zmI hd hS (by omega) hc]
   · simp only[z8E]
     rw[if_neg (by rw[z0a];omega)]
     have:((List.range S.length).map fun j=>if z9K (z2t d m n S) S.length j<(z6L d m n S).length then zaH d m n S j else ByteArray.empty)=(List.range S.length).map (zaH d m n S):=ZB fun j hj=>if_pos (zcH he (Zh.1 hj)).1
     rw[this];rfl
end
section
open Go
variable{d:DFA}{S:List Nat}{a i j k m n q s x:Nat}
theorem z9T(s:Nat):szN s=z6S (fun q=>s.testBit q) 7:=by
 simp only[szN,z6S,List.range,List.range.loop,List.countP_cons,List.countP_nil]
 omega
theorem zFQ(h:s<128)(hq:s.testBit q=true):q<7:=by
 rcases Yx q 7 with h'|h'
 · exact h'
 · have:s.testBit q=false:=YQ (Zy h (Zm (n:=2) (by omega) h'))
   rw[this] at hq;cases hq
theorem zgm{b:Nat}(h:z6T a b):szN a<=szN b:=by
 rw[z9T,z9T];exact zpt fun q _ hq=>z2e.1 h q hq
theorem zwo{b:Nat}(hb:b<128)(h:z6T a b)(hne:a≠b):szN a<szN b:=by
 have:∃q,b.testBit q=true/\a.testBit q=false:=by
  refine Y7 fun hn=>hne (zaY h (z2e.2 fun q hq=> ?_))
  cases ha:a.testBit q with
  |true=>rfl
  |false=>exact absurd ⟨q,hq,ha⟩ hn
 obtain⟨q,h1,h2⟩:=this
 rw[z9T,z9T]
 exact zj0 (fun q _ hq=>z2e.1 h q hq) (zFQ hb h1) h2 h1
theorem zso{b:Nat}(hb:b<128)(h:z6T a b)(he:szN b<=szN a):a=b:=by
 refine Y7 fun hne=> ?_
 have:=zwo hb h hne
 omega
theorem zsn{p:Nat}(hx:x<128)(hp:p<7):szN (x|||2^p)<=szN x+1:=by
 revert p;revert x;decide+kernel
theorem zE0{y:Nat}(hx:x<128)(hy:y<128):szN (x|||y)<=szN x+szN y:=by
 rw[z9T,z9T,z9T]
 have:∀k,z6S (fun q=>(x|||y).testBit q) k<=z6S (fun q=>x.testBit q) k+z6S (fun q=>y.testBit q) k:=by
  intro k
  induction k with
  |zero=>simp[z6S]
  |succ k ih=>
   simp only[z6S,YH]
   simp only[YH] at ih
   have:∀a b:Bool,(if(a||b)=true then 1 else 0)<=(if a=true then 1 else 0)+(if b=true then 1 else 0):=by decide
   have:=this (x.testBit k) (y.testBit k)
   omega
 exact this 7
theorem zEp(hd:DfaOk d m n){y:Nat}(ha:a<m):mvN d (x|||y) a=mvN d x a|||mvN d y a:=by
 apply ZZ
 intro p
 rw[Yg,YH,Y2,zau hd ha,zau hd ha,zau hd ha]
 constructor
 · grind
 · grind
abbrev zzP(m:Nat)(w:List UInt8):Prop:=∀c∈w,97<=c.toNat/\c.toNat<97+m
theorem znp{c:UInt8}{w:List UInt8}(h:zzP m (c::w)):zzP m w/\c.toNat-97<m:=⟨fun c' hc'=>h c' (Zp _ hc'),by have:=h c (Zz ..);omega⟩
theorem zt2{d:DFA}{m n:Nat}(hd:DfaOk d m n):∀ {w:List UInt8} {x y:Nat},zzP m w->z4i d (x|||y) w=z4i d x w|||z4i d y w
 | [],x,y,_=>rfl
 |c::w,x,y,hw=>by
  obtain⟨h1,h2⟩:=znp hw
  simp only[z4i]
  rw[zEp hd h2,zt2 hd h1]
theorem zEo(hd:DfaOk d m n)(hn:n<=7)(hs:s<2^n)(ha:a<m):szN (mvN d s a)<=szN s:=by
 have h128:2^n<=128:=Zm (n:=2) (by omega) hn
 have key:∀q,q<=n->szN (zjp d.next s a q)<=z6S (fun q=>s.testBit q) q:=by
  intro q
  induction q with
  |zero=>intro _;exact(by decide:szN 0<=0)
  |succ q ih=>
   intro hq
   have hlt:=zgN hd (s:=s) ha q (by omega)
   obtain⟨h1,h2,e,h3,h4⟩:=zcq hd (q:=q) (by omega) ha
   simp only[zjp,z6S]
   by_cases hb:s.testBit q=true
   · rw[if_pos hb,if_pos hb]
     have:=zsn (x:=zjp d.next s a q) (p:=((d.next.getD q []).getD a 0).toNat) (by omega) (by rw[e];omega)
     have:=ih (by omega)
     omega
   · grind
 have h1:=key n (Z7 _)
 have h2:z6S (fun q=>s.testBit q) n<=szN s:=by
  rw[z9T]
  have:∀j,z6S (fun q=>s.testBit q) n<=z6S (fun q=>s.testBit q) (n+j):=by
   intro j
   induction j with
   |zero=>exact Z7 _
   |succ j ih=>rw[←Xz];simp only[z6S];omega
  have:=this (7-n)
  rwa [show n+(7-n)=7 by omega] at this
 unfold mvN
 rw[hd.nl]
 omega
theorem zco{d:DFA}{m n:Nat}(hd:DfaOk d m n)(hn:n<=7):∀ {w:List UInt8} {s:Nat},s<2^n->zzP m w->szN (z4i d s w)<=szN s
 | [],s,_,_=>Z7 _
 |c::w,s,hs,hw=>by
  obtain⟨h1,h2⟩:=znp hw
  simp only[z4i]
  exact ZO (zco hd hn (zc6 hd h2) h1) (zEo hd hn hs h2)
theorem zBM(hd:DfaOk d m n)(hs:s<2^n)(h0:s≠0)(ha:a<m):mvN d s a≠0:=by
 obtain⟨q,hq⟩:∃q,s.testBit q=true:=YB h0
 have hqn:q<n:=by
  rcases Yx q n with h'|h'
  · exact h'
  · have:s.testBit q=false:=YQ (Zy hs (Zm (n:=2) (by omega) h'))
    rw[this] at hq;cases hq
 intro h
 have:=(zau hd ha (s:=s) ((d.next.getD q []).getD a 0).toNat).2 ⟨q,hqn,hq,rfl⟩
 rw[h,Xj] at this
 cases this
theorem zbB(hd:DfaOk d m n)(hx:x∈z2d d m n):x≠0:=by
 have hp:=Yu n
 have h2n:2<=2^n:=by have:=Zm (n:=2) (by omega) hd.n1;omega
 have hf:2^n-1<2^n:=by omega
 have hi:=z6h hd hf
 obtain⟨_,h2,_⟩:=z7U hi.nd n
 have hpm:=z9U (zc2 (z0Z d m n (2^n-1)).1 n)
 rcases(h2 x).1 (hpm.mem_iff.1 hx) with h|⟨i,_,rfl⟩
 · obtain⟨i,hil,rfl⟩:=Zo h
   obtain⟨_,o2,o3⟩:=hi.ok i hil
   rw[List.getD,List.getD,Z1 hil,Z4] at o3
   rw[←o3]
   have:∀ {w:List UInt8} {s:Nat},s<2^n->s≠0->zzP m w->z4i d s w≠0:=by
    intro w
    induction w with
    |nil=>intro s _ h0 _;exact h0
    |cons c w ih=>
     intro s hs h0 hw
     obtain⟨q1,q2⟩:=znp hw
     exact ih (zc6 hd q2) (zBM hd hs h0 q2) q1
   exact this hf (by omega) o2
 · grind
theorem z4a:j∈zaO S i↔j<S.length/\j≠i/\z6T (S.getD j 0) (S.getD i 0):=by
 unfold zaO zxh z6T
 rw[ZL,Zh]
 simp
theorem zjd:zqs S i j=true↔ ∀k,k∈zaO S i->k≠j->¬z6T (S.getD j 0) (S.getD k 0):=by
 unfold zqs z6T
 rw[Zn]
 constructor
 · grind
 · grind
theorem zjc(hz:szN (S.getD i 0)≠1):j∈z7l S i↔j∈zaO S i/\zqs S i j=true:=by
 unfold z7l
 rw[if_neg hz,ZL]
theorem z5a(h:j∈z7l S i):j∈zaO S i/\zqs S i j=true/\szN (S.getD i 0)≠1:=by
 by_cases hz:szN (S.getD i 0)=1
 · unfold z7l at h;rw[if_pos hz] at h;simp at h
 · exact⟨((zjc hz).1 h).1,((zjc hz).1 h).2,hz⟩
theorem zd2(S:List Nat)(i:Nat):(z7l S i).Nodup:=by
 unfold z7l
 split
 · simp
 · exact YD _ (YD _ YG)
theorem zuQ(hn:n<=7)(hS:SetsP d m n S)(hi:i<S.length)(hz:szN (S.getD i 0)≠1):∀f j,8-szN (S.getD j 0)<=f->j∈zaO S i->∃t,t∈z7l S i/\z6T (S.getD j 0) (S.getD t 0):=by
 have h128:2^n<=128:=Zm (n:=2) (by omega) hn
 have h8:∀s,szN s<=7:=fun s=>by rw[z9T];exact zpu _ _
 intro f
 induction f with
 |zero=>intro j hf _;have:=h8 (S.getD j 0);omega
 |succ f ih=>
  intro j hf hj
  by_cases hp:zqs S i j=true
  · exact⟨j,(zjc hz).2 ⟨hj,hp⟩,z8y _⟩
  · have:∃k,k∈zaO S i/\k≠j/\z6T (S.getD j 0) (S.getD k 0):=by
     refine Y7 fun hn'=>hp (zjd.2 fun k hk hne hs=>hn' ⟨k,hk,hne,hs⟩)
    obtain⟨k,hk,hne,hs⟩:=this
    have hkl:=(z4a.1 hk).1
    have hjl:=(z4a.1 hj).1
    have hlt:=zwo (a:=S.getD j 0) (b:=S.getD k 0) (by have:=hS.lt _ (z0e hkl);omega) hs fun e=>hne (z5I hS.nd hkl hjl e.symm)
    obtain⟨t,h1,h2⟩:=ih k (by omega) hk
    exact⟨t,h1,zd3 hs h2⟩
theorem zgl(hd:DfaOk d m n)(hn:n<=7)(hS:SetsP d m n S)(hi:i<S.length)(hz:szN (S.getD i 0)≠1)(hq:(S.getD i 0).testBit q=true):∃t,t∈z7l S i/\(S.getD t 0).testBit q=true:=by
 have h128:2^n<=128:=Zm (n:=2) (by omega) hn
 have hil:=hS.lt _ (z0e hi)
 have hqn:q<n:=by
  rcases Yx q n with h'|h'
  · exact h'
  · have:(S.getD i 0).testBit q=false:=YQ (Zy hil (Zm (n:=2) (by omega) h'))
    rw[this] at hq;cases hq
 have h1:=hS.one q hqn
 have hg:=z2k h1
 have hsz:szN (2^q)=1:=by
  have:∀q,q<7->szN (2^q)=1:=by decide+kernel
  exact this q (by omega)
 have hinn:S.idxOf (2^q)∈zaO S i:=z4a.2 ⟨z5d h1,fun e=>by rw[←e,hg] at hz;exact hz hsz,by
  rw[hg]
  refine z2e.2 fun p hp=> ?_
  rw[Y8,decide_eq_true_iff] at hp
  rw[←hp];exact hq⟩
 obtain⟨t,h2,h3⟩:=zuQ hn hS hi hz _ _ (Z7 _) hinn
 refine⟨t,h2,z2e.1 h3 q ?_⟩
 rw[hg,Y8];simp
theorem zgk(hn:n<=7)(hS:SetsP d m n S)(hi:i<S.length)(h:k∈z7l S i):i<k/\k<S.length/\z6T (S.getD k 0) (S.getD i 0)/\S.getD k 0≠S.getD i 0:=by
 have h128:2^n<=128:=Zm (n:=2) (by omega) hn
 obtain⟨h1,_,_⟩:=z5a h
 obtain⟨hk,hne,hs⟩:=z4a.1 h1
 have hx:S.getD k 0≠S.getD i 0:=fun e=>hne (z5I hS.nd hk hi e)
 refine⟨?_,hk,hs,hx⟩
 have hlt:=zwo (by have:=hS.lt _ (z0e hi);omega) hs hx
 rcases Xd i k with h'|h'|h'
 · exact h'
 · exact absurd h'.symm hne
 · have:=ZE.1 hS.srt k i hk hi h'
   rw[zki] at this
   rw[List.getD,List.getD,Z1 hk,Z1 hi,Z4,Z4] at hlt
   omega
theorem zp5{N:Nat}{b:Nat->Nat->Bool}(hb:BelN N b){z:Nat->Bool}(hz:∀i k,i<N->k<N->z k=true->b i k=true->z i=true)(hi:i<N)(hk:k<N)(h:b i k=true):znw N b z i<=znw N b z k:=by
 rw[zhc hb z i hi]
 split
 · omega
 · rename_i hzi
   have hzk:¬z k=true:=fun hh=>hzi (hz i k hi hk hh h)
   rw[zhc hb z k hk,if_neg hzk]
   refine zcv fun j hj=> ?_
   by_cases hs:sbN b j i=true
   · rw[if_pos hs]
     have hsk:sbN b j k=true:=by
      simp only[sbN,Z5,ZU] at hs⊢
      refine⟨hb.trans j i k hj hi hk hs.1 h,?_⟩
      cases hkj:b k j with
      |false=>rfl
      |true=>
       have:=hb.trans i k j hi hk hj h hkj
       rw[this] at hs;cases hs.2
     have:=zoN (g:=fun j=>if sbN b j k=true then znw N b z j+1 else 0) hj
     simp only[hsk,if_true] at this
     exact this
   · rw[if_neg hs];omega
theorem zmu(hd:DfaOk d m n)(hn:n<=7)(hi:i<(z2d d m n).length)(hk:k<(z2d d m n).length)(hz:zad (z2d d m n) k=true)(h:z7k d m n (z2d d m n) i k=true):zad (z2d d m n) i=true:=by
 have hS:=z8r hd
 have h128:2^n<=128:=Zm (n:=2) (by omega) hn
 obtain⟨w,h1,h2⟩:=(z3f hd hS hk).1 h
 have hkl:=hS.lt _ (z0e hk)
 simp only[zad,decide_eq_true_eq] at hz⊢
 have a1:=zgm h2
 have a2:=zco hd hn hkl h1
 have h0:=zbB hd (z0e hi)
 have:1<=szN ((z2d d m n).getD i 0):=by
  obtain⟨q,hq⟩:=YB h0
  have hil:=hS.lt _ (z0e hi)
  have:=zj0 (p:=fun _=>false) (q:=fun q=>((z2d d m n).getD i 0).testBit q) (k:=7) (i:=q) (fun j _ hf=>by simp at hf) (zFQ (by omega) hq) rfl hq
  rw[z9T];omega
 omega
end
section
open Go
theorem zwn{A K:Nat}(h:z6T A K):szN A+szN (K^^^A)=szN K:=by
 rw[z9T,z9T,z9T]
 have hb:=z2e.1 h
 have:∀k,z6S (fun q=>A.testBit q) k+z6S (fun q=>(K^^^A).testBit q) k=z6S (fun q=>K.testBit q) k:=by
  intro k
  induction k with
  |zero=>simp[z6S]
  |succ k ih=>
   have h1:=hb k
   simp only[z6S]
   have h2:(K^^^A).testBit k=(K.testBit k^^A.testBit k):=Nat.testBit_xor ..
   have h3:∀a b c:Bool,(a=true->b=true)->c=(b^^a)->(if a=true then 1 else 0)+(if c=true then 1 else 0)=(if b=true then 1 else 0):=by decide
   have:=h3 _ _ _ h1 h2
   omega
 exact this 7
theorem zyv{A K:Nat}(h:z6T A K):A|||(K^^^A)=K:=by
 apply ZZ
 intro q
 have h1:=z2e.1 h q
 rw[YH,Nat.testBit_xor]
 revert h1
 cases A.testBit q<;>cases K.testBit q<;>simp
theorem zss{A K:Nat}(h:z6T A K):A<=K:=by
 unfold z6T at h;rw[←h];exact Nat.and_le_right
theorem zwr(A B:Nat):z6T A (A|||B):=z2e.2 fun q hq=>by rw[YH,hq];rfl
theorem zon(A B:Nat):z6T B (A|||B):=z2e.2 fun q hq=>by grind
theorem zlG{A B:Nat}(h:z6T A B):A|||B=B:=zaY (z2e.2 fun q hq=>by
 rw[YH,Y2] at hq
 exact hq.elim (z2e.1 h q) id) (zon A B)
theorem zBc{A B K:Nat}(h1:z6T A K)(h2:z6T B K):z6T (A|||B) K:=z2e.2 fun q hq=>by
 rw[YH,Y2] at hq
 exact hq.elim (z2e.1 h1 q) (z2e.1 h2 q)
structure Lead(d:DFA)(m n K I:Nat)(w:List UInt8):Prop where
 hw:zzP m w
 hK:K<2^n
 hI:I<2^n
 run:z4i d K w=I
 sz:szN I=szN K
variable{v w:List UInt8}{I K i k:Nat}{α β:Type}{l:List α}{f:α->β}
theorem znt{d:DFA}{m n:Nat}(hd:DfaOk d m n)(hn:n<=7)(h:Lead d m n K I w){A:Nat}(hA:z6T A K):szN (z4i d A w)=szN A:=by
 have h128:2^n<=128:=Zm (n:=2) (by omega) hn
 have hAK:=zss hA
 have hK:=h.hK
 have hB:z6T (K^^^A) K:=by
  have:=zyv hA
  rw[←this];rw[this];rw[←this]
  exact(by rw[this];exact(by
   refine z2e.2 fun q hq=> ?_
   rw[Nat.testBit_xor] at hq
   have h1:=z2e.1 hA q
   revert hq h1
   cases A.testBit q<;>cases K.testBit q<;>simp))
 have hBl:=zss hB
 have e1:=zt2 hd (x:=A) (y:=K^^^A) h.hw
 rw[zyv hA,h.run] at e1
 have l1:=zgy hd (s:=A) (w:=w) (by omega) h.hw
 have l2:=zgy hd (s:=K^^^A) (w:=w) (by omega) h.hw
 have s1:=zE0 (x:=z4i d A w) (y:=z4i d (K^^^A) w) (by omega) (by omega)
 rw[←e1,h.sz] at s1
 have s2:=zco hd hn (s:=K^^^A) (by omega) h.hw
 have s3:=zco hd hn (s:=A) (by omega) h.hw
 have s4:=zwn hA
 omega
theorem zjD{d:DFA}{m n:Nat}(hd:DfaOk d m n)(hn:n<=7)(h:Lead d m n K I w){A B:Nat}(hA:z6T A K)(hB:z6T B K)(hs:z6T (z4i d A w) (z4i d B w)):z6T A B:=by
 have h128:2^n<=128:=Zm (n:=2) (by omega) hn
 have hK:=h.hK
 have hAB:=zBc hA hB
 have hl:=zss hAB
 have e1:=znt hd hn h hAB
 rw[zt2 hd h.hw,zlG hs,znt hd hn h hB] at e1
 have:=zso (a:=B) (b:=A|||B) (by omega) (zon A B) (by omega)
 rw[this]
 exact zwr A B
theorem zbK{d:DFA}{m n:Nat}(hd:DfaOk d m n)(hn:n<=7)(h:Lead d m n K I w){A B:Nat}(hA:z6T A K)(hB:z6T B K)(he:z4i d A w=z4i d B w):A=B:=
 zaY (zjD hd hn h hA hB (by rw[he];exact z8y _)) (zjD hd hn h hB hA (by rw[he];exact z8y _))
theorem zom{r:List β}(hl:(l.map f).Nodup)(hs:∀x∈l.map f,x∈r)(hle:r.length<=l.length){u:β}(hu:u∈r):u∈l.map f:=by
 refine Y7 fun hn=> ?_
 have:=z7u (l:=u::l.map f) (r:=r) (YE.2 ⟨hn,hl⟩) fun x hx=>by grind
 rw[Zs,Z8] at this
 omega
theorem z4K(hl:l.Nodup)(hf:∀x∈l,∀y∈l,f x=f y->x=y):(l.map f).Nodup:=by
 induction l with
 |nil=>simp
 |cons a l ih=>
  rw[YE] at hl
  rw[Zq,YE]
  refine⟨fun h=> ?_,ih hl.2 fun x hx y hy=>hf x (Zp _ hx) y (Zp _ hy)⟩
  obtain⟨x,hx,he⟩:=Zj.1 h
  have:=hf x (Zp _ hx) a (Zz ..) he
  exact hl.1 (this▸hx)
section
variable {d:DFA} {m n:Nat} {S:List Nat} (hd:DfaOk d m n) (hn:n<=7) (hS:SetsP d m n S)
include hd hn hS
theorem zh5(hk:k<S.length)(hi:i<S.length)(h:Lead d m n (S.getD k 0) (S.getD i 0) w):
 (∀j∈zaO S k,S.idxOf (z4i d (S.getD j 0) w)∈zaO S i/\S.getD (S.idxOf (z4i d (S.getD j 0) w)) 0=z4i d (S.getD j 0) w)/\((zaO S k).map fun j=>S.idxOf (z4i d (S.getD j 0) w)).Nodup:=by
 have h128:2^n<=128:=Zm (n:=2) (by omega) hn
 have hmem:∀j,j<S.length->z4i d (S.getD j 0) w∈S:=fun j hj=>ziF hS h.hw (z0e hj)
 refine⟨fun j hj=> ?_,z4K (YD _ YG) fun x hx y hy e=> ?_⟩
 · obtain⟨h1,h2,h3⟩:=z4a.1 hj
   have hg:=z2k (hmem j h1)
   refine⟨z4a.2 ⟨z5d (hmem j h1),fun e=> ?_,?_⟩,hg⟩
   · rw[e] at hg
     have s1:=znt hd hn h h3
     rw[←hg,h.sz] at s1
     have:=zso (a:=S.getD j 0) (b:=S.getD k 0) (by have:=h.hK;omega) h3 (by omega)
     exact h2 (z5I hS.nd h1 hk this)
   · rw[hg,←h.run]
     exact zji hd h.hw h3
 · obtain⟨h1,h2,h3⟩:=z4a.1 hx
   obtain⟨k1,k2,k3⟩:=z4a.1 hy
   have e2:z4i d (S.getD x 0) w=z4i d (S.getD y 0) w:=by grind
   exact z5I hS.nd h1 k1 (zbK hd hn h h3 k3 e2)
theorem zA3(hk:k<S.length)(hi:i<S.length)(h:Lead d m n (S.getD k 0) (S.getD i 0) w):(zaO S k).length<=(zaO S i).length:=by
 obtain⟨h1,h2⟩:=zh5 hd hn hS hk hi h
 have:=z7u h2 (r:=zaO S i) fun x hx=>by grind
 simpa using this
theorem zel(hk:k<S.length)(hi:i<S.length)(h:Lead d m n (S.getD k 0) (S.getD i 0) w)(h':Lead d m n (S.getD i 0) (S.getD k 0) v){t:Nat}(ht:t∈z7l S k):S.idxOf (z4i d (S.getD t 0) w)∈z7l S i:=by
 obtain⟨h1,h2⟩:=zh5 hd hn hS hk hi h
 obtain⟨t1,t2,t3⟩:=z5a ht
 have hz:szN (S.getD i 0)≠1:=by rw[h.sz];exact t3
 refine(zjc hz).2 ⟨(h1 t t1).1,zjd.2 fun u hu hne hs=> ?_⟩
 have hsur:=zom (l:=zaO S k) (r:=zaO S i) h2 (fun x hx=>by
  obtain⟨j,hj,rfl⟩:=Zj.1 hx
  exact(h1 j hj).1) (zA3 hd hn hS hi hk h') hu
 obtain⟨j,hj,rfl⟩:=Zj.1 hsur
 rw[(h1 t t1).2,(h1 j hj).2] at hs
 have hsub:=zjD hd hn h (z4a.1 t1).2.2 (z4a.1 hj).2.2 hs
 exact zjd.1 t2 j hj (fun e=>hne (by rw[e])) hsub
theorem zsk(hk:k<S.length)(hi:i<S.length)(h:Lead d m n (S.getD k 0) (S.getD i 0) w)(h':Lead d m n (S.getD i 0) (S.getD k 0) v):(z7l S k).length=(z7l S i).length:=by
 have one:∀ {k i:Nat} (hk:k<S.length) (hi:i<S.length) {w v:List UInt8} (h:Lead d m n (S.getD k 0) (S.getD i 0) w) (h':Lead d m n (S.getD i 0) (S.getD k 0) v),(z7l S k).length<=(z7l S i).length:=fun {k i} hk hi {w v} h h'=>by
  obtain⟨h1,h2⟩:=zh5 hd hn hS hk hi h
  have hnd:((z7l S k).map fun j=>S.idxOf (z4i d (S.getD j 0) w)).Nodup:=z4K (zd2 S k) fun x hx y hy e=>by
   obtain⟨x1,_,_⟩:=z5a hx
   obtain⟨y1,_,_⟩:=z5a hy
   have e2:z4i d (S.getD x 0) w=z4i d (S.getD y 0) w:=by grind
   exact z5I hS.nd (z4a.1 x1).1 (z4a.1 y1).1 (zbK hd hn h (z4a.1 x1).2.2 (z4a.1 y1).2.2 e2)
  have:=z7u hnd (r:=z7l S i) fun x hx=>by
   obtain⟨j,hj,rfl⟩:=Zj.1 hx
   exact zel hd hn hS hk hi h h' hj
  simpa using this
 exact Nat.le_antisymm (one hk hi h h') (one hi hk h' h)
theorem zk1(hk:k<S.length)(hi:i<S.length)(he:z2t d m n S i k=true):szN (S.getD i 0)=szN (S.getD k 0)/\S.getD i 0∈(z0Z d m n (S.getD k 0)).1:=by
 have h128:2^n<=128:=Zm (n:=2) (by omega) hn
 simp only[z2t,Z5] at he
 obtain⟨w,w1,w2⟩:=(z3f hd hS hk).1 he.1
 obtain⟨v,v1,v2⟩:=(z3f hd hS hi).1 he.2
 have hkl:=hS.lt _ (z0e hk)
 have hil:=hS.lt _ (z0e hi)
 have a1:=zgm w2
 have a2:=zco hd hn hkl w1
 have a3:=zgm v2
 have a4:=zco hd hn hil v1
 refine⟨by omega,?_⟩
 have hrl:=zgy hd hkl w1
 have:=zso (by omega) w2 (by omega)
 rw[this]
 exact zgD hd hkl w1 (zbE hd hkl)
omit hn hS in
theorem zfL{s x:Nat}(hs:s<2^n)(hx:x∈(z0Z d m n s).1):zzP m (z6f (z0Z d m n s) x).data.toList/\(z6f (z0Z d m n s) x).size<=2^n/\z4i d s (z6f (z0Z d m n s) x).data.toList=x:=by
 have hi:=z6h hd hs
 have hl:=z2r hi.nd hi.lt
 have hlt:=z5d hx
 obtain⟨o1,o2,o3⟩:=hi.ok _ hlt
 unfold z6f
 exact⟨o2,by omega,by rw[o3,z2k hx]⟩
end
end
section
open Go
variable{i:Nat}
theorem zdC{N:Nat}{e:Nat->Nat->Bool}(he:EqvN N e)(hi:i<N):
 (z9K e N i<(z1h e i).length/\(z1h e i).getD (z9K e N i) 0=(z1h e N).getD (z9K e N i) 0/\z1h e (i+1)=z1h e i)∨
 (z9K e N i=(z1h e i).length/\(z1h e N).getD (z9K e N i) 0=i/\z1h e (i+1)=z1h e i++ [i]):=by
 have hc:=zyL he hi
 by_cases h:(z1h e i).any (e i)=true
 · left
   obtain⟨x,hx,hp⟩:=Yk.1 h
   have hlt:z9K e N i<(z1h e i).length:=by grind
   refine⟨hlt,?_,by rw[z1h,if_pos h]⟩
   obtain⟨R,hR⟩:=zeH e (i:=i) N (by omega)
   rw[hR,List.getD,List.getD,ZK hlt]
 · right
   have hlt:z9K e N i=(z1h e i).length:=by grind
   refine⟨hlt,?_,by rw[z1h,if_neg h]⟩
   obtain⟨R,hR⟩:=zeH e (i:=i+1) N (by omega)
   rw[hR,z1h,if_neg h,hlt,List.getD,Zu,Yc (Z7 _),Nat.sub_self]
   rfl
section
variable {d:DFA} {m n:Nat} {S:List Nat} (hd:DfaOk d m n) (hn:n<=7) (hS:SetsP d m n S)
include hd hn hS
theorem zm4(hi:i<S.length):z5w d m n S i<=i:=by
 have _u:=hn
 rcases zdC (z8o hd hS) hi with⟨h1,h2,_⟩|⟨h1,h2,_⟩
 · have:=zc9 (z2t d m n S) i _ (z0e h1)
   rw[h2] at this
   exact Nat.le_of_lt this
 · exact Nat.le_of_eq h2
theorem znz(hi:i<S.length):z2t d m n S i (z5w d m n S i)=true:=by
 have _u:=hn
 exact(zcH (z8o hd hS) hi).2
end
end
section
open Go
theorem z9V{d:DFA}{m n K I J:Nat}{u v:List UInt8}(h1:Lead d m n K I u)(h2:Lead d m n I J v):Lead d m n K J (u++v) where
 hw c hc:=(Zf.1 hc).elim (h1.hw c) (h2.hw c)
 hK:=h1.hK
 hI:=h2.hI
 run:=by rw[z5D,h1.run,h2.run]
 sz:=h2.sz.trans h1.sz
def z1E(S:List Nat)(k:Nat):List Nat:=(z7l S k).map fun t=>S.getD t 0
def z2y(d:DFA)(w:List UInt8)(T:List Nat):List Nat:=T.map fun t=>T.idxOf (z4i d t w)
theorem zar(d:DFA)(w:List UInt8)(T:List Nat):(z2y d w T).length=T.length:=by simp[z2y]
def clN(d:DFA)(m n:Nat)(S:List Nat)(i:Nat):Nat:=z9K (z2t d m n S) S.length i
def z4E(d:DFA)(S:List Nat)(i a:Nat):Nat:=S.idxOf (mvN d (S.getD i 0) a)
def hwN(d:DFA)(m n:Nat)(S:List Nat)(i a:Nat):ByteArray:=zaH d m n S i++zoU a++zj5 d m n S (z4E d S i a)
section
variable {d:DFA} {m n:Nat} {S:List Nat} (hd:DfaOk d m n) (hn:n<=7) (hS:SetsP d m n S)
include hd hn hS
theorem z8i{k:Nat}(hk:k<S.length):(z1E S k).Nodup/\ ∀t∈z1E S k,t∈S/\z6T t (S.getD k 0)/\t<2^n:=by
 have _u:=hd
 have hin:∀x∈z7l S k,x<S.length:=fun x hx=>zdy (z5a hx).1
 refine⟨z4K (zd2 S k) fun x hx y hy e=>z5I hS.nd (hin x hx) (hin y hy) e,fun t ht=> ?_⟩
 obtain⟨x,hx,rfl⟩:=Zj.1 ht
 obtain⟨h1,h2,h3,_⟩:=zgk hn hS hk hx
 exact⟨z0e h2,h3,hS.lt _ (z0e h2)⟩
theorem zmS{k:Nat}(hk:k<S.length){w:List UInt8}(h:Lead d m n (S.getD k 0) (S.getD k 0) w):∀t∈z1E S k,z4i d t w∈z1E S k:=fun t ht=>by
 obtain⟨x,hx,rfl⟩:=Zj.1 ht
 have hm:=zel hd hn hS hk hk h h hx
 have hr:=ziF hS h.hw (z0e (zdy (z5a hx).1):S.getD x 0∈S)
 exact Zj.2 ⟨_,hm,z2k hr⟩
theorem zbG{k:Nat}(hk:k<S.length){w:List UInt8}(h:Lead d m n (S.getD k 0) (S.getD k 0) w):(z2y d w (z1E S k)).Nodup/\(∀p∈z2y d w (z1E S k),p<(z1E S k).length)/\ ∀i,i<(z1E S k).length->(z1E S k).getD ((z2y d w (z1E S k)).getD i 0) 0=z4i d ((z1E S k).getD i 0) w:=by
 obtain⟨hnd,hf⟩:=z8i hd hn hS hk
 have hr:=zmS hd hn hS hk h
 refine⟨z4K hnd fun x hx y hy e=> ?_,fun p hp=> ?_,fun i hi=> ?_⟩
 · have e2:z4i d x w=z4i d y w:=by
    rw[←z2k (hr x hx),←z2k (hr y hy),e]
   exact zbK hd hn h (hf x hx).2.1 (hf y hy).2.1 e2
 · obtain⟨x,hx,rfl⟩:=Zj.1 hp
   exact z5d (hr x hx)
 · have e:(z2y d w (z1E S k)).getD i 0=(z1E S k).idxOf (z4i d ((z1E S k).getD i 0) w):=by
    simp[z2y,List.getD,hi]
   rw[e,z2k (hr _ (z0e hi))]
theorem z9w{i:Nat}(hi:i<S.length):Lead d m n (S.getD (z5w d m n S i) 0) (S.getD i 0) (zaH d m n S i).data.toList/\(zaH d m n S i).size<=2^n:=by
 have hk:z5w d m n S i<S.length:=by have:=zm4 hd hn hS hi;omega
 obtain⟨h1,h2⟩:=zk1 hd hn hS hk hi (znz hd hn hS hi)
 have hlk:=hS.lt _ (z0e hk)
 obtain⟨w1,w2,w3⟩:=zfL hd hlk h2
 exact⟨⟨w1,hlk,hS.lt _ (z0e hi),w3,h1⟩,w2⟩
theorem zbV{i:Nat}(hi:i<S.length):Lead d m n (S.getD i 0) (S.getD (z5w d m n S i) 0) (zj5 d m n S i).data.toList/\(zj5 d m n S i).size<=2^n:=by
 have hk:z5w d m n S i<S.length:=by have:=zm4 hd hn hS hi;omega
 have he:=znz hd hn hS hi
 have he':z2t d m n S (z5w d m n S i) i=true:=by
  simp only[z2t,Z5] at he⊢;exact he.symm
 obtain⟨h1,h2⟩:=zk1 hd hn hS hi hk he'
 have hli:=hS.lt _ (z0e hi)
 obtain⟨w1,w2,w3⟩:=zfL hd hli h2
 exact⟨⟨w1,hli,hS.lt _ (z0e hk),w3,h1⟩,w2⟩
theorem za1{i a:Nat}(hi:i<S.length)(ha:a<m):z4E d S i a<S.length/\S.getD (z4E d S i a) 0=mvN d (S.getD i 0) a:=by
 have _u:=hd
 have _v:=hn
 have:=hS.cl _ (z0e hi) a ha
 exact⟨z5d this,z2k this⟩
theorem zmm{i:Nat}(hi:i<S.length):clN d m n S i<(z6L d m n S).length/\(z6L d m n S).getD (clN d m n S i) 0=z5w d m n S i:=by
 have _u:=hn
 exact⟨(zcH (z8o hd hS) hi).1,rfl⟩
theorem znv{i a:Nat}(hi:i<S.length)(ha:a<m)(hc:clN d m n S (z4E d S i a)=clN d m n S i):Lead d m n (S.getD (z5w d m n S i) 0) (S.getD (z5w d m n S i) 0) (hwN d m n S i a).data.toList/\(hwN d m n S i a).size<=2*2^n+1:=by
 obtain⟨j1,j2⟩:=za1 hd hn hS hi ha
 obtain⟨l1,s1⟩:=z9w hd hn hS hi
 obtain⟨l2,s2⟩:=zbV hd hn hS j1
 have hf:z5w d m n S (z4E d S i a)=z5w d m n S i:=by
  unfold z5w;unfold clN at hc;rw[hc]
 rw[hf] at l2
 have h26:(UInt8.ofNat (97+a)).toNat=97+a:=z6V (by have:=hd.m6;omega)
 have l3:Lead d m n (S.getD i 0) (S.getD (z4E d S i a) 0) (zoU a).data.toList:=by
  refine⟨fun c hc=> ?_,l1.hI,hS.lt _ (z0e j1),?_,?_⟩
  · rw[z9a,Zi] at hc
    subst hc;omega
  · rw[z9a,j2,z4i,z4i,h26,Y1]
  · have:=l1.sz;have:=l2.sz;omega
 have l4:=z9V (z9V l1 l3) l2
 refine⟨?_,?_⟩
 · unfold hwN;rw[z9C,z9C];exact l4
 · unfold hwN;rw[zfH,zfH,z8k];omega
end
abbrev HS:=List ByteArray×List (List Nat)
def zes(d:DFA)(m n:Nat)(S:List Nat)(T:List Nat)(i:Nat)(st:HS)(a:Nat):HS:=
 if clN d m n S (z4E d S i a)=clN d m n S i then
  (if z2y d (hwN d m n S i a).data.toList T=List.range T.length∨z2y d (hwN d m n S i a).data.toList T∈st.2 then st else(st.1++ [hwN d m n S i a],st.2++ [z2y d (hwN d m n S i a).data.toList T]))
 else st
def zks(d:DFA)(m n:Nat)(S:List Nat)(T:List Nat)(i:Nat)(st:HS)(a:Nat):HS:=(List.range a).foldl (zes d m n S T i) st
def zkn(d:DFA)(m n:Nat)(S:List Nat)(T:List Nat)(c k:Nat):HS:=(List.range k).foldl (fun st i=>if clN d m n S i=c then zks d m n S T i st m else st) ([],[])
theorem zd9(d:DFA)(m n:Nat)(S T:List Nat)(i:Nat)(st:HS)(a:Nat):zks d m n S T i st (a+1)=zes d m n S T i (zks d m n S T i st a) a:=by
 unfold zks;rw[Yz,YM];rfl
theorem zkm(d:DFA)(m n:Nat)(S T:List Nat)(c k:Nat):zkn d m n S T c (k+1)=if clN d m n S k=c then zks d m n S T k (zkn d m n S T c k) m else zkn d m n S T c k:=by
 unfold zkn;rw[Yz,YM];rfl
def z1j(d:DFA)(m n:Nat)(S:List Nat)(c:Nat):Nat:=(z6L d m n S).getD c 0
structure HInv(d:DFA)(m n:Nat)(S:List Nat)(c:Nat)(B:Nat)(st:HS):Prop where
 len:st.1.length=st.2.length
 bd:st.1.length<=B
 ok:∀j,j<st.1.length->∃w:ByteArray,st.1.getD j ByteArray.empty=w/\Lead d m n (S.getD (z1j d m n S c) 0) (S.getD (z1j d m n S c) 0) w.data.toList/\w.size<=2*2^n+1/\st.2.getD j []=z2y d w.data.toList (z1E S (z1j d m n S c))
section
variable {d:DFA} {m n:Nat} {S:List Nat} (hd:DfaOk d m n) (hn:n<=7) (hS:SetsP d m n S)
include hd hn hS
theorem zz7{c i a B:Nat}{st:HS}(h:HInv d m n S c B st)(hi:i<S.length)(ha:a<m)(hc:clN d m n S i=c):HInv d m n S c (B+1) (zes d m n S (z1E S (z1j d m n S c)) i st a):=by
 have h1:HInv d m n S c (B+1) st:=⟨h.len,by have:=h.bd;omega,h.ok⟩
 unfold zes
 split
 · rename_i hj
   split
   · exact h1
   · obtain⟨l1,l2⟩:=znv hd hn hS hi ha hj
     have hf:z1j d m n S c=z5w d m n S i:=by unfold z1j;rw[←hc];exact(zmm hd hn hS hi).2
     rw[←hf] at l1
     refine⟨by simp[h.len],by have:=h.bd;simp;omega,fun j hj=> ?_⟩
     rw[Zb,ZD] at hj
     rcases Yx j st.1.length with h3|h3
     · rw[z5Z _ h3,z5Z _ (by rw[←h.len];exact h3)]
       exact h.ok j h3
     · have e:j=st.1.length:=by omega
       rw[z9h e,z9h (by rw[←h.len];exact e)]
       exact⟨_,rfl,l1,l2,rfl⟩
 · exact h1
theorem zoz{c i B:Nat}{st:HS}(h:HInv d m n S c B st)(hi:i<S.length)(hc:clN d m n S i=c):∀a,a<=m->HInv d m n S c (B+a) (zks d m n S (z1E S (z1j d m n S c)) i st a)
 |0,_=>h
 |a+1,ha=>by
  rw[zd9]
  exact zz7 hd hn hS (zoz h hi hc a (by omega)) hi (by omega) hc
theorem zw0{c:Nat}:∀k,k<=S.length->HInv d m n S c (k*m) (zkn d m n S (z1E S (z1j d m n S c)) c k)
 |0,_=>⟨rfl,by simp[zkn],fun j hj=>by simp[zkn] at hj⟩
 |k+1,hk=>by
  have ih:=zw0 (c:=c) k (by omega)
  rw[zkm]
  have e:(k+1)*m=k*m+m:=by rw[Yl];omega
  split
  · rename_i hc
    rw[e];exact zoz hd hn hS ih (by omega) hc m (Z7 _)
  · exact⟨ih.len,by have:=ih.bd;omega,ih.ok⟩
end
end
section
open Go
theorem zb8{κ ν:Type}[DecidableEq κ](k q:κ)(v:ν):∀m:List (κ×ν),z7G q (z8p k v m)=if k=q then some v else z7G q m
 | []=>rfl
 |(a,u)::r=>by
  simp only[z8p]
  by_cases h:a=k
  · subst h
    rw[if_pos rfl]
    simp only[z7G]
    by_cases h2:a=q
    · rw[if_pos h2,if_pos h2]
    · rw[if_neg h2,if_neg h2,if_neg h2]
  · rw[if_neg h]
    simp only[z7G,zb8 k q v r]
    by_cases h2:a=q
    · rw[if_pos h2,if_pos h2,if_neg (fun e=>h (h2.trans e.symm))]
    · rw[if_neg h2,if_neg h2]
def zha(S:List Nat):Nat->List (Int×Int)
 |0=> []
 |k+1=>z8p ((S.getD k 0:Nat):Int) (k:Int) (zha S k)
theorem zfy{S:List Nat}(hS:S.Nodup){j:Nat}:∀k,k<=S.length->j<k->z7G ((S.getD j 0:Nat):Int) (zha S k)=some (j:Int)
 |k+1,hk,hj=>by
  simp only[zha]
  rw[zb8]
  by_cases e:j=k
  · subst e;rw[if_pos rfl]
  · rw[if_neg (fun h=>e (z5I hS (by omega) (by omega) (by omega))),zfy hS k (by omega) (by omega)]
theorem ztq{d:DFA}{w:List UInt8}{T:List Nat}{k:Nat}(h:k<T.length):(z2y d w T).getD k 0=T.idxOf (z4i d (T.getD k 0) w):=by
 simp[z2y,List.getD,h]
theorem z9S{l:List Nat}{k:Nat}(h:k<l.length):l.take (k+1)=l.take k++ [l.getD k 0]:=by
 rw[Zw h,List.getD,Z1 h,Z4]
section
variable {d:DFA} {m n:Nat} {S:List Nat} (hd:DfaOk d m n) (hn:n<=7) (hS:SetsP d m n S)
include hd hn hS
theorem z2c{c:Nat}(hc:c<(z6L d m n S).length):clN d m n S (z1j d m n S c)=c/\z1j d m n S c<S.length:=by
 have _u:=hn
 have he:=z8o hd hS
 have hk:z1j d m n S c<S.length:=zny hc
 obtain⟨h1,h2⟩:=zcH he hk
 refine⟨zjT he (zb9 he _ (Z7 _)) (fun f hf=>zc9 _ _ f hf) hk h1 hc h2 (he.refl _ hk),hk⟩
end
end
section
open Go
def leH(H:Nat->Nat)(a b:Nat):Prop:=H b<H a∨(H a=H b/\a<=b)
abbrev zAE(H:Nat->Nat)(l:List Nat):Prop:=l.Pairwise (leH H)
end
section
open Go
def hL(N:Nat)(h:Nat->Nat):List Int:=(List.range N).map fun i=>((h i:Nat):Int)
theorem zp4{N:Nat}{b:Nat->Nat->Bool}(hb:BelN N b){z:Nat->Bool}{i j:Nat}(hi:i<N)(hj:j<N)(hz:z i=false)(hs:sbN b j i=true):znw N b z j<znw N b z i:=by
 rw[zhc hb z i hi,hz]
 have:=zoN (g:=fun j=>if sbN b j i=true then znw N b z j+1 else 0) hj
 simp only[hs,if_true] at this
 simp only[ZV,if_false]
 omega
section
variable {d:DFA} {m n:Nat} {S:List Nat} (hd:DfaOk d m n) (hn:n<=7) (hS:SetsP d m n S) (hpos:∀x∈S,x≠0)
include hd hn hS hpos
end
end
section
open Go
def hC(d:DFA)(m n:Nat)(S:List Nat)(c:Nat):Nat:=z8n d m n S (z1j d m n S c)
def zaC(d:DFA)(m n:Nat)(S:List Nat)(k:Nat):List Nat:=(List.range (z1h (z2t d m n S) k).length).filter fun c=>decide (0<hC d m n S c)
def zhR(d:DFA)(m n:Nat)(S:List Nat):Prop:=∀i,i<S.length->z8n d m n S i=z8n d m n S (z5w d m n S i)
theorem zdA{d:DFA}{m n:Nat}(hd:DfaOk d m n)(hn:n<=7):zhR d m n (z2d d m n):=fun i hi=>by
 have hS:=z8r hd
 have hb:=zhH hd hS
 have hbot:∀i k,i<(z2d d m n).length->k<(z2d d m n).length->zad (z2d d m n) k=true->z7k d m n (z2d d m n) i k=true->zad (z2d d m n) i=true:=fun i k hi hk hz h=>zmu hd hn hi hk hz h
 have hf:=zm4 hd hn hS hi
 have c2:=znz hd hn hS hi
 simp only[z2t,Z5] at c2
 exact Nat.le_antisymm (zp5 hb hbot hi (by omega) c2.1) (zp5 hb hbot (by omega) hi c2.2)
section
variable {d:DFA} {m n:Nat} {S:List Nat} (hd:DfaOk d m n) (hn:n<=7) (hS:SetsP d m n S) (hH:zhR d m n S)
include hd hn hS hH
end
end
section
open Go
def z9g(d:DFA)(m n:Nat)(S:List Nat)(c:Nat):Hol:=⟨((S.getD (z1j d m n S c) 0:Nat):Int),toI (z1E S (z1j d m n S c)),(zkn d m n S (z1E S (z1j d m n S c)) c S.length).1,(zkn d m n S (z1E S (z1j d m n S c)) c S.length).2.map toI⟩
theorem zqK{N k:Nat}(h:k<N):(List.range N).getD k 0=k:=by simp[List.getD,h]
theorem zei{S:List Nat}{k:Nat}:(z1E S k).length=(z7l S k).length:=by simp[z1E]
section
variable {d:DFA} {m n:Nat} {S:List Nat} (hd:DfaOk d m n) (hn:n<=7) (hS:SetsP d m n S)
include hd hn hS
theorem zmT{k:Nat}(hk:k<S.length):(z1E S k).length<=128:=by
 have h128:2^n<=128:=Zm (n:=2) (by omega) hn
 obtain⟨h1,h2⟩:=z8i hd hn hS hk
 have:=z2r h1 fun t ht=>(h2 t ht).2.2
 omega
end
end
section
open Go
theorem zp3{d:DFA}{m n:Nat}{S:List Nat}{c B:Nat}{st:HS}(h:HInv d m n S c B st):∀y∈st.2,y.length=(z1E S (z1j d m n S c)).length:=fun y hy=>by
 obtain⟨j,hj,rfl⟩:=Zo hy
 obtain⟨w,_,_,_,e⟩:=h.ok j (by rw[h.len];exact hj)
 rw[List.getD,Z1 hj,Z4] at e
 rw[e,zar]
theorem zdz{d:DFA}{m n:Nat}{S:List Nat}{c B:Nat}{st:HS}(h:HInv d m n S c B st){j:Nat}(hj:j<st.1.length):Lead d m n (S.getD (z1j d m n S c) 0) (S.getD (z1j d m n S c) 0) (st.1.getD j ByteArray.empty).data.toList/\(st.1.getD j ByteArray.empty).size<=2*2^n+1/\st.2.getD j []=z2y d (st.1.getD j ByteArray.empty).data.toList (z1E S (z1j d m n S c)):=by
 obtain⟨w,e1,e2,e3,e4⟩:=h.ok j hj
 rw[e1];exact⟨e2,e3,e4⟩
section
variable {d:DFA} {m n:Nat} {S:List Nat} (hd:DfaOk d m n) (hn:n<=7) (hS:SetsP d m n S)
include hd hn hS
end
end
section
open Go
variable{c i:Nat}
def zcL(d:DFA)(m n:Nat)(S:List Nat)(c k:Nat):List Nat:=(List.range k).filter fun j=>decide (clN d m n S j=c)
def zgO(d:DFA)(m n:Nat)(S:List Nat)(k:Nat):List (List Int):=(List.range (z1h (z2t d m n S) k).length).map fun c=>toI (zcL d m n S c k)
theorem zgP(d:DFA)(m n:Nat)(S:List Nat)(c k:Nat):zcL d m n S c (k+1)=if clN d m n S k=c then zcL d m n S c k++ [k] else zcL d m n S c k:=by
 unfold zcL
 rw[Yz,Xt,X3,XL]
 by_cases h:clN d m n S k=c
 · grind
 · grind
section
variable {d:DFA} {m n:Nat} {S:List Nat} (hd:DfaOk d m n) (hn:n<=7) (hS:SetsP d m n S)
include hd hn hS
theorem zEK(hi:i<S.length){j:Nat}(hj:j<i):clN d m n S j<(z1h (z2t d m n S) i).length:=by
 have _u:=hn
 have he:=z8o hd hS
 obtain⟨R,hR⟩:=zeH (z2t d m n S) (i:=j+1) i (by omega)
 have hl:(z1h (z2t d m n S) i).length=(z1h (z2t d m n S) (j+1)).length+R.length:=by rw[hR,Zb]
 rcases zdC he (show j<S.length by omega) with⟨h1,_,h3⟩|⟨h1,_,h3⟩
 · rw[h3] at hl
   unfold clN;omega
 · rw[h3,Zb,ZD] at hl
   unfold clN;omega
theorem zwX(hi:i<S.length):zcL d m n S (z1h (z2t d m n S) i).length i= []:=by
 unfold zcL
 refine List.filter_eq_nil_iff.2 fun j hj=> ?_
 have:=zEK hd hn hS hi (Zh.1 hj)
 simp only[decide_eq_true_eq]
 omega
theorem zwW(hi:i<S.length)(hSl:S.length<=1000):z4w (z4d d m n S) ((i:Int),zgO d m n S i)=z0c (((i+1:Nat):Int),zgO d m n S (i+1)):=by
 have he:=z8o hd hS
 have l2:(z4d d m n S).class_.length=S.length:=by simp[z4d,zvC]
 have hcat:atI (z4d d m n S).class_ (i:Int)=some ((clN d m n S i:Nat):Int):=z2S hi
 have hml:(zgO d m n S i).length=(z1h (z2t d m n S) i).length:=by simp[zgO]
 have hfl:=z6o (z2t d m n S) i
 have hcl:∀c,(toI (zcL d m n S c i)).length<=i:=fun c=>by
  rw[z0a];unfold zcL
  exact ZO (ZI _ _) (by rw[ZC];omega)
 simp only[z4w]
 rw[l2,if_pos (by omega),hcat,Z0]
 rcases zdC he hi with⟨h1,_,h3⟩|⟨h1,_,h3⟩
 · have h1':clN d m n S i<(z1h (z2t d m n S) i).length:=h1
   have hc:=hcl (clN d m n S i)
   have hat:atI (zgO d m n S i) ((clN d m n S i:Nat):Int)=some (toI (zcL d m n S (clN d m n S i) i)):=z2S h1'
   rw[if_neg (by omega),hat,Z0,z0i _ (by unfold z1C;omega),z0H (by omega),Z2]
   congr 2
   refine Ze (by simp[zgO,h3]) fun c c1 c2=> ?_
   have hc':c<(z1h (z2t d m n S) i).length:=by simpa[zgO] using c1
   rw[Yi]
   simp only[zgO,ZF,ZP]
   rw[zgP]
   by_cases e:clN d m n S i=c
   · rw[if_pos e,if_pos e,z6u,e]
   · rw[if_neg e,if_neg e]
 · have h1':clN d m n S i=(z1h (z2t d m n S) i).length:=h1
   have hat:atI (zgO d m n S i++ [[]]) ((clN d m n S i:Nat):Int)=some []:=at0 (zgO d m n S i) [] [] (by omega)
   rw[if_pos (by omega),z0i _ (by unfold z1C;omega),hat,Z0,z0i _ (by unfold z1C;simp),z0H (by omega),Z2,Ya,zzq (zgO d m n S i) [] _ [] (by omega)]
   congr 2
   have hlen:(z1h (z2t d m n S) (i+1)).length=(z1h (z2t d m n S) i).length+1:=by grind
   show zgO d m n S i++ [[((i:Nat):Int)]]=zgO d m n S (i+1)
   unfold zgO
   rw[hlen,Yz,Y0,Zq,Yr]
   congr 1
   · refine ZB fun c hc=> ?_
     have:=Zh.1 hc
     rw[zgP,if_neg (by omega)]
   · rw[zgP,if_pos h1',zwX hd hn hS hi,Ya];rfl
theorem zwY(hc:c<(z6L d m n S).length):∃R,zcL d m n S c S.length=z1j d m n S c::R:=by
 obtain⟨h1,h2⟩:=z2c hd hn hS hc
 have hh:(zcL d m n S c S.length).head?=some (z1j d m n S c):=by
  unfold zcL
  rw[List.head?_filter,YN]
  refine⟨by simpa using h1,Zh.2 h2,fun j hj=> ?_⟩
  simp only[ZU,decide_eq_false_iff_not]
  intro e
  have:=zm4 hd hn hS (i:=j) (by omega)
  have e3:z1j d m n S c=z5w d m n S j:=by unfold z1j;rw[←e];rfl
  omega
 cases h:zcL d m n S c S.length with
 |nil=>rw[h] at hh;cases hh
 |cons x R=>
  rw[h] at hh
  exact⟨R,by rw[YU hh]⟩
theorem zoM(hc:c<(z6L d m n S).length):atI (zgO d m n S S.length) (c:Int)=some (toI (zcL d m n S c S.length))/\atI (toI (zcL d m n S c S.length)) 0=some ((z1j d m n S c:Nat):Int):=by
 obtain⟨R,hR⟩:=zwY hd hn hS hc
 refine⟨z2S hc,?_⟩
 rw[hR]
 exact at0 [] _ _ (i:=0) rfl
theorem znO(hSl:S.length<=1000):∃O,z5Q (z4d d m n S)=some (toI O,zgO d m n S S.length)/\zAE (hC d m n S) O/\O.Perm (zaC d m n S S.length):=by
 have he:=z8o hd hS
 have l2:(z4d d m n S).class_.length=S.length:=by simp[z4d,zvC]
 have hhat:∀i,i<S.length->atI (z4d d m n S).height (i:Int)=some ((z8n d m n S i:Nat):Int):=fun i hi=>z2S hi
 have hml:(zgO d m n S S.length).length=(z6L d m n S).length:=by simp[zgO,z6L]
 have hfl:(z6L d m n S).length<=S.length:=z6o (z2t d m n S) S.length
 have hko:∀c,c<(z6L d m n S).length->zzY (zgO d m n S S.length) (z4d d m n S).height (c:Int)=some ((hC d m n S c:Nat):Int):=fun c hc=>by
  obtain⟨m1,m2⟩:=zoM hd hn hS hc
  unfold zzY
  rw[m1,Z0,m2,Z0,hhat _ (z2c hd hn hS hc).2];rfl
 have hout:∀c∈zaC d m n S S.length,c<(z6L d m n S).length:=fun c hc=>Zh.1 (ZL.1 hc).1
 have hol:(zaC d m n S S.length).length<=S.length:=by
  unfold zaC
  exact ZO (ZI _ _) (by rw[ZC];exact hfl)
 have hasc:(toI (zaC d m n S S.length)).Pairwise (·< ·):=by
  unfold toI zaC
  exact Yt _ (fun a b (h:a<b)=>by omega) (YD _ XH)
 obtain⟨Z,e,z1,z2⟩:=zmV (K:=zAQ (z4d d m n S).sets (z4d d m n S).class_ (z4d d m n S).height (z4d d m n S).tiles (z4d d m n S).words (z4d d m n S).back (zgO d m n S S.length)) (l:=toI (zaC d m n S S.length))
  (fun x hx=>by
    obtain⟨c,hc,rfl⟩:=Zj.1 hx
    have:=hout c hc
    exact⟨by omega,by omega,by rw[hko c this];rfl⟩) hasc (by rw[z0a];omega)
 have hZ:∃O,Z=toI O/\O.Perm (zaC d m n S S.length):=by
  refine⟨Z.map Int.toNat,?_,?_⟩
  · unfold toI
    rw[Yd]
    refine(XZ Z).symm.trans (ZB fun x hx=> ?_)
    obtain⟨c,hc,rfl⟩:=Zj.1 (z2.mem_iff.1 hx)
    simp
  · have:=z2.map Int.toNat
    refine this.trans ?_
    unfold toI
    rw[Yd]
    have:(Int.toNat∘fun x:Nat=>(x:Int))=id:=by funext x;simp
    rw[this,YX]
 obtain⟨O,rfl,hO⟩:=hZ
 refine⟨O,?_,?_,hO⟩
 · unfold z5Q
   refine z0n (s:=((0:Int),([]:List (List Int)))) S.length (fun k=>((k:Int),zgO d m n S k)) rfl (by simp only[LFm];omega) (fun i hi=>zwW hd hn hS hi hSl) ?_
   simp only[z4w]
   rw[l2,if_neg (by omega)]
   congr 1
   refine z0n (s:=((0:Int),([]:List Int))) (z6L d m n S).length (fun k=>((k:Int),toI ((List.range k).filter fun c=>decide (0<hC d m n S c)))) rfl (by simp only[LFm];omega) (fun c hc=> ?_) ?_
   · obtain⟨m1,m2⟩:=zoM hd hn hS hc
     have hq:(toI ((List.range c).filter fun c=>decide (0<hC d m n S c))).length<=c:=by
      rw[z0a]
      exact ZO (ZI _ _) (by rw[ZC];omega)
     simp only[z5j]
     rw[hml,if_pos (by omega),m1,Z0,m2,Z0,hhat _ (z2c hd hn hS hc).2,Z0,z0H (by omega),Yz,Xt,X3,XL]
     by_cases h:0<hC d m n S c
     · have h':0<z8n d m n S (z1j d m n S c):=h
       rw[if_pos (by omega),z0i _ (by unfold z1C;omega),if_pos (by simpa using h),z6u]
     · have h':¬0<z8n d m n S (z1j d m n S c):=h
       rw[if_neg (by omega),if_neg (by simpa using h),Yb]
   · simp only[z5j]
     rw[hml,if_neg (by omega),zsA]
     have e':toI ((List.range (z6L d m n S).length).filter fun c=>decide (0<hC d m n S c))=toI (zaC d m n S S.length):=rfl
     rw[e',e,Z0]
 · have z1':(O.map fun x:Nat=>(x:Int)).Pairwise _:=z1
   rw[XY] at z1'
   refine XC (fun {x y} hx hy h=> ?_) z1'
   have ox:=hout x (hO.mem_iff.1 hx)
   have oy:=hout y (hO.mem_iff.1 hy)
   have h3:(x:Int)-(zzY (zgO d m n S S.length) (z4d d m n S).height (x:Int)).getD 0*1048576<=(y:Int)-(zzY (zgO d m n S S.length) (z4d d m n S).height (y:Int)).getD 0*1048576:=h
   rw[hko x ox,hko y oy,Z4,Z4] at h3
   unfold leH
   omega
end
end
section
open Go Go.IntKind
noncomputable section
abbrev z5H(a0:DFA)(a1:ByteArray)(w79:Int)(w80:List Int):Int×List Int->Option ((Int×List Int)⊕((Int×List Int)⊕List Int))
 |(w103,w104)=>
 if w103<(w80.length:Int) then
 (atI w104 w103).bind fun v110=>
 (atI a0.next v110).bind fun v111=>
 (zhA a1 w79).bind fun v112=>
 (atI v111 (u8.wrap (v112-97))).bind fun v113=>
 z0c (i64.wrap (w103+1),(w104.set w103.toNat v113))
 else
 z0d<|
 z0c (i64.wrap (w79+1),w104)
variable{a1:ByteArray}{a0:List Int}
instance{a0:DFA}{w79:Int}{w80:List Int}:Hd (z5H a0 a1 w79 w80):=⟨fun(w103,w104)=>([(31,xI w103)],[(5,(tO w104))])⟩
abbrev z7x(a0:DFA)(a1:ByteArray):Int×List Int->Option ((Int×List Int)⊕List Int)
 |(w79,w80)=>
 if w79<(a1.size:Int) then
 z0h (z5H a0 a1 w79 w80) LFm (0,w80)
 else
 z0d<|
 some w80
instance{a0:DFA}:Hd (z7x a0 a1):=⟨fun(w79,w80)=>([(26,xI w79)],[(5,(tO w80))])⟩
abbrev z5X(a0:DFA)(a1:ByteArray):Int×List Int->Option ((Int×List Int)⊕List Int)
 |(w58,w59)=>
 if w58<(a0.final.length:Int) then
 (atI w59 w58).bind fun v61=>
 z0c (i64.wrap (w58+1),(w59.set w58.toNat w58))
 else
 z0d<|
 z0h (z7x a0 a1) LFm (0,w59)
instance{a0:DFA}:Hd (z5X a0 a1):=⟨fun(w58,w59)=>([(16,xI w58)],[(5,(tO w59))])⟩
def z4x(a0:DFA)(a1:ByteArray):Option (List Int):=
 chk (z0S 8 (a0.final.length:Int))<|
 z0h (z5X a0 a1) LFm (0,List.replicate (a0.final.length:Int).toNat (0:Int))
instance{a0:DFA}:Ok (z4x a0 a1) (fun r=>L 139 [.agg [.sc (.int .i64 a0.letters),.sc (.int .i64 a0.start),(tB a0.final),(tR a0.next)],.sc (.string a1)]=some ((tO r),[.dead,.dead])):=⟨fun r h=>by have h:=z3p h;unfold z4x at h;exact z4q rfl Tryz.func139 (bdy Tryz.f139 rfl)⟩
abbrev z6E(a0:List Int)(a1:Int):Int×Int->Option ((Int×Int)⊕Int)
 |(w7,w8)=>
 if w8<(a0.length:Int) then
 (atI a0 w8).bind fun v10=>
 chk (¬w8<0)<|
 if(z3k .i64 (z1D .i64 a1 w8) 1)=1 then
 chk (¬v10<0)<|
 z0c (orI .i64 w7 (zmA .i64 1 v10),i64.wrap (w8+1))
 else
 z0c (w7,i64.wrap (w8+1))
 else
 z0d<|
 some w7
instance{a1:Int}:Hd (z6E a0 a1):=⟨fun(w7,w8)=>([(5,xI w7),(10,xI w8)],[])⟩
def z2A(a0:List Int)(a1:Int):Option (Int):=
 z0h (z6E a0 a1) LFm (0,0)
instance{a1:Int}:Ok (z2A a0 a1) (fun r=>L 138 [(tI a0),.sc (.int .i64 a1)]=some (.sc (.int .i64 r),[.dead,.dead])):=⟨fun r h=>by have h:=z3p h;unfold z2A at h;exact z4q rfl Tryz.func138 (bdy Tryz.f138 rfl)⟩
abbrev z4Q(a0:List Int):Int->Option (Int⊕Bool)
 |w6=>
 if w6<(a0.length:Int) then
 (atI a0 w6).bind fun v8=>
 if w6=v8 then
 z0c (i64.wrap (w6+1))
 else
 z0d<|
 some false
 else
 z0d<|
 some true
instance:Hd (z4Q a0):=⟨fun w6=>([(7,xI w6)],[])⟩
def z4R(a0:List Int):Option (Bool):=
 z0h (z4Q a0) LFm 0
instance:Ok (z4R a0) (fun r=>L 141 [(tI a0)]=some (.sc (.bool r),[.dead])):=⟨fun r h=>by have h:=z3p h;unfold z4R at h;exact z4q rfl Tryz.func141 (bdy Tryz.f141 rfl)⟩
abbrev z6W(a0:List Int):Int×List Int->Option ((Int×List Int)⊕ByteArray)
 |(w7,w8)=>
 if w7<(a0.length:Int) then
 (atI a0 w7).bind fun v10=>
 chk (¬8<0)<|
 chk (z1C 1 (w8.length+2))<|
 z0c (i64.wrap (w7+1),w8++ [u8.wrap (z1D .i64 v10 8),u8.wrap v10])
 else
 z0d<|
 some (z1i w8)
instance:Hd (z6W a0):=⟨fun(w7,w8)=>([(12,xI w7)],[(3,.os 1 w8.length (w8.map fun x0=>.sc (.int .u8 x0)))])⟩
def z6D(a0:List Int):Option (ByteArray):=
 chk (z0S 1 (i64.wrap (2*(a0.length:Int))))<|
 z0h (z6W a0) LFm (0,[])
instance:Ok (z6D a0) (fun r=>L 142 [(tI a0)]=some (.sc (.string r),[.dead])):=⟨fun r h=>by have h:=z3p h;unfold z6D at h;exact z4q rfl Tryz.func142 (bdy Tryz.f142 rfl)⟩
abbrev z4k(a0:List Int)(a1:List Int)(w18:List (Int×Int)):Int×List Int->Option ((Int×List Int)⊕List Int)
 |(w23,w24)=>
 if w23<(a1.length:Int) then
 (atI a1 w23).bind fun v28=>
 (z2A a0 v28).bind fun v29=>
 (atI w24 w23).bind fun v30=>
 z0c (i64.wrap (w23+1),(w24.set w23.toNat ((z7G v29 w18).getD 0)))
 else
 z0d<|
 some w24
instance{a1:List Int}{w18:List (Int×Int)}:Hd (z4k a0 a1 w18):=⟨fun(w23,w24)=>([(30,xI w23)],[(8,(tO w24))])⟩
abbrev z4l(a0:List Int)(a1:List Int):Int×(List (Int×Int))->Option ((Int×(List (Int×Int)))⊕List Int)
 |(w17,w18)=>
 if w17<(a1.length:Int) then
 (atI a1 w17).bind fun v20=>
 z0c (i64.wrap (w17+1),z8p v20 w17 w18)
 else
 z0d<|
 chk (z0S 8 (a1.length:Int))<|
 z0h (z4k a0 a1 w18) LFm (0,List.replicate (a1.length:Int).toNat (0:Int))
instance{a1:List Int}:Hd (z4l a0 a1):=⟨fun(w17,w18)=>([(16,xI w17)],[(5,.mp (some .i64) (w18.map fun x0=>(.int .i64 x0.1,.int .i64 x0.2)))])⟩
def z4f(a0:List Int)(a1:List Int):Option (List Int):=
 z0h (z4l a0 a1) LFm (0,([]:List (Int×Int)))
instance{a1:List Int}:Ok (z4f a0 a1) (fun r=>L 140 [(tI a0),(tI a1)]=some ((tO r),[.dead,.dead])):=⟨fun r h=>by have h:=z3p h;unfold z4f at h;exact z4q rfl Tryz.func140 (bdy Tryz.f140 rfl)⟩
end
end
section
open Go
variable{d:DFA}{w:List UInt8}{N k m n s:Nat}{α:Type}{f g:Nat->α}
def zav{α:Type}(N:Nat)(f g:Nat->α)(k:Nat):List α:=(List.range N).map fun i=>if i<k then f i else g i
theorem zjr:(zav N f g k).length=N:=by simp[zav]
theorem z9s:zav N f g 0=(List.range N).map g:=by simp[zav]
theorem z9r:zav N f g N=(List.range N).map f:=ZB fun i hi=>by rw[if_pos (Zh.1 hi)]
theorem z6H(h:k<N):atI (zav N f g k) (k:Int)=some (g k):=by
 rw[z0A (by rw[zjr];exact h)];simp[zav]
theorem z4I(h:k<N):(zav N f g k).set k (f k)=zav N f g (k+1):=by
 refine Ze (by simp[zav]) fun i h1 h2=> ?_
 have hi:i<N:=by simpa[zav] using h2
 rw[Yi]
 simp only[zav,ZF,ZP]
 by_cases e:k=i
 · subst e;rw[if_pos rfl,if_pos (XD k)]
 · grind
abbrev zhU(m:Nat)(w:List UInt8):Prop:=∀c∈w,97<=c.toNat/\c.toNat<97+m
theorem z9H{c:UInt8}(h:zhU m (c::w)):zhU m w/\c.toNat-97<m:=⟨fun c' hc'=>h c' (Zp _ hc'),by have:=h c (Zz ..);omega⟩
def nxN(d:DFA)(q a:Nat):Nat:=((d.next.getD q []).getD a 0).toNat
def z7W(d:DFA):Nat->List UInt8->Nat
 |q,[]=>q
 |q,c::w=>z7W d (nxN d q (c.toNat-97)) w
theorem zeU(d:DFA):∀(q:Nat) (u v:List UInt8),z7W d q (u++v)=z7W d (z7W d q u) v
 |q,[],v=>rfl
 |q,c::u,v=>by simp only[ZN,z7W,zeU]
theorem zqV(hd:DfaOk d m n){q a:Nat}(hq:q<n)(ha:a<m):∃r,atI d.next (q:Int)=some r/\atI r (a:Int)=some ((nxN d q a:Nat):Int)/\nxN d q a<n:=by
 obtain⟨h1,h2,h3,h4,h5⟩:=zcq hd hq ha
 refine⟨d.next[q],z0A h1,?_,?_⟩
 · rw[z0A h2];unfold nxN;rw[h3];congr 1;omega
 · unfold nxN;rw[h3];omega
theorem zhO{d:DFA}{m n:Nat}(hd:DfaOk d m n):∀ {w:List UInt8} {q:Nat},q<n->zhU m w->z7W d q w<n
 | [],q,hq,_=>hq
 |c::w,q,hq,hw=>by
  obtain⟨_,_,_,h⟩:=zqV hd hq (z9H hw).2
  exact zhO (w:=w) (q:=nxN d q (c.toNat-97)) hd h (z9H hw).1
theorem zpH{p:Nat}(hs:s<2^n)(h:s.testBit p=true):p<n:=by
 rcases Yx p n with h1|h1
 · exact h1
 · have:=YQ (Zy hs (Zm (n:=2) (by omega) h1))
   rw[this] at h;cases h
theorem zap{d:DFA}{m n:Nat}(hd:DfaOk d m n):∀ {w:List UInt8} {s p:Nat},zhU m w->s<2^n->((z4i d s w).testBit p=true↔ ∃i,i<n/\s.testBit i=true/\z7W d i w=p)
 | [],s,p,_,hs=>by
   refine⟨fun h=>⟨p,zpH hs h,h,rfl⟩,?_⟩
   rintro⟨i,_,h,rfl⟩;exact h
 |c::w,s,p,hw,hs=>by
  have ha:=(z9H hw).2
  rw[z4i,zap hd (z9H hw).1 (zc6 hd ha)]
  constructor
  · rintro⟨j,h1,h2,h3⟩
    obtain⟨i,i1,i2,i3⟩:=(zau hd ha j).1 h2
    exact⟨i,i1,i2,by rw[z7W,nxN,i3];exact h3⟩
  · rintro⟨i,h1,h2,h3⟩
    obtain⟨_,_,_,h⟩:=zqV hd h1 ha
    exact⟨_,h,(zau hd ha _).2 ⟨i,h1,h2,rfl⟩,h3⟩
def zhP(d:DFA)(n:Nat)(w:List UInt8):List Nat:=(List.range n).map fun q=>z7W d q w
theorem zER(d:DFA)(n:Nat)(w:List UInt8):toI (zhP d n w)=(List.range n).map fun q=>((z7W d q w:Nat):Int):=by simp[toI,zhP]
theorem zhN(hd:DfaOk d m n)(hn:n<=12){w:ByteArray}(hw:zhU m w.data.toList)(hs:w.size<2^40):z4x d w=some (toI (zhP d n w.data.toList)):=by
 have hl:w.data.toList.length=w.size:=by rw[ZX];rfl
 have hm:=hd.m6
 unfold z4x
 rw[hd.fin,z0i _ (by unfold z0S;omega),Z2]
 refine z0n (s:=((0:Int),List.replicate n (0:Int))) n (fun k=>((k:Int),zav n (fun q=>(q:Int)) (fun _=>0) k)) (by rw[z9s];congr 1;exact(Ze (by simp) fun i h1 h2=>by simp)) (by simp only[LFm];omega) (fun k hk=> ?_) ?_
 · simp only[z5X]
   rw[hd.fin,if_pos (by omega),z6H hk,Z0,z0H (by omega),Z2,z4I hk]
 · simp only[z5X]
   rw[hd.fin,if_neg (by omega),z9r]
   congr 1
   refine z0n (s:=((0:Int),(List.range n).map fun q:Nat=>(q:Int))) w.size (fun k=>((k:Int),toI (zhP d n (w.data.toList.take k)))) (by rw[zER];rfl) (by simp only[LFm];omega) (fun k hk=> ?_) ?_
   · have hk':k<w.data.toList.length:=by omega
     have hc:=hw _ (Zk hk')
     have hb:w[k]=w.data.toList[k]:=by rw[za7 hk,List.getD,Z1 hk',Z4]
     have ht:zhU m (w.data.toList.take k):=fun c hc=>hw c (ZH hc)
     simp only[z7x]
     rw[if_pos (by omega)]
     have hst:∀q,z7W d q (w.data.toList.take (k+1))=nxN d (z7W d q (w.data.toList.take k)) (w.data.toList[k].toNat-97):=fun q=>by
      rw[zlb hk',zeU];rfl
     refine z0n (s:=((0:Int),toI (zhP d n (w.data.toList.take k)))) n (fun q=>((q:Int),zav n (fun q=>((z7W d q (w.data.toList.take (k+1)):Nat):Int)) (fun q=>((z7W d q (w.data.toList.take k):Nat):Int)) q)) (by rw[z9s,zER];rfl) (by simp only[LFm];omega) (fun q hq=> ?_) ?_
     · obtain⟨r,r1,r2,r3⟩:=zqV hd (zhO hd hq ht) (a:=w.data.toList[k].toNat-97) (by omega)
       have h256:w[k].toNat<256:=w[k].toNat_lt
       have wl:IntKind.u8.wrap ((w.data.toList[k].toNat:Int)-97)=((w.data.toList[k].toNat-97:Nat):Int):=by
        rw[YK];rw[hb] at h256;omega
       simp only[z5H]
       rw[if_pos (by rw[z0a];simp[zhP];omega),z6H hq,Z0,r1,Z0,zbh hk,Z0,hb,wl,r2,Z0,z0H (by omega),Z2,←hst,z4I hq]
     · simp only[z5H]
       rw[if_neg (by rw[z0a];simp[zhP]),z9r,z0H (by omega),zER]
   · grind
def zrN(F:List Nat)(s:Nat):Nat->Nat
 |0=>0
 |k+1=>if s.testBit k=true then zrN F s k|||2^F.getD k 0 else zrN F s k
theorem zpO{F:List Nat}{s p:Nat}:∀k,(zrN F s k).testBit p=true↔ ∃i,i<k/\s.testBit i=true/\F.getD i 0=p
 |0=>by simp[zrN]
 |k+1=>by
  have ih:=zpO (F:=F) (s:=s) (p:=p) k
  unfold zrN
  by_cases hb:s.testBit k=true
  · grind
  · grind
theorem znX{F:List Nat}{s n:Nat}(hF:∀x∈F,x<n):∀k,k<=F.length->zrN F s k<2^n
 |0,_=>Yu n
 |k+1,hk=>by
  unfold zrN
  split
  · exact zzB (znX hF k (by omega)) (Yn (by omega) (hF _ (z0e (by omega))))
  · exact znX hF k (by omega)
theorem zxW{F:List Nat}(hn:n<=12)(hF:∀x∈F,x<n)(hl:F.length<=60)(hs:s<2^62):z2A (toI F) (s:Int)=some ((zrN F s F.length:Nat):Int):=by
 unfold z2A
 have h62:∀k,k<=F.length->zrN F s k<2^62:=fun k hk=>Zy (znX hF k hk) (Zm (by omega) (by omega))
 refine z0n (s:=((0:Int),(0:Int))) F.length (fun k=>(((zrN F s k:Nat):Int),(k:Int))) rfl (by simp only[LFm];omega) (fun k hk=> ?_) ?_
 · have hx:=hF _ (z0e hk)
   simp only[z6E]
   rw[if_pos (by rw[z0a];omega),z1o hk,Z0,z0i _ (by omega),z0H (by omega)]
   have hb:=zhE (a:=s) (q:=k) hs (by omega)
   by_cases h:s.testBit k=true
   · rw[if_pos (hb.2 h),z0i _ (by omega),z8B (by omega),znb (h62 k (by omega)) (Yn (by omega) (by omega))]
     simp only[zrN];rw[if_pos h]
   · rw[if_neg (fun e=>h (hb.1 e))]
     simp only[zrN];rw[if_neg h]
 · simp only[z6E]
   rw[if_neg (by rw[z0a];omega)]
theorem zdR(hd:DfaOk d m n)(hn:n<=12)(hw:zhU m w)(hs:s<2^n):z2A (toI (zhP d n w)) (s:Int)=some ((z4i d s w:Nat):Int):=by
 have hF:∀x∈zhP d n w,x<n:=fun x hx=>by
  obtain⟨q,hq,rfl⟩:=Zj.1 hx
  exact zhO hd (Zh.1 hq) hw
 have hl:(zhP d n w).length=n:=by simp[zhP]
 rw[zxW hn hF (by omega) (Zy hs (Zm (by omega) (by omega)))]
 congr 2
 refine ZZ fun p=> ?_
 rw[Yg,zpO,zap hd hw hs,hl]
 refine exists_congr fun i=>and_congr_right fun hi=>and_congr_right fun _=> ?_
 simp[zhP,List.getD,hi]
end
section
open Go
variable{p:List Nat}
theorem zi1{d:DFA}{m n:Nat}(hd:DfaOk d m n)(hn:n<=12){T:List Nat}(hT:T.Nodup)(hl:T.length<=1000)(hlt:∀t∈T,t<2^n){w:List UInt8}(hw:zhU m w)(hr:∀t∈T,z4i d t w∈T):z4f (toI (zhP d n w)) (toI T)=some (toI (z2y d w T)):=by
 unfold z4f
 refine z0n (s:=((0:Int),([]:List (Int×Int)))) T.length (fun k=>((k:Int),zha T k)) rfl (by simp only[LFm];omega) (fun k hk=> ?_) ?_
 · simp only[z4l]
   rw[if_pos (by rw[z0a];omega),z1o hk,Z0,z0H (by omega)]
   rfl
 · simp only[z4l]
   rw[if_neg (by rw[z0a];omega),z0a,z0i _ (by unfold z0S;omega),Z2]
   congr 1
   have e0:toI (z2y d w T)=(List.range T.length).map fun k=>((T.idxOf (z4i d (T.getD k 0) w):Nat):Int):=by
    refine Ze (by simp[toI,z2y]) fun i h1 h2=> ?_
    have hi:i<T.length:=by simpa[toI,z2y] using h1
    simp[toI,z2y,List.getD,hi]
   rw[e0]
   refine z0n (s:=((0:Int),List.replicate T.length (0:Int))) T.length (fun k=>((k:Int),zav T.length (fun k=>((T.idxOf (z4i d (T.getD k 0) w):Nat):Int)) (fun _=>0) k)) (by rw[z9s];congr 1;exact(Ze (by simp) fun i h1 h2=>by simp)) (by simp only[LFm];omega) (fun k hk=> ?_) ?_
   · have hm:=hr _ (z0e hk)
     have hg:=zfy hT T.length (Z7 _) (z5d hm)
     rw[z2k hm] at hg
     simp only[z4k]
     rw[if_pos (by rw[z0a];omega),z1o hk,Z0,zdR hd hn hw (hlt _ (z0e hk)),Z0,z6H hk,Z0,z0H (by omega),Z2,hg,Z4,z4I (f:=fun k=>((T.idxOf (z4i d (T.getD k 0) w):Nat):Int)) hk]
   · simp only[z4k]
     rw[if_neg (by rw[z0a];omega),z9r]
theorem zm0(hl:p.length<=100000):z4R (toI p)=some (decide (p=List.range p.length)):=by
 unfold z4R
 rw[z4N (s:=(0:Int)) p.length (fun k=>(k:Int)) (fun k=> !decide (p.getD k 0=k)) (fun _=>some false) (x:=some true) rfl (by simp only[LFm];omega) ?_ ?_]
 · rw[zaA]
   simp only[X4]
   have:((List.range p.length).all fun k=>decide (p.getD k 0=k))=decide (p=List.range p.length):=by
    rw[Yg,decide_eq_true_eq,Zn]
    constructor
    · intro h
      refine Ze (by simp) fun i h1 h2=> ?_
      have:=h i (Zh.2 h1)
      rw[decide_eq_true_eq,List.getD,Z1 h1,Z4] at this
      rw[this,ZP]
    · intro h k hk
      have hk:=Zh.1 hk
      rw[decide_eq_true_eq]
      rw[h,zqK hk]
   rw[this]
   cases decide (p=List.range p.length)<;>rfl
 · intro k hk
   simp only[z4Q]
   rw[if_pos (by rw[z0a];omega),z1o hk,Z0,z0H (by omega)]
   by_cases h:p.getD k 0=k
   · rw[if_pos (by omega),decide_eq_true h,if_neg (by simp)]
   · rw[if_neg (by omega),decide_eq_false h,if_pos (by simp)]
 · simp only[z4Q]
   rw[if_neg (by rw[z0a];omega)]
def zja(p:List Nat):List Int:=p.flatMap fun k=> [((k/256:Nat):Int),((k%256:Nat):Int)]
theorem zz4(hl:p.length<=100000)(hp:∀k∈p,k<65536):z6D (toI p)=some (z1i (zja p)):=by
 have hlen:∀q:List Nat,(zja q).length=2*q.length:=fun q=>by
  unfold zja;rw[zpg (m:=2) (fun _=>rfl)];omega
 unfold z6D
 rw[z0a,z2G (by omega) (by omega),z0i _ (by unfold z0S;omega)]
 refine z0n (s:=((0:Int),([]:List Int))) p.length (fun k=>((k:Int),zja (p.take k))) rfl (by simp only[LFm];omega) (fun k hk=> ?_) ?_
 · have h1:=hp _ (z0e hk)
   have h2:=hlen (p.take k)
   rw[Zr] at h2
   have e1:IntKind.u8.wrap (z1D .i64 ((p.getD k 0:Nat):Int) 8)=((p.getD k 0/256:Nat):Int):=by
    have:=zov (a:=p.getD k 0) (q:=8) (by omega)
    rw[show((8:Nat):Int)=8 from rfl] at this
    rw[this,Xv,YK];omega
   have e2:IntKind.u8.wrap ((p.getD k 0:Nat):Int)=((p.getD k 0%256:Nat):Int):=by rw[YK];omega
   simp only[z6W]
   rw[if_pos (by rw[z0a];omega),z1o hk,Z0,z0i _ (by omega),z0i _ (by unfold z1C;omega),z0H (by omega),e1,e2,z9S hk]
   unfold zja
   rw[List.flatMap_append]
   rfl
 · simp only[z6W]
   rw[if_neg (by rw[z0a];omega),Y9]
theorem zyZ:∀ {p q:List Nat},(∀k∈p,k<65536)->(∀k∈q,k<65536)->p.length=q.length->z1i (zja p)=z1i (zja q)->p=q:=by
 have key:∀ {p q:List Nat},(∀k∈p,k<65536)->(∀k∈q,k<65536)->p.length=q.length->(zja p).map (fun z:Int=>UInt8.ofNat z.toNat)=(zja q).map (fun z:Int=>UInt8.ofNat z.toNat)->p=q:=by
  intro p
  induction p with
  |nil=>intro q _ _ hl _;exact(Y3 hl.symm).symm
  |cons a p ih=>
   intro q hp hq hl h
   cases q with
   |nil=>cases hl
   |cons b q=>
    simp only[zja,Y4,ZN,Ya,Zq,XM] at h
    obtain⟨h1,h2,h3⟩:=h
    have ha:=hp a (Zz ..)
    have hb:=hq b (Zz ..)
    have g1:=congrArg UInt8.toNat h1
    have g2:=congrArg UInt8.toNat h2
    simp only[Z2,Xr] at g1 g2
    have:a=b:=by omega
    subst this
    rw[ih (fun k hk=>hp k (Zp _ hk)) (fun k hk=>hq k (Zp _ hk)) (by simpa using hl) h3]
 intro p q hp hq hl h
 refine key hp hq hl ?_
 have:=congrArg ByteArray.data h
 simpa[z1i] using this
end
section
open Go Go.IntKind
noncomputable section
abbrev z2T(a0:DFA)(a1:Imgs)(a2:List (Int×Int))(v139:Int)(w145:List Int)(w191:Int)(v236:Int)(v140:Int):Int×List ByteArray×List (List Int)×(List (ByteArray×Bool))->Option ((Int×List ByteArray×List (List Int)×(List (ByteArray×Bool)))⊕((Int×List ByteArray×List (List Int)×(List (ByteArray×Bool)))⊕(Hol×Int)))
 |(w249,w250,w251,w252)=>
 if w249<a0.letters then
 (atI a1.sets v236).bind fun v265=>
 (z4x a0 ⟨#[UInt8.ofNat (u8.wrap (i64.wrap (97+w249))).toNat]⟩).bind fun v266=>
 (z2A v266 v265).bind fun v267=>
 (atI a1.class_ ((z7G v267 a2).getD 0)).bind fun v268=>
 (atI a1.class_ v139).bind fun v269=>
 if v268=v269 then
 (atI a1.words v236).bind fun v270=>
 chk (zaM v270 ⟨#[UInt8.ofNat (u8.wrap (i64.wrap (97+w249))).toNat]⟩)<|
 (atI a1.back ((z7G v267 a2).getD 0)).bind fun v271=>
 chk (zaM (v270++⟨#[UInt8.ofNat (u8.wrap (i64.wrap (97+w249))).toNat]⟩) v271)<|
 (z4x a0 ((v270++⟨#[UInt8.ofNat (u8.wrap (i64.wrap (97+w249))).toNat]⟩)++v271)).bind fun v272=>
 (z4f v272 w145).bind fun v273=>
 (z4R v273).bind fun v274=>
 if v274=true then
 z0c (i64.wrap (w249+1),w250,w251,w252)
 else
 (z6D v273).bind fun v275=>
 if((z7G v275 w252).getD false)=true then
 z0c (i64.wrap (w249+1),w250,w251,w252)
 else
 if 2048<((v270.size:Int)+1+(v271.size:Int)) then
 z0d<|
 z0d<|
 some ((⟨0,[],[],[]⟩:Hol),3)
 else
 (z6D v273).bind fun v276=>
 chk (z1C 16 (w250.length+1))<|
 chk (z1C 24 (w251.length+1))<|
 z0c (i64.wrap (w249+1),w250++ [(v270++⟨#[UInt8.ofNat (u8.wrap (i64.wrap (97+w249))).toNat]⟩)++v271],w251++ [v273],z8p v276 true w252)
 else
 z0c (i64.wrap (w249+1),w250,w251,w252)
 else
 z0d<|
 z0c (i64.wrap (w191+1),w250,w251,w252)
variable{a0:DFA}{a1:Imgs}{v139 v140:Int}{a2:List (Int×Int)}{a3 w145:List Int}
instance{w191:Int}{v236:Int}:Hd (z2T a0 a1 a2 v139 w145 w191 v236 v140):=⟨fun(w249,w250,w251,w252)=>([(61,xI w249)],[(11,.vr [.sc (.int .i64 v140),(tO w145),.os 1 w250.length (w250.map fun x0=>.sc (.string x0)),.os 1 w251.length (w251.map fun x0=>(tO x0))]),(14,.mp none (w252.map fun x0=>(.string x0.1,.bool x0.2)))])⟩
abbrev z5i(a0:DFA)(a1:Imgs)(a2:List (Int×Int))(a3:List Int)(v139:Int)(v140:Int)(w145:List Int):Int×List ByteArray×List (List Int)×(List (ByteArray×Bool))->Option ((Int×List ByteArray×List (List Int)×(List (ByteArray×Bool)))⊕(Hol×Int))
 |(w191,w192,w193,w194)=>
 if w191<(a3.length:Int) then
 (atI a3 w191).bind fun v236=>
 z0h (z2T a0 a1 a2 v139 w145 w191 v236 v140) LFm (0,w192,w193,w194)
 else
 z0d<|
 some ((⟨v140,w145,w192,w193⟩:Hol),0)
instance:Hd (z5i a0 a1 a2 a3 v139 v140 w145):=⟨fun(w191,w192,w193,w194)=>([(55,xI w191)],[(11,.vr [.sc (.int .i64 v140),(tO w145),.os 1 w192.length (w192.map fun x0=>.sc (.string x0)),.os 1 w193.length (w193.map fun x0=>(tO x0))]),(14,.mp none (w194.map fun x0=>(.string x0.1,.bool x0.2)))])⟩
abbrev z5G(a0:DFA)(a1:Imgs)(a2:List (Int×Int))(a3:List Int)(v139:Int)(v140:Int)(v141:List Int):Int×List Int->Option ((Int×List Int)⊕(Hol×Int))
 |(w144,w145)=>
 if w144<(v141.length:Int) then
 (atI v141 w144).bind fun v148=>
 (atI a1.sets v148).bind fun v149=>
 chk (z1C 8 (w145.length+1))<|
 z0c (i64.wrap (w144+1),w145++ [v149])
 else
 z0d<|
 z0h (z5i a0 a1 a2 a3 v139 v140 w145) LFm (0,[],[],([]:List (ByteArray×Bool)))
instance{v141:List Int}:Hd (z5G a0 a1 a2 a3 v139 v140 v141):=⟨fun(w144,w145)=>([(37,xI w144)],[(11,.vr [.sc (.int .i64 v140),(tO w145),.os 1 0 [],.os 1 0 []])])⟩
def z5P(a0:DFA)(a1:Imgs)(a2:List (Int×Int))(a3:List Int):Option (Hol×Int):=
 (atI a3 0).bind fun v139=>
 (atI a1.sets v139).bind fun v140=>
 (atI a1.tiles v139).bind fun v141=>
 z0h (z5G a0 a1 a2 a3 v139 v140 v141) LFm (0,[])
instance:Ok (z5P a0 a1 a2 a3) (fun r=>L 81 [.agg [.sc (.int .i64 a0.letters),.sc (.int .i64 a0.start),(tB a0.final),(tR a0.next)],.agg [(tI a1.sets),(tI a1.class_),(tI a1.height),(tR a1.tiles),(tS a1.words),(tS a1.back)],.mr (some .i64) (a2.map fun x0=>(.int .i64 x0.1,.int .i64 x0.2)),(tI a3)]=some (.tup [.agg [.sc (.int .i64 r.1.set),(tI r.1.tiles),(tS r.1.words),(tR r.1.perms)],.sc (.int .i64 r.2)],[.dead,.dead,.dead,.dead])):=⟨fun r h=>by have h:=z3p h;unfold z5P at h;exact zhQ rfl Tryz.func81 (bdy Tryz.f81 rfl)⟩
end
end
section
open Go Go.IntKind
noncomputable section
abbrev z7y(a0:DFA)(v19:Imgs×Int)(w22:List (Int×Int))(v25:List Int×List (List Int)):Int×List Hol->Option ((Int×List Hol)⊕(List Hol×Int))
 |(w29,w30)=>
 if w29<(v25.1.length:Int) then
 (atI v25.1 w29).bind fun v34=>
 (atI v25.2 v34).bind fun v35=>
 (z5P a0 v19.1 w22 v35).bind fun v36=>
 if v36.2=0 then
 chk (z1C 80 (w30.length+1))<|
 z0c (i64.wrap (w29+1),w30++ [v36.1])
 else
 z0d<|
 some ([],v36.2)
 else
 z0d<|
 some (w30,0)
variable{a0:DFA}{v19:Imgs×Int}
instance{w22:List (Int×Int)}{v25:List Int×List (List Int)}:Hd (z7y a0 v19 w22 v25):=⟨fun(w29,w30)=>([(50,xI w29)],[(11,.os 4 w30.length (w30.flatMap fun x0=> [.sc (.int .i64 x0.set),(tI x0.tiles),(tS x0.words),(tR x0.perms)]))])⟩
abbrev z8e(a0:DFA)(v19:Imgs×Int):Int×(List (Int×Int))->Option ((Int×(List (Int×Int)))⊕(List Hol×Int))
 |(w21,w22)=>
 if w21<(v19.1.sets.length:Int) then
 (atI v19.1.sets w21).bind fun v24=>
 z0c (i64.wrap (w21+1),z8p v24 w21 w22)
 else
 z0d<|
 (z5Q v19.1).bind fun v25=>
 chk (z0S 80 (v25.1.length:Int))<|
 z0h (z7y a0 v19 w22 v25) LFm (0,[])
instance:Hd (z8e a0 v19):=⟨fun(w21,w22)=>([(31,xI w21)],[(6,.mp (some .i64) (w22.map fun x0=>(.int .i64 x0.1,.int .i64 x0.2)))])⟩
def z6l(a0:DFA):Option (List Hol×Int):=
 (z9f a0).bind fun v19=>
 if v19.2=0 then
 z0h (z8e a0 v19) LFm (0,([]:List (Int×Int)))
 else
 some ([],v19.2)
instance:Ok (z6l a0) (fun r=>L 36 [.agg [.sc (.int .i64 a0.letters),.sc (.int .i64 a0.start),(tB a0.final),(tR a0.next)]]=some (.tup [.sl r.1.length (r.1.flatMap fun x0=> [.sc (.int .i64 x0.set),(tI x0.tiles),(tS x0.words),(tR x0.perms)]),.sc (.int .i64 r.2)],[.dead])):=⟨fun r h=>by have h:=z3p h;unfold z6l at h;exact zhQ rfl Tryz.func36 (bdy Tryz.f36 rfl)⟩
end
end
section
open Go
variable{st:HS}{B c i:Nat}
def zfc:List (List Nat)->List (ByteArray×Bool):=List.foldl (fun mp q=>z8p (z1i (zja q)) true mp) []
theorem zt1(Q:List (List Nat))(p:List Nat):zfc (Q++ [p])=z8p (z1i (zja p)) true (zfc Q):=by
 unfold zfc;rw[YM];rfl
theorem zwB{L:Nat}{p:List Nat}(hp:p.length=L)(hb:∀k∈p,k<65536):∀ {Q:List (List Nat)},(∀q∈Q,q.length=L/\ ∀k∈q,k<65536)->(((z7G (z1i (zja p)) (zfc Q)).getD false)=true↔p∈Q):=by
 have key:∀(Q:List (List Nat)) (mp:List (ByteArray×Bool)),(∀q∈Q,q.length=L/\ ∀k∈q,k<65536)->(((z7G (z1i (zja p)) (Q.foldl (fun mp q=>z8p (z1i (zja q)) true mp) mp)).getD false)=true↔(p∈Q∨((z7G (z1i (zja p)) mp).getD false)=true)):=by
  intro Q
  induction Q with
  |nil=>intro mp _;simp
  |cons q Q ih=>
   intro mp hQ
   rw[Xp,ih _ (fun x hx=>hQ x (Zp _ hx)),zb8,Zv]
   have hq:=hQ q (Zz ..)
   by_cases e:q=p
   · grind
   · have:¬z1i (zja q)=z1i (zja p):=fun h=>e (zyZ hq.2 hb (by rw[hq.1,hp]) h)
     rw[if_neg this]
     constructor
     · grind
     · grind
 intro Q hQ
 have:=key Q [] hQ
 rw[show zfc Q=Q.foldl (fun mp q=>z8p (z1i (zja q)) true mp) [] from rfl,this]
 simp[z7G]
def zx6(d:DFA)(m n:Nat)(S T:List Nat)(l:List Nat):HS:=l.foldl (fun st i=>zks d m n S T i st m) ([],[])
theorem zzQ(d:DFA)(m n:Nat)(S T:List Nat)(c k:Nat):zx6 d m n S T (zcL d m n S c k)=zkn d m n S T c k:=by
 unfold zx6 zcL zkn
 rw[List.foldl_filter]
 congr 1
 funext st i
 by_cases h:clN d m n S i=c
 · grind
 · grind
theorem zx5(d:DFA)(m n:Nat)(S T l:List Nat)(i:Nat):zx6 d m n S T (l++ [i])=zks d m n S T i (zx6 d m n S T l) m:=by
 unfold zx6;rw[YM];rfl
section
variable {d:DFA} {m n:Nat} {S:List Nat} (hd:DfaOk d m n) (hn:n<=7) (hS:SetsP d m n S)
include hd hn hS
theorem ztI{k:Nat}(h:i∈zcL d m n S c k):i<k/\clN d m n S i=c:=by
 have _u:=hd
 have _v:=hn
 have _w:=hS
 unfold zcL at h
 rw[ZL,Zh,decide_eq_true_eq] at h
 exact h
theorem zBX:∀ {l:List Nat},(∀i∈l,i<S.length/\clN d m n S i=c)->HInv d m n S c (l.length*m) (zx6 d m n S (z1E S (z1j d m n S c)) l):=by
 have key:∀(l:List Nat) (st:HS) (B:Nat),HInv d m n S c B st->(∀i∈l,i<S.length/\clN d m n S i=c)->HInv d m n S c (B+l.length*m) (l.foldl (fun st i=>zks d m n S (z1E S (z1j d m n S c)) i st m) st):=by
  intro l
  induction l with
  |nil=>intro st B h _;simpa using h
  |cons i l ih=>
   intro st B h hl
   have hi:=hl i (Zz ..)
   have:=ih _ _ (zoz hd hn hS h hi.1 hi.2 m (Z7 _)) (fun j hj=>hl j (Zp _ hj))
   rw[Xp]
   have e:B+(i::l).length*m=B+m+l.length*m:=by grind
   rw[e];exact this
 intro l hl
 have:=key l ([],[]) 0 ⟨rfl,by simp,fun j hj=>by simp at hj⟩ hl
 rw[Zt] at this
 exact this
theorem zA4(hc:c<(z6L d m n S).length)(h:HInv d m n S c B st):∀q∈st.2,q.length=(z1E S (z1j d m n S c)).length/\ ∀k∈q,k<65536:=fun q hq=>by
 have hk:=(z2c hd hn hS hc).2
 have htl:=zmT hd hn hS hk
 refine⟨zp3 h q hq,fun k hkq=> ?_⟩
 obtain⟨j,hj,rfl⟩:=Zo hq
 obtain⟨l1,l2,l3⟩:=zdz h (j:=j) (by rw[h.len];exact hj)
 rw[List.getD,Z1 hj,Z4] at l3
 rw[l3] at hkq
 have:=(zbG hd hn hS hk l1).2.1 k hkq
 omega
theorem zns{a:Nat}{w:Int}(hB:B<=10000)(h:HInv d m n S c B st)(hi:i<S.length)(ha:a<m)(hc:clN d m n S i=c)(hcl:c<(z6L d m n S).length)(z:Int):
 z2T d (z4d d m n S) (zha S S.length) ((z1j d m n S c:Nat):Int) (toI (z1E S (z1j d m n S c))) w (i:Int) z ((a:Int),st.1,st.2.map toI,zfc st.2)=z0c (((a+1:Nat):Int),(zes d m n S (z1E S (z1j d m n S c)) i st a).1,(zes d m n S (z1E S (z1j d m n S c)) i st a).2.map toI,zfc (zes d m n S (z1E S (z1j d m n S c)) i st a).2):=by
 have h128:2^n<=128:=Zm (n:=2) (by omega) hn
 have hm:=hd.m6
 obtain⟨j1,j2⟩:=za1 hd hn hS hi ha
 obtain⟨f1,hk⟩:=z2c hd hn hS hcl
 have hsat:atI (z4d d m n S).sets (i:Int)=some ((S.getD i 0:Nat):Int):=z1o hi
 have hcat:∀i,i<S.length->atI (z4d d m n S).class_ (i:Int)=some ((clN d m n S i:Nat):Int):=fun i hi=>z2S hi
 have hwat:atI (z4d d m n S).words (i:Int)=some (zaH d m n S i):=z2S hi
 have hbat:∀i,i<S.length->atI (z4d d m n S).back (i:Int)=some (zj5 d m n S i):=fun i hi=>z2S hi
 have hix:(z7G ((mvN d (S.getD i 0) a:Nat):Int) (zha S S.length)).getD 0=((z4E d S i a:Nat):Int):=by
  rw[←j2,zfy hS.nd _ (Z7 _) j1];rfl
 have h26:(UInt8.ofNat (97+a)).toNat=97+a:=z6V (by omega)
 have hlw:zhU m (zoU a).data.toList:=fun c hc=>by
  rw[z9a,Zi] at hc
  subst hc;omega
 have hap:z2A (toI (zhP d n (zoU a).data.toList)) ((S.getD i 0:Nat):Int)=some ((mvN d (S.getD i 0) a:Nat):Int):=by
  rw[zdR hd (by omega) hlw (hS.lt _ (z0e hi)),z9a,z4i,z4i,h26,Y1]
 simp only[z2T]
 rw[hd.lt,if_pos (by omega),hsat,Z0,zjB (by omega),zhN hd (by omega) hlw (by rw[z8k];omega),Z0,hap,Z0,hix,hcat _ j1,Z0,hcat _ hk,Z0,f1]
 unfold zes
 by_cases hj:clN d m n S (z4E d S i a)=clN d m n S i
 · obtain⟨l1,l2⟩:=znv hd hn hS hi ha hj
   have hf:z1j d m n S c=z5w d m n S i:=by unfold z1j;rw[←hc];rfl
   rw[←hf] at l1
   obtain⟨_,w1⟩:=z9w hd hn hS hi
   obtain⟨_,w2⟩:=zbV hd hn hS j1
   have htl:=zmT hd hn hS hk
   obtain⟨t1,t2⟩:=z8i hd hn hS hk
   have hwd:(zaH d m n S i++zoU a++zj5 d m n S (z4E d S i a))=hwN d m n S i a:=rfl
   have hbd:=h.bd
   have hln:=h.len
   have hpl:=zar d (hwN d m n S i a).data.toList (z1E S (z1j d m n S c))
   have hpf:=(zbG hd hn hS hk l1).2.1
   have hp6:∀k∈z2y d (hwN d m n S i a).data.toList (z1E S (z1j d m n S c)),k<65536:=fun k hk'=>by have:=hpf k hk';omega
   have hsg:=zwB hpl hp6 (zA4 hd hn hS hcl h)
   rw[if_pos (by omega),hwat,Z0,z0i _ (by unfold zaM;rw[z8k];omega),hbat _ j1,Z0,z0i _ (by unfold zaM;rw[zfH,z8k];omega),hwd,
    zhN hd (by omega) l1.hw (by omega),Z0,zi1 hd (by omega) t1 (by omega) (fun t ht=>(t2 t ht).2.2) l1.hw (zmS hd hn hS hk l1),Z0,zm0 (by omega),Z0,hpl,if_pos hj,z0H (by omega)]
   by_cases hid:z2y d (hwN d m n S i a).data.toList (z1E S (z1j d m n S c))=List.range (z1E S (z1j d m n S c)).length
   · grind
   · rw[if_neg (by simpa using hid),zz4 (by omega) hp6,Z0]
     by_cases hin:z2y d (hwN d m n S i a).data.toList (z1E S (z1j d m n S c))∈st.2
     · grind
     · rw[if_neg (fun e=>hin (hsg.1 e)),if_neg (by omega),Z0,z0i _ (by unfold z1C;omega),z0i _ (by unfold z1C;rw[Z8];omega),if_neg (fun e=>e.elim hid hin)]
       simp only[zt1,Y0,Zq,Yr]
 · rw[if_neg (by omega),if_neg hj,z0H (by omega)]
theorem zrl{w:Nat}(hB:B<=9000)(h:HInv d m n S c B st)(hi:i<S.length)(hc:clN d m n S i=c)(hcl:c<(z6L d m n S).length)(hw:w<1000)(z:Int):
 z0h (z2T d (z4d d m n S) (zha S S.length) ((z1j d m n S c:Nat):Int) (toI (z1E S (z1j d m n S c))) (w:Int) (i:Int) z) LFm (0,st.1,st.2.map toI,zfc st.2)=z0c (((w+1:Nat):Int),(zks d m n S (z1E S (z1j d m n S c)) i st m).1,(zks d m n S (z1E S (z1j d m n S c)) i st m).2.map toI,zfc (zks d m n S (z1E S (z1j d m n S c)) i st m).2):=by
 have hm:=hd.m6
 refine z0n (s:=((0:Int),st.1,st.2.map toI,zfc st.2)) m (fun a=>((a:Int),(zks d m n S (z1E S (z1j d m n S c)) i st a).1,(zks d m n S (z1E S (z1j d m n S c)) i st a).2.map toI,zfc (zks d m n S (z1E S (z1j d m n S c)) i st a).2)) rfl (by simp only[LFm];omega) (fun a ha=> ?_) ?_
 · rw[zns hd hn hS (B:=B+a) (by omega) (zoz hd hn hS h hi hc a (by omega)) hi ha hc hcl,zd9]
 · simp only[z2T]
   rw[hd.lt,if_neg (by omega),z0H (by omega)]
theorem zqU(hcl:c<(z6L d m n S).length)(hSl:S.length<=128):z5P d (z4d d m n S) (zha S S.length) (toI (zcL d m n S c S.length))=some (z9g d m n S c,0):=by
 have hm:=hd.m6
 obtain⟨f1,hk⟩:=z2c hd hn hS hcl
 obtain⟨_,m2⟩:=zoM hd hn hS hcl
 have hta:atI (z4d d m n S).tiles ((z1j d m n S c:Nat):Int)=some (toI (z7l S (z1j d m n S c))):=z2S hk
 have hsat:atI (z4d d m n S).sets ((z1j d m n S c:Nat):Int)=some ((S.getD (z1j d m n S c) 0:Nat):Int):=z1o hk
 have htl:=zmT hd hn hS hk
 have hl:=zei (S:=S) (k:=z1j d m n S c)
 have hmf:∀i∈zcL d m n S c S.length,i<S.length/\clN d m n S i=c:=fun i hi=>ztI hd hn hS hi
 have hml:(zcL d m n S c S.length).length<=128:=by
  unfold zcL
  exact ZO (ZI _ _) (by rw[ZC];exact hSl)
 unfold z5P
 rw[m2,Z0,hsat,Z0,hta,Z0]
 refine z0n (s:=((0:Int),([]:List Int))) (z7l S (z1j d m n S c)).length (fun q=>((q:Int),toI ((z1E S (z1j d m n S c)).take q))) rfl (by simp only[LFm];omega) (fun q hq=> ?_) ?_
 · have hx:(z7l S (z1j d m n S c)).getD q 0<S.length:=zdy (z5a (z0e hq)).1
   have e:(z1E S (z1j d m n S c)).getD q 0=S.getD ((z7l S (z1j d m n S c)).getD q 0) 0:=by simp[z1E,List.getD,hq]
   have hsat:atI (z4d d m n S).sets (((z7l S (z1j d m n S c)).getD q 0:Nat):Int)=some ((S.getD ((z7l S (z1j d m n S c)).getD q 0) 0:Nat):Int):=z1o hx
   simp only[z5G]
   rw[if_pos (by rw[z0a];omega),z1o hq,Z0,hsat,Z0,z0i _ (by unfold z1C;rw[z0a,Zr];omega),z0H (by omega),z9S (by omega),z6u,e]
 · simp only[z5G]
   rw[if_neg (by rw[z0a];omega),←hl,Y9]
   congr 1
   refine z0n (s:=((0:Int),([]:List ByteArray),([]:List (List Int)),([]:List (ByteArray×Bool)))) (zcL d m n S c S.length).length (fun k=>((k:Int),(zx6 d m n S (z1E S (z1j d m n S c)) ((zcL d m n S c S.length).take k)).1,(zx6 d m n S (z1E S (z1j d m n S c)) ((zcL d m n S c S.length).take k)).2.map toI,zfc (zx6 d m n S (z1E S (z1j d m n S c)) ((zcL d m n S c S.length).take k)).2)) rfl (by simp only[LFm];omega) (fun k hk'=> ?_) ?_
   · have hmem:=hmf _ (z0e hk')
     have hI:=zBX hd hn hS (c:=c) (l:=(zcL d m n S c S.length).take k) (fun i hi=>hmf i (ZH hi))
     have hB:((zcL d m n S c S.length).take k).length*m<=128*6:=XQ (by rw[Zr];omega) hm
     simp only[z5i]
     rw[if_pos (by rw[z0a];omega),z1o hk',Z0,zrl hd hn hS (by omega) hI hmem.1 hmem.2 hcl (by omega),z9S hk',zx5]
   · simp only[z5i]
     rw[if_neg (by rw[z0a];omega),Y9,zzQ]
     rfl
end
theorem zC9{d:DFA}{m n:Nat}(hd:DfaOk d m n)(hn:n<=7):∃O,z6l d=some (O.map (z9g d m n (z2d d m n)),0)/\zAE (hC d m n (z2d d m n)) O/\O.Perm (zaC d m n (z2d d m n) (z2d d m n).length):=by
 have h128:2^n<=128:=Zm (n:=2) (by omega) hn
 have hS:=z8r hd
 have hSl:=z2r hS.nd hS.lt
 unfold z6l
 rw[zDp hd hn,Z0,if_pos rfl]
 generalize z2d d m n=S at*
 obtain⟨O,e,o1,o2⟩:=znO hd hn hS (by omega)
 refine⟨O,?_,o1,o2⟩
 have hOc:∀c∈O,c<(z6L d m n S).length:=fun c hc=>by
  have:=o2.mem_iff.1 hc
  unfold zaC at this
  exact Zh.1 (ZL.1 this).1
 have hOl:O.length<=128:=by
  rw[o2.length_eq];unfold zaC
  refine ZO (ZI _ _) ?_
  rw[ZC]
  have:=z6o (z2t d m n S) S.length
  omega
 have hsl:(z4d d m n S).sets.length=S.length:=z0a _
 refine z0n (s:=((0:Int),([]:List (Int×Int)))) S.length (fun k=>((k:Int),zha S k)) rfl (by simp only[LFm];omega) (fun k hk=> ?_) ?_
 · have hsat:atI (z4d d m n S).sets (k:Int)=some ((S.getD k 0:Nat):Int):=z1o hk
   simp only[z8e]
   rw[hsl,if_pos (by omega),hsat,Z0,z0H (by omega)]
   rfl
 · simp only[z8e]
   rw[hsl,if_neg (by omega),e,Z0,z0i _ (by unfold z0S;rw[z0a];omega)]
   congr 1
   refine z0n (s:=((0:Int),([]:List Hol))) O.length (fun t=>((t:Int),(O.take t).map (z9g d m n S))) rfl (by simp only[LFm];omega) (fun t ht=> ?_) ?_
   · have hc:=hOc _ (z0e ht)
     have hma:=(zoM hd hn hS hc).1
     simp only[z7y]
     rw[if_pos (by rw[z0a];omega),z1o ht,Z0,hma,Z0,zqU hd hn hS hc (by omega),Z0,if_pos rfl,z0i _ (by unfold z1C;rw[Z8,Zr];omega),z0H (by omega),z9S ht,Y0,Zq,Yr]
   · simp only[z7y]
     rw[if_neg (by rw[z0a];omega),Y9]
theorem zzA{H:Nat->Nat}{O P X:List Nat}(h1:zAE H O)(h2:zAE H P)(p1:O.Perm X)(p2:P.Perm X):O=P:=by
 refine XB (le:=leH H) (fun a b _ _ h3 h4=> ?_) h1 h2 (p1.trans p2.symm)
 unfold leH at h3 h4
 omega
end
section
open Go
structure OrdC(d:DFA)(m n:Nat)(S O:List Nat):Prop where
 srt:zAE (hC d m n S) O
 prm:O.Perm (zaC d m n S S.length)
variable{a i t:Nat}
def cpN(d:DFA)(m n:Nat)(S O:List Nat)(i:Nat):Nat:=O.idxOf (clN d m n S i)
def tlR(d:DFA)(m n:Nat)(S:List Nat)(i:Nat):List Nat:=(z7l S (z5w d m n S i)).map fun t=>S.idxOf (z4i d (S.getD t 0) (zaH d m n S i).data.toList)
def szO(d:DFA)(m n:Nat)(S O:List Nat)(c:Nat):Nat:=(z7l S (z1j d m n S (O.getD c 0))).length
theorem zrm{H:Nat->Nat}{O:List Nat}(h:zAE H O){b:Nat}(ha:a∈O)(hb:b∈O)(hlt:H a<H b):O.idxOf b<O.idxOf a:=by
 have la:=z5d ha
 have lb:=z5d hb
 rcases Xd (O.idxOf b) (O.idxOf a) with h1|h1|h1
 · exact h1
 · have e1:=z2k ha
   have e2:=z2k hb
   rw[h1,e1] at e2;subst e2;omega
 · have:=(ZE.1 h) _ _ la lb h1
   simp only[XV] at this
   unfold leH at this
   omega
section
variable {d:DFA} {m n:Nat} {S:List Nat} (hd:DfaOk d m n) (hn:n<=7) (hS:SetsP d m n S)
include hd hn hS
theorem zjU(hi:i<S.length):z5w d m n S i<S.length:=by
 have:=zm4 hd hn hS hi;omega
theorem zek:(tlR d m n S i).length=(z7l S (z5w d m n S i)).length:=by
 have _u:=hd;have _v:=hn;have _w:=hS
 simp[tlR]
theorem zfk(hi:i<S.length):(tlR d m n S i).length=(z7l S i).length:=by
 rw[zek hd hn hS]
 exact zsk hd hn hS (zjU hd hn hS hi) hi (z9w hd hn hS hi).1 (zbV hd hn hS hi).1
theorem zeY{s:Nat}(hi:i<S.length)(hs:s<(tlR d m n S i).length):(tlR d m n S i).getD s 0∈z7l S i/\S.getD ((tlR d m n S i).getD s 0) 0=z4i d (S.getD ((z7l S (z5w d m n S i)).getD s 0) 0) (zaH d m n S i).data.toList:=by
 have hk:=zjU hd hn hS hi
 have hl:=(z9w hd hn hS hi).1
 have hs':s<(z7l S (z5w d m n S i)).length:=by rw[←zek hd hn hS];exact hs
 have e:(tlR d m n S i).getD s 0=S.idxOf (z4i d (S.getD ((z7l S (z5w d m n S i)).getD s 0) 0) (zaH d m n S i).data.toList):=by
  simp[tlR,List.getD,hs']
 have ht:(z7l S (z5w d m n S i)).getD s 0∈z7l S (z5w d m n S i):=z0e hs'
 rw[e]
 exact⟨zel hd hn hS hk hi hl (zbV hd hn hS hi).1 ht,((zh5 hd hn hS hk hi hl).1 _ (z5a ht).1).2⟩
theorem zej(hi:i<S.length)(ht:t∈tlR d m n S i):t∈z7l S i:=by
 obtain⟨s,hs,rfl⟩:=Zo ht
 have:=(zeY hd hn hS hi hs).1
 simpa[List.getD,hs] using this
theorem zgj(hi:i<S.length):(tlR d m n S i).Nodup:=by
 have hk:=zjU hd hn hS hi
 have hl:=(z9w hd hn hS hi).1
 refine z4K (zd2 S _) fun x hx y hy e=> ?_
 obtain⟨x1,_,_⟩:=z5a hx
 obtain⟨y1,_,_⟩:=z5a hy
 have h1:=(zh5 hd hn hS hk hi hl).1
 have e2:z4i d (S.getD x 0) (zaH d m n S i).data.toList=z4i d (S.getD y 0) (zaH d m n S i).data.toList:=by grind
 exact z5I hS.nd (z4a.1 x1).1 (z4a.1 y1).1 (zbK hd hn hl (z4a.1 x1).2.2 (z4a.1 y1).2.2 e2)
theorem zsl(hi:i<S.length)(ht:t∈z7l S i):z8n d m n S t<z8n d m n S i:=by
 obtain⟨h1,h2,h3⟩:=z5a ht
 obtain⟨f1,f2,f3,f4⟩:=zgk hn hS hi ht
 have h128:2^n<=128:=Zm (n:=2) (by omega) hn
 refine zp4 (zhH hd hS) hi f2 (by simpa[zad] using h3) ?_
 simp only[sbN,Z5,ZU]
 refine⟨(z3f hd hS hi).2 ⟨[],fun c hc=>by simp at hc,f3⟩,?_⟩
 rw[←XG]
 intro hb
 obtain⟨w,w1,w2⟩:=(z3f hd hS f2).1 hb
 have a1:=zgm w2
 have a2:=zco hd hn (hS.lt _ (z0e f2)) w1
 have a3:=zwo (by have:=hS.lt _ (z0e hi);omega) f3 f4
 omega
theorem zAj(hi:i<S.length)(ha:a<m)(hbot:∀i k,i<S.length->k<S.length->zad S k=true->z7k d m n S i k=true->zad S i=true):
 clN d m n S (z4E d S i a)=clN d m n S i∨z8n d m n S (z4E d S i a)<z8n d m n S i∨z8n d m n S (z4E d S i a)=0:=by
 obtain⟨h1,h2⟩:=za1 hd hn hS hi ha
 have hb:z7k d m n S (z4E d S i a) i=true:=(z3f hd hS hi).2 ⟨[UInt8.ofNat (97+a)],fun c hc=>by
  have hm:=hd.m6
  have:=z6V (a:=a) (by omega)
  rw[Zi.1 hc,this];omega,by
  have hm:=hd.m6
  have:=z6V (a:=a) (by omega)
  simp only[z4i,this]
  rw[h2]
  have:97+a-97=a:=by omega
  rw[this];exact z8y _⟩
 cases hz:zad S i with
 |true=>
  have:=hbot _ _ h1 hi hz hb
  right;right
  show znw S.length (z7k d m n S) (zad S) (z4E d S i a)=0
  rw[zhc (zhH hd hS) (zad S) _ h1,this];rfl
 |false=>
  cases hb2:z7k d m n S i (z4E d S i a) with
  |true=>
   left
   refine(zhv (z8o hd hS) h1 hi).2 ?_
   simp[z2t,hb,hb2]
  |false=>
   right;left
   exact zp4 (zhH hd hS) hi h1 hz (by simp[sbN,hb,hb2])
theorem zA5(hi:i<S.length)(h:z7l S i≠ []):0<z8n d m n S i:=by
 obtain⟨t,ht⟩:=List.exists_mem_of_ne_nil _ h
 have:=zsl hd hn hS hi ht
 omega
theorem ztw(hi:i<S.length)(h:szN (S.getD i 0)=1):z8n d m n S i=0:=by
 have _u:=hn
 show znw S.length (z7k d m n S) (zad S) i=0
 have hb:zad S i=true:=decide_eq_true h
 rw[zhc (zhH hd hS) (zad S) _ hi,hb];rfl
section
variable {O:List Nat} (hH:zhR d m n S) (hO:OrdC d m n S O)
include hH hO
theorem zA6(hi:i<S.length):hC d m n S (clN d m n S i)=z8n d m n S i:=by
 have _u:=hd;have _v:=hn;have _w:=hS;have _x:=hO
 unfold hC;rw[hH i hi];rfl
theorem zvG(hi:i<S.length):clN d m n S i∈O↔0<z8n d m n S i:=by
 rw[hO.prm.mem_iff]
 unfold zaC
 rw[ZL,Zh,decide_eq_true_eq,zA6 hd hn hS hH hO hi]
 exact and_iff_right (zmm hd hn hS hi).1
theorem zxC(hi:i<S.length):cpN d m n S O i<O.length↔0<z8n d m n S i:=by
 rw[←zvG hd hn hS hH hO hi]
 unfold cpN
 exact XA
theorem zCk(i:Nat):cpN d m n S O i<=O.length:=by
 have _u:=hd;have _v:=hn;have _w:=hS;have _x:=hO;have _y:=hH
 exact List.idxOf_le_length
theorem ztt:O.Nodup:=by
 have _u:=hd;have _v:=hn;have _w:=hS;have _y:=hH
 exact hO.prm.nodup_iff.2 (YD _ YG)
theorem zvu{j:Nat}(hi:i<S.length)(hj:j<S.length)(h:z8n d m n S j<z8n d m n S i):cpN d m n S O i<cpN d m n S O j∨O.length<=cpN d m n S O j:=by
 by_cases hp:0<z8n d m n S j
 · left
   refine zrm hO.srt ((zvG hd hn hS hH hO hj).2 hp) ((zvG hd hn hS hH hO hi).2 (by omega)) ?_
   rw[zA6 hd hn hS hH hO hi,zA6 hd hn hS hH hO hj];exact h
 · right
   have:=mt (zxC hd hn hS hH hO hj).1 hp
   omega
theorem zAq(hi:i<S.length)(ht:t∈z7l S i):cpN d m n S O i<cpN d m n S O t:=by
 have h1:=zsl hd hn hS hi ht
 have ht':=zdy (z5a ht).1
 have:=(zxC hd hn hS hH hO hi).2 (by omega)
 rcases zvu hd hn hS hH hO hi ht' h1 with h|h<;>omega
theorem zCl(hi:i<S.length)(ha:a<m)(hbot:∀i k,i<S.length->k<S.length->zad S k=true->z7k d m n S i k=true->zad S i=true):cpN d m n S O i<=cpN d m n S O (z4E d S i a):=by
 have hj:=(za1 hd hn hS hi ha).1
 rcases zAj hd hn hS hi ha hbot with h|h|h
 · unfold cpN;rw[h];exact Z7 _
 · rcases zvu hd hn hS hH hO hi hj h with h1|h1
   · omega
   · have:=zCk hd hn hS hH hO i;omega
 · have:=mt (zxC hd hn hS hH hO hj).1 (by omega)
   have:=zCk hd hn hS hH hO i
   omega
theorem zen(hi:i<S.length)(hc:cpN d m n S O i<O.length):szO d m n S O (cpN d m n S O i)=(tlR d m n S i).length:=by
 have _x:=hH;have _y:=hO
 unfold szO
 rw[zek hd hn hS]
 have:O.getD (cpN d m n S O i) 0=clN d m n S i:=z2k (XA.1 hc)
 rw[this];rfl
theorem zxJ{c:Nat}(hi:i<S.length)(hc:c<O.length):clN d m n S i=O.getD c 0↔cpN d m n S O i=c:=by
 constructor
 · intro h
   unfold cpN;rw[h]
   have e:O.getD c 0=O[c]:=by simp[List.getD,hc]
   rw[e];exact(ztt hd hn hS hH hO).idxOf_getElem c hc
 · intro h
   subst h
   exact(z2k (XA.1 hc)).symm
end
end
section
variable (d:DFA) (m n:Nat) (S O:List Nat)
def zhs(i o:Nat):Nat:=
 let k:=(tlR d m n S i).findIdx fun t=>decide (S.getD o 0&&&S.getD t 0=S.getD o 0)
 if k<(tlR d m n S i).length then k else 0
def ix0(l:List Nat)(x:Nat):Nat:=if x∈l then l.idxOf x else 0
def zcx(a c o i:Nat):List Nat:=
 if cpN d m n S O i=c then
  (if cpN d m n S O o=c/\z4E d S o a=i then(tlR d m n S o).map fun t=>ix0 (tlR d m n S i) (z4E d S t a)
   else List.replicate (szO d m n S O c) (zhs d m n S i (z4E d S o a)))
 else List.replicate (szO d m n S O c) 0
def dnN(c i s:Nat):Nat:=if cpN d m n S O i=c then(tlR d m n S i).getD s 0 else i
def stN(a:Nat):Nat->Nat->Nat->List Nat->List (Nat×List Nat)
 |_,_,_,[]=> []
 |c,o,i,s::x=>((zcx d m n S O a c o i).getD s 0,zcx d m n S O a c o i)::stN a (c+1) (dnN d m n S O c o s) (dnN d m n S O c i ((zcx d m n S O a c o i).getD s 0)) x
def z5n(a:Nat)(x:List Nat):List Nat:=(stN d m n S O a 0 0 0 x).map (·.1)
def z8q(a:Nat)(x:List Nat):List (List Nat):=(stN d m n S O a 0 0 0 x).map (·.2)
def z7B:Nat->Nat->List Nat->Nat
 |_,i,[]=>i
 |c,i,s::x=>z7B (c+1) (dnN d m n S O c i s) x
def srN(q:Nat):Nat->Nat->Nat->List Nat
 |0,_,_=> []
 |k+1,c,i=>
  let s:=if cpN d m n S O i=c then zhs d m n S i q else 0
  s::srN q k (c+1) (dnN d m n S O c i s)
def z2W:List Nat:=srN d m n S O (S.idxOf (2^d.start.toNat)) O.length 0 0
def zeV(x:List Nat):Prop:=x.length=O.length/\ ∀c,c<O.length->x.getD c 0<szO d m n S O c
end
end
section
open Go
variable{a c i:Nat}
theorem zxp{d:DFA}{m n:Nat}(hd:DfaOk d m n):2^n-1∈z2d d m n:=by
 have hp:=Yu n
 have hf:2^n-1<2^n:=by omega
 have hi:=z6h hd hf
 obtain⟨h1,h2,h3⟩:=z7U hi.nd n
 exact(z9U _).mem_iff.2 ((h2 _).2 (.inl (zbE hd hf)))
theorem zfl{n x:Nat}(hx:x<2^n):z6T x (2^n-1):=by
 refine z2e.2 fun q hq=> ?_
 rw[Nat.testBit_two_pow_sub_one]
 have:=zpH hx hq
 simpa using this
theorem zbQ{d:DFA}{m n:Nat}(hd:DfaOk d m n)(hn:n<=7):0<(z2d d m n).length/\(z2d d m n).getD 0 0=2^n-1:=by
 have h128:2^n<=128:=Zm (n:=2) (by omega) hn
 have hS:=z8r hd
 have hm:=zxp hd
 have hl:0<(z2d d m n).length:=ZJ.2 (List.ne_nil_of_mem hm)
 refine⟨hl,?_⟩
 obtain⟨j,hj,e⟩:=Zo hm
 by_cases h0:j=0
 · subst h0;simp[List.getD,hl,e]
 · have hs:=(ZE.1 hS.srt) 0 j hl hj (by omega)
   rw[e,zki] at hs
   have hx:(z2d d m n)[0]<2^n:=hS.lt _ (Zk hl)
   have h1:=zgm (zfl hx)
   have h2:=zso (by have:=Yu n;omega) (zfl hx) (by omega)
   simp[List.getD,hl,h2]
theorem zC1{l:List Nat}{x k:Nat}(h:l.length<=k)(h0:0<k):ix0 l x<k:=by
 unfold ix0
 split
 · rename_i hx
   have:=z5d hx
   omega
 · exact h0
section
variable {d:DFA} {m n:Nat} {S:List Nat} (hd:DfaOk d m n) (hn:n<=7) (hS:SetsP d m n S) {O:List Nat} (hH:zhR d m n S) (hO:OrdC d m n S O) (hpos:∀x∈S,x≠0)
include hd hn hS hH hO hpos
theorem zeo(hc:c<O.length):0<szO d m n S O c:=by
 have _u:=hH
 have hmem:O.getD c 0∈O:=z0e hc
 have hout:=hO.prm.mem_iff.1 hmem
 unfold zaC at hout
 obtain⟨h1,h2⟩:=ZL.1 hout
 have h1:=Zh.1 h1
 simp only[decide_eq_true_eq] at h2
 have hk:z1j d m n S (O.getD c 0)<S.length:=(z2c hd hn hS h1).2
 unfold szO
 unfold hC at h2
 have h128:2^n<=128:=Zm (n:=2) (by omega) hn
 generalize z1j d m n S (O.getD c 0)=k at*
 have hz:szN (S.getD k 0)≠1:=fun e=>by
  have:=ztw hd hn hS hk e
  omega
 have hne:=hpos _ (z0e hk:S.getD k 0∈S)
 obtain⟨q,hq⟩:∃q,(S.getD k 0).testBit q=true:=by
  rcases YB hne with⟨q,hq⟩
  exact⟨q,hq⟩
 obtain⟨t,ht,_⟩:=zgl hd hn hS hk hz hq
 exact YS ht
theorem zfi{s:Nat}(hcO:c<O.length)(hi:i<S.length)(hc:c<=cpN d m n S O i)(hs:s<szO d m n S O c):dnN d m n S O c i s<S.length/\c+1<=cpN d m n S O (dnN d m n S O c i s):=by
 have _u:=hpos
 unfold dnN
 by_cases e:cpN d m n S O i=c
 · rw[if_pos e]
   have hz:=zen hd hn hS hH hO hi (by omega)
   rw[e] at hz
   have ht:=(zeY hd hn hS hi (s:=s) (by omega)).1
   have:=zAq hd hn hS hH hO hi ht
   exact⟨zdy (z5a ht).1,by omega⟩
 · rw[if_neg e]
   exact⟨hi,by omega⟩
theorem zlO{o:Nat}(hcO:c<O.length)(ho:o<S.length)(hi:i<S.length):(zcx d m n S O a c o i).length=szO d m n S O c/\ ∀y∈zcx d m n S O a c o i,y<szO d m n S O c:=by
 have h0:=zeo hd hn hS hH hO hpos hcO
 unfold zcx
 split
 · rename_i e
   have hz:=zen hd hn hS hH hO hi (by omega)
   rw[e] at hz
   split
   · rename_i e2
     have hz2:=zen hd hn hS hH hO ho (by omega)
     rw[e2.1] at hz2
     refine⟨by rw[Z8,hz2],fun y hy=> ?_⟩
     obtain⟨t,ht,rfl⟩:=Zj.1 hy
     exact zC1 (by omega) h0
   · refine⟨List.length_replicate,fun y hy=> ?_⟩
     rw[List.eq_of_mem_replicate hy]
     unfold zhs
     simp only
     split<;>omega
 · refine⟨List.length_replicate,fun y hy=> ?_⟩
   rw[List.eq_of_mem_replicate hy];exact h0
theorem zjs{o s:Nat}(hcO:c<O.length)(ho:o<S.length)(hi:i<S.length):(zcx d m n S O a c o i).getD s 0<szO d m n S O c:=by
 obtain⟨h1,h2⟩:=zlO hd hn hS hH hO hpos (a:=a) hcO ho hi
 by_cases hs:s<(zcx d m n S O a c o i).length
 · exact h2 _ (z0e hs)
 · have e:(zcx d m n S O a c o i).getD s 0=0:=by simp[List.getD,YV (Nat.le_of_not_lt hs)]
   rw[e];exact zeo hd hn hS hH hO hpos hcO
theorem zBf{a:Nat}:∀(x:List Nat) (c o i:Nat),o<S.length->i<S.length->c<=cpN d m n S O o->c<=cpN d m n S O i->c+x.length<=O.length->(∀j,j<x.length->x.getD j 0<szO d m n S O (c+j))->
 (stN d m n S O a c o i x).length=x.length/\ ∀j,j<x.length->((stN d m n S O a c o i x).map (·.1)).getD j 0<szO d m n S O (c+j)
 | [],c,o,i,ho,hi,hco,hci,hl,hx=>⟨rfl,fun j hj=>by simp at hj⟩
 |s::x,c,o,i,ho,hi,hco,hci,hl,hx=>by
  simp only[Zs] at hl
  have hcO:c<O.length:=by omega
  have hs:s<szO d m n S O c:=by simpa using hx 0 (by simp)
  have hy:=zjs hd hn hS hH hO hpos (a:=a) (s:=s) hcO ho hi
  obtain⟨o1,o2⟩:=zfi hd hn hS hH hO hpos hcO ho hco hs
  obtain⟨i1,i2⟩:=zfi hd hn hS hH hO hpos hcO hi hci hy
  obtain⟨r1,r2⟩:=zBf (a:=a) x (c+1) _ _ o1 i1 o2 i2 (by omega) (fun j hj=>by have:=hx (j+1) (by simp;omega);simp only[Yf] at this;rwa [show c+1+j=c+(j+1) by omega])
  refine⟨by simp only[stN,Zs];rw[r1],fun j hj=> ?_⟩
  match j,hj with
  |0,_=>simpa only[stN,Zq,X7,YF] using hy
  |j+1,hj=>
   have:=r2 j (by simpa using hj)
   rw[show c+1+j=c+(j+1) by omega] at this
   simp only[stN,Zq,Yf]
   exact this
theorem zan{x:List Nat}(hx:zeV d m n S O x)(h0:0<S.length):zeV d m n S O (z5n d m n S O a x)/\(z8q d m n S O a x).length=O.length:=by
 obtain⟨h1,h2⟩:=hx
 obtain⟨r1,r2⟩:=zBf hd hn hS hH hO hpos (a:=a) x 0 0 0 h0 h0 (by omega) (by omega) (by omega) (fun j hj=>by rw[Zt];exact h2 j (by omega))
 exact⟨⟨by simp[z5n,r1,h1],fun c hc=>by have:=r2 c (by omega);rwa [Zt] at this⟩,by simp[z8q,r1,h1]⟩
theorem zyJ{q:Nat}(hcO:c<O.length)(hi:i<S.length)(e:cpN d m n S O i=c):zhs d m n S i q<szO d m n S O c:=by
 have h0:=zeo hd hn hS hH hO hpos hcO
 have hz:=zen hd hn hS hH hO hi (by omega)
 rw[e] at hz
 unfold zhs
 simp only
 split<;>omega
theorem zBi{q:Nat}:∀(k c i:Nat),c+k=O.length->i<S.length->c<=cpN d m n S O i->(srN d m n S O q k c i).length=k/\ ∀j,j<k->(srN d m n S O q k c i).getD j 0<szO d m n S O (c+j)
 |0,c,i,hk,hi,hc=>⟨rfl,fun j hj=>by omega⟩
 |k+1,c,i,hk,hi,hc=>by
  have hcO:c<O.length:=by omega
  have hs:(if cpN d m n S O i=c then zhs d m n S i q else 0)<szO d m n S O c:=by
   split
   · rename_i e;exact zyJ hd hn hS hH hO hpos hcO hi e
   · exact zeo hd hn hS hH hO hpos hcO
  obtain⟨i1,i2⟩:=zfi hd hn hS hH hO hpos hcO hi hc hs
  obtain⟨r1,r2⟩:=zBi (q:=q) k (c+1) _ (by omega) i1 i2
  refine⟨by simp only[srN];rw[Zs,r1],fun j hj=> ?_⟩
  match j,hj with
  |0,_=>simpa only[srN,X7,YF] using hs
  |j+1,hj=>
   have:=r2 j (by omega)
   simp only[srN,Yf]
   rwa [show c+(j+1)=c+1+j by omega]
theorem zao(h0:0<S.length):zeV d m n S O (z2W d m n S O):=by
 obtain⟨r1,r2⟩:=zBi hd hn hS hH hO hpos (q:=S.idxOf (2^d.start.toNat)) O.length 0 0 (by omega) h0 (by omega)
 exact⟨r1,fun c hc=>by have:=r2 c hc;rwa [Zt] at this⟩
end
end
section
open Go
instance:Inhabited Casc:=⟨⟨0,[],[]⟩⟩
structure Frm where
 d:DFA
 x:Imgs
 comp:List Int
 sizes:List Int
 tiles:List (List Int)
 next:List (List Int)
deriving Inhabited
structure Cover where
 casc:Casc
 start:List Int
 tuples:List (List Int)
 states:List Int
 groups:List Hol
deriving Inhabited
structure Runner where
 c:Casc
deriving Inhabited
instance:IsS CRow:=⟨⟩
@[simp] theorem rangeL7:List.range 7= [0,1,2,3,4,5,6]:=rfl
@[simp] theorem rangeL8:List.range 8= [0,1,2,3,4,5,6,7]:=rfl
@[simp] theorem rangeL9:List.range 9= [0,1,2,3,4,5,6,7,8]:=rfl
@[simp] theorem rangeL10:List.range 10= [0,1,2,3,4,5,6,7,8,9]:=rfl
@[simp] theorem rangeL11:List.range 11= [0,1,2,3,4,5,6,7,8,9,10]:=rfl
@[simp] theorem rangeL12:List.range 12= [0,1,2,3,4,5,6,7,8,9,10,11]:=rfl
@[simp] theorem rangeL13:List.range 13= [0,1,2,3,4,5,6,7,8,9,10,11,12]:=rfl
@[simp] theorem rangeL14:List.range 14= [0,1,2,3,4,5,6,7,8,9,10,11,12,13]:=rfl
@[simp] theorem rangeL15:List.range 15= [0,1,2,3,4,5,6,7,8,9,10,11,12,13,14]:=rfl
@[simp] theorem rangeL16:List.range 16= [0,1,2,3,4,5,6,7,8,9,10,11,12,13,14,15]:=rfl
@[simp] theorem rangeL17:List.range 17= [0,1,2,3,4,5,6,7,8,9,10,11,12,13,14,15,16]:=rfl
@[simp] theorem rangeL18:List.range 18= [0,1,2,3,4,5,6,7,8,9,10,11,12,13,14,15,16,17]:=rfl
@[simp] theorem rangeL19:List.range 19= [0,1,2,3,4,5,6,7,8,9,10,11,12,13,14,15,16,17,18]:=rfl
@[simp] theorem rangeL20:List.range 20= [0,1,2,3,4,5,6,7,8,9,10,11,12,13,14,15,16,17,18,19]:=rfl
end
section
open Go Go.IntKind
noncomputable section
abbrev z6a(a0:DFA)(a2:ByteArray)(w47:Int)(w48:Int):Int×Int->Option ((Int×Int)⊕((Int×Int)⊕Int))
 |(w63,w64)=>
 if w64<(a0.next.length:Int) then
 (atI a0.next w64).bind fun v68=>
 chk (¬w64<0)<|
 if(z3k .i64 (z1D .i64 w47 w64) 1)=1 then
 (zhA a2 w48).bind fun v69=>
 (atI v68 (u8.wrap (v69-97))).bind fun v70=>
 chk (¬v70<0)<|
 z0c (orI .i64 w63 (zmA .i64 1 v70),i64.wrap (w64+1))
 else
 z0c (w63,i64.wrap (w64+1))
 else
 z0d<|
 z0c (w63,i64.wrap (w48+1))
variable{m0 m3 m5:Frm}{v99:Imgs×Int}{a1 a2 a3 w137:Int}{w103:List (Int×Int)}{w138 w139:List (List Int)}{a0 m1 m6 m8 v40 w104:List Int}{rf:List Int->Int->Int->Int->Frm->List Int->Option (List Int)}
instance{a0:DFA}{a2:ByteArray}{w47:Int}{w48:Int}:Hd (z6a a0 a2 w47 w48):=⟨fun(w63,w64)=>([(8,xI w63),(19,xI w64)],[])⟩
abbrev z6b(a0:DFA)(a2:ByteArray):Int×Int->Option ((Int×Int)⊕Int)
 |(w47,w48)=>
 if w48<(a2.size:Int) then
 z0h (z6a a0 a2 w47 w48) LFm (0,0)
 else
 z0d<|
 some w47
instance{a0:DFA}{a2:ByteArray}:Hd (z6b a0 a2):=⟨fun(w47,w48)=>([(1,xI w47),(13,xI w48)],[])⟩
def z5x(a0:DFA)(a1:Int)(a2:ByteArray):Option (Int):=
 z0h (z6b a0 a2) LFm (a1,0)
instance{a0:DFA}{a2:ByteArray}:Ok (z5x a0 a1 a2) (fun r=>L 94 [.agg [.sc (.int .i64 a0.letters),.sc (.int .i64 a0.start),(tB a0.final),(tR a0.next)],.sc (.int .i64 a1),.sc (.string a2)]=some (.sc (.int .i64 r),[.dead,.dead,.dead])):=⟨fun r h=>by have h:=z3p h;unfold z5x at h;exact z4q rfl Tryz.func94 (bdy Tryz.f94 rfl)⟩
def z1f(a0:Int)(a1:Int)(m2:Frm)(m4:List Int):Option (Int):=
 (atI m4 a1).bind fun v6=>
 (atI m2.x.height v6).bind fun v7=>
 (atI m4 a0).bind fun v8=>
 (atI m2.x.height v8).bind fun v9=>
 (cmp_Compare_int v7 v9).bind fun v10=>
 some v10
instance{a0:Int}{m2:Frm}{m4:List Int}:Ok (z1f a0 a1 m2 m4) (fun r=>L 149 [.sc (.int .i64 a0),.sc (.int .i64 a1),.pr [.pr [.sc (.int .i64 m2.d.letters),.sc (.int .i64 m2.d.start),(tB m2.d.final),(tR m2.d.next),(tI m2.x.sets),(tI m2.x.class_),(tI m2.x.height),(tR m2.x.tiles),(tS m2.x.words),(tS m2.x.back),(tI m2.comp),(tI m2.sizes),(tR m2.tiles),(tR m2.next)]],.pr [(tI m4)]]=some (.sc (.int .i64 r),[.dead,.dead,.dead,.dead])):=⟨fun r h=>by have h:=z3p h;unfold z1f at h;exact z4q rfl Tryz.func149 (bdy Tryz.f149 rfl)⟩
abbrev z1z(a1:Int)(m5:Frm)(m8:List Int)(w95:Int):Int×List Int->Option ((Int×List Int)⊕((Int×List Int)⊕List Int))
 |(w127,w128)=>
 if a1<w127 then
 (atI w128 w127).bind fun v136=>
 (atI w128 (i64.wrap (w127-1))).bind fun v137=>
 (z1f v136 v137 m5 m8).bind fun v138=>
 if v138<0 then
 (atI (w128.set w127.toNat v137) (i64.wrap (w127-1))).bind fun v142=>
 z0c (i64.wrap (w127-1),((w128.set w127.toNat v137).set (i64.wrap (w127-1)).toNat v136))
 else
 z0d<|
 z0c (i64.wrap (w95+1),w128)
 else
 z0d<|
 z0c (i64.wrap (w95+1),w128)
instance{w95:Int}:Hd (z1z a1 m5 m8 w95):=⟨fun(w127,w128)=>([(9,xI w127)],[(0,(tO w128))])⟩
abbrev z1A(a1:Int)(a2:Int)(m5:Frm)(m8:List Int):Int×List Int->Option ((Int×List Int)⊕List Int)
 |(w95,w96)=>
 if w95<a2 then
 z0h (z1z a1 m5 m8 w95) LFm (w95,w96)
 else
 z0d<|
 some w96
instance:Hd (z1A a1 a2 m5 m8):=⟨fun(w95,w96)=>([(8,xI w95)],[(0,(tO w96))])⟩
def z0D(a0:List Int)(a1:Int)(a2:Int)(m5:Frm)(m8:List Int):Option (List Int):=
 z0h (z1A a1 a2 m5 m8) LFm (i64.wrap (a1+1),a0)
instance:Ok (z0D a0 a1 a2 m5 m8) (fun r=>L 208 [(tO a0),.sc (.int .i64 a1),.sc (.int .i64 a2),.cl 149 [.pr [.pr [.sc (.int .i64 m5.d.letters),.sc (.int .i64 m5.d.start),(tB m5.d.final),(tR m5.d.next),(tI m5.x.sets),(tI m5.x.class_),(tI m5.x.height),(tR m5.x.tiles),(tS m5.x.words),(tS m5.x.back),(tI m5.comp),(tI m5.sizes),(tR m5.tiles),(tR m5.next)]],.pr [(tI m8)]]]=some (.tup [],[(tO r),.dead,.dead,.dead])):=⟨fun r h=>by have h:=z3p h;unfold z0D at h;exact z4q rfl Tryz.func208 (bdy Tryz.f208 rfl)⟩
abbrev z1P(a1:Int)(a2:Int)(a3:Int):Int×List Int->Option ((Int×List Int)⊕List Int)
 |(w19,w20)=>
 if w19<a3 then
 (atI w20 (i64.wrap (a2+w19))).bind fun v25=>
 (atI w20 (i64.wrap (a1+w19))).bind fun v26=>
 (atI (w20.set (i64.wrap (a1+w19)).toNat v25) (i64.wrap (a2+w19))).bind fun v28=>
 z0c (i64.wrap (w19+1),((w20.set (i64.wrap (a1+w19)).toNat v25).set (i64.wrap (a2+w19)).toNat v26))
 else
 z0d<|
 some w20
instance:Hd (z1P a1 a2 a3):=⟨fun(w19,w20)=>([(10,xI w19)],[(0,(tO w20))])⟩
def z0v(a0:List Int)(a1:Int)(a2:Int)(a3:Int)(m0:Frm)(m1:List Int):Option (List Int):=
 z0h (z1P a1 a2 a3) LFm (0,a0)
instance:Ok (z0v a0 a1 a2 a3 m0 m1) (fun r=>L 236 [(tO a0),.sc (.int .i64 a1),.sc (.int .i64 a2),.sc (.int .i64 a3),.cl 149 [.pr [.pr [.sc (.int .i64 m0.d.letters),.sc (.int .i64 m0.d.start),(tB m0.d.final),(tR m0.d.next),(tI m0.x.sets),(tI m0.x.class_),(tI m0.x.height),(tR m0.x.tiles),(tS m0.x.words),(tS m0.x.back),(tI m0.comp),(tI m0.sizes),(tR m0.tiles),(tR m0.next)]],.pr [(tI m1)]]]=some (.tup [],[(tO r),.dead,.dead,.dead,.dead])):=⟨fun r h=>by have h:=z3p h;unfold z0v at h;exact z4q rfl Tryz.func236 (bdy Tryz.f236 rfl)⟩
abbrev z2a(a2:Int)(m0:Frm)(m1:List Int):Int×Int×List Int->Option ((Int×Int×List Int)⊕List Int)
 |(w13,w15,w14)=>
 if w13=w15 then
 z0d<|
 (z0v w14 (i64.wrap (a2-w13)) a2 w13 m0 m1).bind fun v18=>
 some v18
 else
 if w15<w13 then
 (z0v w14 (i64.wrap (a2-w13)) a2 w15 m0 m1).bind fun v19=>
 z0c (i64.wrap (w13-w15),w15,v19)
 else
 (z0v w14 (i64.wrap (a2-w13)) (i64.wrap ((i64.wrap (a2+w15))-w13)) w13 m0 m1).bind fun v20=>
 z0c (w13,i64.wrap (w15-w13),v20)
instance:Hd (z2a a2 m0 m1):=⟨fun(w13,w15,w14)=>([(10,xI w13),(11,xI w15)],[(0,(tO w14))])⟩
def z0W(a0:List Int)(a1:Int)(a2:Int)(a3:Int)(m0:Frm)(m1:List Int):Option (List Int):=
 z0h (z2a a2 m0 m1) LFm (i64.wrap (a2-a1),i64.wrap (a3-a2),a0)
instance:Ok (z0W a0 a1 a2 a3 m0 m1) (fun r=>L 229 [(tO a0),.sc (.int .i64 a1),.sc (.int .i64 a2),.sc (.int .i64 a3),.cl 149 [.pr [.pr [.sc (.int .i64 m0.d.letters),.sc (.int .i64 m0.d.start),(tB m0.d.final),(tR m0.d.next),(tI m0.x.sets),(tI m0.x.class_),(tI m0.x.height),(tR m0.x.tiles),(tS m0.x.words),(tS m0.x.back),(tI m0.comp),(tI m0.sizes),(tR m0.tiles),(tR m0.next)]],.pr [(tI m1)]]]=some (.tup [],[(tO r),.dead,.dead,.dead,.dead])):=⟨fun r h=>by have h:=z3p h;unfold z0W at h;exact z4q rfl Tryz.func229 (bdy Tryz.f229 rfl)⟩
abbrev z1T(w102:Int):Int×List Int->Option ((Int×List Int)⊕List Int)
 |(w114,w115)=>
 if w114<(i64.wrap (w102-1)) then
 (atI w115 (i64.wrap (w114+1))).bind fun v120=>
 (atI w115 w114).bind fun v121=>
 (atI (w115.set w114.toNat v120) (i64.wrap (w114+1))).bind fun v123=>
 z0c (i64.wrap (w114+1),((w115.set w114.toNat v120).set (i64.wrap (w114+1)).toNat v121))
 else
 z0d<|
 some w115
instance{w102:Int}:Hd (z1T w102):=⟨fun(w114,w115)=>([(13,xI w114)],[(0,(tO w115))])⟩
abbrev z1U(a0:List Int)(a1:Int)(m0:Frm)(m1:List Int):Int×Int->Option ((Int×Int)⊕List Int)
 |(w102,w103)=>
 if w102<w103 then
 chk (¬1<0)<|
 (atI a0 (md w102 w103)).bind fun v107=>
 (atI a0 a1).bind fun v108=>
 (z1f v107 v108 m0 m1).bind fun v109=>
 if v109<0 then
 z0c (i64.wrap ((md w102 w103)+1),w103)
 else
 z0c (w102,i64.wrap (z1D .u64 (u64.wrap (i64.wrap (w102+w103))) 1))
 else
 z0d<|
 z0h (z1T w102) LFm (a1,a0)
instance:Hd (z1U a0 a1 m0 m1):=⟨fun(w102,w103)=>([(10,xI w102),(11,xI w103)],[])⟩
abbrev z1M(w128:Int):Int×List Int->Option ((Int×List Int)⊕List Int)
 |(w139,w140)=>
 if w128<w139 then
 (atI w140 (i64.wrap (w139-1))).bind fun v145=>
 (atI w140 w139).bind fun v146=>
 (atI (w140.set w139.toNat v145) (i64.wrap (w139-1))).bind fun v148=>
 z0c (i64.wrap (w139-1),((w140.set w139.toNat v145).set (i64.wrap (w139-1)).toNat v146))
 else
 z0d<|
 some w140
instance{w128:Int}:Hd (z1M w128):=⟨fun(w139,w140)=>([(17,xI w139)],[(0,(tO w140))])⟩
abbrev z1N(a0:List Int)(a2:Int)(m0:Frm)(m1:List Int):Int×Int->Option ((Int×Int)⊕List Int)
 |(w128,w127)=>
 if w128<w127 then
 chk (¬1<0)<|
 (atI a0 a2).bind fun v132=>
 (atI a0 (md w128 w127)).bind fun v133=>
 (z1f v132 v133 m0 m1).bind fun v134=>
 if v134<0 then
 z0c (w128,i64.wrap (z1D .u64 (u64.wrap (i64.wrap (w128+w127))) 1))
 else
 z0c (i64.wrap ((md w128 w127)+1),w127)
 else
 z0d<|
 z0h (z1M w128) LFm (a2,a0)
instance:Hd (z1N a0 a2 m0 m1):=⟨fun(w128,w127)=>([(14,xI w128),(15,xI w127)],[])⟩
abbrev z1L(a0:List Int)(a1:Int)(a2:Int)(a3:Int)(m0:Frm)(m1:List Int)(rf:List Int->Int->Int->Int->Frm->List Int->Option (List Int)):Int×Int->Option ((Int×Int)⊕List Int)
 |(w153,w152)=>
 if w153<w152 then
 chk (¬1<0)<|
 (atI a0 (i64.wrap ((i64.wrap ((i64.wrap ((md a1 a3)+a2))-1))-(md w153 w152)))).bind fun v157=>
 (atI a0 (md w153 w152)).bind fun v158=>
 (z1f v157 v158 m0 m1).bind fun v159=>
 if v159<0 then
 z0c (w153,i64.wrap (z1D .u64 (u64.wrap (i64.wrap (w153+w152))) 1))
 else
 z0c (i64.wrap ((md w153 w152)+1),w152)
 else
 z0d<|
 if w153<a2 then
 if a2<(i64.wrap ((i64.wrap ((md a1 a3)+a2))-w153)) then
 (z0W a0 w153 a2 (i64.wrap ((i64.wrap ((md a1 a3)+a2))-w153)) m0 m1).bind fun v160=>
 if a1<w153 then
 if w153<(md a1 a3) then
 (rf v160 a1 w153 (md a1 a3) m0 m1).bind fun v161=>
 if(md a1 a3)<(i64.wrap ((i64.wrap ((md a1 a3)+a2))-w153)) then
 if(i64.wrap ((i64.wrap ((md a1 a3)+a2))-w153))<a3 then
 (rf v161 (md a1 a3) (i64.wrap ((i64.wrap ((md a1 a3)+a2))-w153)) a3 m0 m1).bind fun v162=>
 some v162
 else
 some v161
 else
 some v161
 else
 if(md a1 a3)<(i64.wrap ((i64.wrap ((md a1 a3)+a2))-w153)) then
 if(i64.wrap ((i64.wrap ((md a1 a3)+a2))-w153))<a3 then
 (rf v160 (md a1 a3) (i64.wrap ((i64.wrap ((md a1 a3)+a2))-w153)) a3 m0 m1).bind fun v163=>
 some v163
 else
 some v160
 else
 some v160
 else
 if(md a1 a3)<(i64.wrap ((i64.wrap ((md a1 a3)+a2))-w153)) then
 if(i64.wrap ((i64.wrap ((md a1 a3)+a2))-w153))<a3 then
 (rf v160 (md a1 a3) (i64.wrap ((i64.wrap ((md a1 a3)+a2))-w153)) a3 m0 m1).bind fun v164=>
 some v164
 else
 some v160
 else
 some v160
 else
 if a1<w153 then
 if w153<(md a1 a3) then
 (rf a0 a1 w153 (md a1 a3) m0 m1).bind fun v165=>
 if(md a1 a3)<(i64.wrap ((i64.wrap ((md a1 a3)+a2))-w153)) then
 if(i64.wrap ((i64.wrap ((md a1 a3)+a2))-w153))<a3 then
 (rf v165 (md a1 a3) (i64.wrap ((i64.wrap ((md a1 a3)+a2))-w153)) a3 m0 m1).bind fun v166=>
 some v166
 else
 some v165
 else
 some v165
 else
 if(md a1 a3)<(i64.wrap ((i64.wrap ((md a1 a3)+a2))-w153)) then
 if(i64.wrap ((i64.wrap ((md a1 a3)+a2))-w153))<a3 then
 (rf a0 (md a1 a3) (i64.wrap ((i64.wrap ((md a1 a3)+a2))-w153)) a3 m0 m1).bind fun v167=>
 some v167
 else
 some a0
 else
 some a0
 else
 if(md a1 a3)<(i64.wrap ((i64.wrap ((md a1 a3)+a2))-w153)) then
 if(i64.wrap ((i64.wrap ((md a1 a3)+a2))-w153))<a3 then
 (rf a0 (md a1 a3) (i64.wrap ((i64.wrap ((md a1 a3)+a2))-w153)) a3 m0 m1).bind fun v168=>
 some v168
 else
 some a0
 else
 some a0
 else
 if a1<w153 then
 if w153<(md a1 a3) then
 (rf a0 a1 w153 (md a1 a3) m0 m1).bind fun v169=>
 if(md a1 a3)<(i64.wrap ((i64.wrap ((md a1 a3)+a2))-w153)) then
 if(i64.wrap ((i64.wrap ((md a1 a3)+a2))-w153))<a3 then
 (rf v169 (md a1 a3) (i64.wrap ((i64.wrap ((md a1 a3)+a2))-w153)) a3 m0 m1).bind fun v170=>
 some v170
 else
 some v169
 else
 some v169
 else
 if(md a1 a3)<(i64.wrap ((i64.wrap ((md a1 a3)+a2))-w153)) then
 if(i64.wrap ((i64.wrap ((md a1 a3)+a2))-w153))<a3 then
 (rf a0 (md a1 a3) (i64.wrap ((i64.wrap ((md a1 a3)+a2))-w153)) a3 m0 m1).bind fun v171=>
 some v171
 else
 some a0
 else
 some a0
 else
 if(md a1 a3)<(i64.wrap ((i64.wrap ((md a1 a3)+a2))-w153)) then
 if(i64.wrap ((i64.wrap ((md a1 a3)+a2))-w153))<a3 then
 (rf a0 (md a1 a3) (i64.wrap ((i64.wrap ((md a1 a3)+a2))-w153)) a3 m0 m1).bind fun v172=>
 some v172
 else
 some a0
 else
 some a0
instance:Hd (z1L a0 a1 a2 a3 m0 m1 rf):=⟨fun(w153,w152)=>([(20,xI w153),(21,xI w152)],[])⟩
abbrev z1G(a0:List Int)(a1:Int)(a2:Int)(a3:Int)(m0:Frm)(m1:List Int)(rf:List Int->Int->Int->Int->Frm->List Int->Option (List Int)):Int×Int->Option ((Int×Int)⊕List Int)
 |(w177,w176)=>
 if w177<w176 then
 chk (¬1<0)<|
 (atI a0 (i64.wrap ((i64.wrap ((i64.wrap ((md a1 a3)+a2))-1))-(md w177 w176)))).bind fun v181=>
 (atI a0 (md w177 w176)).bind fun v182=>
 (z1f v181 v182 m0 m1).bind fun v183=>
 if v183<0 then
 z0c (w177,i64.wrap (z1D .u64 (u64.wrap (i64.wrap (w177+w176))) 1))
 else
 z0c (i64.wrap ((md w177 w176)+1),w176)
 else
 z0d<|
 if w177<a2 then
 if a2<(i64.wrap ((i64.wrap ((md a1 a3)+a2))-w177)) then
 (z0W a0 w177 a2 (i64.wrap ((i64.wrap ((md a1 a3)+a2))-w177)) m0 m1).bind fun v184=>
 if a1<w177 then
 if w177<(md a1 a3) then
 (rf v184 a1 w177 (md a1 a3) m0 m1).bind fun v185=>
 if(md a1 a3)<(i64.wrap ((i64.wrap ((md a1 a3)+a2))-w177)) then
 if(i64.wrap ((i64.wrap ((md a1 a3)+a2))-w177))<a3 then
 (rf v185 (md a1 a3) (i64.wrap ((i64.wrap ((md a1 a3)+a2))-w177)) a3 m0 m1).bind fun v186=>
 some v186
 else
 some v185
 else
 some v185
 else
 if(md a1 a3)<(i64.wrap ((i64.wrap ((md a1 a3)+a2))-w177)) then
 if(i64.wrap ((i64.wrap ((md a1 a3)+a2))-w177))<a3 then
 (rf v184 (md a1 a3) (i64.wrap ((i64.wrap ((md a1 a3)+a2))-w177)) a3 m0 m1).bind fun v187=>
 some v187
 else
 some v184
 else
 some v184
 else
 if(md a1 a3)<(i64.wrap ((i64.wrap ((md a1 a3)+a2))-w177)) then
 if(i64.wrap ((i64.wrap ((md a1 a3)+a2))-w177))<a3 then
 (rf v184 (md a1 a3) (i64.wrap ((i64.wrap ((md a1 a3)+a2))-w177)) a3 m0 m1).bind fun v188=>
 some v188
 else
 some v184
 else
 some v184
 else
 if a1<w177 then
 if w177<(md a1 a3) then
 (rf a0 a1 w177 (md a1 a3) m0 m1).bind fun v189=>
 if(md a1 a3)<(i64.wrap ((i64.wrap ((md a1 a3)+a2))-w177)) then
 if(i64.wrap ((i64.wrap ((md a1 a3)+a2))-w177))<a3 then
 (rf v189 (md a1 a3) (i64.wrap ((i64.wrap ((md a1 a3)+a2))-w177)) a3 m0 m1).bind fun v190=>
 some v190
 else
 some v189
 else
 some v189
 else
 if(md a1 a3)<(i64.wrap ((i64.wrap ((md a1 a3)+a2))-w177)) then
 if(i64.wrap ((i64.wrap ((md a1 a3)+a2))-w177))<a3 then
 (rf a0 (md a1 a3) (i64.wrap ((i64.wrap ((md a1 a3)+a2))-w177)) a3 m0 m1).bind fun v191=>
 some v191
 else
 some a0
 else
 some a0
 else
 if(md a1 a3)<(i64.wrap ((i64.wrap ((md a1 a3)+a2))-w177)) then
 if(i64.wrap ((i64.wrap ((md a1 a3)+a2))-w177))<a3 then
 (rf a0 (md a1 a3) (i64.wrap ((i64.wrap ((md a1 a3)+a2))-w177)) a3 m0 m1).bind fun v192=>
 some v192
 else
 some a0
 else
 some a0
 else
 if a1<w177 then
 if w177<(md a1 a3) then
 (rf a0 a1 w177 (md a1 a3) m0 m1).bind fun v193=>
 if(md a1 a3)<(i64.wrap ((i64.wrap ((md a1 a3)+a2))-w177)) then
 if(i64.wrap ((i64.wrap ((md a1 a3)+a2))-w177))<a3 then
 (rf v193 (md a1 a3) (i64.wrap ((i64.wrap ((md a1 a3)+a2))-w177)) a3 m0 m1).bind fun v194=>
 some v194
 else
 some v193
 else
 some v193
 else
 if(md a1 a3)<(i64.wrap ((i64.wrap ((md a1 a3)+a2))-w177)) then
 if(i64.wrap ((i64.wrap ((md a1 a3)+a2))-w177))<a3 then
 (rf a0 (md a1 a3) (i64.wrap ((i64.wrap ((md a1 a3)+a2))-w177)) a3 m0 m1).bind fun v195=>
 some v195
 else
 some a0
 else
 some a0
 else
 if(md a1 a3)<(i64.wrap ((i64.wrap ((md a1 a3)+a2))-w177)) then
 if(i64.wrap ((i64.wrap ((md a1 a3)+a2))-w177))<a3 then
 (rf a0 (md a1 a3) (i64.wrap ((i64.wrap ((md a1 a3)+a2))-w177)) a3 m0 m1).bind fun v196=>
 some v196
 else
 some a0
 else
 some a0
instance:Hd (z1G a0 a1 a2 a3 m0 m1 rf):=⟨fun(w177,w176)=>([(20,xI w177),(21,xI w176)],[])⟩
def z0J(rf:List Int->Int->Int->Int->Frm->List Int->Option (List Int))(a0:List Int)(a1:Int)(a2:Int)(a3:Int)(m0:Frm)(m1:List Int):Option (List Int):=
 if(i64.wrap (a2-a1))=1 then
 z0h (z1U a0 a1 m0 m1) LFm (a2,a3)
 else
 if(i64.wrap (a3-a2))=1 then
 z0h (z1N a0 a2 m0 m1) LFm (a1,a2)
 else
 chk (¬1<0)<|
 if(md a1 a3)<a2 then
 z0h (z1L a0 a1 a2 a3 m0 m1 rf) LFm (i64.wrap ((i64.wrap ((md a1 a3)+a2))-a3),i64.wrap (z1D .u64 (u64.wrap (i64.wrap (a1+a3))) 1))
 else
 z0h (z1G a0 a1 a2 a3 m0 m1 rf) LFm (a1,a2)
theorem z3Z[ih:∀(a0:List Int) (a1:Int) (a2:Int) (a3:Int) (m0:Frm) (m1:List Int),Ok (rf a0 a1 a2 a3 m0 m1) (fun r=>L 209 [(tO a0),.sc (.int .i64 a1),.sc (.int .i64 a2),.sc (.int .i64 a3),.cl 149 [.pr [.pr [.sc (.int .i64 m0.d.letters),.sc (.int .i64 m0.d.start),(tB m0.d.final),(tR m0.d.next),(tI m0.x.sets),(tI m0.x.class_),(tI m0.x.height),(tR m0.x.tiles),(tS m0.x.words),(tS m0.x.back),(tI m0.comp),(tI m0.sizes),(tR m0.tiles),(tR m0.next)]],.pr [(tI m1)]]]=some (.tup [],[(tO r),.dead,.dead,.dead,.dead]))]:Ok (z0J rf a0 a1 a2 a3 m0 m1) (fun r=>L 209 [(tO a0),.sc (.int .i64 a1),.sc (.int .i64 a2),.sc (.int .i64 a3),.cl 149 [.pr [.pr [.sc (.int .i64 m0.d.letters),.sc (.int .i64 m0.d.start),(tB m0.d.final),(tR m0.d.next),(tI m0.x.sets),(tI m0.x.class_),(tI m0.x.height),(tR m0.x.tiles),(tS m0.x.words),(tS m0.x.back),(tI m0.comp),(tI m0.sizes),(tR m0.tiles),(tR m0.next)]],.pr [(tI m1)]]]=some (.tup [],[(tO r),.dead,.dead,.dead,.dead])):=⟨fun r h=>by have h:=z3p h;unfold z0J at h;exact z4q rfl Tryz.func209 (bdy Tryz.f209 rfl)⟩
def z0k:Nat->List Int->Int->Int->Int->Frm->List Int->Option (List Int)
 |0=>fun _ _ _ _ _ _=>none
 |k+1=>z0J (z0k k)
instance:∀ {k:Nat} {a0:List Int} {a1:Int} {a2:Int} {a3:Int} {m0:Frm} {m1:List Int},Ok (z0k k a0 a1 a2 a3 m0 m1) (fun r=>L 209 [(tO a0),.sc (.int .i64 a1),.sc (.int .i64 a2),.sc (.int .i64 a3),.cl 149 [.pr [.pr [.sc (.int .i64 m0.d.letters),.sc (.int .i64 m0.d.start),(tB m0.d.final),(tR m0.d.next),(tI m0.x.sets),(tI m0.x.class_),(tI m0.x.height),(tR m0.x.tiles),(tS m0.x.words),(tS m0.x.back),(tI m0.comp),(tI m0.sizes),(tR m0.tiles),(tR m0.next)]],.pr [(tI m1)]]]=some (.tup [],[(tO r),.dead,.dead,.dead,.dead])):=by
 intro k
 induction k with
 |zero=>intros;exact⟨fun r h=>by cases h⟩
 |succ k ih=>intros;have ih2:= @ih;exact z3Z (rf:=z0k k)
abbrev z0N(a1:Int)(m3:Frm)(m6:List Int)(w45:Int):Int×Int×List Int->Option ((Int×Int×List Int)⊕((Int×List Int)⊕List Int))
 |(w55,w56,w57)=>
 if w56<=a1 then
 (z0k 5000 w57 w55 (i64.wrap (w55+w45)) w56 m3 m6).bind fun v59=>
 z0c (w56,i64.wrap (w56+(i64.wrap (2*w45))),v59)
 else
 z0d<|
 if(i64.wrap (w55+w45))<a1 then
 (z0k 5000 w57 w55 (i64.wrap (w55+w45)) a1 m3 m6).bind fun v60=>
 z0c (i64.wrap (w45*2),v60)
 else
 z0c (i64.wrap (w45*2),w57)
instance{w45:Int}:Hd (z0N a1 m3 m6 w45):=⟨fun(w55,w56,w57)=>([(7,xI w55),(8,xI w56)],[(0,(tO w57))])⟩
abbrev z0O(a1:Int)(m3:Frm)(m6:List Int):Int×List Int->Option ((Int×List Int)⊕List Int)
 |(w45,w46)=>
 if w45<a1 then
 z0h (z0N a1 m3 m6 w45) LFm (0,i64.wrap (2*w45),w46)
 else
 z0d<|
 some w46
instance:Hd (z0O a1 m3 m6):=⟨fun(w45,w46)=>([(6,xI w45)],[(0,(tO w46))])⟩
abbrev z0P(a1:Int)(m3:Frm)(m6:List Int):Int×Int×List Int->Option ((Int×Int×List Int)⊕List Int)
 |(w32,w33,w34)=>
 if w33<=a1 then
 (z0D w34 w32 w33 m3 m6).bind fun v36=>
 z0c (w33,i64.wrap (w33+20),v36)
 else
 z0d<|
 (z0D w34 w32 a1 m3 m6).bind fun v37=>
 z0h (z0O a1 m3 m6) LFm (20,v37)
instance:Hd (z0P a1 m3 m6):=⟨fun(w32,w33,w34)=>([(7,xI w32),(8,xI w33)],[(0,(tO w34))])⟩
def z0U(a0:List Int)(a1:Int)(m3:Frm)(m6:List Int):Option (List Int):=
 z0h (z0P a1 m3 m6) LFm (0,20,a0)
instance:Ok (z0U a0 a1 m3 m6) (fun r=>L 181 [(tO a0),.sc (.int .i64 a1),.cl 149 [.pr [.pr [.sc (.int .i64 m3.d.letters),.sc (.int .i64 m3.d.start),(tB m3.d.final),(tR m3.d.next),(tI m3.x.sets),(tI m3.x.class_),(tI m3.x.height),(tR m3.x.tiles),(tS m3.x.words),(tS m3.x.back),(tI m3.comp),(tI m3.sizes),(tR m3.tiles),(tR m3.next)]],.pr [(tI m6)]]]=some (.tup [],[(tO r),.dead,.dead])):=⟨fun r h=>by have h:=z3p h;unfold z0U at h;exact z4q rfl Tryz.func181 (bdy Tryz.f181 rfl)⟩
def z0t(a0:List Int)(m7:Frm)(m9:List Int):Option (List Int):=
 (z0U a0 (a0.length:Int) m7 m9).bind fun v2=>
 some v2
instance{m7:Frm}{m9:List Int}:Ok (z0t a0 m7 m9) (fun r=>L 136 [(tO a0),.cl 149 [.pr [.pr [.sc (.int .i64 m7.d.letters),.sc (.int .i64 m7.d.start),(tB m7.d.final),(tR m7.d.next),(tI m7.x.sets),(tI m7.x.class_),(tI m7.x.height),(tR m7.x.tiles),(tS m7.x.words),(tS m7.x.back),(tI m7.comp),(tI m7.sizes),(tR m7.tiles),(tR m7.next)]],.pr [(tI m9)]]]=some (.tup [],[(tO r),.dead])):=⟨fun r h=>by have h:=z3p h;unfold z0t at h;exact z4q rfl Tryz.func136 (bdy Tryz.f136 rfl)⟩
abbrev z3c(a0:Frm)(v40:List Int)(w45:List Int):Int×List Int->Option ((Int×List Int)⊕Frm)
 |(w55,w56)=>
 if w55<(a0.x.class_.length:Int) then
 (atI a0.x.class_ w55).bind fun v60=>
 (z1r v40 v60).bind fun v61=>
 (atI w56 w55).bind fun v62=>
 z0c (i64.wrap (w55+1),(w56.set w55.toNat v61))
 else
 z0d<|
 some (⟨⟨a0.d.letters,a0.d.start,a0.d.final,a0.d.next⟩,⟨a0.x.sets,a0.x.class_,a0.x.height,a0.x.tiles,a0.x.words,a0.x.back⟩,w56,w45,a0.tiles,a0.next⟩:Frm)
instance{a0:Frm}{w45:List Int}:Hd (z3c a0 v40 w45):=⟨fun(w55,w56)=>([(69,xI w55)],[(2,.vr [.vr [.sc (.int .i64 a0.d.letters),.sc (.int .i64 a0.d.start),(tB a0.d.final),(tR a0.d.next),(tI a0.x.sets),(tI a0.x.class_),(tI a0.x.height),(tR a0.x.tiles),(tS a0.x.words),(tS a0.x.back),(tO w56),(tO w45),.os 1 a0.tiles.length (a0.tiles.map fun x0=>(tO x0)),.os 1 a0.next.length (a0.next.map fun x0=>(tO x0))]])])⟩
abbrev z3d(a0:Frm)(a1:List Int)(v40:List Int):Int×List Int->Option ((Int×List Int)⊕Frm)
 |(w44,w45)=>
 if w44<(v40.length:Int) then
 (atI v40 w44).bind fun v49=>
 (atI a1 v49).bind fun v50=>
 (atI a0.x.tiles v50).bind fun v51=>
 chk (z1C 8 (w45.length+1))<|
 z0c (i64.wrap (w44+1),w45++ [(v51.length:Int)])
 else
 z0d<|
 z0h (z3c a0 v40 w45) LFm (0,a0.comp)
instance{a0:Frm}{a1:List Int}:Hd (z3d a0 a1 v40):=⟨fun(w44,w45)=>([(37,xI w44)],[(2,.vr [.vr [.sc (.int .i64 a0.d.letters),.sc (.int .i64 a0.d.start),(tB a0.d.final),(tR a0.d.next),(tI a0.x.sets),(tI a0.x.class_),(tI a0.x.height),(tR a0.x.tiles),(tS a0.x.words),(tS a0.x.back),(tO a0.comp),(tO w45),.os 1 a0.tiles.length (a0.tiles.map fun x0=>(tO x0)),.os 1 a0.next.length (a0.next.map fun x0=>(tO x0))]])])⟩
abbrev z3y(a0:Frm)(a1:List Int):Int×List Int->Option ((Int×List Int)⊕Frm)
 |(w34,w35)=>
 if w34<(a1.length:Int) then
 (atI a1 w34).bind fun v38=>
 (atI a0.x.height v38).bind fun v39=>
 if 1<=v39 then
 chk (z1C 8 (w35.length+1))<|
 z0c (i64.wrap (w34+1),w35++ [w34])
 else
 z0c (i64.wrap (w34+1),w35)
 else
 z0d<|
 (z0t w35 a0 a1).bind fun v40=>
 z0h (z3d a0 a1 v40) LFm (0,a0.sizes)
instance{a0:Frm}{a1:List Int}:Hd (z3y a0 a1):=⟨fun(w34,w35)=>([(13,xI w34)],[(4,(tO w35))])⟩
def z3j(a0:Frm)(a1:List Int):Option (Frm):=
 z0h (z3y a0 a1) LFm (0,[])
instance{a0:Frm}{a1:List Int}:Ok (z3j a0 a1) (fun r=>L 95 [.vr [.sc (.int .i64 a0.d.letters),.sc (.int .i64 a0.d.start),(tB a0.d.final),(tR a0.d.next),(tI a0.x.sets),(tI a0.x.class_),(tI a0.x.height),(tR a0.x.tiles),(tS a0.x.words),(tS a0.x.back),(tO a0.comp),(tO a0.sizes),.os 1 a0.tiles.length (a0.tiles.map fun x0=>(tO x0)),.os 1 a0.next.length (a0.next.map fun x0=>(tO x0))],(tI a1)]=some (.tup [],[.vr [.sc (.int .i64 r.d.letters),.sc (.int .i64 r.d.start),(tB r.d.final),(tR r.d.next),(tI r.x.sets),(tI r.x.class_),(tI r.x.height),(tR r.x.tiles),(tS r.x.words),(tS r.x.back),(tO r.comp),(tO r.sizes),.os 1 r.tiles.length (r.tiles.map fun x0=>(tO x0)),.os 1 r.next.length (r.next.map fun x0=>(tO x0))],.dead])):=⟨fun r h=>by have h:=z3p h;unfold z3j at h;exact z4q rfl Tryz.func95 (bdy Tryz.f95 rfl)⟩
abbrev z4A(a0:DFA)(v99:Imgs×Int)(w103:List (Int×Int))(w137:Int)(w138:List (List Int))(w139:List (List Int))(w171:List Int)(v179:List Int):Int×List Int->Option ((Int×List Int)⊕((Int×List (List Int)×List (List Int))⊕(Frm×Int)))
 |(w184,w185)=>
 if w184<(v179.length:Int) then
 (atI v179 w184).bind fun v191=>
 (atI v99.1.sets v191).bind fun v192=>
 (atI v99.1.words w137).bind fun v193=>
 (z5x a0 v192 v193).bind fun v194=>
 (atI w185 w184).bind fun v195=>
 z0c (i64.wrap (w184+1),(w185.set w184.toNat ((z7G v194 w103).getD 0)))
 else
 z0d<|
 chk (z1C 24 (w138.length+1))<|
 z0c (i64.wrap (w137+1),w138++ [w185],w139++ [w171])
instance{a0:DFA}{w171:List Int}{v179:List Int}:Hd (z4A a0 v99 w103 w137 w138 w139 w171 v179):=⟨fun(w184,w185)=>([(119,xI w184)],[(15,(tO w185))])⟩
abbrev z4B(a0:DFA)(v99:Imgs×Int)(w103:List (Int×Int))(w104:List Int)(w137:Int)(w138:List (List Int))(w139:List (List Int))(v168:Int):Int×List Int->Option ((Int×List Int)⊕((Int×List (List Int)×List (List Int))⊕(Frm×Int)))
 |(w170,w171)=>
 if w170<a0.letters then
 (z5x a0 v168 ⟨#[UInt8.ofNat (u8.wrap (i64.wrap (97+w170))).toNat]⟩).bind fun v174=>
 (atI w171 w170).bind fun v175=>
 z0c (i64.wrap (w170+1),(w171.set w170.toNat ((z7G v174 w103).getD 0)))
 else
 z0d<|
 chk (z1C 24 (w139.length+1))<|
 (atI v99.1.tiles w137).bind fun v176=>
 chk (z0S 8 (v176.length:Int))<|
 (atI v99.1.class_ w137).bind fun v177=>
 (atI w104 v177).bind fun v178=>
 (atI v99.1.tiles v178).bind fun v179=>
 z0h (z4A a0 v99 w103 w137 w138 w139 w171 v179) LFm (0,List.replicate (v176.length:Int).toNat (0:Int))
instance{a0:DFA}{v168:Int}:Hd (z4B a0 v99 w103 w104 w137 w138 w139 v168):=⟨fun(w170,w171)=>([(76,xI w170)],[(13,(tO w171))])⟩
abbrev z4C(a0:DFA)(v99:Imgs×Int)(w103:List (Int×Int))(w104:List Int):Int×List (List Int)×List (List Int)->Option ((Int×List (List Int)×List (List Int))⊕(Frm×Int))
 |(w137,w138,w139)=>
 if w137<(v99.1.sets.length:Int) then
 (atI v99.1.sets w137).bind fun v168=>
 chk (z0S 8 a0.letters)<|
 z0h (z4B a0 v99 w103 w104 w137 w138 w139 v168) LFm (0,List.replicate a0.letters.toNat (0:Int))
 else
 z0d<|
 (z3j (⟨⟨a0.letters,a0.start,a0.final,a0.next⟩,⟨v99.1.sets,v99.1.class_,v99.1.height,v99.1.tiles,v99.1.words,v99.1.back⟩,List.replicate (v99.1.sets.length:Int).toNat (0:Int),[],w138,w139⟩:Frm) w104).bind fun v196=>
 some (v196,0)
instance{a0:DFA}:Hd (z4C a0 v99 w103 w104):=⟨fun(w137,w138,w139)=>([(66,xI w137)],[(6,.vr [.sc (.int .i64 a0.letters),.sc (.int .i64 a0.start),(tB a0.final),(tR a0.next),(tI v99.1.sets),(tI v99.1.class_),(tI v99.1.height),(tR v99.1.tiles),(tS v99.1.words),(tS v99.1.back),.os 1 (List.replicate (v99.1.sets.length:Int).toNat (0:Int)).length ((List.replicate (v99.1.sets.length:Int).toNat (0:Int)).map fun x0=>.sc (.int .i64 x0)),.os 1 0 [],.os 1 w138.length (w138.map fun x0=>(tO x0)),.os 1 w139.length (w139.map fun x0=>(tO x0))])])⟩
abbrev z4X(a0:DFA)(v99:Imgs×Int):Int×(List (Int×Int))×List Int->Option ((Int×(List (Int×Int))×List Int)⊕(Frm×Int))
 |(w102,w103,w104)=>
 if w102<(v99.1.sets.length:Int) then
 (atI v99.1.sets w102).bind fun v107=>
 (atI v99.1.class_ w102).bind fun v108=>
 if v108=(w104.length:Int) then
 chk (z1C 8 (w104.length+1))<|
 z0c (i64.wrap (w102+1),z8p v107 w102 w103,w104++ [w102])
 else
 z0c (i64.wrap (w102+1),z8p v107 w102 w103,w104)
 else
 z0d<|
 z0h (z4C a0 v99 w103 w104) LFm (0,[],[])
instance{a0:DFA}:Hd (z4X a0 v99):=⟨fun(w102,w103,w104)=>([(42,xI w102)],[(7,.mp (some .i64) (w103.map fun x0=>(.int .i64 x0.1,.int .i64 x0.2))),(8,(tO w104))])⟩
def z3Q(a0:DFA):Option (Frm×Int):=
 (z9f a0).bind fun v99=>
 if v99.2=0 then
 chk (z0S 8 (v99.1.sets.length:Int))<|
 z0h (z4X a0 v99) LFm (0,([]:List (Int×Int)),[])
 else
 some ((⟨⟨0,0,[],[]⟩,⟨[],[],[],[],[],[]⟩,[],[],[],[]⟩:Frm),v99.2)
instance{a0:DFA}:Ok (z3Q a0) (fun r=>L 44 [.agg [.sc (.int .i64 a0.letters),.sc (.int .i64 a0.start),(tB a0.final),(tR a0.next)]]=some (.tup [.agg [.sc (.int .i64 r.1.d.letters),.sc (.int .i64 r.1.d.start),(tB r.1.d.final),(tR r.1.d.next),(tI r.1.x.sets),(tI r.1.x.class_),(tI r.1.x.height),(tR r.1.x.tiles),(tS r.1.x.words),(tS r.1.x.back),(tI r.1.comp),(tI r.1.sizes),(tR r.1.tiles),(tR r.1.next)],.sc (.int .i64 r.2)],[.dead])):=⟨fun r h=>by have h:=z3p h;unfold z3Q at h;exact zhQ rfl Tryz.func44 (bdy Tryz.f44 rfl)⟩
end
end
section
open Go
def zyC(M H:List Int)(x:Int):Option Int:=(atI M x).bind fun r=>atI H r
def zAR(F:Frm)(M:List Int):SrtC where
 cmp x y:=z1f x y F M
 key x:=x-(zyC M F.x.height x).getD 0*1048576
 ok x:=0<=x/\x<1048576/\(zyC M F.x.height x).isSome
 law x y hx hy hl:=by
  obtain⟨x0,x1,x2⟩:=hx
  obtain⟨y0,y1,y2⟩:=hy
  obtain⟨u,hu⟩:=ZT.1 x2
  obtain⟨v,hv⟩:=ZT.1 y2
  have hu':=hu
  have hv':=hv
  unfold zyC at hu hv
  cases h1:atI M x with
  |none=>rw[h1] at hu;cases hu
  |some p=>
   cases h2:atI M y with
   |none=>rw[h2] at hv;cases hv
   |some q=>
    rw[h1,Z0] at hu
    rw[h2,Z0] at hv
    obtain⟨z,e1,e2⟩:=zvw v u
    refine⟨z,?_,?_⟩
    · unfold z1f
      rw[h2,Z0,hv,Z0,h1,Z0,hu,Z0,e1];rfl
    · rw[e2,hu',hv',Z4,Z4]
      omega
theorem zld:∀k,z0k k=fun l a m b F M=>zxo k l a m b (zAR F M)
 |0=>rfl
 |k+1=>by
  show z0J (z0k k)=_
  rw[zld k]
  rfl
theorem zsz(l:List Int)(F:Frm)(M:List Int):z0t l F M=zCc l (zAR F M):=by
 have h9:z0N=fun a F M k=>zcD a (zAR F M) k:=by
  unfold z0N
  rw[zld]
  all_goals rfl
 have h7:z0O=fun a F M=>zeF a (zAR F M):=by
  unfold z0O
  rw[h9]
  all_goals rfl
 have h2:z0P=fun a F M=>zeG a (zAR F M):=by
  unfold z0P
  rw[h7]
  all_goals rfl
 unfold z0t z0U
 rw[h2]
 all_goals rfl
end
section
open Go
theorem zAY{k:Nat}(h:97<=k)(h2:k<256):IntKind.u8.wrap ((k:Int)-97)=((k-97:Nat):Int):=by
 rw[YK];omega
theorem zp2{d:DFA}{m n:Nat}(hd:DfaOk d m n)(hn:n<=12){s:Nat}(hs:s<2^n){w:ByteArray}(hw:zhU m w.data.toList)(hsz:w.size<2^40):z5x d (s:Int) w=some ((z4i d s w.data.toList:Nat):Int):=by
 have hl:w.data.toList.length=w.size:=by rw[ZX];rfl
 have h12:=zgG hn
 unfold z5x
 refine z0n (s:=((s:Int),(0:Int))) w.size (fun k=>(((z4i d s (w.data.toList.take k):Nat):Int),(k:Int))) rfl (by simp only[LFm];omega) (fun k hk=> ?_) ?_
 · have hk':k<w.data.toList.length:=by omega
   have hc:=hw _ (Zk hk')
   have hb:w[k]=w.data.toList[k]:=by rw[za7 hk,List.getD,Z1 hk',Z4]
   have h256:w.data.toList[k].toNat<256:=w.data.toList[k].toNat_lt
   have hcur:=zgy hd hs (w:=w.data.toList.take k) fun c hc=>hw c (ZH hc)
   simp only[z6b]
   rw[if_pos (by omega),zlb hk',z5D]
   show _=z0c (((mvN d (z4i d s (w.data.toList.take k)) (w.data.toList[k].toNat-97):Nat):Int),_)
   generalize z4i d s (w.data.toList.take k)=s' at*
   unfold mvN
   refine z0n (s:=((0:Int),(0:Int))) n (fun q=>(((zjp d.next s' (w.data.toList[k].toNat-97) q:Nat):Int),(q:Int))) rfl (by simp only[LFm];omega) (fun q hq=> ?_) ?_
   · have ha:w.data.toList[k].toNat-97<m:=by omega
     have hlt:=zgN hd (s:=s') ha q (by omega)
     obtain⟨h1,h2,e,h3,h4⟩:=zcq hd (q:=q) hq ha
     simp only[z6a]
     rw[if_pos (by omega),z0A h1]
     simp only[Z0]
     rw[z0i _ (by omega),z0H (by omega)]
     by_cases hbt:s'.testBit q=true
     · rw[if_pos ((zhE (by omega) (by omega)).2 hbt),zbh hk]
       simp only[Z0]
       rw[hb,zAY hc.1 h256,z0A h2]
       simp only[Z0]
       obtain⟨v,hv⟩:=ZG h3
       rw[z0i _ (by omega),hv,z8B (by omega),znb (by omega) (Yn (by omega) (by omega))]
       simp only[zjp]
       rw[if_pos hbt,e,hv,Z2]
     · rw[if_neg (fun h=>hbt ((zhE (by omega) (by omega)).1 h))]
       simp only[zjp]
       rw[if_neg hbt]
   · simp only[z6a]
     rw[if_neg (by rw[hd.nl];omega),hd.nl,z0H (by omega)]
 · simp only[z6b]
   rw[if_neg (by omega),←hl,Y9]
def cpI(d:DFA)(m n:Nat)(S O:List Nat)(i:Nat):Int:=if clN d m n S i∈O then((cpN d m n S O i:Nat):Int) else-1
def z9q(d:DFA)(m n:Nat)(S O:List Nat):Frm:=⟨d,z4d d m n S,(List.range S.length).map (cpI d m n S O),toI ((List.range O.length).map (szO d m n S O)),(List.range S.length).map fun i=>toI (tlR d m n S i),(List.range S.length).map fun i=>toI ((List.range m).map (z4E d S i))⟩
theorem zjI{l:List Nat}{x:Nat}(hl:l.length<4611686018427387904):z1r (toI l) (x:Int)=some (if x∈l then((l.idxOf x:Nat):Int) else-1):=by
 unfold z1r
 rw[z4N (s:=(0:Int)) l.length (fun k=>(k:Int)) (fun k=>decide (x=l.getD k 0)) (fun k=>some (k:Int)) (x:=some (-1)) rfl (by simp only[LFm];omega) (fun k hk=> ?_) ?_]
 · by_cases hx:x∈l
   · have h1:=z5d hx
     rw[if_pos hx]
     have hf:(List.range l.length).find? (fun k=>decide (x=l.getD k 0))=some (l.idxOf x):=by
      rw[YN]
      refine⟨by rw[decide_eq_true_eq,z2k hx],by simpa using h1,fun j hj=> ?_⟩
      have hjl:j<l.length:=by omega
      have h3:=List.not_of_lt_findIdx (p:=(·==x)) (xs:=l) (i:=j) hj
      simp only[ZU,decide_eq_false_iff_not]
      intro e
      rw[List.getD,Z1 hjl,Z4] at e
      rw[←e] at h3
      simp at h3
     rw[hf]
   · rw[if_neg hx]
     have hf:(List.range l.length).find? (fun k=>decide (x=l.getD k 0))=none:=by
      rw[XW]
      intro k hk
      have hk:=Zh.1 hk
      simp only[decide_eq_true_eq]
      intro e
      exact hx (e▸z0e hk)
     rw[hf]
 · simp only[z2b]
   rw[if_neg (by rw[z0a];omega)]
 · simp only[z2b]
   rw[if_pos (by rw[z0a];omega),z1o hk]
   simp only[Z0]
   by_cases e:x=l.getD k 0
   · rw[if_pos (by rw[e]),if_pos (by rw[decide_eq_true_eq];exact e)]
   · rw[if_neg (by omega),if_neg (by rw[decide_eq_true_eq];exact e),z0H (by omega)]
end
section
open Go
section
variable {d:DFA} {m n:Nat} {S:List Nat} (hd:DfaOk d m n) (hn:n<=7) (hS:SetsP d m n S) (hH:zhR d m n S) {O:List Nat} (hO:OrdC d m n S O)
include hd hn hS hH hO
theorem ztz(hSl:S.length<=1000)(C:List Int)(hC0:C=List.replicate S.length 0)(T N:List (List Int)):
 z3j ⟨d,z4d d m n S,C,[],T,N⟩ (toI (z6L d m n S))=some ⟨d,z4d d m n S,(List.range S.length).map (cpI d m n S O),toI ((List.range O.length).map (szO d m n S O)),T,N⟩:=by
 have hhat:∀i,i<S.length->atI (z4d d m n S).height (i:Int)=some ((z8n d m n S i:Nat):Int):=fun i hi=>z2S hi
 have htat:∀i,i<S.length->atI (z4d d m n S).tiles (i:Int)=some (toI (z7l S i)):=fun i hi=>z2S hi
 have hcat:∀i,i<S.length->atI (z4d d m n S).class_ (i:Int)=some ((clN d m n S i:Nat):Int):=fun i hi=>z2S hi
 have l2:(z4d d m n S).class_.length=S.length:=by simp[z4d,zvC]
 have hfl:(z6L d m n S).length<=S.length:=z6o (z2t d m n S) S.length
 have hfat:∀c,c<(z6L d m n S).length->atI (toI (z6L d m n S)) (c:Int)=some ((z1j d m n S c:Nat):Int):=fun c hc=>z1o hc
 have hflt:∀c,c<(z6L d m n S).length->z1j d m n S c<S.length:=fun c hc=>(z2c hd hn hS hc).2
 have hout:∀c∈zaC d m n S S.length,c<(z6L d m n S).length:=fun c hc=>Zh.1 (ZL.1 hc).1
 have hol:(zaC d m n S S.length).length<=S.length:=by
  unfold zaC
  exact ZO (ZI _ _) (by rw[ZC];exact hfl)
 have hOl:O.length<=S.length:=by rw[hO.prm.length_eq];exact hol
 have hko:∀c,c<(z6L d m n S).length->zyC (toI (z6L d m n S)) (z4d d m n S).height (c:Int)=some ((hC d m n S c:Nat):Int):=fun c hc=>by
  unfold zyC
  rw[hfat c hc,Z0,hhat _ (hflt c hc)];rfl
 have hasc:(toI (zaC d m n S S.length)).Pairwise (·< ·):=by
  unfold toI zaC
  exact Yt _ (fun a b (h:a<b)=>by omega) (YD _ XH)
 obtain⟨Z,e,z1,z2⟩:=zmV (K:=zAR ⟨d,z4d d m n S,C,[],T,N⟩ (toI (z6L d m n S))) (l:=toI (zaC d m n S S.length))
  (fun x hx=>by
    obtain⟨c,hc,rfl⟩:=Zj.1 hx
    have:=hout c hc
    exact⟨by omega,by omega,by show(zyC (toI (z6L d m n S)) (z4d d m n S).height (c:Int)).isSome=true;rw[hko c this];rfl⟩) hasc (by rw[z0a];omega)
 have hZ:∃O',Z=toI O'/\O'.Perm (zaC d m n S S.length):=by
  refine⟨Z.map Int.toNat,?_,?_⟩
  · unfold toI
    rw[Yd]
    refine(XZ Z).symm.trans (ZB fun x hx=> ?_)
    obtain⟨c,hc,rfl⟩:=Zj.1 (z2.mem_iff.1 hx)
    simp
  · have:=z2.map Int.toNat
    refine this.trans ?_
    unfold toI
    rw[Yd]
    have:(Int.toNat∘fun x:Nat=>(x:Int))=id:=by funext x;simp
    rw[this,YX]
 obtain⟨O',rfl,hO'⟩:=hZ
 have hs':zAE (hC d m n S) O':=by
  have z1':(O'.map fun x:Nat=>(x:Int)).Pairwise _:=z1
  rw[XY] at z1'
  refine XC (fun {x y} hx hy h=> ?_) z1'
  have ox:=hout x (hO'.mem_iff.1 hx)
  have oy:=hout y (hO'.mem_iff.1 hy)
  have h3:(x:Int)-(zyC (toI (z6L d m n S)) (z4d d m n S).height (x:Int)).getD 0*1048576<=(y:Int)-(zyC (toI (z6L d m n S)) (z4d d m n S).height (y:Int)).getD 0*1048576:=h
  rw[hko x ox,hko y oy,Z4,Z4] at h3
  unfold leH
  omega
 obtain rfl:O'=O:=zzA hs' hO.srt hO' hO.prm
 have hOat:∀c,c<O'.length->O'.getD c 0<(z6L d m n S).length:=fun c hc=>hout _ (hO'.mem_iff.1 (z0e hc))
 unfold z3j
 refine z0n (s:=((0:Int),([]:List Int))) (z6L d m n S).length (fun k=>((k:Int),toI ((List.range k).filter fun c=>decide (0<hC d m n S c)))) rfl (by simp only[LFm];omega) (fun c hc=> ?_) ?_
 · have hq:(toI ((List.range c).filter fun c=>decide (0<hC d m n S c))).length<=c:=by
    rw[z0a]
    exact ZO (ZI _ _) (by rw[ZC];omega)
   simp only[z3y]
   rw[z0a,if_pos (by omega),hfat c hc,Z0,hhat _ (hflt c hc),Z0,z0H (by omega),Yz,Xt,X3,XL]
   by_cases h:0<hC d m n S c
   · have h':0<z8n d m n S (z1j d m n S c):=h
     rw[if_pos (by omega),z0i _ (by unfold z1C;omega),if_pos (by simpa using h),z6u]
   · have h':¬0<z8n d m n S (z1j d m n S c):=h
     rw[if_neg (by omega),if_neg (by simpa using h),Yb]
 · simp only[z3y]
   rw[z0a,if_neg (by omega),zsz]
   have e':toI ((List.range (z6L d m n S).length).filter fun c=>decide (0<hC d m n S c))=toI (zaC d m n S S.length):=rfl
   rw[e',e,Z0]
   congr 1
   refine z0n (s:=((0:Int),([]:List Int))) O'.length (fun k=>((k:Int),toI ((List.range k).map (szO d m n S O')))) rfl (by simp only[LFm];omega) (fun c hc=> ?_) ?_
   · have h1:=hOat c hc
     simp only[z3d]
     rw[z0a,if_pos (by omega),z1o hc,Z0,hfat _ h1,Z0,htat _ (hflt _ h1),Z0,z0a,Z8,ZC,z0i _ (by unfold z1C;omega),z0H (by omega),Yz,Y0,Zq,Yr,z6u,z0a]
     rfl
   · simp only[z3d]
     rw[z0a,if_neg (by omega)]
     congr 1
     refine z0n (s:=((0:Int),C)) S.length (fun k=>((k:Int),zav S.length (cpI d m n S O') (fun _=>0) k)) (by rw[z9s,hC0];congr 1;exact(Ze (by simp) fun i h1 h2=>by simp)) (by simp only[LFm];omega) (fun i hi=> ?_) ?_
     · simp only[z3c]
       rw[l2,if_pos (by omega),hcat i hi,Z0,zjI (by omega),Z0,z6H hi,Z0,z0H (by omega),Z2]
       have e2:(if clN d m n S i∈O' then((O'.idxOf (clN d m n S i):Nat):Int) else-1)=cpI d m n S O' i:=rfl
       rw[e2,z4I hi]
     · simp only[z3c]
       rw[l2,if_neg (by omega),z9r]
theorem zlL(hSl:S.length<=1000)(hOf:z9f d=some (z4d d m n S,0)):z3Q d=some (z9q d m n S O,0):=by
 have h12:=zgG (show n<=12 by omega)
 have hm6:=hd.m6
 have hhat:∀i,i<S.length->atI (z4d d m n S).height (i:Int)=some ((z8n d m n S i:Nat):Int):=fun i hi=>z2S hi
 have htat:∀i,i<S.length->atI (z4d d m n S).tiles (i:Int)=some (toI (z7l S i)):=fun i hi=>z2S hi
 have hcat:∀i,i<S.length->atI (z4d d m n S).class_ (i:Int)=some ((clN d m n S i:Nat):Int):=fun i hi=>z2S hi
 have hwat:∀i,i<S.length->atI (z4d d m n S).words (i:Int)=some (zaH d m n S i):=fun i hi=>z2S hi
 have hsat:∀i,i<S.length->atI (z4d d m n S).sets (i:Int)=some ((S.getD i 0:Nat):Int):=fun i hi=>z1o hi
 have ls:(z4d d m n S).sets.length=S.length:=z0a S
 have hfl:(z6L d m n S).length<=S.length:=z6o (z2t d m n S) S.length
 have he:=z8o hd hS
 have hget:∀x,x∈S->(z7G ((x:Nat):Int) (zha S S.length)).getD 0=((S.idxOf x:Nat):Int):=fun x hx=>by
  have:=zfy hS.nd S.length (Z7 _) (z5d hx)
  rw[z2k hx] at this
  rw[this];rfl
 unfold z3Q
 rw[hOf,Z0]
 simp only[if_true]
 rw[ls,z0i _ (by unfold z0S;omega)]
 refine z0n (s:=((0:Int),([]:List (Int×Int)),([]:List Int))) S.length (fun k=>((k:Int),zha S k,toI (z1h (z2t d m n S) k))) rfl (by simp only[LFm];omega) (fun i hi=> ?_) ?_
 · have hfi:=z6o (z2t d m n S) i
   simp only[z4X]
   rw[ls,if_pos (by omega),hsat i hi,Z0,hcat i hi,Z0,z0a,z0H (by omega)]
   rcases zdC he hi with⟨h1,_,h3⟩|⟨h1,_,h3⟩
   · rw[if_neg (by unfold clN;omega),h3];rfl
   · rw[if_pos (by unfold clN;omega),z0i _ (by unfold z1C;omega),h3,z6u];rfl
 · simp only[z4X]
   rw[ls,if_neg (by omega)]
   congr 1
   refine z0n (s:=((0:Int),([]:List (List Int)),([]:List (List Int)))) S.length (fun k=>((k:Int),(List.range k).map (fun i=>toI (tlR d m n S i)),(List.range k).map fun i=>toI ((List.range m).map (z4E d S i)))) rfl (by simp only[LFm];omega) (fun i hi=> ?_) ?_
   · have hil:=hS.lt _ (z0e hi:S.getD i 0∈S)
     have hfi:=zjU hd hn hS hi
     simp only[z4C]
     rw[ls,if_pos (by omega),hsat i hi,Z0,hd.lt,z0i _ (by unfold z0S;omega),Z2]
     refine z0n (s:=((0:Int),List.replicate m (0:Int))) m (fun a=>((a:Int),zav m (fun a=>((z4E d S i a:Nat):Int)) (fun _=>0) a)) (by rw[z9s];congr 1;exact(Ze (by simp) fun i h1 h2=>by simp)) (by simp only[LFm];omega) (fun a ha=> ?_) ?_
     · simp only[z4B]
       have hlw:(zoU a).data.toList= [UInt8.ofNat (97+a)]:=z9a a
       have hln:=z6V (a:=a) (by omega)
       rw[hd.lt,if_pos (by omega),zjB (by omega),zp2 hd (by omega) hil (w:=zoU a) (fun c hc=>by rw[hlw] at hc;rw[Zi.1 hc,hln];omega) (by rw[z8k];omega),Z0,z6H ha,Z0,z0H (by omega),Z2]
       have er:z4i d (S.getD i 0) (zoU a).data.toList=mvN d (S.getD i 0) a:=by
        rw[hlw]
        simp only[z4i,hln]
        rw[show 97+a-97=a by omega]
       rw[er,hget _ (hS.cl _ (z0e hi) a ha)]
       exact congrArg (fun x=>z0c (((a+1:Nat):Int),x)) (z4I (f:=fun a=>((z4E d S i a:Nat):Int)) ha)
     · simp only[z4B]
       have htl:=zsk hd hn hS hfi hi (z9w hd hn hS hi).1 (zbV hd hn hS hi).1
       have htb:=zmT hd hn hS hi
       rw[zei] at htb
       rw[hd.lt,if_neg (by omega)]
       congr 1
       rw[Z8,ZC,z0i _ (by unfold z1C;omega),htat i hi,Z0,z0a,z0i _ (by unfold z0S;omega),hcat i hi,Z0]
       have hcf:atI (toI (z1h (z2t d m n S) S.length)) ((clN d m n S i:Nat):Int)=some ((z5w d m n S i:Nat):Int):=by
        obtain⟨c1,c2⟩:=zmm hd hn hS hi
        have:=z1o c1
        rw[c2] at this
        exact this
       rw[hcf,Z0,htat _ hfi,Z0,Z2]
       refine z0n (s:=((0:Int),List.replicate (z7l S i).length (0:Int))) (z7l S i).length (fun s=>((s:Int),zav (z7l S i).length (fun s=>(((tlR d m n S i).getD s 0:Nat):Int)) (fun _=>0) s)) (by rw[z9s];congr 1;exact(Ze (by simp) fun i h1 h2=>by simp)) (by simp only[LFm];omega) (fun s hs=> ?_) ?_
       · have hs':s<(z7l S (z5w d m n S i)).length:=by omega
         obtain⟨_,t2,_,_⟩:=zgk hn hS hfi (z0e hs')
         obtain⟨hl,hz⟩:=z9w hd hn hS hi
         have hmem:z4i d (S.getD ((z7l S (z5w d m n S i)).getD s 0) 0) (zaH d m n S i).data.toList∈S:=ziF hS hl.hw (z0e t2)
         simp only[z4A]
         rw[z0a,if_pos (by omega),z1o hs',Z0,hsat _ t2,Z0,hwat i hi,Z0,zp2 hd (by omega) (hS.lt _ (z0e t2)) hl.hw (by omega),Z0,z6H hs,Z0,z0H (by omega),Z2,hget _ hmem]
         have e1:(tlR d m n S i).getD s 0=S.idxOf (z4i d (S.getD ((z7l S (z5w d m n S i)).getD s 0) 0) (zaH d m n S i).data.toList):=by
          simp[tlR,List.getD,hs']
         rw[←e1]
         exact congrArg (fun x=>z0c (((s+1:Nat):Int),x)) (z4I (f:=fun s=>(((tlR d m n S i).getD s 0:Nat):Int)) hs)
       · simp only[z4A]
         rw[z0a,if_neg (by omega)]
         congr 1
         rw[Z8,ZC,z0i _ (by unfold z1C;omega),z0H (by omega),z9r,z9r,Yz,Y0,Y0,Zq,Zq,Yr,Yr]
         have e1:(List.range (z7l S i).length).map (fun s=>(((tlR d m n S i).getD s 0:Nat):Int))=toI (tlR d m n S i):=by
          refine Ze (by rw[Z8,ZC,z0a,zfk hd hn hS hi]) fun k h1 h2=> ?_
          have:k<(tlR d m n S i).length:=by rwa [z0a] at h2
          simp[toI,List.getD,this]
         have e2:(List.range m).map (fun a=>((z4E d S i a:Nat):Int))=toI ((List.range m).map (z4E d S i)):=by simp[toI,Function.comp_def]
         rw[e1,e2]
   · simp only[z4C]
     rw[ls,if_neg (by omega)]
     congr 1
     have:=ztz hd hn hS hH hO hSl (List.replicate S.length 0) rfl ((List.range S.length).map fun i=>toI (tlR d m n S i)) ((List.range S.length).map fun i=>toI ((List.range m).map (z4E d S i)))
     rw[Z2]
     have e3:toI (z1h (z2t d m n S) S.length)=toI (z6L d m n S):=rfl
     rw[e3]
     refine(congrArg (fun x=>Option.bind x fun v196=>some (v196,(0:Int))) this).trans ?_
     rfl
end
end
section
open Go Go.IntKind
noncomputable section
abbrev z8x(a0:List Int)(a1:List Int):Int->Option (Int⊕Bool)
 |w10=>
 if w10<(a1.length:Int) then
 (atI a1 w10).bind fun v13=>
 if v13<0 then
 z0d<|
 some false
 else
 (atI a0 w10).bind fun v14=>
 if v14<=v13 then
 z0d<|
 some false
 else
 z0c (i64.wrap (w10+1))
 else
 z0d<|
 some true
variable{a0 m1:Frm}{a2 a3 a4 m2 v40:Int}{a1:List Int}
instance{a0:List Int}:Hd (z8x a0 a1):=⟨fun w10=>([(14,xI w10)],[])⟩
def z4s(a0:List Int)(a1:List Int):Option (Bool):=
 if(a1.length:Int)=(a0.length:Int) then
 z0h (z8x a0 a1) LFm 0
 else
 some false
instance{a0:List Int}:Ok (z4s a0 a1) (fun r=>L 72 [(tI a0),(tI a1)]=some (.sc (.bool r),[.dead,.dead])):=⟨fun r h=>by have h:=z3p h;unfold z4s at h;exact z4q rfl Tryz.func72 (bdy Tryz.f72 rfl)⟩
abbrev z3T(a0:Frm)(a1:List Int):Int×Int×List Int->Option ((Int×Int×List Int)⊕List Int)
 |(w20,w21,w22)=>
 if w21<(a1.length:Int) then
 (atI a1 w21).bind fun v27=>
 (atI a0.comp w20).bind fun v28=>
 if v28=w21 then
 (atI a0.tiles w20).bind fun v29=>
 (atI v29 v27).bind fun v30=>
 chk (z1C 8 (w22.length+1))<|
 z0c (v30,i64.wrap (w21+1),w22++ [v30])
 else
 z0c (w20,i64.wrap (w21+1),w22)
 else
 z0d<|
 some w22
instance:Hd (z3T a0 a1):=⟨fun(w20,w21,w22)=>([(6,xI w20),(12,xI w21)],[(5,(tO w22))])⟩
def z3L(a0:Frm)(a1:List Int):Option (List Int):=
 z0h (z3T a0 a1) LFm (0,0,[0])
instance:Ok (z3L a0 a1) (fun r=>L 73 [.pr [.sc (.int .i64 a0.d.letters),.sc (.int .i64 a0.d.start),(tB a0.d.final),(tR a0.d.next),(tI a0.x.sets),(tI a0.x.class_),(tI a0.x.height),(tR a0.x.tiles),(tS a0.x.words),(tS a0.x.back),(tI a0.comp),(tI a0.sizes),(tR a0.tiles),(tR a0.next)],(tI a1)]=some ((tO r),[.dead,.dead])):=⟨fun r h=>by have h:=z3p h;unfold z3L at h;exact z4q rfl Tryz.func73 (bdy Tryz.f73 rfl)⟩
def z3K(a0:Frm)(a1:List Int):Option (Int):=
 (z3L a0 a1).bind fun v5=>
 (atI v5 (i64.wrap ((v5.length:Int)-1))).bind fun v6=>
 (atI a0.x.sets v6).bind fun v7=>
 (vTz (u64.wrap v7)).bind fun v8=>
 some v8
instance:Ok (z3K a0 a1) (fun r=>L 49 [.pr [.sc (.int .i64 a0.d.letters),.sc (.int .i64 a0.d.start),(tB a0.d.final),(tR a0.d.next),(tI a0.x.sets),(tI a0.x.class_),(tI a0.x.height),(tR a0.x.tiles),(tS a0.x.words),(tS a0.x.back),(tI a0.comp),(tI a0.sizes),(tR a0.tiles),(tR a0.next)],(tI a1)]=some (.sc (.int .i64 r),[.dead,.dead])):=⟨fun r h=>by have h:=z3p h;unfold z3K at h;exact z4q rfl Tryz.func49 (bdy Tryz.f49 rfl)⟩
def z3e(a0:Int)(m0:Frm)(m3:Int):Option (Bool):=
 (atI m0.x.sets m3).bind fun v3=>
 (atI m0.x.sets a0).bind fun v4=>
 some (decide ((zhL .i64 v3 v4)=0))
instance{a0:Int}{m0:Frm}{m3:Int}:Ok (z3e a0 m0 m3) (fun r=>L 161 [.sc (.int .i64 a0),.pr [.pr [.sc (.int .i64 m0.d.letters),.sc (.int .i64 m0.d.start),(tB m0.d.final),(tR m0.d.next),(tI m0.x.sets),(tI m0.x.class_),(tI m0.x.height),(tR m0.x.tiles),(tS m0.x.words),(tS m0.x.back),(tI m0.comp),(tI m0.sizes),(tR m0.tiles),(tR m0.next)]],.pr [.sc (.int .i64 m3)]]=some (.sc (.bool r),[.dead,.dead,.dead])):=⟨fun r h=>by have h:=z3p h;unfold z3e at h;exact z4q rfl Tryz.func161 (bdy Tryz.f161 rfl)⟩
abbrev z0E(a0:List Int)(m1:Frm)(m2:Int):Int->Option (Int⊕Int)
 |w10=>
 if w10<(a0.length:Int) then
 (atI a0 w10).bind fun v13=>
 (z3e v13 m1 m2).bind fun v14=>
 if v14=true then
 z0d<|
 some w10
 else
 z0c (i64.wrap (w10+1))
 else
 z0d<|
 some (-1)
instance{a0:List Int}:Hd (z0E a0 m1 m2):=⟨fun w10=>([(8,xI w10)],[])⟩
def z0w(a0:List Int)(m1:Frm)(m2:Int):Option (Int):=
 z0h (z0E a0 m1 m2) LFm 0
instance{a0:List Int}:Ok (z0w a0 m1 m2) (fun r=>L 96 [(tI a0),.cl 161 [.pr [.pr [.sc (.int .i64 m1.d.letters),.sc (.int .i64 m1.d.start),(tB m1.d.final),(tR m1.d.next),(tI m1.x.sets),(tI m1.x.class_),(tI m1.x.height),(tR m1.x.tiles),(tS m1.x.words),(tS m1.x.back),(tI m1.comp),(tI m1.sizes),(tR m1.tiles),(tR m1.next)]],.pr [.sc (.int .i64 m2)]]]=some (.sc (.int .i64 r),[.dead,.dead])):=⟨fun r h=>by have h:=z3p h;unfold z0w at h;exact z4q rfl Tryz.func96 (bdy Tryz.f96 rfl)⟩
def z1q(a0:Frm)(a1:Int)(a2:Int):Option (Int):=
 (atI a0.tiles a1).bind fun v3=>
 (z0w v3 a0 a2).bind fun v4=>
 some (if 0<v4 then v4 else 0)
instance{a1:Int}:Ok (z1q a0 a1 a2) (fun r=>L 110 [.pr [.sc (.int .i64 a0.d.letters),.sc (.int .i64 a0.d.start),(tB a0.d.final),(tR a0.d.next),(tI a0.x.sets),(tI a0.x.class_),(tI a0.x.height),(tR a0.x.tiles),(tS a0.x.words),(tS a0.x.back),(tI a0.comp),(tI a0.sizes),(tR a0.tiles),(tR a0.next)],.sc (.int .i64 a1),.sc (.int .i64 a2)]=some (.sc (.int .i64 r),[.dead,.dead,.dead])):=⟨fun r h=>by have h:=z3p h;unfold z1q at h;exact z4q rfl Tryz.func110 (bdy Tryz.f110 rfl)⟩
abbrev z3R(a0:Frm)(v22:Int):Int×Int×List Int->Option ((Int×Int×List Int)⊕List Int)
 |(w28,w29,w30)=>
 if w29<(a0.sizes.length:Int) then
 (atI a0.comp w28).bind fun v37=>
 if v37=w29 then
 (z1q a0 w28 v22).bind fun v38=>
 (atI w30 w29).bind fun v39=>
 (atI a0.tiles w28).bind fun v40=>
 (atI (w30.set w29.toNat v38) w29).bind fun v41=>
 (atI v40 v41).bind fun v42=>
 z0c (v42,i64.wrap (w29+1),(w30.set w29.toNat v38))
 else
 z0c (w28,i64.wrap (w29+1),w30)
 else
 z0d<|
 some w30
instance{v22:Int}:Hd (z3R a0 v22):=⟨fun(w28,w29,w30)=>([(4,xI w28),(27,xI w29)],[(3,(tO w30))])⟩
def z2M(a0:Frm):Option (List Int):=
 chk (z0S 8 (a0.sizes.length:Int))<|
 chk (¬a0.d.start<0)<|
 (z1r a0.x.sets (zmA .i64 1 a0.d.start)).bind fun v22=>
 z0h (z3R a0 v22) LFm (0,0,List.replicate (a0.sizes.length:Int).toNat (0:Int))
instance:Ok (z2M a0) (fun r=>L 51 [.pr [.sc (.int .i64 a0.d.letters),.sc (.int .i64 a0.d.start),(tB a0.d.final),(tR a0.d.next),(tI a0.x.sets),(tI a0.x.class_),(tI a0.x.height),(tR a0.x.tiles),(tS a0.x.words),(tS a0.x.back),(tI a0.comp),(tI a0.sizes),(tR a0.tiles),(tR a0.next)]]=some ((tO r),[.dead])):=⟨fun r h=>by have h:=z3p h;unfold z2M at h;exact z4q rfl Tryz.func51 (bdy Tryz.f51 rfl)⟩
abbrev z3A(a0:Frm)(a3:Int)(a4:Int)(v45:List Int):Int×List Int->Option ((Int×List Int)⊕List Int)
 |(w51,w52)=>
 if w51<(v45.length:Int) then
 (atI v45 w51).bind fun v59=>
 (atI a0.tiles a3).bind fun v60=>
 (atI a0.next v59).bind fun v61=>
 (atI v61 a4).bind fun v62=>
 (z1r v60 v62).bind fun v63=>
 (atI w52 w51).bind fun v64=>
 z0c (i64.wrap (w51+1),(w52.set w51.toNat (if 0<v63 then v63 else 0)))
 else
 z0d<|
 some w52
instance{v45:List Int}:Hd (z3A a0 a3 a4 v45):=⟨fun(w51,w52)=>([(89,xI w51)],[(11,(tO w52))])⟩
abbrev z3S(v40:Int)(v67:Int):Int×List Int->Option ((Int×List Int)⊕List Int)
 |(w68,w69)=>
 if w68<v40 then
 (atI w69 w68).bind fun v71=>
 z0c (i64.wrap (w68+1),(w69.set w68.toNat v67))
 else
 z0d<|
 some w69
instance{v67:Int}:Hd (z3S v40 v67):=⟨fun(w68,w69)=>([(39,xI w68)],[(11,(tO w69))])⟩
abbrev z3z(v40:Int)(v74:Int):Int×List Int->Option ((Int×List Int)⊕List Int)
 |(w75,w76)=>
 if w75<v40 then
 (atI w76 w75).bind fun v78=>
 z0c (i64.wrap (w75+1),(w76.set w75.toNat v74))
 else
 z0d<|
 some w76
instance{v74:Int}:Hd (z3z v40 v74):=⟨fun(w75,w76)=>([(39,xI w75)],[(11,(tO w76))])⟩
def z2N(a0:Frm)(a1:Int)(a2:Int)(a3:Int)(a4:Int):Option (List Int):=
 (atI a0.sizes a1).bind fun v40=>
 chk (z0S 8 v40)<|
 (atI a0.comp a3).bind fun v41=>
 if v41=a1 then
 (atI a0.comp a2).bind fun v42=>
 if v42=a1 then
 (atI a0.next a2).bind fun v43=>
 (atI v43 a4).bind fun v44=>
 if v44=a3 then
 (atI a0.tiles a2).bind fun v45=>
 z0h (z3A a0 a3 a4 v45) LFm (0,List.replicate v40.toNat (0:Int))
 else
 (z1q a0 a3 v44).bind fun v67=>
 z0h (z3S v40 v67) LFm (0,List.replicate v40.toNat (0:Int))
 else
 (atI a0.next a2).bind fun v72=>
 (atI v72 a4).bind fun v73=>
 (z1q a0 a3 v73).bind fun v74=>
 z0h (z3z v40 v74) LFm (0,List.replicate v40.toNat (0:Int))
 else
 some (List.replicate v40.toNat (0:Int))
instance{a1:Int}:Ok (z2N a0 a1 a2 a3 a4) (fun r=>L 154 [.pr [.sc (.int .i64 a0.d.letters),.sc (.int .i64 a0.d.start),(tB a0.d.final),(tR a0.d.next),(tI a0.x.sets),(tI a0.x.class_),(tI a0.x.height),(tR a0.x.tiles),(tS a0.x.words),(tS a0.x.back),(tI a0.comp),(tI a0.sizes),(tR a0.tiles),(tR a0.next)],.sc (.int .i64 a1),.sc (.int .i64 a2),.sc (.int .i64 a3),.sc (.int .i64 a4)]=some ((tO r),[.dead,.dead,.dead,.dead,.dead])):=⟨fun r h=>by have h:=z3p h;unfold z2N at h;exact z4q rfl Tryz.func154 (bdy Tryz.f154 rfl)⟩
abbrev z4m(a0:Frm)(a1:List Int)(a2:Int):Int×Int×Int×List Int×List (List Int)->Option ((Int×Int×Int×List Int×List (List Int))⊕(List Int×List (List Int)))
 |(w64,w65,w66,w67,w68)=>
 if w66<(a1.length:Int) then
 (atI a1 w66).bind fun v86=>
 (z2N a0 w66 w64 w65 a2).bind fun v87=>
 (atI w68 w66).bind fun v88=>
 (atI (w68.set w66.toNat v87) w66).bind fun v89=>
 (atI v89 v86).bind fun v90=>
 (atI w67 w66).bind fun v91=>
 (atI a0.comp w64).bind fun v92=>
 if v92=w66 then
 (atI a0.tiles w64).bind fun v93=>
 (atI v93 v86).bind fun v94=>
 (atI a0.comp w65).bind fun v95=>
 if v95=w66 then
 (atI a0.tiles w65).bind fun v96=>
 (atI (w67.set w66.toNat v90) w66).bind fun v97=>
 (atI v96 v97).bind fun v98=>
 z0c (v94,v98,i64.wrap (w66+1),(w67.set w66.toNat v90),(w68.set w66.toNat v87))
 else
 z0c (v94,w65,i64.wrap (w66+1),(w67.set w66.toNat v90),(w68.set w66.toNat v87))
 else
 (atI a0.comp w65).bind fun v99=>
 if v99=w66 then
 (atI a0.tiles w65).bind fun v100=>
 (atI (w67.set w66.toNat v90) w66).bind fun v101=>
 (atI v100 v101).bind fun v102=>
 z0c (w64,v102,i64.wrap (w66+1),(w67.set w66.toNat v90),(w68.set w66.toNat v87))
 else
 z0c (w64,w65,i64.wrap (w66+1),(w67.set w66.toNat v90),(w68.set w66.toNat v87))
 else
 z0d<|
 some (w67,w68)
instance:Hd (z4m a0 a1 a2):=⟨fun(w64,w65,w66,w67,w68)=>([(10,xI w64),(11,xI w65),(22,xI w66)],[(8,(tO w67)),(9,.os 1 w68.length (w68.map fun x0=>(tO x0)))])⟩
def z2U(a0:Frm)(a1:List Int)(a2:Int):Option (List Int×List (List Int)):=
 chk (z0S 8 (a1.length:Int))<|
 chk (z0S 24 (a1.length:Int))<|
 z0h (z4m a0 a1 a2) LFm (0,0,0,List.replicate (a1.length:Int).toNat (0:Int),List.replicate (a1.length:Int).toNat ([]:List Int))
instance:Ok (z2U a0 a1 a2) (fun r=>L 99 [.pr [.sc (.int .i64 a0.d.letters),.sc (.int .i64 a0.d.start),(tB a0.d.final),(tR a0.d.next),(tI a0.x.sets),(tI a0.x.class_),(tI a0.x.height),(tR a0.x.tiles),(tS a0.x.words),(tS a0.x.back),(tI a0.comp),(tI a0.sizes),(tR a0.tiles),(tR a0.next)],(tI a1),.sc (.int .i64 a2)]=some (.tup [(tO r.1),.os 1 r.2.length (r.2.map fun x0=>(tO x0))],[.dead,.dead,.dead])):=⟨fun r h=>by have h:=z3p h;unfold z2U at h;exact z4q rfl Tryz.func99 (bdy Tryz.f99 rfl)⟩
abbrev z4n(a0:Frm)(a1:List Int):Int×List (List (List Int))->Option ((Int×List (List (List Int)))⊕List (List (List Int)))
 |(w9,w10)=>
 if w9<a0.d.letters then
 (z2U a0 a1 w9).bind fun v13=>
 (atI w10 w9).bind fun v14=>
 z0c (i64.wrap (w9+1),(w10.set w9.toNat v13.2))
 else
 z0d<|
 some w10
instance:Hd (z4n a0 a1):=⟨fun(w9,w10)=>([(15,xI w9)],[(5,.os 1 w10.length (w10.map fun x0=>.os 1 x0.length (x0.map fun x1=>(tO x1))))])⟩
def z2V(a0:Frm)(a1:List Int):Option (List (List (List Int))):=
 chk (z0S 24 a0.d.letters)<|
 z0h (z4n a0 a1) LFm (0,List.replicate a0.d.letters.toNat ([]:List (List Int)))
instance:Ok (z2V a0 a1) (fun r=>L 103 [.pr [.sc (.int .i64 a0.d.letters),.sc (.int .i64 a0.d.start),(tB a0.d.final),(tR a0.d.next),(tI a0.x.sets),(tI a0.x.class_),(tI a0.x.height),(tR a0.x.tiles),(tS a0.x.words),(tS a0.x.back),(tI a0.comp),(tI a0.sizes),(tR a0.tiles),(tR a0.next)],(tI a1)]=some (.sl r.length (r.map fun x0=>(tR x0)),[.dead,.dead])):=⟨fun r h=>by have h:=z3p h;unfold z2V at h;exact zhQ rfl Tryz.func103 (bdy Tryz.f103 rfl)⟩
abbrev z6Z(a0:List Int):Int×List Int->Option ((Int×List Int)⊕ByteArray)
 |(w9,w10)=>
 if w9<(a0.length:Int) then
 (atI a0 w9).bind fun v13=>
 (atI w10 w9).bind fun v14=>
 z0c (i64.wrap (w9+1),(w10.set w9.toNat (u8.wrap v13)))
 else
 z0d<|
 some (z1i w10)
instance{a0:List Int}:Hd (z6Z a0):=⟨fun(w9,w10)=>([(11,xI w9)],[(3,.os 1 w10.length (w10.map fun x0=>.sc (.int .u8 x0)))])⟩
def z1w(a0:List Int):Option (ByteArray):=
 chk (z0S 1 (a0.length:Int))<|
 z0h (z6Z a0) LFm (0,List.replicate (a0.length:Int).toNat (0:Int))
instance{a0:List Int}:Ok (z1w a0) (fun r=>L 85 [(tI a0)]=some (.sc (.string r),[.dead])):=⟨fun r h=>by have h:=z3p h;unfold z1w at h;exact z4q rfl Tryz.func85 (bdy Tryz.f85 rfl)⟩
abbrev z2C(a0:Frm)(w67:Int):Int×List (List Int)×(List (ByteArray×Bool))->Option ((Int×List (List Int)×(List (ByteArray×Bool)))⊕((Int×List (List Int)×(List (ByteArray×Bool)))⊕(List (List Int)×Int)))
 |(w89,w90,w91)=>
 if w89<a0.d.letters then
 (atI w90 w67).bind fun v96=>
 (z2U a0 v96 w89).bind fun v97=>
 (z1w v97.1).bind fun v98=>
 if((z7G v98 w91).getD false)=true then
 z0c (i64.wrap (w89+1),w90,w91)
 else
 if(w90.length:Int)=2000 then
 z0d<|
 z0d<|
 some ([],3)
 else
 (z1w v97.1).bind fun v99=>
 chk (z1C 24 (w90.length+1))<|
 z0c (i64.wrap (w89+1),w90++ [v97.1],z8p v99 true w91)
 else
 z0d<|
 z0c (i64.wrap (w67+1),w90,w91)
instance{w67:Int}:Hd (z2C a0 w67):=⟨fun(w89,w90,w91)=>([(30,xI w89)],[(5,.os 1 w90.length (w90.map fun x0=>(tI x0))),(6,.mp none (w91.map fun x0=>(.string x0.1,.bool x0.2)))])⟩
abbrev z3x(a0:Frm):Int×List (List Int)×(List (ByteArray×Bool))->Option ((Int×List (List Int)×(List (ByteArray×Bool)))⊕(List (List Int)×Int))
 |(w67,w68,w69)=>
 if w67<(w68.length:Int) then
 z0h (z2C a0 w67) LFm (0,w68,w69)
 else
 z0d<|
 (zpW w68).bind fun v100=>
 some (v100,0)
instance:Hd (z3x a0):=⟨fun(w67,w68,w69)=>([(7,xI w67)],[(5,.os 1 w68.length (w68.map fun x0=>(tI x0))),(6,.mp none (w69.map fun x0=>(.string x0.1,.bool x0.2)))])⟩
def z1V(a0:Frm):Option (List (List Int)×Int):=
 (z2M a0).bind fun v51=>
 (z1w v51).bind fun v52=>
 z0h (z3x a0) LFm (0,[v51],z8p v52 true ([]:List (ByteArray×Bool)))
instance:Ok (z1V a0) (fun r=>L 48 [.pr [.sc (.int .i64 a0.d.letters),.sc (.int .i64 a0.d.start),(tB a0.d.final),(tR a0.d.next),(tI a0.x.sets),(tI a0.x.class_),(tI a0.x.height),(tR a0.x.tiles),(tS a0.x.words),(tS a0.x.back),(tI a0.comp),(tI a0.sizes),(tR a0.tiles),(tR a0.next)]]=some (.tup [(tR r.1),.sc (.int .i64 r.2)],[.dead])):=⟨fun r h=>by have h:=z3p h;unfold z1V at h;exact zhQ rfl Tryz.func48 (bdy Tryz.f48 rfl)⟩
end
end
section
open Go
variable{l:List Nat}{c i k:Nat}
theorem zxr(p:Nat->Bool):(List.range l.length).find? (fun k=>p (l.getD k 0))=if l.findIdx p<l.length then some (l.findIdx p) else none:=by
 by_cases h:l.findIdx p<l.length
 · rw[if_pos h,YN]
   have h1:=YZ (w:=h)
   refine⟨by rw[List.getD,Z1 h];exact h1,by simpa using h,fun j hj=> ?_⟩
   have hjl:j<l.length:=by omega
   have:=List.not_of_lt_findIdx hj
   rw[List.getD,Z1 hjl,Z4]
   simpa using this
 · grind
theorem znh{α:Type}{N:Nat}{f g:Nat->α}(h:k<N):atI (zav N f g (k+1)) (k:Int)=some (f k):=by
 rw[z0A (by rw[zjr];exact h)];simp[zav]
section
variable {d:DFA} {m n:Nat} {S O:List Nat}
theorem zpr(s:Nat):∀(x:List Nat) (c i:Nat),z7B d m n S O c i (x++ [s])=dnN d m n S O (c+x.length) (z7B d m n S O c i x) s
 | [],c,i=>rfl
 |t::x,c,i=>by
  simp only[ZN,z7B,Zs]
  rw[zpr s x,show c+1+x.length=c+(x.length+1) by omega]
theorem zdF{x:List Nat}(hk:k<x.length)(c i:Nat):z7B d m n S O c i (x.take (k+1))=dnN d m n S O (c+k) (z7B d m n S O c i (x.take k)) (x.getD k 0):=by
 rw[z9S hk,zpr,Zr,Nat.min_eq_left (by omega)]
theorem zsF(a:Nat):∀(x:List Nat) (c o i:Nat),(stN d m n S O a c o i x).length=x.length
 | [],c,o,i=>rfl
 |s::x,c,o,i=>by simp only[stN,Zs];rw[zsF a x]
theorem zlg(a:Nat):∀(x:List Nat) (c o i k:Nat),k<x.length->
 ((stN d m n S O a c o i x).map (·.2)).getD k []=zcx d m n S O a (c+k) (z7B d m n S O c o (x.take k)) (z7B d m n S O c i (((stN d m n S O a c o i x).map (·.1)).take k))/\
 ((stN d m n S O a c o i x).map (·.1)).getD k 0=(zcx d m n S O a (c+k) (z7B d m n S O c o (x.take k)) (z7B d m n S O c i (((stN d m n S O a c o i x).map (·.1)).take k))).getD (x.getD k 0) 0
 | [],c,o,i,k,hk=>by simp at hk
 |s::x,c,o,i,0,hk=>by
  exact⟨by simp[stN,z7B],by simp[stN,z7B]⟩
 |s::x,c,o,i,k+1,hk=>by
  have:=zlg a x (c+1) (dnN d m n S O c o s) (dnN d m n S O c i ((zcx d m n S O a c o i).getD s 0)) k (by simpa using hk)
  simp only[stN,Zq,Yf,X6,z7B]
  rw[show c+(k+1)=c+1+k by omega]
  exact this
theorem zsw(a:Nat)(x:List Nat):(z5n d m n S O a x).length=x.length:=by simp[z5n,zsF]
theorem zlf(a:Nat)(x:List Nat):(z8q d m n S O a x).length=x.length:=by simp[z8q,zsF]
end
section
variable {d:DFA} {m n:Nat} {S:List Nat} (hd:DfaOk d m n) (hn:n<=7) (hS:SetsP d m n S) {O:List Nat} (hH:zhR d m n S) (hO:OrdC d m n S O) (hpos:∀x∈S,x≠0)
theorem zeI(hi:i<S.length):atI (z9q d m n S O).comp (i:Int)=some (cpI d m n S O i):=z2S hi
theorem zaz(hi:i<S.length):atI (z9q d m n S O).tiles (i:Int)=some (toI (tlR d m n S i)):=z2S hi
theorem znB(hi:i<S.length):atI (z9q d m n S O).x.sets (i:Int)=some ((S.getD i 0:Nat):Int):=z1o hi
theorem zva{a:Nat}(hi:i<S.length)(ha:a<m):atI (z9q d m n S O).next (i:Int)=some (toI ((List.range m).map (z4E d S i)))/\atI (toI ((List.range m).map (z4E d S i))) (a:Int)=some ((z4E d S i a:Nat):Int):=by
 refine⟨z2S hi,?_⟩
 have h:a<((List.range m).map (z4E d S i)).length:=by simpa using ha
 rw[z1o h]
 simp[List.getD,ha]
theorem zv9(hc:c<O.length):atI (z9q d m n S O).sizes (c:Int)=some ((szO d m n S O c:Nat):Int):=by
 have h:c<((List.range O.length).map (szO d m n S O)).length:=by simpa using hc
 show atI (toI ((List.range O.length).map (szO d m n S O))) (c:Int)=_
 rw[z1o h]
 simp[List.getD,hc]
theorem z9A(hc:c<O.length):cpI d m n S O i=(c:Int)↔cpN d m n S O i=c:=by
 unfold cpI
 by_cases h:clN d m n S i∈O
 · rw[if_pos h];omega
 · rw[if_neg h]
   have:cpN d m n S O i=O.length:=List.idxOf_eq_length h
   omega
include hd hn hS
theorem zcE(hSl:S.length<=1000){o:Nat}(hi:i<S.length)(ho:o<S.length):z1q (z9q d m n S O) (i:Int) (o:Int)=some ((zhs d m n S i o:Nat):Int):=by
 have h128:2^n<=128:=Zm (n:=2) (by omega) hn
 have htl:=zfk hd hn hS hi
 have htb:=zmT hd hn hS hi
 rw[zei] at htb
 have hidx:z0w (toI (tlR d m n S i)) (z9q d m n S O) (o:Int)=some (if(tlR d m n S i).findIdx (fun t=>decide (S.getD o 0&&&S.getD t 0=S.getD o 0))<(tlR d m n S i).length then(((tlR d m n S i).findIdx (fun t=>decide (S.getD o 0&&&S.getD t 0=S.getD o 0)):Nat):Int) else-1):=by
  unfold z0w
  rw[z4N (s:=(0:Int)) (tlR d m n S i).length (fun k=>(k:Int)) (fun k=>(fun t=>decide (S.getD o 0&&&S.getD t 0=S.getD o 0)) ((tlR d m n S i).getD k 0)) (fun k=>some (k:Int)) (x:=some (-1)) rfl (by simp only[LFm];omega) (fun k hk=> ?_) ?_,zxr (l:=tlR d m n S i) (fun t=>decide (S.getD o 0&&&S.getD t 0=S.getD o 0))]
  · grind
  · simp only[z0E]
    rw[z0a,if_neg (by omega)]
  · have ht:=zdy (z5a (zeY hd hn hS hi hk).1).1
    have l1:=hS.lt _ (z0e ht)
    have l2:=hS.lt _ (z0e ho)
    simp only[z0E]
    rw[z0a,if_pos (by omega),z1o hk,Z0]
    unfold z3e
    rw[znB ho,Z0,znB ht,Z0,Z0,z0H (by omega)]
    have e:=zhK (a:=S.getD o 0) (b:=S.getD ((tlR d m n S i).getD k 0) 0) (by omega) (by omega)
    by_cases h:S.getD o 0&&&S.getD ((tlR d m n S i).getD k 0) 0=S.getD o 0
    · grind
    · grind
 unfold z1q
 rw[zaz hi,Z0,hidx,Z0]
 unfold zhs
 simp only
 split
 · split
   · rfl
   · congr 1;omega
 · rfl
theorem zC2{x:Nat}:(if 0<(if x∈l then((l.idxOf x:Nat):Int) else-1) then(if x∈l then((l.idxOf x:Nat):Int) else-1) else 0)=((ix0 l x:Nat):Int):=by
 have _u:=hd;have _v:=hn;have _w:=hS
 unfold ix0
 by_cases h:x∈l
 · rw[if_pos h,if_pos h]
   split
   · rfl
   · omega
 · rw[if_neg h,if_neg h];rfl
include hH hO hpos
theorem zx4(hSl:S.length<=1000){a o:Nat}(ha:a<m)(hc:c<O.length)(ho:o<S.length)(hi:i<S.length):
 z2N (z9q d m n S O) (c:Int) (o:Int) (i:Int) (a:Int)=some (toI (zcx d m n S O a c o i)):=by
 have _u:=hpos
 have hm6:=hd.m6
 have hdo:=za1 hd hn hS ho ha
 obtain⟨nx1,nx2⟩:=zva (n:=n) (O:=O) ho ha
 have hzb:∀i,i<S.length->cpN d m n S O i=c->szO d m n S O c=(tlR d m n S i).length/\(tlR d m n S i).length<=128:=fun i hi e=>by
  have hz:=zen hd hn hS hH hO hi (by omega)
  rw[e] at hz
  have htl:=zfk hd hn hS hi
  have htb:=zmT hd hn hS hi
  rw[zei] at htb
  omega
 have hz1000:szO d m n S O c<=128:=by
  have hmem:O.getD c 0∈O:=z0e hc
  have hout:=hO.prm.mem_iff.1 hmem
  unfold zaC at hout
  have h1:=Zh.1 (ZL.1 hout).1
  have hk:=(z2c hd hn hS h1).2
  have htb:=zmT hd hn hS hk
  rw[zei] at htb
  exact htb
 have hfill:∀(v:Nat),(List.range (szO d m n S O c)).map (fun _=>(v:Int))=toI (List.replicate (szO d m n S O c) v):=fun v=>by
  refine Ze (by simp[toI]) fun k h1 h2=>by simp[toI]
 have hzero:List.replicate (szO d m n S O c) (0:Int)=(List.range (szO d m n S O c)).map (fun _=>(0:Int)):=(Ze (by simp) fun i h1 h2=>by simp)
 unfold z2N zcx
 rw[zv9 hc,Z0,z0i _ (by unfold z0S;omega),zeI hi,Z0,Z2]
 by_cases e1:cpN d m n S O i=c
 · rw[if_pos ((z9A hc).2 e1),if_pos e1,zeI ho,Z0]
   by_cases e2:cpN d m n S O o=c
   · rw[if_pos ((z9A hc).2 e2),nx1,Z0,nx2,Z0]
     by_cases e3:z4E d S o a=i
     · obtain⟨z1,z2⟩:=hzb o ho e2
       rw[if_pos (by rw[e3]),if_pos ⟨e2,e3⟩,zaz ho,Z0]
       refine z0n (s:=((0:Int),List.replicate (szO d m n S O c) (0:Int))) (szO d m n S O c) (fun k=>((k:Int),zav (szO d m n S O c) (fun k=>((ix0 (tlR d m n S i) (z4E d S ((tlR d m n S o).getD k 0) a):Nat):Int)) (fun _=>0) k)) (by rw[z9s,hzero];rfl) (by simp only[LFm];omega) (fun k hk=> ?_) ?_
       · have hkl:k<(tlR d m n S o).length:=by omega
         have ht:=zdy (z5a (zeY hd hn hS ho hkl).1).1
         obtain⟨x1,x2⟩:=zva (n:=n) (O:=O) ht ha
         simp only[z3A]
         rw[z0a,if_pos (by omega),z1o hkl,Z0,zaz hi,Z0,x1,Z0,x2,Z0,zjI (by have:=(hzb i hi e1).2;omega),Z0,z6H hk,Z0,z0H (by omega),Z2,zC2 hd hn hS]
         exact congrArg (fun x=>z0c (((k+1:Nat):Int),x)) (z4I (f:=fun k=>((ix0 (tlR d m n S i) (z4E d S ((tlR d m n S o).getD k 0) a):Nat):Int)) hk)
       · simp only[z3A]
         rw[z0a,if_neg (by omega),z9r]
         congr 2
         refine Ze (by simp[toI,z1]) fun k h1 h2=> ?_
         have hk:k<(tlR d m n S o).length:=by simpa[toI] using h2
         simp[toI,List.getD,hk]
     · rw[if_neg (by omega),if_neg (fun h=>e3 h.2),zcE hd hn hS hSl hi hdo.1,Z0]
       refine z0n (s:=((0:Int),List.replicate (szO d m n S O c) (0:Int))) (szO d m n S O c) (fun k=>((k:Int),zav (szO d m n S O c) (fun _=>((zhs d m n S i (z4E d S o a):Nat):Int)) (fun _=>0) k)) (by rw[z9s,hzero];rfl) (by simp only[LFm];omega) (fun k hk=> ?_) ?_
       · simp only[z3S]
         rw[if_pos (by omega),z6H hk,Z0,z0H (by omega),Z2]
         exact congrArg (fun x=>z0c (((k+1:Nat):Int),x)) (z4I (f:=fun _=>((zhs d m n S i (z4E d S o a):Nat):Int)) hk)
       · simp only[z3S]
         rw[if_neg (by omega),z9r,hfill]
   · rw[if_neg (fun h=>e2 ((z9A hc).1 h)),if_neg (fun h=>e2 h.1),nx1,Z0,nx2,Z0,zcE hd hn hS hSl hi hdo.1,Z0]
     refine z0n (s:=((0:Int),List.replicate (szO d m n S O c) (0:Int))) (szO d m n S O c) (fun k=>((k:Int),zav (szO d m n S O c) (fun _=>((zhs d m n S i (z4E d S o a):Nat):Int)) (fun _=>0) k)) (by rw[z9s,hzero];rfl) (by simp only[LFm];omega) (fun k hk=> ?_) ?_
     · simp only[z3z]
       rw[if_pos (by omega),z6H hk,Z0,z0H (by omega),Z2]
       exact congrArg (fun x=>z0c (((k+1:Nat):Int),x)) (z4I (f:=fun _=>((zhs d m n S i (z4E d S o a):Nat):Int)) hk)
     · simp only[z3z]
       rw[if_neg (by omega),z9r,hfill]
 · rw[if_neg (fun h=>e1 ((z9A hc).1 h)),if_neg e1,hzero]
   exact congrArg some (hfill 0)
end
end
section
open Go
variable{x:List Nat}
section
variable {d:DFA} {m n:Nat} {S:List Nat} (hd:DfaOk d m n) (hn:n<=7) (hS:SetsP d m n S) {O:List Nat} (hH:zhR d m n S) (hO:OrdC d m n S O) (hpos:∀x∈S,x≠0)
include hd hn hS hH hO hpos
theorem zhq{x:List Nat}(hx:zeV d m n S O x)(h0:0<S.length):∀k,k<=x.length->z7B d m n S O 0 0 (x.take k)<S.length/\k<=cpN d m n S O (z7B d m n S O 0 0 (x.take k))
 |0,_=>⟨by simpa[z7B] using h0,Y6 _⟩
 |k+1,hk=>by
  obtain⟨h1,h2⟩:=zhq hx h0 k (by omega)
  rw[zdF (by omega),Zt]
  exact zfi hd hn hS hH hO hpos (by have:=hx.1;omega) h1 h2 (hx.2 k (by have:=hx.1;omega))
theorem zsv(hSl:S.length<=1000)(h0:0<S.length){a:Nat}(ha:a<m)(hx:zeV d m n S O x):
 z2U (z9q d m n S O) (toI x) (a:Int)=some (toI (z5n d m n S O a x),(z8q d m n S O a x).map toI):=by
 have hOl:O.length<=S.length:=by
  rw[hO.prm.length_eq]
  unfold zaC
  exact ZO (ZI _ _) (by rw[ZC];exact z6o (z2t d m n S) S.length)
 have hxl:=hx.1
 have hy:=(zan hd hn hS hH hO hpos (a:=a) hx h0).1
 have hyl:=hy.1
 have hend:=zhq hd hn hS hH hO hpos hx h0
 have hend2:=zhq hd hn hS hH hO hpos hy h0
 have hget:=fun k (hk:k<x.length)=>zlg (d:=d) (m:=m) (n:=n) (S:=S) (O:=O) a x 0 0 0 k hk
 let oK:=fun k=>z7B d m n S O 0 0 (x.take k)
 let iK:=fun k=>z7B d m n S O 0 0 ((z5n d m n S O a x).take k)
 let mK:=fun k=>(z8q d m n S O a x).getD k []
 let yK:=fun k=>(z5n d m n S O a x).getD k 0
 have hm:∀k,k<x.length->mK k=zcx d m n S O a k (oK k) (iK k):=fun k hk=>by
  have:=(hget k hk).1
  rw[Zt] at this
  exact this
 have hyk:∀k,k<x.length->yK k=(mK k).getD (x.getD k 0) 0:=fun k hk=>by
  have:=(hget k hk).2
  rw[Zt] at this
  rw[hm k hk]
  exact this
 have ho1:∀k,k<x.length->oK (k+1)=dnN d m n S O k (oK k) (x.getD k 0):=fun k hk=>by
  have:=zdF (d:=d) (m:=m) (n:=n) (S:=S) (O:=O) hk 0 0
  rwa [Zt] at this
 have hi1:∀k,k<x.length->iK (k+1)=dnN d m n S O k (iK k) (yK k):=fun k hk=>by
  have:=zdF (d:=d) (m:=m) (n:=n) (S:=S) (O:=O) (x:=z5n d m n S O a x) (k:=k) (by omega) 0 0
  rwa [Zt] at this
 unfold z2U
 rw[z0a,hxl,z0i _ (by unfold z0S;omega),z0i _ (by unfold z0S;omega)]
 simp only[Z2]
 refine z0n (n:=O.length) (f:=fun k=>(((oK k:Nat):Int),((iK k:Nat):Int),(k:Int),zav O.length (fun k=>((yK k:Nat):Int)) (fun _=>0) k,zav O.length (fun k=>toI (mK k)) (fun _=> []) k)) ?_ (by simp only[LFm];omega) (fun k hk=> ?_) ?_
 · rw[z9s,z9s]
   have e1:List.replicate O.length (0:Int)=(List.range O.length).map (fun _=>(0:Int)):=(Ze (by simp) fun i h1 h2=>by simp)
   have e2:List.replicate O.length ([]:List Int)=(List.range O.length).map (fun _=>([]:List Int)):=(Ze (by simp) fun i h1 h2=>by simp)
   rw[e1,e2]
   rfl
 · have hk':k<x.length:=by omega
   obtain⟨o1,o2⟩:=hend k (by omega)
   obtain⟨i1,i2⟩:=hend2 k (by omega)
   have hxk:=hx.2 k hk
   have hmo:=zlO hd hn hS hH hO hpos (a:=a) (o:=oK k) (i:=iK k) hk o1 i1
   rw[←hm k hk'] at hmo
   have hsz:∀i,i<S.length->cpN d m n S O i=k->szO d m n S O k=(tlR d m n S i).length:=fun i hi e=>by
    have hz:=zen hd hn hS hH hO hi (by omega)
    rwa [e] at hz
   have hykl:yK k<szO d m n S O k:=by
    rw[hyk k hk']
    exact hmo.2 _ (z0e (by omega))
   have hxat:atI (toI x) (k:Int)=some ((x.getD k 0:Nat):Int):=z1o hk'
   have hmat:z2N (z9q d m n S O) (k:Int) ((oK k:Nat):Int) ((iK k:Nat):Int) (a:Int)=some (toI (mK k)):=by
    rw[hm k hk']
    exact zx4 hd hn hS hH hO hpos hSl ha hk o1 i1
   have hset:=z4I (f:=fun k=>toI (mK k)) (g:=fun _=>([]:List Int)) hk
   have hset2:=z4I (f:=fun k=>((yK k:Nat):Int)) (g:=fun _=>(0:Int)) hk
   have hat1:=znh (f:=fun k=>toI (mK k)) (g:=fun _=>([]:List Int)) hk
   have hat2:=znh (f:=fun k=>((yK k:Nat):Int)) (g:=fun _=>(0:Int)) hk
   have hmx:atI (toI (mK k)) ((x.getD k 0:Nat):Int)=some ((yK k:Nat):Int):=by
    rw[hyk k hk']
    exact z1o (by omega)
   have hco:=zeI (d:=d) (m:=m) (n:=n) (O:=O) o1
   have hci:=zeI (d:=d) (m:=m) (n:=n) (O:=O) i1
   have hto:=zaz (d:=d) (m:=m) (n:=n) (O:=O) o1
   have hti:=zaz (d:=d) (m:=m) (n:=n) (O:=O) i1
   simp only[z4m]
   rw[z0a,if_pos (by omega),hxat,Z0,hmat,Z0,z6H hk,Z0,Z2,hset,hat1,Z0,hmx,Z0,z6H hk,Z0,hset2,hco,Z0,z0H (by omega),ho1 k hk',hi1 k hk']
   unfold dnN
   by_cases e1:cpN d m n S O (oK k)=k
   · have htat:atI (toI (tlR d m n S (oK k))) ((x.getD k 0:Nat):Int)=some (((tlR d m n S (oK k)).getD (x.getD k 0) 0:Nat):Int):=z1o (by have:=hsz (oK k) o1 e1;omega)
     rw[if_pos ((z9A hk).2 e1),if_pos e1,hto,Z0,htat,Z0,hci,Z0]
     by_cases e2:cpN d m n S O (iK k)=k
     · have htai:atI (toI (tlR d m n S (iK k))) ((yK k:Nat):Int)=some (((tlR d m n S (iK k)).getD (yK k) 0:Nat):Int):=z1o (by have:=hsz (iK k) i1 e2;omega)
       rw[if_pos ((z9A hk).2 e2),if_pos e2,hti,Z0,hat2,Z0,htai,Z0]
     · rw[if_neg (fun h=>e2 ((z9A hk).1 h)),if_neg e2]
   · rw[if_neg (fun h=>e1 ((z9A hk).1 h)),if_neg e1,hci,Z0]
     by_cases e2:cpN d m n S O (iK k)=k
     · have htai:atI (toI (tlR d m n S (iK k))) ((yK k:Nat):Int)=some (((tlR d m n S (iK k)).getD (yK k) 0:Nat):Int):=z1o (by have:=hsz (iK k) i1 e2;omega)
       rw[if_pos ((z9A hk).2 e2),if_pos e2,hti,Z0,hat2,Z0,htai,Z0]
     · rw[if_neg (fun h=>e2 ((z9A hk).1 h)),if_neg e2]
 · simp only[z4m]
   rw[z0a,if_neg (by omega),z9r,z9r]
   have e1:(List.range O.length).map (fun k=>((yK k:Nat):Int))=toI (z5n d m n S O a x):=by
    refine Ze (by simp[toI,hyl]) fun k h1 h2=> ?_
    have:k<(z5n d m n S O a x).length:=by simpa[toI] using h2
    simp[toI,yK,List.getD,this]
   have e2:(List.range O.length).map (fun k=>toI (mK k))=(z8q d m n S O a x).map toI:=by
    refine Ze (by simp[zlf,hxl]) fun k h1 h2=> ?_
    have:k<(z8q d m n S O a x).length:=by simpa using h2
    simp[mK,List.getD,this]
   rw[e1,e2]
theorem zzN(hSl:S.length<=1000)(h0:0<S.length)(hx:zeV d m n S O x):
 z2V (z9q d m n S O) (toI x)=some ((List.range m).map fun a=>(z8q d m n S O a x).map toI):=by
 have hm6:=hd.m6
 have hlt:(z9q d m n S O).d.letters=m:=hd.lt
 unfold z2V
 rw[hlt,z0i _ (by unfold z0S;omega),Z2]
 refine z0n (n:=m) (f:=fun k=>((k:Int),zav m (fun a=>(z8q d m n S O a x).map toI) (fun _=> []) k)) ?_ (by simp only[LFm];omega) (fun a ha=> ?_) ?_
 · rw[z9s]
   exact congrArg (fun x=>((0:Int),x)) (Ze (by simp) fun i h1 h2=>by simp)
 · simp only[z4n]
   rw[hlt,if_pos (by omega),zsv hd hn hS hH hO hpos hSl h0 ha hx,Z0,z6H ha,Z0,z0H (by omega),Z2]
   exact congrArg (fun x=>z0c (((a+1:Nat):Int),x)) (z4I (f:=fun a=>(z8q d m n S O a x).map toI) ha)
 · simp only[z4n]
   rw[hlt,if_neg (by omega),z9r]
end
def zaF(d:DFA)(m n:Nat)(S O:List Nat):Nat->Nat->List Nat->List Nat
 |_,_,[]=> []
 |c,i,s::x=>(if cpN d m n S O i=c then [dnN d m n S O c i s] else [])++zaF d m n S O (c+1) (dnN d m n S O c i s) x
theorem zpx{d:DFA}{m n:Nat}{S O:List Nat}(s:Nat):∀(x:List Nat) (c i:Nat),zaF d m n S O c i (x++ [s])=zaF d m n S O c i x++(if cpN d m n S O (z7B d m n S O c i x)=c+x.length then [dnN d m n S O (c+x.length) (z7B d m n S O c i x) s] else [])
 | [],c,i=>by
   simp only[Ya,zaF,z7B,Yp,YF,Yb]
   all_goals rfl
 |t::x,c,i=>by
  simp only[ZN,zaF,Zs,z7B]
  rw[zpx s x,show c+1+x.length=c+(x.length+1) by omega,Zu]
  all_goals rfl
theorem zpw{d:DFA}{m n:Nat}{S O:List Nat}{k:Nat}(hk:k<x.length):zaF d m n S O 0 0 (x.take (k+1))=zaF d m n S O 0 0 (x.take k)++(if cpN d m n S O (z7B d m n S O 0 0 (x.take k))=k then [dnN d m n S O k (z7B d m n S O 0 0 (x.take k)) (x.getD k 0)] else []):=by
 rw[z9S hk,zpx,Zr,Nat.min_eq_left (by omega),Zt]
theorem zpz{d:DFA}{m n:Nat}{S O:List Nat}:∀(x:List Nat) (c i:Nat),(i::zaF d m n S O c i x).getLastD 0=z7B d m n S O c i x
 | [],c,i=>rfl
 |s::x,c,i=>by
  have ih:=zpz (d:=d) (m:=m) (n:=n) (S:=S) (O:=O) x (c+1) (dnN d m n S O c i s)
  simp only[zaF,z7B]
  by_cases h:cpN d m n S O i=c
  · grind
  · rw[if_neg h,Ya]
    have e:dnN d m n S O c i s=i:=by unfold dnN;rw[if_neg h]
    rw[e] at ih⊢
    exact ih
section
variable {d:DFA} {m n:Nat} {S:List Nat} (hd:DfaOk d m n) (hn:n<=7) (hS:SetsP d m n S) {O:List Nat} (hH:zhR d m n S) (hO:OrdC d m n S O) (hpos:∀x∈S,x≠0)
include hd hn hS hH hO hpos
theorem zxL(hSl:S.length<=1000)(h0:0<S.length)(hx:zeV d m n S O x):z3L (z9q d m n S O) (toI x)=some (toI (0::zaF d m n S O 0 0 x)):=by
 have hOl:O.length<=S.length:=by
  rw[hO.prm.length_eq]
  unfold zaC
  exact ZO (ZI _ _) (by rw[ZC];exact z6o (z2t d m n S) S.length)
 have hxl:=hx.1
 have hend:=zhq hd hn hS hH hO hpos hx h0
 have hcl:∀k,k<=x.length->(zaF d m n S O 0 0 (x.take k)).length<=k:=fun k=>by
  induction k with
  |zero=>intro _;simp[zaF]
  |succ k ih=>
   intro hk
   have:=ih (by omega)
   rw[zpw (by omega),Zb]
   split<;>simp<;>omega
 unfold z3L
 refine z0n (n:=x.length) (f:=fun k=>(((z7B d m n S O 0 0 (x.take k):Nat):Int),(k:Int),toI (0::zaF d m n S O 0 0 (x.take k)))) (by simp[z7B,zaF,toI]) (by simp only[LFm];omega) (fun k hk=> ?_) ?_
 · obtain⟨o1,o2⟩:=hend k (by omega)
   have hlk:=hcl k (by omega)
   simp only[z3T]
   rw[z0a,if_pos (by omega),z1o hk,Z0,zeI o1,Z0,z0H (by omega),zdF hk,zpw hk,Zt]
   by_cases e:cpN d m n S O (z7B d m n S O 0 0 (x.take k))=k
   · have hz:=zen hd hn hS hH hO o1 (by omega)
     rw[e] at hz
     have hlt:=hx.2 k (by omega)
     have ed:dnN d m n S O k (z7B d m n S O 0 0 (x.take k)) (x.getD k 0)=(tlR d m n S (z7B d m n S O 0 0 (x.take k))).getD (x.getD k 0) 0:=by unfold dnN;rw[if_pos e]
     rw[if_pos ((z9A (by omega)).2 e),if_pos e,zaz o1,Z0,z1o (by omega),Z0,ed,z0a,Zs,z0i _ (by unfold z1C;omega),←z6u,ZN]
   · have ed:dnN d m n S O k (z7B d m n S O 0 0 (x.take k)) (x.getD k 0)=z7B d m n S O 0 0 (x.take k):=by unfold dnN;rw[if_neg e]
     rw[if_neg (fun h=>e ((z9A (by omega)).1 h)),if_neg e,Yb,ed]
 · simp only[z3T]
   rw[z0a,if_neg (by omega),Y9]
theorem zoq(hSl:S.length<=1000)(h0:0<S.length):z2M (z9q d m n S O)=some (toI (z2W d m n S O)):=by
 have h128:2^n<=128:=Zm (n:=2) (by omega) hn
 have hOl:O.length<=S.length:=by
  rw[hO.prm.length_eq]
  unfold zaC
  exact ZO (ZI _ _) (by rw[ZC];exact z6o (z2t d m n S) S.length)
 obtain⟨q,hq⟩:=ZG hd.s0
 have hqn:q<n:=by have:=hd.s1;omega
 have hmem:=hS.one q hqn
 have hlen:((z9q d m n S O).sizes.length:Int)=(O.length:Int):=by simp[z9q,z0a]
 have hst:=zao hd hn hS hH hO hpos h0
 have hend:=zhq hd hn hS hH hO hpos hst h0
 have hq2:d.start.toNat=q:=by omega
 have hsl:=hst.1
 let w:=S.idxOf (2^q)
 have hw:w<S.length:=z5d hmem
 let xK:=fun k=>(z2W d m n S O).getD k 0
 let iK:=fun k=>z7B d m n S O 0 0 ((z2W d m n S O).take k)
 have hsr:∀(k c i j:Nat),j<k->(srN d m n S O w k c i).getD j 0=if cpN d m n S O (z7B d m n S O c i ((srN d m n S O w k c i).take j))=c+j then zhs d m n S (z7B d m n S O c i ((srN d m n S O w k c i).take j)) w else 0:=fun k=>by
  induction k with
  |zero=>intro c i j hj;omega
  |succ k ih=>
   intro c i j hj
   match j with
   |0=>simp only[srN,X7,Xs,z7B,YF]
   |j+1=>
    simp only[srN,Yf,X6,z7B]
    rw[ih _ _ j (by omega),show c+1+j=c+(j+1) by omega]
 have hx:∀k,k<O.length->xK k=if cpN d m n S O (iK k)=k then zhs d m n S (iK k) w else 0:=fun k hk=>by
  have:=hsr O.length 0 0 k hk
  rw[Zt] at this
  have e:z2W d m n S O=srN d m n S O w O.length 0 0:=by unfold z2W;rw[hq2]
  show(z2W d m n S O).getD k 0=if cpN d m n S O (z7B d m n S O 0 0 ((z2W d m n S O).take k))=k then zhs d m n S (z7B d m n S O 0 0 ((z2W d m n S O).take k)) w else 0
  rw[e];exact this
 have hi1:∀k,k<O.length->iK (k+1)=dnN d m n S O k (iK k) (xK k):=fun k hk=>by
  have:=zdF (d:=d) (m:=m) (n:=n) (S:=S) (O:=O) (x:=z2W d m n S O) (k:=k) (by omega) 0 0
  rwa [Zt] at this
 unfold z2M
 have hsd:(z9q d m n S O).d.start=(q:Int):=hq
 have hss:(z9q d m n S O).x.sets=toI S:=rfl
 rw[hlen,z0i _ (by unfold z0S;omega),hsd,z0i _ (by omega),hss,z8B (by omega),zjI (by omega),if_pos hmem,Z0,Z2]
 refine z0n (n:=O.length) (f:=fun k=>(((iK k:Nat):Int),(k:Int),zav O.length (fun k=>((xK k:Nat):Int)) (fun _=>0) k)) ?_ (by simp only[LFm];omega) (fun k hk=> ?_) ?_
 · rw[z9s]
   exact congrArg (fun x=>((0:Int),(0:Int),x)) (Ze (by simp) fun i h1 h2=>by simp)
 · obtain⟨i1,i2⟩:=hend k (by omega)
   have hset2:=z4I (f:=fun k=>((xK k:Nat):Int)) (g:=fun _=>(0:Int)) hk
   have hat2:=znh (f:=fun k=>((xK k:Nat):Int)) (g:=fun _=>(0:Int)) hk
   simp only[z3R]
   rw[hlen,if_pos (by omega),zeI i1,Z0,z0H (by omega),Z2,hi1 k hk]
   by_cases e:cpN d m n S O (iK k)=k
   · have e':cpN d m n S O (z7B d m n S O 0 0 ((z2W d m n S O).take k))=k:=e
     have hz:=zen hd hn hS hH hO i1 (by omega)
     have hlt:=hst.2 k hk
     rw[e'] at hz
     have hxk:xK k=zhs d m n S (iK k) w:=by rw[hx k hk,if_pos e]
     have hcov:=zcE hd hn hS (O:=O) hSl i1 hw
     rw[if_pos ((z9A hk).2 e)]
     have hc2:z1q (z9q d m n S O) ((iK k:Nat):Int) (w:Int)=some ((xK k:Nat):Int):=by rw[hxk];exact hcov
     have hta:atI (toI (tlR d m n S (iK k))) ((xK k:Nat):Int)=some (((tlR d m n S (iK k)).getD (xK k) 0:Nat):Int):=z1o (by
      show(z2W d m n S O).getD k 0<(tlR d m n S (z7B d m n S O 0 0 ((z2W d m n S O).take k))).length
      omega)
     rw[hc2,Z0,z6H hk,Z0,zaz i1,Z0,hset2,hat2,Z0,hta,Z0]
     unfold dnN
     rw[if_pos e]
   · have hxk:xK k=0:=by rw[hx k hk,if_neg e]
     rw[if_neg (fun h=>e ((z9A hk).1 h))]
     unfold dnN
     rw[if_neg e,←hset2,hxk]
     congr 3
     refine(List.set_getElem_self (by rw[zjr];exact hk)).symm.trans ?_
     congr 1
     simp[zav]
 · simp only[z3R]
   rw[hlen,if_neg (by omega),z9r]
   congr 2
   refine Ze (by simp[toI,hsl]) fun k h1 h2=> ?_
   have:k<(z2W d m n S O).length:=by simpa[toI] using h2
   simp[toI,xK,List.getD,this]
end
end
section
open Go Go.IntKind
noncomputable section
abbrev z3P(a1:Int)(w42:Int)(v53:List Int):Int×List Bool->Option ((Int×List Bool)⊕(Int⊕Bool))
 |(w55,w56)=>
 if w55<(v53.length:Int) then
 (atI v53 w55).bind fun v60=>
 if v60<0 then
 z0d<|
 z0d<|
 some false
 else
 if a1<=v60 then
 z0d<|
 z0d<|
 some false
 else
 (atI w56 v60).bind fun v61=>
 if v61=true then
 z0d<|
 z0d<|
 some false
 else
 z0c (i64.wrap (w55+1),(w56.set v60.toNat true))
 else
 z0d<|
 z0c (i64.wrap (w42+1))
variable{a1:Int}{a0:List (List Int)}
instance{w42:Int}{v53:List Int}:Hd (z3P a1 w42 v53):=⟨fun(w55,w56)=>([(24,xI w55)],[(7,.os 1 w56.length (w56.map fun x0=>.sc (.bool x0)))])⟩
abbrev z2K(a0:List (List Int))(a1:Int):Int->Option (Int⊕Bool)
 |w42=>
 if w42<(a0.length:Int) then
 (atI a0 w42).bind fun v53=>
 if(v53.length:Int)=a1 then
 chk (z0S 1 a1)<|
 z0h (z3P a1 w42 v53) LFm (0,List.replicate a1.toNat (false:Bool))
 else
 z0d<|
 some false
 else
 z0d<|
 some true
instance:Hd (z2K a0 a1):=⟨fun w42=>([(12,xI w42)],[])⟩
def z2L(a0:List (List Int))(a1:Int):Option (Bool):=
 z0h (z2K a0 a1) LFm 0
instance:Ok (z2L a0 a1) (fun r=>L 97 [(tR a0),.sc (.int .i64 a1)]=some (.sc (.bool r),[.dead,.dead])):=⟨fun r h=>by have h:=z3p h;unfold z2L at h;exact z4q rfl Tryz.func97 (bdy Tryz.f97 rfl)⟩
def z5W(a0:Int)(a1:Int):Option (Bool):=
 if 0<=a0 then
 chk (¬a1<0)<|
 some (decide (a0<(zmA .i64 1 a1)))
 else
 some false
instance{a0:Int}:Ok (z5W a0 a1) (fun r=>L 182 [.sc (.int .i64 a0),.sc (.int .i64 a1)]=some (.sc (.bool r),[.dead,.dead])):=⟨fun r h=>by have h:=z3p h;unfold z5W at h;exact z4q rfl Tryz.func182 (bdy Tryz.f182 rfl)⟩
abbrev z4S(a1:Hol)(w102:Int)(v125:List Int):Int->Option (Int⊕(Int⊕Bool))
 |w132=>
 if w132<(a1.tiles.length:Int) then
 (atI a1.tiles w132).bind fun v138=>
 (atI a1.perms w102).bind fun v139=>
 (atI v139 w132).bind fun v140=>
 (atI a1.tiles v140).bind fun v141=>
 (z2A v125 v138).bind fun v142=>
 if v142=v141 then
 z0c (i64.wrap (w132+1))
 else
 z0d<|
 z0d<|
 some false
 else
 z0d<|
 z0c (i64.wrap (w102+1))
instance{a1:Hol}{w102:Int}{v125:List Int}:Hd (z4S a1 w102 v125):=⟨fun w132=>([(96,xI w132)],[])⟩
abbrev z4T(a0:DFA)(a1:Hol):Int->Option (Int⊕Bool)
 |w102=>
 if w102<(a1.words.length:Int) then
 (atI a1.words w102).bind fun v123=>
 (z7e v123 a0.letters).bind fun v124=>
 if v124=true then
 (z4x a0 v123).bind fun v125=>
 (z2A v125 a1.set).bind fun v126=>
 if v126=a1.set then
 z0h (z4S a1 w102 v125) LFm 0
 else
 z0d<|
 some false
 else
 z0d<|
 some false
 else
 z0d<|
 some true
instance{a0:DFA}{a1:Hol}:Hd (z4T a0 a1):=⟨fun w102=>([(73,xI w102)],[])⟩
abbrev z5v(a0:DFA)(a1:Hol):Int->Option (Int⊕Bool)
 |w77=>
 if w77<(a1.tiles.length:Int) then
 (atI a1.tiles w77).bind fun v80=>
 (z5W v80 (a0.final.length:Int)).bind fun v81=>
 if v81=true then
 z0c (i64.wrap (w77+1))
 else
 z0d<|
 some false
 else
 z0d<|
 z0h (z4T a0 a1) LFm 0
instance{a0:DFA}{a1:Hol}:Hd (z5v a0 a1):=⟨fun w77=>([(61,xI w77)],[])⟩
def z6R(a0:DFA)(a1:Hol):Option (Bool):=
 (z5A a0).bind fun v72=>
 if v72=0 then
 if 12<(a0.final.length:Int) then
 some false
 else
 (z5W a1.set (a0.final.length:Int)).bind fun v73=>
 if v73=true then
 if(a1.tiles.length:Int)<1 then
 some false
 else
 if 32<(a1.tiles.length:Int) then
 some false
 else
 if(a1.words.length:Int)=(a1.perms.length:Int) then
 (z2L a1.perms (a1.tiles.length:Int)).bind fun v74=>
 if v74=true then
 z0h (z5v a0 a1) LFm 0
 else
 some false
 else
 some false
 else
 some false
 else
 some false
instance{a0:DFA}{a1:Hol}:Ok (z6R a0 a1) (fun r=>L 145 [.agg [.sc (.int .i64 a0.letters),.sc (.int .i64 a0.start),(tB a0.final),(tR a0.next)],.agg [.sc (.int .i64 a1.set),(tI a1.tiles),(tS a1.words),(tR a1.perms)]]=some (.sc (.bool r),[.dead,.dead])):=⟨fun r h=>by have h:=z3p h;unfold z6R at h;exact z4q rfl Tryz.func145 (bdy Tryz.f145 rfl)⟩
end
end
section
open Go Go.IntKind
noncomputable section
abbrev z7X(a0:List Int):Int->Option (Int⊕Bool)
 |w6=>
 if w6<(a0.length:Int) then
 (atI a0 w6).bind fun v8=>
 if v8<0 then
 z0d<|
 some false
 else
 if(a0.length:Int)<=v8 then
 z0d<|
 some false
 else
 z0c (i64.wrap (w6+1))
 else
 z0d<|
 some true
variable{a0 a1:List Int}
instance:Hd (z7X a0):=⟨fun w6=>([(15,xI w6)],[])⟩
def z7K(a0:List Int):Option (Bool):=
 if(a0.length:Int)<1 then
 some false
 else
 if 32<(a0.length:Int) then
 some false
 else
 z0h (z7X a0) LFm 0
instance:Ok (z7K a0) (fun r=>L 210 [(tI a0)]=some (.sc (.bool r),[.dead])):=⟨fun r h=>by have h:=z3p h;unfold z7K at h;exact z4q rfl Tryz.func210 (bdy Tryz.f210 rfl)⟩
abbrev z4G(a0:List Int):Int->Option (Int⊕List Int)
 |w10=>
 if w10<(a0.length:Int) then
 (atI a0 w10).bind fun v13=>
 (atI a0 (i64.wrap (w10-1))).bind fun v14=>
 if v13=v14 then
 none
 else
 z0c (i64.wrap (w10+1))
 else
 z0d<|
 some a0
instance:Hd (z4G a0):=⟨fun w10=>([(3,xI w10)],[])⟩
def z2R(a0:List Int):Option (List Int):=
 if(a0.length:Int)<2 then
 some a0
 else
 z0h (z4G a0) LFm 1
instance:Ok (z2R a0) (fun r=>L 238 [(tI a0)]=some ((tI r),[.dead])):=⟨fun r h=>by have h:=z3p h;unfold z2R at h;exact z4q rfl Tryz.func238 (bdy Tryz.f238 rfl)⟩
def zag(a0:List Int):Option (List Int):=
 (z7K a0).bind fun v5=>
 if v5=true then
 (zaR a0).bind fun v6=>
 (zaQ v6).bind fun v7=>
 (z2R v7).bind fun v8=>
 some v8
 else
 some []
instance:Ok (zag a0) (fun r=>L 230 [(tI a0)]=some ((tI r),[.dead])):=⟨fun r h=>by have h:=z3p h;unfold zag at h;exact zhQ rfl Tryz.func230 (bdy Tryz.f230 rfl)⟩
def zbm(a0:List Int):Option (Int):=
 (zag a0).bind fun v2=>
 some (v2.length:Int)
instance:Ok (zbm a0) (fun r=>L 211 [(tI a0)]=some (.sc (.int .i64 r),[.dead])):=⟨fun r h=>by have h:=z3p h;unfold zbm at h;exact z4q rfl Tryz.func211 (bdy Tryz.f211 rfl)⟩
def z4t(a0:List Int):Option (Bool):=
 (z7K a0).bind fun v3=>
 if v3=true then
 (zbm a0).bind fun v4=>
 some (decide (v4=(a0.length:Int)))
 else
 some false
instance:Ok (z4t a0) (fun r=>L 183 [(tI a0)]=some (.sc (.bool r),[.dead])):=⟨fun r h=>by have h:=z3p h;unfold z4t at h;exact z4q rfl Tryz.func183 (bdy Tryz.f183 rfl)⟩
abbrev z6n(a0:List (List Int))(a1:Int):Int->Option (Int⊕Bool)
 |w10=>
 if w10<(a0.length:Int) then
 (atI a0 w10).bind fun v13=>
 if(v13.length:Int)=a1 then
 (z4t v13).bind fun v14=>
 if v14=true then
 z0c (i64.wrap (w10+1))
 else
 z0d<|
 some false
 else
 z0d<|
 some false
 else
 z0d<|
 some true
instance{a0:List (List Int)}{a1:Int}:Hd (z6n a0 a1):=⟨fun w10=>([(9,xI w10)],[])⟩
def z4U(a0:List (List Int))(a1:Int):Option (Bool):=
 z0h (z6n a0 a1) LFm 0
instance{a0:List (List Int)}{a1:Int}:Ok (z4U a0 a1) (fun r=>L 150 [(tR a0),.sc (.int .i64 a1)]=some (.sc (.bool r),[.dead,.dead])):=⟨fun r h=>by have h:=z3p h;unfold z4U at h;exact z4q rfl Tryz.func150 (bdy Tryz.f150 rfl)⟩
abbrev z6t(a0:Int):Int×List Int->Option ((Int×List Int)⊕List Int)
 |(w5,w6)=>
 if w5<a0 then
 (atI w6 w5).bind fun v8=>
 z0c (i64.wrap (w5+1),(w6.set w5.toNat w5))
 else
 z0d<|
 some w6
instance{a0:Int}:Hd (z6t a0):=⟨fun(w5,w6)=>([(15,xI w5)],[(3,(tO w6))])⟩
def z6M(a0:Int):Option (List Int):=
 if a0<1 then
 some []
 else
 if 32<a0 then
 some []
 else
 chk (z0S 8 a0)<|
 z0h (z6t a0) LFm (0,List.replicate a0.toNat (0:Int))
instance{a0:Int}:Ok (z6M a0) (fun r=>L 151 [.sc (.int .i64 a0)]=some ((tO r),[.dead])):=⟨fun r h=>by have h:=z3p h;unfold z6M at h;exact z4q rfl Tryz.func151 (bdy Tryz.f151 rfl)⟩
abbrev z8G(a0:List Int):Int×List Int->Option ((Int×List Int)⊕ByteArray)
 |(w9,w10)=>
 if w9<(a0.length:Int) then
 (atI a0 w9).bind fun v13=>
 (atI w10 w9).bind fun v14=>
 z0c (i64.wrap (w9+1),(w10.set w9.toNat (u8.wrap v13)))
 else
 z0d<|
 some (z1i w10)
instance:Hd (z8G a0):=⟨fun(w9,w10)=>([(11,xI w9)],[(3,.os 1 w10.length (w10.map fun x0=>.sc (.int .u8 x0)))])⟩
def z7Q(a0:List Int):Option (ByteArray):=
 chk (z0S 1 (a0.length:Int))<|
 z0h (z8G a0) LFm (0,List.replicate (a0.length:Int).toNat (0:Int))
instance:Ok (z7Q a0) (fun r=>L 152 [(tI a0)]=some (.sc (.string r),[.dead])):=⟨fun r h=>by have h:=z3p h;unfold z7Q at h;exact z4q rfl Tryz.func152 (bdy Tryz.f152 rfl)⟩
abbrev z6X(a0:List Int)(a1:List Int):Int×List Int->Option ((Int×List Int)⊕List Int)
 |(w13,w14)=>
 if w13<(a0.length:Int) then
 (atI a0 w13).bind fun v18=>
 (atI a1 v18).bind fun v19=>
 (atI w14 w13).bind fun v20=>
 z0c (i64.wrap (w13+1),(w14.set w13.toNat v19))
 else
 z0d<|
 some w14
instance:Hd (z6X a0 a1):=⟨fun(w13,w14)=>([(13,xI w13)],[(5,(tO w14))])⟩
def z6F(a0:List Int)(a1:List Int):Option (List Int):=
 chk (z0S 8 (a0.length:Int))<|
 z0h (z6X a0 a1) LFm (0,List.replicate (a0.length:Int).toNat (0:Int))
instance:Ok (z6F a0 a1) (fun r=>L 153 [(tI a0),(tI a1)]=some ((tO r),[.dead,.dead])):=⟨fun r h=>by have h:=z3p h;unfold z6F at h;exact z4q rfl Tryz.func153 (bdy Tryz.f153 rfl)⟩
end
end
section
open Go Go.IntKind
noncomputable section
abbrev z4V(w225:List (List Int))(v276:List Int)(w293:Int):Int×List (List Int)×(List (ByteArray×Bool))->Option ((Int×List (List Int)×(List (ByteArray×Bool)))⊕((Int×List (List Int)×(List (ByteArray×Bool)))⊕((Int×List (List Int)×(List (ByteArray×Bool))×List (List Int))⊕(List (List Int)×Int))))
 |(w315,w316,w317)=>
 if w315<((w225.length:Int)+1) then
 (atI (w225++ [v276]) w315).bind fun v322=>
 (atI w316 w293).bind fun v323=>
 (z6F v323 v322).bind fun v324=>
 (z7Q v324).bind fun v325=>
 if((z7G v325 w317).getD false)=true then
 z0c (i64.wrap (w315+1),w316,w317)
 else
 chk (z1C 24 (w316.length+1))<|
 z0c (i64.wrap (w315+1),w316++ [v324],z8p v325 true w317)
 else
 z0d<|
 if 2000<(w316.length:Int) then
 z0d<|
 z0d<|
 some ([],3)
 else
 z0c (i64.wrap (w293+1),w316,w317)
variable{a0 w225:List (List Int)}{v276:List Int}
instance{w293:Int}:Hd (z4V w225 v276 w293):=⟨fun(w315,w316,w317)=>([(57,xI w315)],[(6,.os 1 w316.length (w316.map fun x0=>(tI x0))),(7,.mp none (w317.map fun x0=>(.string x0.1,.bool x0.2)))])⟩
abbrev z4W(w222:Int)(w225:List (List Int))(v276:List Int):Int×List (List Int)×(List (ByteArray×Bool))->Option ((Int×List (List Int)×(List (ByteArray×Bool)))⊕((Int×List (List Int)×(List (ByteArray×Bool))×List (List Int))⊕(List (List Int)×Int)))
 |(w293,w294,w295)=>
 if w293<(w294.length:Int) then
 z0h (z4V w225 v276 w293) LFm (0,w294,w295)
 else
 z0d<|
 z0c (i64.wrap (w222+1),w294,w295,w225++ [v276])
instance{w222:Int}:Hd (z4W w222 w225 v276):=⟨fun(w293,w294,w295)=>([(11,xI w293)],[(6,.os 1 w294.length (w294.map fun x0=>(tI x0))),(7,.mp none (w295.map fun x0=>(.string x0.1,.bool x0.2)))])⟩
abbrev z5Y(a0:List (List Int)):Int×List (List Int)×(List (ByteArray×Bool))×List (List Int)->Option ((Int×List (List Int)×(List (ByteArray×Bool))×List (List Int))⊕(List (List Int)×Int))
 |(w222,w223,w224,w225)=>
 if w222<(a0.length:Int) then
 (atI a0 w222).bind fun v276=>
 (z7Q v276).bind fun v277=>
 if((z7G v277 w224).getD false)=true then
 z0c (i64.wrap (w222+1),w223,w224,w225)
 else
 chk (z1C 24 (w225.length+1))<|
 z0h (z4W w222 w225 v276) LFm (0,w223,w224)
 else
 z0d<|
 (zpW w223).bind fun v326=>
 some (v326,0)
instance:Hd (z5Y a0):=⟨fun(w222,w223,w224,w225)=>([(37,xI w222)],[(6,.os 1 w223.length (w223.map fun x0=>(tI x0))),(7,.mp none (w224.map fun x0=>(.string x0.1,.bool x0.2))),(8,.os 1 w225.length (w225.map fun x0=>(tI x0)))])⟩
def z4p(a0:List (List Int)):Option (List (List Int)×Int):=
 if(a0.length:Int)=0 then
 some ([],1)
 else
 (atI a0 0).bind fun v164=>
 (z4U a0 (v164.length:Int)).bind fun v165=>
 if v165=true then
 (z6M (v164.length:Int)).bind fun v166=>
 (z7Q v166).bind fun v167=>
 z0h (z5Y a0) LFm (0,[v166],z8p v167 true ([]:List (ByteArray×Bool)),[])
 else
 some ([],4)
instance:Ok (z4p a0) (fun r=>L 98 [(tR a0)]=some (.tup [(tR r.1),.sc (.int .i64 r.2)],[.dead])):=⟨fun r h=>by have h:=z3p h;unfold z4p at h;exact zhQ rfl Tryz.func98 (bdy Tryz.f98 rfl)⟩
abbrev z2v(a0:Hol):Int×List Int->Option ((Int×List Int)⊕(List (List Int)×Int))
 |(w8,w9)=>
 if w8<(a0.tiles.length:Int) then
 (atI w9 w8).bind fun v11=>
 z0c (i64.wrap (w8+1),(w9.set w8.toNat w8))
 else
 z0d<|
 if(a0.perms.length:Int)=0 then
 some ([w9],0)
 else
 (z4p a0.perms).bind fun v12=>
 some (v12.1,v12.2)
instance{a0:Hol}:Hd (z2v a0):=⟨fun(w8,w9)=>([(27,xI w8)],[(5,(tO w9))])⟩
def z1B(a0:Hol):Option (List (List Int)×Int):=
 if(a0.tiles.length:Int)<1 then
 some ([],4)
 else
 if 32<(a0.tiles.length:Int) then
 some ([],4)
 else
 (z2L a0.perms (a0.tiles.length:Int)).bind fun v7=>
 if v7=true then
 chk (z0S 8 (a0.tiles.length:Int))<|
 z0h (z2v a0) LFm (0,List.replicate (a0.tiles.length:Int).toNat (0:Int))
 else
 some ([],4)
instance{a0:Hol}:Ok (z1B a0) (fun r=>L 47 [.agg [.sc (.int .i64 a0.set),(tI a0.tiles),(tS a0.words),(tR a0.perms)]]=some (.tup [(tR r.1),.sc (.int .i64 r.2)],[.dead])):=⟨fun r h=>by have h:=z3p h;unfold z1B at h;exact zhQ rfl Tryz.func47 (bdy Tryz.f47 rfl)⟩
end
end
end Go.Proofs.YtiobkcdgggbljaaGreatDoor
