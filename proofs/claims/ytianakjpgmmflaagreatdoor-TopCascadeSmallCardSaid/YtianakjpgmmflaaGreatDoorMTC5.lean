/- Proved here: a part of the proof of the law at hand, in one text: no condition. -/
import Derived.Test.YtianakjpgmmflaaGreatDoorMTC4
import Derived.KernelRfl
set_option linter.unusedVariables false
set_option linter.unusedSimpArgs false
set_option linter.unusedSectionVars false
set_option maxRecDepth 100000
set_option maxHeartbeats 6000000
namespace Go.Proofs.YtianakjpgmmflaaGreatDoor
section
open Go
variable{x:List Nat}
section
variable {d:DFA} {m n:Nat} {S:List Nat} (hd:DfaOk d m n) (hn:n<=7) (hS:SetsP d m n S) {O:List Nat} (hH:zlS d m n S) (hO:OrdC d m n S O) (hpos:∀x∈S,x≠0)
include hd hn hS hH hO hpos
theorem zie{x:List Nat}(hx:zgT d m n S O x)(h0:0<S.length):∀k,k<=x.length->z8o d m n S O 0 0 (x.take k)<S.length/\k<=cpN d m n S O (z8o d m n S O 0 0 (x.take k))
 |0,_=>⟨by simpa[z8o] using h0,Yt _⟩
 |k+1,hk=>by
  obtain⟨h1,h2⟩:=zie hx h0 k (by omega)
  rw[zcT (by omega),Zp]
  exact znj hd hn hS hH hO hpos (by have:=hx.1;omega) h1 h2 (hx.2 k (by have:=hx.1;omega))
theorem zrW(hSl:S.length<=1000)(h0:0<S.length){a:Nat}(ha:a<m)(hx:zgT d m n S O x):
 z2G (z8n d m n S O) (toI x) (a:Int)=some (toI (z6R d m n S O a x),(z9G d m n S O a x).map toI):=by
 have hOl:O.length<=S.length:=by
  rw[hO.prm.length_eq]
  unfold za5
  exact ZJ (ZC _ _) (by rw[ZD];exact z5w (z2u d m n S) S.length)
 have hxl:=hx.1
 have hy:=(zaD hd hn hS hH hO hpos (a:=a) hx h0).1
 have hyl:=hy.1
 have hend:=zie hd hn hS hH hO hpos hx h0
 have hend2:=zie hd hn hS hH hO hpos hy h0
 have hget:=fun k (hk:k<x.length)=>zxV (d:=d) (m:=m) (n:=n) (S:=S) (O:=O) a x 0 0 0 k hk
 let oK:=fun k=>z8o d m n S O 0 0 (x.take k)
 let iK:=fun k=>z8o d m n S O 0 0 ((z6R d m n S O a x).take k)
 let mK:=fun k=>(z9G d m n S O a x).getD k []
 let yK:=fun k=>(z6R d m n S O a x).getD k 0
 have hm:∀k,k<x.length->mK k=zlU d m n S O a k (oK k) (iK k):=fun k hk=>by
  have:=(hget k hk).1
  rw[Zp] at this
  exact this
 have hyk:∀k,k<x.length->yK k=(mK k).getD (x.getD k 0) 0:=fun k hk=>by
  have:=(hget k hk).2
  rw[Zp] at this
  rw[hm k hk]
  exact this
 have ho1:∀k,k<x.length->oK (k+1)=dnN d m n S O k (oK k) (x.getD k 0):=fun k hk=>by
  have:=zcT (d:=d) (m:=m) (n:=n) (S:=S) (O:=O) hk 0 0
  rwa [Zp] at this
 have hi1:∀k,k<x.length->iK (k+1)=dnN d m n S O k (iK k) (yK k):=fun k hk=>by
  have:=zcT (d:=d) (m:=m) (n:=n) (S:=S) (O:=O) (x:=z6R d m n S O a x) (k:=k) (by omega) 0 0
  rwa [Zp] at this
 unfold z2G
 rw[z0b,hxl,z0j _ (by unfold z0X;omega),z0j _ (by unfold z0X;omega)]
 simp only[Z3]
 refine z0x (n:=O.length) (f:=fun k=>(((oK k:Nat):Int),((iK k:Nat):Int),(k:Int),zaL O.length (fun k=>((yK k:Nat):Int)) (fun _=>0) k,zaL O.length (fun k=>toI (mK k)) (fun _=> []) k)) ?_ (by simp only[LFm];omega) (fun k hk=> ?_) ?_
 · rw[z9v,z9v]
   have e1:List.replicate O.length (0:Int)=(List.range O.length).map (fun _=>(0:Int)):=(Zf (by simp) fun i h1 h2=>by simp)
   have e2:List.replicate O.length ([]:List Int)=(List.range O.length).map (fun _=>([]:List Int)):=(Zf (by simp) fun i h1 h2=>by simp)
   rw[e1,e2]
   rfl
 · have hk':k<x.length:=by omega
   obtain⟨o1,o2⟩:=hend k (by omega)
   obtain⟨i1,i2⟩:=hend2 k (by omega)
   have hxk:=hx.2 k hk
   have hmo:=zy4 hd hn hS hH hO hpos (a:=a) (o:=oK k) (i:=iK k) hk o1 i1
   rw[←hm k hk'] at hmo
   have hsz:∀i,i<S.length->cpN d m n S O i=k->szO d m n S O k=(tlR d m n S i).length:=fun i hi e=>by
    have hz:=zgX hd hn hS hH hO hi (by omega)
    rwa [e] at hz
   have hykl:yK k<szO d m n S O k:=by
    rw[hyk k hk']
    exact hmo.2 _ (z0f (by omega))
   have hxat:atI (toI x) (k:Int)=some ((x.getD k 0:Nat):Int):=z1u hk'
   have hmat:z2C (z8n d m n S O) (k:Int) ((oK k:Nat):Int) ((iK k:Nat):Int) (a:Int)=some (toI (mK k)):=by
    rw[hm k hk']
    exact zwv hd hn hS hH hO hpos hSl ha hk o1 i1
   have hset:=z4S (f:=fun k=>toI (mK k)) (g:=fun _=>([]:List Int)) hk
   have hset2:=z4S (f:=fun k=>((yK k:Nat):Int)) (g:=fun _=>(0:Int)) hk
   have hat1:=zmQ (f:=fun k=>toI (mK k)) (g:=fun _=>([]:List Int)) hk
   have hat2:=zmQ (f:=fun k=>((yK k:Nat):Int)) (g:=fun _=>(0:Int)) hk
   have hmx:atI (toI (mK k)) ((x.getD k 0:Nat):Int)=some ((yK k:Nat):Int):=by
    rw[hyk k hk']
    exact z1u (by omega)
   have hco:=zdO (d:=d) (m:=m) (n:=n) (O:=O) o1
   have hci:=zdO (d:=d) (m:=m) (n:=n) (O:=O) i1
   have hto:=z9y (d:=d) (m:=m) (n:=n) (O:=O) o1
   have hti:=z9y (d:=d) (m:=m) (n:=n) (O:=O) i1
   simp only[z3Q]
   rw[z0b,if_pos (by omega),hxat,Z0,hmat,Z0,z6y hk,Z0,Z3,hset]
   try rw[hat1,Z0]
   rw[hmx,Z0,z6y hk,Z0,hset2,hco,Z0,z1g (by omega),ho1 k hk',hi1 k hk']
   unfold dnN
   by_cases e1:cpN d m n S O (oK k)=k
   · have htat:atI (toI (tlR d m n S (oK k))) ((x.getD k 0:Nat):Int)=some (((tlR d m n S (oK k)).getD (x.getD k 0) 0:Nat):Int):=z1u (by have:=hsz (oK k) o1 e1;omega)
     rw[if_pos ((z8y hk).2 e1),if_pos e1,hto,Z0,htat,Z0,hci,Z0]
     by_cases e2:cpN d m n S O (iK k)=k
     · have htai:atI (toI (tlR d m n S (iK k))) ((yK k:Nat):Int)=some (((tlR d m n S (iK k)).getD (yK k) 0:Nat):Int):=z1u (by have:=hsz (iK k) i1 e2;omega)
       rw[if_pos ((z8y hk).2 e2),if_pos e2,hti,Z0]
       try rw[hat2,Z0]
       rw[htai,Z0]
     · rw[if_neg (fun h=>e2 ((z8y hk).1 h)),if_neg e2]
   · rw[if_neg (fun h=>e1 ((z8y hk).1 h)),if_neg e1,hci,Z0]
     by_cases e2:cpN d m n S O (iK k)=k
     · have htai:atI (toI (tlR d m n S (iK k))) ((yK k:Nat):Int)=some (((tlR d m n S (iK k)).getD (yK k) 0:Nat):Int):=z1u (by have:=hsz (iK k) i1 e2;omega)
       rw[if_pos ((z8y hk).2 e2),if_pos e2,hti,Z0]
       try rw[hat2,Z0]
       rw[htai,Z0]
     · rw[if_neg (fun h=>e2 ((z8y hk).1 h)),if_neg e2]
 · simp only[z3Q]
   rw[z0b,if_neg (by omega),z9u,z9u]
   have e1:(List.range O.length).map (fun k=>((yK k:Nat):Int))=toI (z6R d m n S O a x):=by
    refine Zf (by simp[toI,hyl]) fun k h1 h2=> ?_
    have:k<(z6R d m n S O a x).length:=by simpa[toI] using h2
    simp[toI,yK,List.getD,this]
   have e2:(List.range O.length).map (fun k=>toI (mK k))=(z9G d m n S O a x).map toI:=by
    refine Zf (by simp[zrX,hxl]) fun k h1 h2=> ?_
    have:k<(z9G d m n S O a x).length:=by simpa using h2
    simp[mK,List.getD,this]
   rw[e1,e2]
theorem zzk(hSl:S.length<=1000)(h0:0<S.length)(hx:zgT d m n S O x):
 z2H (z8n d m n S O) (toI x)=some ((List.range m).map fun a=>(z9G d m n S O a x).map toI):=by
 have hm6:=hd.m6
 have hlt:(z8n d m n S O).d.letters=m:=hd.lt
 unfold z2H
 rw[hlt,z0j _ (by unfold z0X;omega),Z3]
 refine z0x (n:=m) (f:=fun k=>((k:Int),zaL m (fun a=>(z9G d m n S O a x).map toI) (fun _=> []) k)) ?_ (by simp only[LFm];omega) (fun a ha=> ?_) ?_
 · rw[z9v]
   exact congrArg (fun x=>((0:Int),x)) (Zf (by simp) fun i h1 h2=>by simp)
 · simp only[z3R]
   rw[hlt,if_pos (by omega),zrW hd hn hS hH hO hpos hSl h0 ha hx,Z0,z6y ha,Z0,z1g (by omega),Z3]
   exact congrArg (fun x=>z0c (((a+1:Nat):Int),x)) (z4S (f:=fun a=>(z9G d m n S O a x).map toI) ha)
 · simp only[z3R]
   rw[hlt,if_neg (by omega),z9u]
end
def z9E(d:DFA)(m n:Nat)(S O:List Nat):Nat->Nat->List Nat->List Nat
 |_,_,[]=> []
 |c,i,s::x=>(if cpN d m n S O i=c then [dnN d m n S O c i s] else [])++z9E d m n S O (c+1) (dnN d m n S O c i s) x
theorem zp0{d:DFA}{m n:Nat}{S O:List Nat}(s:Nat):∀(x:List Nat) (c i:Nat),z9E d m n S O c i (x++ [s])=z9E d m n S O c i x++(if cpN d m n S O (z8o d m n S O c i x)=c+x.length then [dnN d m n S O (c+x.length) (z8o d m n S O c i x) s] else [])
 | [],c,i=>by
   simp only[Y4,z9E,z8o,Ye,Yx,Y1]
   all_goals rfl
 |t::x,c,i=>by
  simp only[ZU,z9E,Zr,z8o]
  rw[zp0 s x,show c+1+x.length=c+(x.length+1) by omega,Zo]
  all_goals rfl
theorem zoZ{d:DFA}{m n:Nat}{S O:List Nat}{k:Nat}(hk:k<x.length):z9E d m n S O 0 0 (x.take (k+1))=z9E d m n S O 0 0 (x.take k)++(if cpN d m n S O (z8o d m n S O 0 0 (x.take k))=k then [dnN d m n S O k (z8o d m n S O 0 0 (x.take k)) (x.getD k 0)] else []):=by
 rw[z8N hk,zp0,Zq,Nat.min_eq_left (by omega),Zp]
theorem zp2{d:DFA}{m n:Nat}{S O:List Nat}:∀(x:List Nat) (c i:Nat),(i::z9E d m n S O c i x).getLastD 0=z8o d m n S O c i x
 | [],c,i=>rfl
 |s::x,c,i=>by
  have ih:=zp2 (d:=d) (m:=m) (n:=n) (S:=S) (O:=O) x (c+1) (dnN d m n S O c i s)
  simp only[z9E,z8o]
  by_cases h:cpN d m n S O i=c
  · grind
  · rw[if_neg h,Y4]
    have e:dnN d m n S O c i s=i:=by unfold dnN;rw[if_neg h]
    rw[e] at ih⊢
    exact ih
section
variable {d:DFA} {m n:Nat} {S:List Nat} (hd:DfaOk d m n) (hn:n<=7) (hS:SetsP d m n S) {O:List Nat} (hH:zlS d m n S) (hO:OrdC d m n S O) (hpos:∀x∈S,x≠0)
include hd hn hS hH hO hpos
theorem zxe(hSl:S.length<=1000)(h0:0<S.length)(hx:zgT d m n S O x):z3t (z8n d m n S O) (toI x)=some (toI (0::z9E d m n S O 0 0 x)):=by
 have hOl:O.length<=S.length:=by
  rw[hO.prm.length_eq]
  unfold za5
  exact ZJ (ZC _ _) (by rw[ZD];exact z5w (z2u d m n S) S.length)
 have hxl:=hx.1
 have hend:=zie hd hn hS hH hO hpos hx h0
 have hcl:∀k,k<=x.length->(z9E d m n S O 0 0 (x.take k)).length<=k:=fun k=>by
  induction k with
  |zero=>intro _;simp[z9E]
  |succ k ih=>
   intro hk
   have:=ih (by omega)
   rw[zoZ (by omega),Za]
   split<;>simp<;>omega
 unfold z3t
 refine z0x (n:=x.length) (f:=fun k=>(((z8o d m n S O 0 0 (x.take k):Nat):Int),(k:Int),toI (0::z9E d m n S O 0 0 (x.take k)))) (by simp[z8o,z9E,toI]) (by simp only[LFm];omega) (fun k hk=> ?_) ?_
 · obtain⟨o1,o2⟩:=hend k (by omega)
   have hlk:=hcl k (by omega)
   simp only[z3z]
   rw[z0b,if_pos (by omega),z1u hk,Z0,zdO o1,Z0,z1g (by omega),zcT hk,zoZ hk,Zp]
   by_cases e:cpN d m n S O (z8o d m n S O 0 0 (x.take k))=k
   · have hz:=zgX hd hn hS hH hO o1 (by omega)
     rw[e] at hz
     have hlt:=hx.2 k (by omega)
     have ed:dnN d m n S O k (z8o d m n S O 0 0 (x.take k)) (x.getD k 0)=(tlR d m n S (z8o d m n S O 0 0 (x.take k))).getD (x.getD k 0) 0:=by unfold dnN;rw[if_pos e]
     rw[if_pos ((z8y (by omega)).2 e),if_pos e,z9y o1,Z0,z1u (by omega),Z0,ed,z0b,Zr,z0j _ (by unfold z1B;omega),←z5B,ZU]
   · have ed:dnN d m n S O k (z8o d m n S O 0 0 (x.take k)) (x.getD k 0)=z8o d m n S O 0 0 (x.take k):=by unfold dnN;rw[if_neg e]
     rw[if_neg (fun h=>e ((z8y (by omega)).1 h)),if_neg e,Y1,ed]
 · simp only[z3z]
   rw[z0b,if_neg (by omega),Yr]
theorem zo0(hSl:S.length<=1000)(h0:0<S.length):z2B (z8n d m n S O)=some (toI (z4x d m n S O)):=by
 have h128:2^n<=128:=Zi (n:=2) (by omega) hn
 have hOl:O.length<=S.length:=by
  rw[hO.prm.length_eq]
  unfold za5
  exact ZJ (ZC _ _) (by rw[ZD];exact z5w (z2u d m n S) S.length)
 obtain⟨q,hq⟩:=ZF hd.s0
 have hqn:q<n:=by have:=hd.s1;omega
 have hmem:=hS.one q hqn
 have hlen:((z8n d m n S O).sizes.length:Int)=(O.length:Int):=by simp[z8n,z0b]
 have hst:=zch hd hn hS hH hO hpos h0
 have hend:=zie hd hn hS hH hO hpos hst h0
 have hq2:d.start.toNat=q:=by omega
 have hsl:=hst.1
 let w:=S.idxOf (2^q)
 have hw:w<S.length:=z6j hmem
 let xK:=fun k=>(z4x d m n S O).getD k 0
 let iK:=fun k=>z8o d m n S O 0 0 ((z4x d m n S O).take k)
 have hsr:∀(k c i j:Nat),j<k->(srN d m n S O w k c i).getD j 0=if cpN d m n S O (z8o d m n S O c i ((srN d m n S O w k c i).take j))=c+j then zlW d m n S (z8o d m n S O c i ((srN d m n S O w k c i).take j)) w else 0:=fun k=>by
  induction k with
  |zero=>intro c i j hj;omega
  |succ k ih=>
   intro c i j hj
   match j with
   |0=>simp only[srN,Xn,Xq,z8o,Yx]
   |j+1=>
    simp only[srN,Yz,Xm,z8o]
    rw[ih _ _ j (by omega),show c+1+j=c+(j+1) by omega]
 have hx:∀k,k<O.length->xK k=if cpN d m n S O (iK k)=k then zlW d m n S (iK k) w else 0:=fun k hk=>by
  have:=hsr O.length 0 0 k hk
  rw[Zp] at this
  have e:z4x d m n S O=srN d m n S O w O.length 0 0:=by unfold z4x;rw[hq2]
  show(z4x d m n S O).getD k 0=if cpN d m n S O (z8o d m n S O 0 0 ((z4x d m n S O).take k))=k then zlW d m n S (z8o d m n S O 0 0 ((z4x d m n S O).take k)) w else 0
  rw[e];exact this
 have hi1:∀k,k<O.length->iK (k+1)=dnN d m n S O k (iK k) (xK k):=fun k hk=>by
  have:=zcT (d:=d) (m:=m) (n:=n) (S:=S) (O:=O) (x:=z4x d m n S O) (k:=k) (by omega) 0 0
  rwa [Zp] at this
 unfold z2B
 have hsd:(z8n d m n S O).d.start=(q:Int):=hq
 have hss:(z8n d m n S O).x.sets=toI S:=rfl
 rw[hlen,z0j _ (by unfold z0X;omega),hsd,z0j _ (by omega),hss,z8t (by omega),zj0 (by omega),if_pos hmem,Z0,Z3]
 refine z0x (n:=O.length) (f:=fun k=>(((iK k:Nat):Int),(k:Int),zaL O.length (fun k=>((xK k:Nat):Int)) (fun _=>0) k)) ?_ (by simp only[LFm];omega) (fun k hk=> ?_) ?_
 · rw[z9v]
   exact congrArg (fun x=>((0:Int),(0:Int),x)) (Zf (by simp) fun i h1 h2=>by simp)
 · obtain⟨i1,i2⟩:=hend k (by omega)
   have hset2:=z4S (f:=fun k=>((xK k:Nat):Int)) (g:=fun _=>(0:Int)) hk
   have hat2:=zmQ (f:=fun k=>((xK k:Nat):Int)) (g:=fun _=>(0:Int)) hk
   simp only[z3x]
   rw[hlen,if_pos (by omega),zdO i1,Z0,z1g (by omega),Z3,hi1 k hk]
   by_cases e:cpN d m n S O (iK k)=k
   · have e':cpN d m n S O (z8o d m n S O 0 0 ((z4x d m n S O).take k))=k:=e
     have hz:=zgX hd hn hS hH hO i1 (by omega)
     have hlt:=hst.2 k hk
     rw[e'] at hz
     have hxk:xK k=zlW d m n S (iK k) w:=by rw[hx k hk,if_pos e]
     have hcov:=zbT hd hn hS (O:=O) hSl i1 hw
     rw[if_pos ((z8y hk).2 e)]
     have hc2:z1l (z8n d m n S O) ((iK k:Nat):Int) (w:Int)=some ((xK k:Nat):Int):=by rw[hxk];exact hcov
     have hta:atI (toI (tlR d m n S (iK k))) ((xK k:Nat):Int)=some (((tlR d m n S (iK k)).getD (xK k) 0:Nat):Int):=z1u (by
      show(z4x d m n S O).getD k 0<(tlR d m n S (z8o d m n S O 0 0 ((z4x d m n S O).take k))).length
      omega)
     rw[hc2,Z0,z6y hk,Z0,z9y i1,Z0,hset2]
     try rw[hat2,Z0]
     rw[hta,Z0]
     unfold dnN
     rw[if_pos e]
   · have hxk:xK k=0:=by rw[hx k hk,if_neg e]
     rw[if_neg (fun h=>e ((z8y hk).1 h))]
     unfold dnN
     rw[if_neg e,←hset2,hxk]
     congr 3
     refine(List.set_getElem_self (by rw[zmP];exact hk)).symm.trans ?_
     congr 1
     simp[zaL]
 · simp only[z3x]
   rw[hlen,if_neg (by omega),z9u]
   congr 2
   refine Zf (by simp[toI,hsl]) fun k h1 h2=> ?_
   have:k<(z4x d m n S O).length:=by simpa[toI] using h2
   simp[toI,xK,List.getD,this]
end
end
section
open Go Go.IntKind
noncomputable section
abbrev z3v(a1:Int)(w42:Int)(v53:List Int):Int×List Bool->Option ((Int×List Bool)⊕(Int⊕Bool))
 |(w55,w56)=>
 if w55<(v53.length:Int) then
 (atI v53 w55).bind fun v60=>
 if v60<0 then
 z0i<|
 z0i<|
 some false
 else
 if a1<=v60 then
 z0i<|
 z0i<|
 some false
 else
 (atI w56 v60).bind fun v61=>
 if v61=true then
 z0i<|
 z0i<|
 some false
 else
 z0c (i64.wrap (w55+1),(w56.set v60.toNat true))
 else
 z0i<|
 z0c (i64.wrap (w42+1))
variable{a1:Int}{a0:List (List Int)}
instance{w42:Int}{v53:List Int}:Hd (z3v a1 w42 v53):=⟨fun(w55,w56)=>([(24,xI w55)],[(7,.os 1 w56.length (w56.map fun x0=>.sc (.bool x0)))])⟩
abbrev z2A(a0:List (List Int))(a1:Int):Int->Option (Int⊕Bool)
 |w42=>
 if w42<(a0.length:Int) then
 (atI a0 w42).bind fun v53=>
 if(v53.length:Int)=a1 then
 chk (z0X 1 a1)<|
 z0k (z3v a1 w42 v53) LFm (0,List.replicate a1.toNat (false:Bool))
 else
 z0i<|
 some false
 else
 z0i<|
 some true
instance:Hd (z2A a0 a1):=⟨fun w42=>([(12,xI w42)],[])⟩
def z3r(a0:List (List Int))(a1:Int):Option (Bool):=
 z0k (z2A a0 a1) LFm 0
instance:Ok (z3r a0 a1) (fun r=>L 36 [(tR a0),.sc (.int .i64 a1)]=some (.sc (.bool r),[.dead,.dead])):=⟨fun r h=>by have h:=z4u h;unfold z3r at h;exact z5i rfl Tryz.func36 (bdy Tryz.f36 rfl)⟩
end
end
section
open Go Go.IntKind
noncomputable section
abbrev z7f(a0:List Int):Int->Option (Int⊕Bool)
 |w6=>
 if w6<(a0.length:Int) then
 (atI a0 w6).bind fun v8=>
 if v8<0 then
 z0i<|
 some false
 else
 if(a0.length:Int)<=v8 then
 z0i<|
 some false
 else
 z0c (i64.wrap (w6+1))
 else
 z0i<|
 some true
variable{a0 a1:List Int}
instance:Hd (z7f a0):=⟨fun w6=>([(15,xI w6)],[])⟩
def z6Q(a0:List Int):Option (Bool):=
 if(a0.length:Int)<1 then
 some false
 else
 if 32<(a0.length:Int) then
 some false
 else
 z0k (z7f a0) LFm 0
instance:Ok (z6Q a0) (fun r=>L 161 [(tI a0)]=some (.sc (.bool r),[.dead])):=⟨fun r h=>by have h:=z4u h;unfold z6Q at h;exact z5i rfl Tryz.func161 (bdy Tryz.f161 rfl)⟩
abbrev z4h(a0:List Int):Int->Option (Int⊕List Int)
 |w10=>
 if w10<(a0.length:Int) then
 (atI a0 w10).bind fun v13=>
 (atI a0 (i64.wrap (w10-1))).bind fun v14=>
 if v13=v14 then
 none
 else
 z0c (i64.wrap (w10+1))
 else
 z0i<|
 some a0
instance:Hd (z4h a0):=⟨fun w10=>([(3,xI w10)],[])⟩
def z2D(a0:List Int):Option (List Int):=
 if(a0.length:Int)<2 then
 some a0
 else
 z0k (z4h a0) LFm 1
instance:Ok (z2D a0) (fun r=>L 211 [(tI a0)]=some ((tI r),[.dead])):=⟨fun r h=>by have h:=z4u h;unfold z2D at h;exact z5i rfl Tryz.func211 (bdy Tryz.f211 rfl)⟩
def z9j(a0:List Int):Option (List Int):=
 (z6Q a0).bind fun v5=>
 if v5=true then
 (zba a0).bind fun v6=>
 (zha v6).bind fun v7=>
 (z2D v7).bind fun v8=>
 some v8
 else
 some []
instance:Ok (z9j a0) (fun r=>L 192 [(tI a0)]=some ((tI r),[.dead])):=⟨fun r h=>by have h:=z4u h;unfold z9j at h;exact zeu rfl Tryz.func192 (bdy Tryz.f192 rfl)⟩
def zao(a0:List Int):Option (Int):=
 (z9j a0).bind fun v2=>
 some (v2.length:Int)
instance:Ok (zao a0) (fun r=>L 162 [(tI a0)]=some (.sc (.int .i64 r),[.dead])):=⟨fun r h=>by have h:=z4u h;unfold zao at h;exact z5i rfl Tryz.func162 (bdy Tryz.f162 rfl)⟩
def z3V(a0:List Int):Option (Bool):=
 (z6Q a0).bind fun v3=>
 if v3=true then
 (zao a0).bind fun v4=>
 some (decide (v4=(a0.length:Int)))
 else
 some false
instance:Ok (z3V a0) (fun r=>L 119 [(tI a0)]=some (.sc (.bool r),[.dead])):=⟨fun r h=>by have h:=z4u h;unfold z3V at h;exact z5i rfl Tryz.func119 (bdy Tryz.f119 rfl)⟩
abbrev z5v(a0:List (List Int))(a1:Int):Int->Option (Int⊕Bool)
 |w10=>
 if w10<(a0.length:Int) then
 (atI a0 w10).bind fun v13=>
 if(v13.length:Int)=a1 then
 (z3V v13).bind fun v14=>
 if v14=true then
 z0c (i64.wrap (w10+1))
 else
 z0i<|
 some false
 else
 z0i<|
 some false
 else
 z0i<|
 some true
instance{a0:List (List Int)}{a1:Int}:Hd (z5v a0 a1):=⟨fun w10=>([(9,xI w10)],[])⟩
def z4q(a0:List (List Int))(a1:Int):Option (Bool):=
 z0k (z5v a0 a1) LFm 0
instance{a0:List (List Int)}{a1:Int}:Ok (z4q a0 a1) (fun r=>L 83 [(tR a0),.sc (.int .i64 a1)]=some (.sc (.bool r),[.dead,.dead])):=⟨fun r h=>by have h:=z4u h;unfold z4q at h;exact z5i rfl Tryz.func83 (bdy Tryz.f83 rfl)⟩
abbrev z5A(a0:Int):Int×List Int->Option ((Int×List Int)⊕List Int)
 |(w5,w6)=>
 if w5<a0 then
 (atI w6 w5).bind fun v8=>
 z0c (i64.wrap (w5+1),(w6.set w5.toNat w5))
 else
 z0i<|
 some w6
instance{a0:Int}:Hd (z5A a0):=⟨fun(w5,w6)=>([(15,xI w5)],[(3,(tO w6))])⟩
def z5S(a0:Int):Option (List Int):=
 if a0<1 then
 some []
 else
 if 32<a0 then
 some []
 else
 chk (z0X 8 a0)<|
 z0k (z5A a0) LFm (0,List.replicate a0.toNat (0:Int))
instance{a0:Int}:Ok (z5S a0) (fun r=>L 84 [.sc (.int .i64 a0)]=some ((tO r),[.dead])):=⟨fun r h=>by have h:=z4u h;unfold z5S at h;exact z5i rfl Tryz.func84 (bdy Tryz.f84 rfl)⟩
abbrev z7M(a0:List Int):Int×List Int->Option ((Int×List Int)⊕ByteArray)
 |(w9,w10)=>
 if w9<(a0.length:Int) then
 (atI a0 w9).bind fun v13=>
 (atI w10 w9).bind fun v14=>
 z0c (i64.wrap (w9+1),(w10.set w9.toNat (u8.wrap v13)))
 else
 z0i<|
 some (z1z w10)
instance:Hd (z7M a0):=⟨fun(w9,w10)=>([(11,xI w9)],[(3,.os 1 w10.length (w10.map fun x0=>.sc (.int .u8 x0)))])⟩
def z6Y(a0:List Int):Option (ByteArray):=
 chk (z0X 1 (a0.length:Int))<|
 z0k (z7M a0) LFm (0,List.replicate (a0.length:Int).toNat (0:Int))
instance:Ok (z6Y a0) (fun r=>L 85 [(tI a0)]=some (.sc (.string r),[.dead])):=⟨fun r h=>by have h:=z4u h;unfold z6Y at h;exact z5i rfl Tryz.func85 (bdy Tryz.f85 rfl)⟩
abbrev z5Z(a0:List Int)(a1:List Int):Int×List Int->Option ((Int×List Int)⊕List Int)
 |(w13,w14)=>
 if w13<(a0.length:Int) then
 (atI a0 w13).bind fun v18=>
 (atI a1 v18).bind fun v19=>
 (atI w14 w13).bind fun v20=>
 z0c (i64.wrap (w13+1),(w14.set w13.toNat v19))
 else
 z0i<|
 some w14
instance:Hd (z5Z a0 a1):=⟨fun(w13,w14)=>([(13,xI w13)],[(5,(tO w14))])⟩
def z5L(a0:List Int)(a1:List Int):Option (List Int):=
 chk (z0X 8 (a0.length:Int))<|
 z0k (z5Z a0 a1) LFm (0,List.replicate (a0.length:Int).toNat (0:Int))
instance:Ok (z5L a0 a1) (fun r=>L 86 [(tI a0),(tI a1)]=some ((tO r),[.dead,.dead])):=⟨fun r h=>by have h:=z4u h;unfold z5L at h;exact z5i rfl Tryz.func86 (bdy Tryz.f86 rfl)⟩
end
end
section
open Go Go.IntKind
noncomputable section
abbrev z7G(a0:List Int)(a1:List Int):Int->Option (Int⊕Bool)
 |w10=>
 if w10<(a0.length:Int) then
 (atI a0 w10).bind fun v13=>
 (atI a1 w10).bind fun v14=>
 if v13=v14 then
 z0c (i64.wrap (w10+1))
 else
 z0i<|
 some false
 else
 z0i<|
 some true
variable{a0 w225:List (List Int)}{a1 v276:List Int}
instance{a0:List Int}:Hd (z7G a0 a1):=⟨fun w10=>([(13,xI w10)],[])⟩
def z8S(a0:List Int)(a1:List Int):Option (Bool):=
 if(a0.length:Int)=(a1.length:Int) then
 z0k (z7G a0 a1) LFm 0
 else
 some false
instance{a0:List Int}:Ok (z8S a0 a1) (fun r=>L 7 [(tI a0),(tI a1)]=some (.sc (.bool r),[.dead,.dead])):=⟨fun r h=>by have h:=z4u h;unfold z8S at h;exact z5i rfl Tryz.func7 (bdy Tryz.f7 rfl)⟩
abbrev z4r(w225:List (List Int))(v276:List Int)(w293:Int):Int×List (List Int)×(List (ByteArray×Bool))->Option ((Int×List (List Int)×(List (ByteArray×Bool)))⊕((Int×List (List Int)×(List (ByteArray×Bool)))⊕((Int×List (List Int)×(List (ByteArray×Bool))×List (List Int))⊕(List (List Int)×Int))))
 |(w315,w316,w317)=>
 if w315<((w225.length:Int)+1) then
 (atI (w225++ [v276]) w315).bind fun v322=>
 (atI w316 w293).bind fun v323=>
 (z5L v323 v322).bind fun v324=>
 (z6Y v324).bind fun v325=>
 if((z8i v325 w317).getD false)=true then
 z0c (i64.wrap (w315+1),w316,w317)
 else
 chk (z1B 24 (w316.length+1))<|
 z0c (i64.wrap (w315+1),w316++ [v324],z8p v325 true w317)
 else
 z0i<|
 if 2000<(w316.length:Int) then
 z0i<|
 z0i<|
 some ([],3)
 else
 z0c (i64.wrap (w293+1),w316,w317)
instance{w293:Int}:Hd (z4r w225 v276 w293):=⟨fun(w315,w316,w317)=>([(57,xI w315)],[(6,.os 1 w316.length (w316.map fun x0=>(tI x0))),(7,.mp none (w317.map fun x0=>(.string x0.1,.bool x0.2)))])⟩
abbrev z4s(w222:Int)(w225:List (List Int))(v276:List Int):Int×List (List Int)×(List (ByteArray×Bool))->Option ((Int×List (List Int)×(List (ByteArray×Bool)))⊕((Int×List (List Int)×(List (ByteArray×Bool))×List (List Int))⊕(List (List Int)×Int)))
 |(w293,w294,w295)=>
 if w293<(w294.length:Int) then
 z0k (z4r w225 v276 w293) LFm (0,w294,w295)
 else
 z0i<|
 z0c (i64.wrap (w222+1),w294,w295,w225++ [v276])
instance{w222:Int}:Hd (z4s w222 w225 v276):=⟨fun(w293,w294,w295)=>([(11,xI w293)],[(6,.os 1 w294.length (w294.map fun x0=>(tI x0))),(7,.mp none (w295.map fun x0=>(.string x0.1,.bool x0.2)))])⟩
abbrev z5l(a0:List (List Int)):Int×List (List Int)×(List (ByteArray×Bool))×List (List Int)->Option ((Int×List (List Int)×(List (ByteArray×Bool))×List (List Int))⊕(List (List Int)×Int))
 |(w222,w223,w224,w225)=>
 if w222<(a0.length:Int) then
 (atI a0 w222).bind fun v276=>
 (z6Y v276).bind fun v277=>
 if((z8i v277 w224).getD false)=true then
 z0c (i64.wrap (w222+1),w223,w224,w225)
 else
 chk (z1B 24 (w225.length+1))<|
 z0k (z4s w222 w225 v276) LFm (0,w223,w224)
 else
 z0i<|
 (zjP w223).bind fun v326=>
 some (v326,0)
instance:Hd (z5l a0):=⟨fun(w222,w223,w224,w225)=>([(37,xI w222)],[(6,.os 1 w223.length (w223.map fun x0=>(tI x0))),(7,.mp none (w224.map fun x0=>(.string x0.1,.bool x0.2))),(8,.os 1 w225.length (w225.map fun x0=>(tI x0)))])⟩
def z5g(a0:List (List Int)):Option (List (List Int)×Int):=
 if(a0.length:Int)=0 then
 some ([],1)
 else
 (atI a0 0).bind fun v164=>
 (z4q a0 (v164.length:Int)).bind fun v165=>
 if v165=true then
 (z5S (v164.length:Int)).bind fun v166=>
 (z6Y v166).bind fun v167=>
 z0k (z5l a0) LFm (0,[v166],z8p v167 true ([]:List (ByteArray×Bool)),[])
 else
 some ([],4)
instance:Ok (z5g a0) (fun r=>L 37 [(tR a0)]=some (.tup [(tR r.1),.sc (.int .i64 r.2)],[.dead])):=⟨fun r h=>by have h:=z4u h;unfold z5g at h;exact zeu rfl Tryz.func37 (bdy Tryz.f37 rfl)⟩
abbrev z4G(a0:Hol):Int×List Int->Option ((Int×List Int)⊕(List (List Int)×Int))
 |(w8,w9)=>
 if w8<(a0.tiles.length:Int) then
 (atI w9 w8).bind fun v11=>
 z0c (i64.wrap (w8+1),(w9.set w8.toNat w8))
 else
 z0i<|
 if(a0.perms.length:Int)=0 then
 some ([w9],0)
 else
 (z5g a0.perms).bind fun v12=>
 some (v12.1,v12.2)
instance{a0:Hol}:Hd (z4G a0):=⟨fun(w8,w9)=>([(27,xI w8)],[(5,(tO w9))])⟩
def z3a(a0:Hol):Option (List (List Int)×Int):=
 if(a0.tiles.length:Int)<1 then
 some ([],4)
 else
 if 32<(a0.tiles.length:Int) then
 some ([],4)
 else
 (z3r a0.perms (a0.tiles.length:Int)).bind fun v7=>
 if v7=true then
 chk (z0X 8 (a0.tiles.length:Int))<|
 z0k (z4G a0) LFm (0,List.replicate (a0.tiles.length:Int).toNat (0:Int))
 else
 some ([],4)
instance{a0:Hol}:Ok (z3a a0) (fun r=>L 15 [.agg [.sc (.int .i64 a0.set),(tI a0.tiles),(tS a0.words),(tR a0.perms)]]=some (.tup [(tR r.1),.sc (.int .i64 r.2)],[.dead])):=⟨fun r h=>by have h:=z4u h;unfold z3a at h;exact zeu rfl Tryz.func15 (bdy Tryz.f15 rfl)⟩
end
end
section
open Go Go.RowKit Go.Sort
variable{os:Array Obj}{x:List Int}{args outs:List T}{g n:Nat}{K:Nat->z0a}{r:T}{e:TypeId}{v:Value}{w w':World}{I:World->(Nat->z0a)->Prop}{c:z0a}
theorem z8l:∀x y:List Int,z8F y x= -z8F x y
 | [],[]=>by simp[z8F]
 | [],_::_=>by simp[z8F]
 |_::_,[]=>by simp[z8F]
 |a::x,b::y=>by
  have ih:=z8l x y
  simp only[z8F]
  by_cases h1:a<b
  · have h2:¬b<a:=by omega
    simp only[if_neg h2,if_pos h1];omega
  · by_cases h2:b<a
    · simp only[if_pos h2,if_neg h1]
    · simp only[if_neg h2,if_neg h1];exact ih
theorem z7T:∀x y z:List Int,z8F x y<=0->z8F y z<=0->z8F x z<=0/\(z8F x z=0->z8F x y=0/\z8F y z=0)
 | [],[],z,_,h2=>⟨h2,fun e=>⟨by simp[z8F],e⟩⟩
 | [],b::y,[],_,h2=>by simp[z8F] at h2
 | [],b::y,c::z,_,_=>by simp[z8F]
 |a::x,[],_,h1,_=>by simp[z8F] at h1
 |a::x,b::y,[],_,h2=>by simp[z8F] at h2
 |a::x,b::y,c::z,h1,h2=>by
  have ih:=z7T x y z
  simp only[z8F] at h1 h2⊢
  by_cases h3:a<b
  · by_cases h4:b<c
    · rw[if_pos (show a<c by omega)];exact⟨by omega,fun e=>by omega⟩
    · rw[if_neg h4] at h2
      by_cases h5:c<b
      · rw[if_pos h5] at h2;omega
      · rw[if_pos (show a<c by omega)];exact⟨by omega,fun e=>by omega⟩
  · rw[if_neg h3] at h1
    by_cases h4:b<a
    · rw[if_pos h4] at h1;omega
    · rw[if_neg h4] at h1
      have hab:a=b:=by omega
      subst hab
      by_cases h5:a<c
      · simp only[if_pos h5];exact⟨by omega,fun e=>by omega⟩
      · simp only[if_neg h5] at h2
        by_cases h6:c<a
        · simp only[if_pos h6] at h2;omega
        · simp only[if_neg h6] at h2
          simp only[if_neg h5,if_neg h6,if_neg h3,if_neg h4]
          exact ih h1 h2
theorem zgd(x:List Int):∀l:List (List Int),(zzz x l).Perm (x::l)
 | []=>.refl _
 |y::l=>by
  unfold zzz
  split
  · exact .refl _
  · exact((zgd x l).cons y).trans (.swap x y l)
theorem z8P:∀l:List (List Int),(z8Q l).Perm l
 | []=>.refl _
 |x::l=>(zgd x (z8Q l)).trans ((z8P l).cons x)
abbrev zxs(l:List (List Int)):Prop:=l.Pairwise fun a b=>z8F a b<=0
theorem zgc(x:List Int):∀l:List (List Int),zxs l->zxs (zzz x l)
 | [],_=>by simp[zzz]
 |y::l,h=>by
  unfold zzz
  rw[zxs,Zz] at h
  split
  · rename_i hxy
    refine Zz.2 ⟨fun z hz=> ?_,Zz.2 h⟩
    rcases Zu.1 hz with rfl|hz
    · exact hxy
    · exact(z7T _ _ _ hxy (h.1 z hz)).1
  · rename_i hxy
    refine Zz.2 ⟨fun z hz=> ?_,zgc x l h.2⟩
    rcases Zu.1 ((zgd x l).mem_iff.1 hz) with rfl|hz
    · rw[z8l];omega
    · exact h.1 z hz
theorem z9Z:∀l:List (List Int),zxs (z8Q l)
 | []=>by simp[z8Q]
 |x::l=>zgc x _ (z9Z l)
theorem zvU{l r:List (List Int)}(h:l.Perm r)(h1:zxs l)(h2:zxs r):l=r:=by
 refine Xy (le:=fun a b=>z8F a b<=0) (fun a b _ _ h3 h4=> ?_) h1 h2 h
 rw[z8l] at h4
 exact(zcV a b).1 (by omega)
def zl4(B:Nat)(K:Nat->z0a)(b:Nat):z0a:=if B<=b then [0] else K b
def rwN(n j:Nat):Nat:=if j<n then j else 0
def cfR(rows:List (List Int))(i j:Nat):Int:=z8F (rows.getD (rwN rows.length i) []) (rows.getD (rwN rows.length j) [])
theorem zGC(rows:List (List Int)):SWO (ltOf (cfR rows)) where
 irrefl x:=by
  unfold ltOf cfR
  rw[(zcV _ _).2 rfl];simp
 trans x y z h1 h2:=by
  unfold ltOf cfR at*
  simp only[decide_eq_true_eq] at*
  obtain⟨a,b⟩:=z7T _ _ _ (Int.le_of_lt h1) (Int.le_of_lt h2)
  rcases Int.lt_or_eq_of_le a with h|h
  · exact h
  · have:=(b h).1;omega
 ntrans x y z h1 h2:=by
  unfold ltOf cfR at*
  simp only[decide_eq_false_iff_not] at*
  rw[z8l] at h1 h2⊢
  have:=(z7T _ _ _ (show z8F (rows.getD (rwN rows.length z) []) (rows.getD (rwN rows.length y) [])<=0 by omega) (show z8F (rows.getD (rwN rows.length y) []) (rows.getD (rwN rows.length x) [])<=0 by omega)).1
  omega
theorem zmv{rows:List (List Int)}{d':Array Nat}(hp:PermIn 0 (List.range rows.length).toArray.size (List.range rows.length).toArray d')(hs:SortedIn (ltOf (cfR rows)) 0 (List.range rows.length).toArray.size d'):d'.size=rows.length/\(∀x∈d'.toList,x<rows.length)/\d'.toList.map (fun j=>rows.getD j [])=z8Q rows:=by
 obtain⟨h1,_,h3⟩:=hp
 have hsz:d'.size=rows.length:=by simpa using h1
 have hp2:d'.toList.Perm (List.range rows.length):=by
  have:(d'.extract 0 (List.range rows.length).toArray.size).toList=d'.toList:=by
   rw[←h1];simp
  rw[this] at h3
  simp at h3
  exact h3
 have hlt:∀x∈d'.toList,x<rows.length:=fun x hx=>Zk.1 (hp2.mem_iff.1 hx)
 have e1:(List.range rows.length).map (fun j=>rows.getD j [])=rows:=by
  refine Zf (by simp) fun i h1 h2=> ?_
  simp[List.getD,h2]
 refine⟨hsz,hlt,zvU ?_ ?_ (z9Z rows)⟩
 · have:=hp2.map (fun j=>rows.getD j [])
   rw[e1] at this
   exact this.trans (z8P rows).symm
 · rw[zxs,ZK]
   intro i j hi hj hij
   simp only[Zh,Yj] at hi hj
   have:=hs i j (by omega) hij (by simp;omega)
   rw[getElem!_pos d' i hi,getElem!_pos d' j hj] at this
   unfold ltOf cfR rwN at this
   simp only[decide_eq_false_iff_not] at this
   have l1:=hlt d'[i] (by simp)
   have l2:=hlt d'[j] (by simp)
   rw[if_pos l1,if_pos l2,z8l] at this
   simp only[ZG,Xi]
   omega
theorem z8V{α:Type}[Inhabited α]{enc:α->Value}{cur:Array Value}{fr:Nat×Nat}(d:Array α)(hb:w.heap[g]? =some (.cells cur e fr)):(sortWorld enc w g 0 n d os).heap[g]? =some (.cells (putCells enc 0 d cur) e fr):=by
 unfold sortWorld
 rw[heap_grow_old _ _ (by rw[size_putRow];exact z0P hb)]
 simp[putRow,mapBlock,Sort.ahead,Y2,hb,onCells]
theorem z5u{α:Type}[Inhabited α]{enc:α->Value}(d:Array α){b:Nat}(hb:b<w.heap.size)(hne:b≠g):(sortWorld enc w g 0 n d os).heap[b]? =w.heap[b]? :=by
 unfold sortWorld
 rw[heap_grow_old _ _ (by rw[size_putRow];exact hb)]
 simp[putRow,mapBlock,Sort.ahead,Y2,Ne.symm hne]
theorem z6r{α:Type}[Inhabited α]{enc:α->Value}(d:Array α):w.heap.size<=(sortWorld enc w g 0 n d os).heap.size:=by
 unfold sortWorld
 rw[size_grow,size_putRow]
 show w.heap.size<=w.heap.size+_
 omega
theorem zaG{K':Nat->z0a}{c':z0a}(h:TRep w K c v (zen x))(hk:∀b,b<w.heap.size->K b= []->K' b= []/\w'.heap[b]? =w.heap[b]?)(hs:w.heap.size<=w'.heap.size):TRep w' K' c' v (zen x)/\IntsAt w' v x:=by
 unfold zen at*
 generalize hT:T.sl x.length (x.map fun z=>T.sc (.int .i64 z))=t at h
 cases h with
 |emp c a cap hc=>
  injection hT with e1 e2
  have:x= []:=ZW e1
  subst this
  exact⟨.emp c' a cap hc,a,cap,rfl,by simp,hc,fun j hj=>by simp at hj⟩
 |fro c g o n cap cs F hK hg hn hc hF hh=>
  injection hT with e1 e2
  subst e1 e2
  obtain⟨k1,k2⟩:=hk g hg hK
  have hcell:∀j,j<x.length->w'.cell? ⟨g,o+j,none⟩=some (F j):=fun j hj=>by
   rw[z0Y k2];exact hF j (by simpa using hj)
  have hv:∀j (hj:j<x.length),F j= .int .i64 (x.getD j 0):=fun j hj=>by
   have:=hh j (.sc (.int .i64 x[j])) (by simp[hj])
   rw[this.sc_eq,List.getD,Z1 hj,Zb]
  refine⟨.fro c' g o _ cap _ F k1 (by omega) hn hc (fun j hj=>hcell j (by simpa using hj)) (fun j t ht=> ?_),some ⟨g,o,none⟩,cap,rfl,hn,hc,fun j hj=>⟨g,o,rfl,by rw[hcell j hj,hv j hj]⟩⟩
  have:=hh j t ht
  simp only[Zd,Z4] at ht
  obtain⟨z,hz,rfl⟩:=ht
  rw[this.sc_eq]
  exact .sc _ _ rfl
 |_=>cases hT
theorem zoa(h:TRep w K c v (zen x)):v.oneCell'=true:=by
 unfold zen at h
 generalize hT:T.sl x.length (x.map fun z=>T.sc (.int .i64 z))=t at h
 cases h with
 |emp=>rfl
 |fro=>rfl
 |_=>cases hT
theorem zlZ(h:zvz 41 args=some (r,outs)):CallOk Tryz.prog I 40 args r outs:=by
 unfold zvz at h
 split at h
 case h_2=>cases h
 rename_i n cs f fs gs
 split at h
 case isFalse=>cases h
 rename_i hfg
 obtain⟨rfl,hfs,hgs⟩:=hfg
 simp only[X4] at hfs hgs
 subst hfs hgs
 split at h
 case h_2=>cases h
 rename_i xs hxs
 split at h
 case isFalse=>cases h
 rename_i hn
 subst hn
 unfold zjP at h
 split at h
 case isFalse=>cases h
 rename_i hc
 obtain⟨hne,hlen⟩:=hc
 obtain⟨rfl,rfl⟩:T.tup []=r/\ [T.os 1 (z8Q xs).length ((z8Q xs).map zen),.dead]=outs:=by simpa using h
 have hcs:=zkN hxs
 subst hcs
 clear h hxs
 refine⟨fun vals w=> ?_,fun w K vals hs ha hI=> ?_⟩
 · have hb:∃c,Tryz.f40.body=some c:=⟨_,rfl⟩
   obtain⟨c,hb⟩:=hb
   have hname:Tryz.f40.name≠ "runtime.NumGoroutine" :=by decide
   simp[callFunc,program,Sem.run,Tryz.func40,hname,hb]
 · obtain⟨v,u,rfl⟩:∃v u,vals= #[v,u]:=by
    obtain⟨l⟩:=vals
    match l,hs with
    | [v,u],_=>exact⟨v,u,rfl⟩
   have hv:TRep w K (col 0) v (.os 1 xs.length (xs.map zen)):=ha 0 _ rfl
   have hu:TRep w K [] u (.sc (.func (.func 41) #[] #[])):=ha 1 _ rfl
   rw[hu.sc_eq]
   clear hu ha
   have hl0:0<xs.length:=ZH.2 hne
   generalize hT:T.os 1 xs.length (xs.map zen)=t at hv
   cases hv with
   |nil=>injection hT with _ e _;omega
   |own c g n cap size cs arr e fz F hfz hc0 hK hg hsz hl hz hn hcap hF hh=>
    injection hT with e1 e2 e3
    subst e1 e2 e3
    have hrow:∀j,j<xs.length->TRep w K (col 0++ [j]) (F j) (zen (xs.getD j [])):=fun j hj=>by
     have:=hh j (zen xs[j]) (by simp[hj])
     rwa [List.getD,Z1 hj,Zb]
    have hcell:∀j,j<xs.length->arr[j]? =some (F j):=fun j hj=>hF j (by simpa using hj)
    let enc:Nat->Value:=fun j=>F (rwN xs.length j)
    have hdg:∀j,j<xs.length->(List.range xs.length).toArray[j]! =j:=fun j hj=>by
     rw[getElem!_pos _ j (by simpa using hj)];simp
    have hH:Holds enc w g 0 (List.range xs.length).toArray:=fun j hj=>by
     have hj':j<xs.length:=by simpa using hj
     constructor
     · rw[Zp,z1E hg,hcell j hj',hdg j hj']
       show some (F j)=some (F (rwN xs.length j))
       rw[rwN,if_pos hj']
     · unfold World.frozen?
       rw[Zp]
       simp only[hg]
       have:=hfz j (by omega)
       obtain⟨lo,hi⟩:=fz
       simp only at this⊢
       simp only[YV,decide_eq_false_iff_not]
       omega
    have eg:∀args w,(callFunc 41 args).run Tryz.prog w= .ok (.enter 41 args) w:=enters_of Tryz.func41 (by kernel_rfl) rfl
    have hlay:∀(d:Array Nat) (m:Nat) (os:Array Obj) (b:Nat),b<w.heap.size->K b= []->K b= []/\(sortWorld enc w g 0 m d os).heap[b]? =w.heap[b]? :=fun d m os b hb hk=>⟨hk,z5u d hb (by rintro rfl;rw[hK] at hk;simp[col] at hk)⟩
    have hrw:∀j,rwN xs.length j<xs.length:=fun j=>by unfold rwN;split<;>omega
    have hcmp:CmpLays1 Tryz.prog 41 #[] enc (cfR xs) g 0 (List.range xs.length).toArray.size w:=fun m os dk _ x y=>by
     refine(zck (enc x) (enc y) _ _ _ (zaG (c':= []) (hrow _ (hrw x)) (hlay dk m os) (z6r dk)).2 (zaG (c':= []) (hrow _ (hrw y)) (hlay dk m os) (z6r dk)).2).mono ?_
     rintro e' w' ⟨he,hw⟩
     exact⟨he,0,#[],by rw[←hw,grow_empty];rfl⟩
    have hcon:=Tryz.slices_SortFunc_f40 enc (fun j=>zoa (hrow _ (hrw j))) (cfR xs) (zGC xs) 41 #[] g 0 cap (List.range xs.length).toArray w eg hcmp hH (z0P hg) (by simpa using hlen)
    have hsize:(List.range xs.length).toArray.size=xs.length:=by simp
    rw[hsize] at hcon
    refine hcon.mono fun e' w' ⟨he,d',m,os,hp,hso,hw⟩=> ?_
    subst hw
    obtain⟨hd,hdl,hsort⟩:=zmv (by rw[hsize];exact hp) (by rw[hsize];exact hso)
    have hys:(z8Q xs).length=xs.length:=(z8P xs).length_eq
    refine⟨.tuple #[],zl4 w.heap.size K,he,?_,fun i t hi hio=> ?_,rfl,rfl,rfl,z6r d',fun b hb hcb=>⟨by unfold zl4;rw[if_neg (by omega)],z5u d' hb ?_⟩,?_⟩
    · exact .tup _ #[] [] (fun _=>undef) rfl (fun j hj=>by simp at hj) (fun j t ht=>by simp at ht)
    · match i,hi with
      |0,hi=>
       refine⟨_,rfl,?_⟩
       show TRep _ _ (col 0) (.slice (some ⟨g,0,none⟩) xs.length cap) _
       rw[←hys]
       refine .own (col 0) g _ cap 1 _ (putCells enc 0 d' arr) e fz (fun j=>F (d'.toList.getD j 0)) (fun i hi=>hfz i (by simpa[putCells] using hi)) (by simp[col]) (by unfold zl4;rw[if_neg (by have:=z0P hg;omega)];exact hK) (z8V d' hg) (by simpa[putCells] using hsz) (by simp) (by omega) (by omega) hcap (fun j hj=> ?_) (fun j t ht=> ?_)
       · have hj':j<xs.length:=by simpa[hys] using hj
         have hja:j<arr.size:=(ZO.1 (hcell j hj')).1
         have hjd:j<d'.size:=by omega
         have hjl:=hdl d'[j] (by simp)
         simp only[putCells,X7,hcell j hj',ZP]
         rw[if_pos (by omega),YJ,getElem!_pos d' j hjd]
         show some (F (rwN xs.length d'[j]))=some (F (d'.toList.getD j 0))
         rw[rwN,if_pos hjl]
         simp[List.getD,hjd]
       · simp only[Zd,Z4] at ht
         obtain⟨x,hx',rfl⟩:=ht
         have hjs:j<(z8Q xs).length:=(Z8.1 hx').1
         have hjd:j<d'.toList.length:=by rw[Yj];omega
         have hjl:=hdl d'.toList[j] (Zw hjd)
         have ex:x=xs.getD d'.toList[j] []:=by
          have h1:(d'.toList.map fun j=>xs.getD j [])[j]? =some x:=by rw[hsort];exact hx'
          rw[Zd,Z1 hjd,ZP] at h1
          exact(YD h1).symm
         have e2:d'.toList.getD j 0=d'.toList[j]:=by rw[List.getD,Z1 hjd,Zb]
         rw[e2,ex]
         exact(zaG (hrow _ hjl) (fun b hb hk=>⟨by unfold zl4;rw[if_neg (by omega)];exact hk,(hlay d' m os b hb hk).2⟩) (z6r d')).1
      |1,hi=>cases hi;cases hio
    · rintro rfl
      rw[hK] at hcb
      simp[col] at hcb
    · intro b arr0 e0 fz0 hb0
      by_cases hbg:b=g
      · subst hbg
        rw[hg] at hb0
        cases hb0
        exact⟨_,_,_,z8V d' hg,by simp[putCells]⟩
      · exact⟨_,_,_,(z5u d' (z0P hb0) hbg).trans hb0,rfl⟩
   |_=>cases hT
theorem zjF(h:znB args=some (r,outs)):CallOk Tryz.prog I 210 args r outs:=by
 unfold znB at h
 split at h
 case h_2=>cases h
 rename_i n cs
 split at h
 case h_2=>cases h
 rename_i xs hxs
 split at h
 case isFalse=>cases h
 rename_i hn
 subst hn
 unfold zha at h
 split at h
 case isFalse=>cases h
 rename_i hc
 obtain⟨hne,hlen⟩:=hc
 have hcs:=z8e hxs
 subst hcs
 clear hxs
 have hys:(xs.mergeSort fun x y=>decide (x<=y)).length=xs.length:=List.length_mergeSort xs
 simp only[ZP,Z9,Xb] at h
 generalize hgen:(xs.mergeSort fun x y=>decide (x<=y))=ys at h hys
 obtain⟨rfl,rfl⟩:=h
 refine⟨fun vals w=> ?_,fun w K vals hs ha hI=> ?_⟩
 · have hb:∃c,Tryz.f210.body=some c:=⟨_,rfl⟩
   obtain⟨c,hb⟩:=hb
   have hname:Tryz.f210.name≠ "runtime.NumGoroutine" :=by decide
   simp[callFunc,program,Sem.run,Tryz.func210,hname,hb]
 · obtain⟨v,rfl⟩:∃v,vals= #[v]:=by
    obtain⟨l⟩:=vals
    match l,hs with
    | [v],_=>exact⟨v,rfl⟩
   have hv:TRep w K (col 0) v (.os 1 xs.length (xs.map fun x=>.sc (.int .i64 x))):=ha 0 _ rfl
   clear ha
   have hl0:0<xs.length:=ZH.2 hne
   generalize hT:T.os 1 xs.length (xs.map fun x=>T.sc (.int .i64 x))=t at hv
   cases hv with
   |nil=>injection hT with _ e _;omega
   |own c g n cap size cs arr e fz F hfz hc0 hK hg hsz hl hz hn hcap hF hh=>
    injection hT with e1 e2 e3
    subst e1 e2 e3
    have hcell:∀j (hj:j<xs.length),arr[j]? =some (.int .i64 xs[j]):=fun j hj=>by
     rw[hF j (by simpa using hj)]
     have:=hh j (.sc (.int .i64 xs[j])) (by simp[hj])
     rw[this.sc_eq]
    have hH:Holds (Value.int .i64) w g 0 xs.toArray:=fun j hj=>by
     have hj':j<xs.length:=by simpa using hj
     constructor
     · rw[Zp,z1E hg,hcell j hj',getElem!_pos _ j hj];simp
     · unfold World.frozen?
       rw[Zp]
       simp only[hg]
       have:=hfz j (by omega)
       obtain⟨lo,hi⟩:=fz
       simp only at this⊢
       simp only[YV,decide_eq_false_iff_not]
       omega
    have hcon:=Tryz.slices_Sort_int g 0 cap xs w hH (z0P hg) hlen
    refine hcon.mono fun e' w' ⟨he,m,os,hw⟩=> ?_
    rw[hgen] at hw
    have hw':w'=sortWorld (Value.int .i64) w g 0 m ys.toArray os:=hw
    clear hw
    subst hw'
    refine⟨.tuple #[],zl4 w.heap.size K,he,?_,fun i t hi hio=> ?_,rfl,rfl,rfl,z6r _,fun b hb hcb=>⟨by unfold zl4;rw[if_neg (by omega)],z5u _ hb ?_⟩,?_⟩
    · exact .tup _ #[] [] (fun _=>undef) rfl (fun j hj=>by simp at hj) (fun j t ht=>by simp at ht)
    · match i,hi with
      |0,hi=>
       refine⟨_,rfl,?_⟩
       show TRep _ _ (col 0) (.slice (some ⟨g,0,none⟩) xs.length cap) _
       rw[←hys]
       refine .own (col 0) g _ cap 1 _ (putCells (Value.int .i64) 0 ys.toArray arr) e fz (fun j=>.int .i64 (ys.getD j 0)) (fun i hi=>hfz i (by simpa[putCells] using hi)) (by simp[col]) (by unfold zl4;rw[if_neg (by have:=z0P hg;omega)];exact hK) (z8V _ hg) (by simpa[putCells] using hsz) (by simp) (by omega) (by omega) hcap (fun j hj=> ?_) (fun j t ht=> ?_)
       · have hj':j<xs.length:=by simpa[hys] using hj
         have hjd:j<ys.toArray.size:=by simp;omega
         simp only[putCells,X7,hcell j hj',ZP]
         rw[if_pos (by omega),YJ,getElem!_pos _ j hjd]
         have hjy:j<ys.length:=by omega
         simp[List.getD,hjy]
       · simp only[Zd,Z4] at ht
         obtain⟨x,hx',rfl⟩:=ht
         simp only[List.getD,hx']
         exact .sc _ _ rfl
    · rintro rfl
      rw[hK] at hcb
      simp[col] at hcb
    · intro b arr0 e0 fz0 hb0
      by_cases hbg:b=g
      · subst hbg
        rw[hg] at hb0
        cases hb0
        exact⟨_,_,_,z8V _ hg,by simp[putCells]⟩
      · exact⟨_,_,_,(z5u _ (z0P hb0) hbg).trans hb0,rfl⟩
   |_=>cases hT
theorem zA3(h:Below w.heap.size w w'):Step w K w' (zl4 w.heap.size K):=
 ⟨h.os,h.tape,h.output,h.size,fun b hb _=>⟨by unfold zl4;rw[if_neg (by omega)],h.block b hb⟩,.olds fun b hb=>h.block b hb⟩
theorem zBS{B:Nat}{xs:List Int}(hn:xs.length=n)(h:w.ownsRow B e 1 v n (xs.map (Value.int .i64))):TRep w (zl4 B K) [0] v (.os 1 xs.length (xs.map fun x=>.sc (.int .i64 x))):=by
 obtain⟨h1,h2⟩:=h
 subst hn
 rcases h2 with⟨rfl,h0⟩|⟨g,cap,cur,rfl,hb,hg,hc1,hc2,hs,ht⟩
 · have:xs= []:=ZW h0
   subst this
   exact .nil _ _
 · refine .own [0] g xs.length cap 1 _ cur e (0,0) (fun j=>.int .i64 (xs.getD j 0)) (fun i _=>by simp) (by simp) (by unfold zl4;rw[if_pos hb]) hg hs (by simp) (by omega) hc1 hc2 (fun j hj=> ?_) (fun j t ht=> ?_)
   · have hj':j<xs.length:=by simpa using hj
     have h3:(cur.toList.take (xs.length*1))[j]? =(xs.map (Value.int .i64))[j]? :=by rw[ht]
     rw[List.getElem?_take_of_lt (by omega),Zd,Z1 hj'] at h3
     simp only[ZP,Zv] at h3
     rw[h3,List.getD,Z1 hj']
     rfl
   · simp only[Zd,Z4] at ht
     obtain⟨x,hx,rfl⟩:=ht
     simp only[List.getD,hx]
     exact .sc _ _ rfl
theorem zjI(h:znC args=some (r,outs)):CallOk Tryz.prog I 45 args r outs:=by
 unfold znC at h
 split at h
 case h_2=>cases h
 rename_i n cs
 split at h
 case h_2=>cases h
 rename_i xs hxs
 split at h
 case isFalse=>cases h
 rename_i hn
 subst hn
 unfold zba at h
 split at h
 case isFalse=>cases h
 rename_i hb
 have hcs:=z8e hxs
 subst hcs
 clear hxs
 simp only[ZP,Z9,Xb] at h
 obtain⟨rfl,rfl⟩:=h
 refine⟨fun vals w=> ?_,fun w K vals hs ha hI=> ?_⟩
 · have hb:∃c,Tryz.f45.body=some c:=⟨_,rfl⟩
   obtain⟨c,hb⟩:=hb
   have hname:Tryz.f45.name≠ "runtime.NumGoroutine" :=by decide
   simp[callFunc,program,Sem.run,Tryz.func45,hname,hb]
 · obtain⟨v,rfl⟩:∃v,vals= #[v]:=by
    obtain⟨l⟩:=vals
    match l,hs with
    | [v],_=>exact⟨v,rfl⟩
   have hv:TRep w K [] v (.sl xs.length (xs.map fun x=>.sc (.int .i64 x))):=ha 0 _ rfl
   have fin:∀e w',(∃v',e=Ending.returned v'/\w'.ownsRow w.heap.size 3 1 v' xs.length (xs.map (Value.int .i64))/\Below w.heap.size w w')->∃v' K',e=Ending.returned v'/\TRep w' K' [0] v' (.os 1 xs.length (xs.map fun x=>.sc (.int .i64 x)))/\(∀i t,[T.sl xs.length (xs.map fun x=>T.sc (.int .i64 x))][i]? =some t->z6i t=true->∃t',[T.dead][i]? =some t'/\TRep w' K' (col i) (#[v].getD i undef) t')/\Step w K w' K':=by
    rintro e w' ⟨v',he,ho,hbl⟩
    refine⟨v',zl4 w.heap.size K,he,zBS rfl ho,fun i t hi hio=> ?_,zA3 hbl⟩
    match i,hi with
    |0,hi=>cases hi;cases hio
   generalize hT:T.sl xs.length (xs.map fun x=>T.sc (.int .i64 x))=t at hv
   cases hv with
   |emp c a cap hcap=>
    have:xs= []:=by
     have:xs.length=0:=by injection hT
     exact ZW this
    subst this
    cases a with
    |none=>exact(Tryz.slices_Clone_int_nil 0 cap w).mono fun e w' ⟨he,hw⟩=>fin e w' ⟨_,he,⟨by simp,.inl ⟨rfl,rfl⟩⟩,hw▸Below.refl _ _⟩
    |some a=>exact(Tryz.slices_Clone_int_zero a cap w).mono fun e w' ⟨v',he,ho,_,hb⟩=>fin e w' ⟨v',he,ho,hb⟩
   |fro c g o n cap cs F hK hg hn hcap hF hh=>
    injection hT with e1 e2
    subst e1
    subst e2
    refine(Tryz.slices_Clone_int g o xs.length cap xs w (Z5 _) hb (fun j hj=> ?_)).mono fun e w' ⟨v',he,ho,_,hbl⟩=>fin e w' ⟨v',he,?_,hbl⟩
    · have h1:=hF j (by simpa using hj)
      rw[h1]
      have h2:=hh j (.sc (.int .i64 (xs.getD j 0))) (by simp[List.getD,hj])
      rw[h2.sc_eq]
    · rw[Yq (Z5 _)] at ho
      exact ho
   |_=>cases hT
end
section
open Go
theorem z8j{l:List (List Nat)}{i:Nat}(h:i<l.length):l.getD i []∈l:=by grind
def zbh(f g:List Nat):List Nat:=f.map fun y=>g.getD y 0
structure PermL(L:Nat)(p:List Nat):Prop where
 len:p.length=L
 nd:p.Nodup
 lt:∀x∈p,x<L
theorem zqd(L:Nat):PermL L (List.range L):=⟨by simp,YP,fun x hx=>Zk.1 hx⟩
theorem zjm(f g:List Nat):(zbh f g).length=f.length:=by simp[zbh]
theorem zuP{L:Nat}{f g:List Nat}(hf:PermL L f)(hg:PermL L g):PermL L (zbh f g):=by
 refine⟨by rw[zjm,hf.len],z5r hf.nd fun x hx y hy e=> ?_,fun x hx=> ?_⟩
 · exact z6G hg.nd (by have:=hf.lt x hx;have:=hg.len;omega) (by have:=hf.lt y hy;have:=hg.len;omega) e
 · obtain⟨y,hy,rfl⟩:=Zm.1 hx
   exact hg.lt _ (z0f (by have:=hf.lt y hy;have:=hg.len;omega))
theorem zoX{L:Nat}{g:List Nat}(hg:PermL L g):zbh (List.range L) g=g:=by
 refine Zf (by rw[zjm,ZD,hg.len]) fun i h1 h2=> ?_
 simp[zbh,List.getD,h2]
theorem zr6{L:Nat}{f g h:List Nat}(hf:PermL L f)(hg:PermL L g):zbh (zbh f g) h=zbh f (zbh g h):=by
 unfold zbh
 rw[Y3]
 refine ZB fun y hy=> ?_
 have:y<g.length:=by have:=hf.lt y hy;have:=hg.len;omega
 simp[List.getD,this]
inductive RchG(L:Nat)(P:List (List Nat)):List Nat->Prop
 |one:RchG L P (List.range L)
 |step (e g) (h:RchG L P e) (hg:g∈P):RchG L P (zbh e g)
theorem z8T{L:Nat}{P:List (List Nat)}(hP:∀g∈P,PermL L g){e:List Nat}(h:RchG L P e):PermL L e:=by
 induction h with
 |one=>exact zqd L
 |step e g _ hg ih=>exact zuP ih (hP g hg)
theorem zsw{L:Nat}{P:List (List Nat)}(hP:∀g∈P,PermL L g){g:List Nat}(hg:g∈P):RchG L P g:=by
 have:=RchG.step _ g (.one (L:=L) (P:=P)) hg
 rwa [zoX (hP g hg)] at this
theorem z7Q{L:Nat}{P Q:List (List Nat)}(h:∀g∈Q,g∈P){e:List Nat}(he:RchG L Q e):RchG L P e:=by
 induction he with
 |one=>exact .one
 |step e g _ hg ih=>exact .step _ _ ih (h g hg)
theorem zA0{L:Nat}{e:List Nat}(h:PermL L e):zbh e (List.range L)=e:=by
 refine Zf (zjm _ _) fun i h1 h2=> ?_
 have:=h.lt e[i] (Zw h2)
 simp[zbh,List.getD,this]
theorem zqS{L:Nat}{U E:List (List Nat)}(hU:∀g∈U,PermL L g)(hE:∀e∈E,PermL L e)(hc:∀e∈E,∀g∈U,zbh e g∈E){x g:List Nat}(hx:x∈E)(hg:RchG L U g):zbh x g∈E:=by
 induction hg with
 |one=>rw[zA0 (hE x hx)];exact hx
 |step g' u hg' hu ih=>
  rw[←zr6 (hE x hx) (z8T hU hg')]
  exact hc _ ih u hu
theorem zr3{f g:List Nat}(hl:f.length<=1000)(h:∀x∈f,x<g.length):z5L (toI f) (toI g)=some (toI (zbh f g)):=by
 have e0:toI (zbh f g)=(List.range f.length).map fun k=>((g.getD (f.getD k 0) 0:Nat):Int):=by
  refine Zf (by simp[toI,zbh]) fun i h1 h2=> ?_
  have hi:i<f.length:=by simpa[toI,zbh] using h1
  simp[toI,zbh,List.getD,hi]
 unfold z5L
 rw[z0b,z0j _ (by unfold z0X;omega),Z3,e0]
 refine z0x (s:=((0:Int),List.replicate f.length (0:Int))) f.length (fun k=>((k:Int),zaL f.length (fun k=>((g.getD (f.getD k 0) 0:Nat):Int)) (fun _=>0) k)) (by rw[z9v];congr 1;exact(Zf (by simp) fun i h1 h2=>by simp)) (by simp only[LFm];omega) (fun k hk=> ?_) ?_
 · have hx:=h _ (z0f hk)
   simp only[z5Z]
   rw[if_pos (by rw[z0b];omega),z1u hk,Z0,z1u hx,Z0,z6y hk,Z0,z1g (by omega),Z3,z4S (f:=fun k=>((g.getD (f.getD k 0) 0:Nat):Int)) hk]
 · simp only[z5Z]
   rw[if_neg (by rw[z0b];omega),z9u]
theorem zj2{p:List Nat}(hl:p.length<=1000)(hp:∀x∈p,x<256):z6Y (toI p)=some (z1z (toI p)):=by
 unfold z6Y
 rw[z0b,z0j _ (by unfold z0X;omega),Z3]
 have e0:toI p=(List.range p.length).map fun k=>((p.getD k 0:Nat):Int):=by
  refine Zf (by simp[toI]) fun i h1 h2=> ?_
  have hi:i<p.length:=by simpa[toI] using h1
  simp[toI,List.getD,hi]
 refine z0x (s:=((0:Int),List.replicate p.length (0:Int))) p.length (fun k=>((k:Int),zaL p.length (fun k=>((p.getD k 0:Nat):Int)) (fun _=>0) k)) (by rw[z9v];congr 1;exact(Zf (by simp) fun i h1 h2=>by simp)) (by simp only[LFm];omega) (fun k hk=> ?_) ?_
 · have hx:=hp _ (z0f hk)
   have hw:IntKind.u8.wrap ((p.getD k 0:Nat):Int)=((p.getD k 0:Nat):Int):=by rw[YI];omega
   simp only[z7M]
   rw[if_pos (by rw[z0b];omega),z1u hk,Z0,z6y hk,Z0,z1g (by omega),Z3,hw,z4S (f:=fun k=>((p.getD k 0:Nat):Int)) hk]
 · simp only[z7M]
   rw[if_neg (by rw[z0b];omega),z9u,←e0]
theorem zgp:∀ {p q:List Nat},(∀x∈p,x<256)->(∀x∈q,x<256)->z1z (toI p)=z1z (toI q)->p=q:=by
 have key:∀ {p q:List Nat},(∀x∈p,x<256)->(∀x∈q,x<256)->(toI p).map (fun z:Int=>UInt8.ofNat z.toNat)=(toI q).map (fun z:Int=>UInt8.ofNat z.toNat)->p=q:=by
  intro p
  induction p with
  |nil=>
   intro q _ _ h
   cases q with
   |nil=>rfl
   |cons b q=>simp[toI] at h
  |cons a p ih=>
   intro q hp hq h
   cases q with
   |nil=>simp[toI] at h
   |cons b q=>
    simp only[toI,Zs,Xl] at h
    have ha:=hp a (Zy ..)
    have hb:=hq b (Zy ..)
    have g1:=congrArg UInt8.toNat h.1
    simp only[Z3,Xp] at g1
    have:a=b:=by omega
    subst this
    rw[ih (fun k hk=>hp k (Zl _ hk)) (fun k hk=>hq k (Zl _ hk)) h.2]
 intro p q hp hq h
 refine key hp hq ?_
 have:=congrArg ByteArray.data h
 simpa[z1z] using this
theorem zwK{L:Nat}(h1:1<=L)(h2:L<=32):z5S (L:Int)=some (toI (List.range L)):=by
 unfold z5S
 rw[if_neg (by omega),if_neg (by omega),z0j _ (by unfold z0X;omega),Z3]
 have e0:toI (List.range L)=(List.range L).map fun k:Nat=>(k:Int):=rfl
 refine z0x (s:=((0:Int),List.replicate L (0:Int))) L (fun k=>((k:Int),zaL L (fun k=>(k:Int)) (fun _=>0) k)) (by rw[z9v];congr 1;exact(Zf (by simp) fun i h1 h2=>by simp)) (by simp only[LFm];omega) (fun k hk=> ?_) ?_
 · simp only[z5A]
   rw[if_pos (by omega),z6y hk,Z0,z1g (by omega),Z3,z4S (f:=fun k=>(k:Int)) hk]
 · simp only[z5A]
   rw[if_neg (by omega),z9u,e0]
theorem zjO{L:Nat}{p:List Nat}(h:PermL L p)(h1:1<=L)(h2:L<=32):z6Q (toI p)=some true:=by
 have hl:=h.len
 unfold z6Q
 rw[z0b,if_neg (by omega),if_neg (by omega)]
 refine z0x (s:=(0:Int)) p.length (fun k=>(k:Int)) rfl (by simp only[LFm];omega) (fun k hk=> ?_) ?_
 · have:=h.lt _ (z0f hk)
   simp only[z7f]
   rw[z0b,if_pos (by omega),z1u hk,Z0,if_neg (by omega),if_neg (by omega),z1g (by omega)]
 · simp only[z7f]
   rw[z0b,if_neg (by omega)]
theorem zr4{l:List Int}(h:l.Nodup)(hl:l.length<=1000):z2D l=some l:=by
 unfold z2D
 by_cases h0:(l.length:Int)<2
 · rw[if_pos h0]
 · rw[if_neg h0]
   refine z0x (s:=(1:Int)) (l.length-1) (fun k=>((k+1:Nat):Int)) rfl (by simp only[LFm];omega) (fun k hk=> ?_) ?_
   · have w:IntKind.i64.wrap (((k+1:Nat):Int)-1)=(k:Int):=by rw[z2Y (by omega) (by omega)];omega
     simp only[z4h]
     rw[if_pos (by omega),z1k (show k+1<l.length by omega),Z0,w,z1k (show k<l.length by omega),Z0,if_neg,z1g (by omega)]
     intro e
     have:=(List.getElem_inj h).1 e
     omega
   · grind
theorem zqy{L:Nat}{p:List Nat}(h:PermL L p)(h1:1<=L)(h2:L<=32):z3V (toI p)=some true:=by
 have hl:=h.len
 have hne:toI p≠ []:=fun e=>by have:=congrArg List.length e;rw[z0b,Ye] at this;omega
 have hnd:((toI p).mergeSort fun x y=>decide (x<=y)).Nodup:=(List.mergeSort_perm _ _).nodup_iff.2 (YC _ (fun a b (hab:a≠b)=>by intro e;exact hab (by omega)) h.nd)
 have hlen:((toI p).mergeSort fun x y=>decide (x<=y)).length=p.length:=by rw[List.length_mergeSort,z0b]
 unfold z3V
 rw[zjO h h1 h2,Z0,if_pos rfl]
 unfold zao z9j
 rw[zjO h h1 h2,Z0,if_pos rfl]
 unfold zba zha
 rw[z0b,if_pos (by omega),Z0,if_pos ⟨hne,by rw[z0b];omega⟩,Z0,zr4 hnd (by omega),Z0,Z0,hlen,Z0]
 simp
theorem zsH{L:Nat}{P:List (List Nat)}(hP:∀g∈P,PermL L g)(h1:1<=L)(h2:L<=32)(hl:P.length<=100000):z4q (P.map toI) (L:Int)=some true:=by
 unfold z4q
 refine z0x (s:=(0:Int)) P.length (fun k=>(k:Int)) rfl (by simp only[LFm];omega) (fun k hk=> ?_) ?_
 · have hk':=hP _ (Zw hk)
   have hat:atI (P.map toI) (k:Int)=some (toI P[k]):=by rw[z1k (by simpa using hk)];simp
   simp only[z5v]
   rw[if_pos (by rw[Zh];omega),hat,Z0,z0b,if_pos (by rw[hk'.len]),zqy hk' h1 h2,Z0,if_pos rfl,z1g (by omega)]
 · grind
def z8C:List (List Nat)->List (ByteArray×Bool):=List.foldl (fun mp q=>z8p (z1z (toI q)) true mp) []
theorem zhR(Q:List (List Nat))(p:List Nat):z8C (Q++ [p])=z8p (z1z (toI p)) true (z8C Q):=by
 unfold z8C;rw[YK];rfl
theorem zfL{p:List Nat}(hb:∀k∈p,k<256){Q:List (List Nat)}(hQ:∀q∈Q,∀k∈q,k<256):((z8i (z1z (toI p)) (z8C Q)).getD false)=true↔p∈Q:=by
 have key:∀(Q:List (List Nat)) (mp:List (ByteArray×Bool)),(∀q∈Q,∀k∈q,k<256)->(((z8i (z1z (toI p)) (Q.foldl (fun mp q=>z8p (z1z (toI q)) true mp) mp)).getD false)=true↔(p∈Q∨((z8i (z1z (toI p)) mp).getD false)=true)):=by
  intro Q
  induction Q with
  |nil=>intro mp _;simp
  |cons q Q ih=>
   intro mp hQ
   rw[Xk,ih _ (fun x hx=>hQ x (Zl _ hx)),zcO,Zu]
   have hq:=hQ q (Zy ..)
   by_cases e:q=p
   · grind
   · have:¬z1z (toI q)=z1z (toI p):=fun h=>e (zgp hq hb h)
     rw[if_neg this]
     constructor
     · grind
     · grind
 have:=key Q [] hQ
 rw[show z8C Q=Q.foldl (fun mp q=>z8p (z1z (toI q)) true mp) [] from rfl,this]
 simp[z8i]
structure GInv(L:Nat)(P E:List (List Nat)):Prop where
 nd:E.Nodup
 rc:∀e∈E,RchG L P e
 on:List.range L∈E
section
variable {L:Nat} {P:List (List Nat)} (hP:∀g∈P,PermL L g) (h1:1<=L) (h2:L<=32) (hB:∀l:List (List Nat),l.Nodup->(∀e∈l,RchG L P e)->l.length<=2000)
include hP h1 h2 hB
theorem zcp{e:List Nat}(h:RchG L P e):∀k∈e,k<256:=fun k hk=>by
 have _u:=h1
 have _v:=hB
 have:=(z8T hP h).lt k hk;omega
theorem zBc{E U:List (List Nat)}{f:List Nat}(hE:GInv L (U++ [f]) E)(hU:∀g∈U++ [f],g∈P)(hUl:U.length<=100000){i:Nat}(hi:i<E.length):
 ∃X,GInv L (U++ [f]) (E++X)/\(∀g∈U++ [f],zbh (E.getD i []) g∈E++X)/\z0k (z4r (U.map toI) (toI f) (i:Int)) LFm (0,E.map toI,z8C E)=z0c (((i+1:Nat):Int),(E++X).map toI,z8C (E++X)):=by
 refine Exists.elim (z2c (b:=z4r (U.map toI) (toI f) (i:Int)) (fun z=>∃(k:Nat) (X:List (List Nat)),k<=U.length+1/\z=((k:Int),(E++X).map toI,z8C (E++X))/\GInv L (U++ [f]) (E++X)/\ ∀j,j<k->zbh (E.getD i []) ((U++ [f]).getD j [])∈E++X) (fun z=>U.length+1-z.1.toNat)
  (fun r=>∃X,r= .inl (((i+1:Nat):Int),(E++X).map toI,z8C (E++X))/\GInv L (U++ [f]) (E++X)/\ ∀j,j<U.length+1->zbh (E.getD i []) ((U++ [f]).getD j [])∈E++X) ?_ LFm (0,E.map toI,z8C E) ⟨0,[],by omega,by simp,by rw[Y1];exact hE,fun j hj=>by omega⟩ (by simp only[LFm];omega)) fun r h=> ?_
 · rintro z ⟨k,X,hk,rfl,hX,hc⟩
   have hrp:∀e∈E++X,RchG L P e:=fun e he=>z7Q hU (hX.rc e he)
   have hsz:=hB _ hX.nd hrp
   rw[Za] at hsz
   have hlen:((E++X).map toI).length=E.length+X.length:=by grind
   simp only[z4r]
   rw[Zh]
   by_cases hk1:k<U.length+1
   · left
     have hg:(U++ [f]).getD k []∈U++ [f]:=z8j (by rw[Za,ZE];exact hk1)
     have hgp:=hP _ (hU _ hg)
     have hat1:atI (U.map toI++ [toI f]) (k:Int)=some (toI ((U++ [f]).getD k [])):=by
      have e:U.map toI++ [toI f]=(U++ [f]).map toI:=by simp
      rw[e,z1k (by simp;omega)]
      simp only[ZG]
      rw[List.getD,Z1 (by simp;omega),Zb]
     have hei:E.getD i []∈E++X:=Ze.2 (.inl (z8j hi))
     have hep:=z8T hP (hrp _ hei)
     have hat2:atI ((E++X).map toI) (i:Int)=some (toI (E.getD i [])):=by
      rw[z1k (by simp;omega)]
      simp only[ZG]
      rw[List.getElem_append_left hi,List.getD,Z1 hi,Zb]
     have hcu:RchG L (U++ [f]) (zbh (E.getD i []) ((U++ [f]).getD k [])):=.step _ _ (hX.rc _ hei) hg
     have hcr:=z7Q hU hcu
     have hcp:=z8T hP hcr
     have hc256:=zcp hP h1 h2 hB hcr
     have hcomp:z5L (toI (E.getD i [])) (toI ((U++ [f]).getD k []))=some (toI (zbh (E.getD i []) ((U++ [f]).getD k []))):=zr3 (by rw[hep.len];omega) (fun x hx=>by have:=hep.lt x hx;rw[hgp.len];exact this)
     rw[if_pos (by omega),hat1,Z0,hat2,Z0,hcomp,Z0,zj2 (by rw[hcp.len];omega) hc256,Z0]
     have hsg:=zfL hc256 (Q:=E++X) (fun q hq=>zcp hP h1 h2 hB (hrp q hq))
     generalize hcE:zbh (E.getD i []) ((U++ [f]).getD k [])=c at*
     by_cases hin:c∈E++X
     · rw[if_pos (hsg.2 hin),z1g (by omega)]
       refine⟨_,rfl,⟨k+1,X,by omega,rfl,hX,fun j hj=> ?_⟩,by simp only;omega⟩
       by_cases e:j=k
       · subst e;rw[hcE];exact hin
       · exact hc j (by omega)
     · have hX':GInv L (U++ [f]) (E++(X++ [c])):=by
        rw[←Zo]
        refine⟨Yu.2 ⟨hX.nd,by simp,fun a ha b hb=> ?_⟩,fun e he=> ?_,Ze.2 (.inl hX.on)⟩
        · grind
        · rcases Ze.1 he with he|he
          · exact hX.rc e he
          · grind
       rw[if_neg (fun e=>hin (hsg.1 e)),z0j _ (by unfold z1B;rw[hlen];omega),z1g (by omega)]
       refine⟨_,rfl,⟨k+1,X++ [c],by omega,?_,hX',fun j hj=> ?_⟩,by simp only;omega⟩
       · rw[←Zo,zhR,ZY (f:=toI) (l₁:=E++X)];rfl
       · grind
   · right
     have hk2:k=U.length+1:=by omega
     rw[if_neg (by omega),if_neg (by rw[hlen];omega),z1g (by omega)]
     exact⟨_,rfl,X,rfl,hX,fun j hj=>hc j (by omega)⟩
 · obtain⟨h3,X,rfl,hX,hc⟩:=h
   refine⟨X,hX,fun g hg=> ?_,h3⟩
   obtain⟨j,hj,rfl⟩:=Zt hg
   have:=hc j (by simpa using hj)
   have e:(U++ [f]).getD j []=(U++ [f])[j]:=by grind
   rwa [e] at this
theorem zCX{E U:List (List Nat)}{f:List Nat}{w:Nat}(hw:w<100000)(hE:GInv L (U++ [f]) E)(hU:∀g∈U++ [f],g∈P)(hUl:U.length<=100000):
 ∃X,GInv L (U++ [f]) (E++X)/\(∀e∈E++X,∀g∈U++ [f],zbh e g∈E++X)/\z0k (z4s (w:Int) (U.map toI) (toI f)) LFm (0,E.map toI,z8C E)=z0c (((w+1:Nat):Int),(E++X).map toI,z8C (E++X),(U++ [f]).map toI):=by
 refine Exists.elim (z2c (b:=z4s (w:Int) (U.map toI) (toI f)) (fun z=>∃(i:Nat) (X:List (List Nat)),i<=(E++X).length/\z=((i:Int),(E++X).map toI,z8C (E++X))/\GInv L (U++ [f]) (E++X)/\ ∀j,j<i->∀g∈U++ [f],zbh ((E++X).getD j []) g∈E++X) (fun z=>2001-z.1.toNat)
  (fun r=>∃X,r= .inl (((w+1:Nat):Int),(E++X).map toI,z8C (E++X),(U++ [f]).map toI)/\GInv L (U++ [f]) (E++X)/\ ∀j,j<(E++X).length->∀g∈U++ [f],zbh ((E++X).getD j []) g∈E++X) ?_ LFm (0,E.map toI,z8C E) ⟨0,[],by simp,by simp,by rw[Y1];exact hE,fun j hj=>by omega⟩ (by simp only[LFm];omega)) fun r h=> ?_
 · rintro z ⟨i,X,hi,rfl,hX,hc⟩
   have hsz:=hB _ hX.nd (fun e he=>z7Q hU (hX.rc e he))
   simp only[z4s]
   rw[Zh]
   by_cases hi1:i<(E++X).length
   · left
     obtain⟨Y,y1,y2,y3⟩:=zBc hP h1 h2 hB hX hU hUl hi1
     rw[if_pos (by omega),y3]
     have e:E++X++Y=E++(X++Y):=Zo ..
     rw[e] at y1 y2
     have hsz2:=hB _ y1.nd (fun e he=>z7Q hU (y1.rc e he))
     refine⟨_,rfl,⟨i+1,X++Y,by rw[←e,Za];omega,by rw[e],y1,fun j hj g hg=> ?_⟩,by simp only;omega⟩
     by_cases ej:j=i
     · grind
     · have:=hc j (by omega) g hg
       rw[show(E++(X++Y)).getD j []=(E++X).getD j [] by rw[←e,List.getD,List.getD,ZL (by omega)],←e]
       exact Ze.2 (.inl this)
   · right
     have hi2:i=(E++X).length:=by omega
     rw[if_neg (by omega),z1g (by omega)]
     refine⟨_,rfl,X,by simp,hX,fun j hj=>hc j (by omega)⟩
 · obtain⟨h3,X,rfl,hX,hc⟩:=h
   refine⟨X,hX,fun e he g hg=> ?_,h3⟩
   obtain⟨j,hj,rfl⟩:=Zt he
   have:=hc j hj g hg
   have e:(E++X).getD j []=(E++X)[j]:=by grind
   rwa [e] at this
theorem zzG(hne:P≠ [])(hl:P.length<=10000):∃E:List (List Nat),z5g (P.map toI)=some (E.map toI,0)/\zxs (E.map toI)/\E.Nodup/\ ∀e,e∈E↔RchG L P e:=by
 have hpos:=ZH.2 hne
 have hP0:=hP _ (Zw hpos)
 have hat0:atI (P.map toI) 0=some (toI P[0]):=by
  have:=z1k (xs:=P.map toI) (k:=0) (by simpa using hpos)
  simpa using this
 have h256:∀k∈List.range L,k<256:=fun k hk=>by have:=Zk.1 hk;omega
 unfold z5g
 rw[if_neg (by rw[Zh];omega),hat0,Z0,z0b,hP0.len,zsH hP h1 h2 (by omega),Z0,if_pos rfl,zwK h1 h2,Z0,zj2 (by simp;omega) h256,Z0]
 refine Exists.elim (z2c (b:=z5l (P.map toI)) (fun z=>∃(k:Nat) (E U:List (List Nat)),k<=P.length/\z=((k:Int),E.map toI,z8C E,U.map toI)/\GInv L U E/\U.length<=k/\(∀g∈U,g∈P)/\(∀e∈E,∀g∈U,zbh e g∈E)/\ ∀j,j<k->P.getD j []∈E) (fun z=>P.length+1-z.1.toNat)
  (fun r=>∃E:List (List Nat),r=(E.map toI,0)/\zxs (E.map toI)/\E.Nodup/\ ∀e,e∈E↔RchG L P e) ?_ LFm (0,[toI (List.range L)],z8p (z1z (toI (List.range L))) true ([]:List (ByteArray×Bool)),[]) ⟨0,[List.range L],[],by omega,rfl,⟨by simp,fun e he=>by obtain rfl:=Zj.1 he;exact .one,by simp⟩,by simp,by simp,by simp,fun j hj=>by omega⟩ (by simp only[LFm];omega)) fun r h=> ?_
 · rintro z ⟨k,E,U,hk,rfl,hE,hUl,hU,hcl,hin⟩
   have hrp:∀e∈E,RchG L P e:=fun e he=>z7Q hU (hE.rc e he)
   have hsz:=hB _ hE.nd hrp
   simp only[z5l]
   rw[Zh]
   by_cases hk1:k<P.length
   · left
     have hg:=z8j hk1
     have hgp:=hP _ hg
     have hat1:atI (P.map toI) (k:Int)=some (toI (P.getD k [])):=by
      rw[z1k (by simpa using hk1)]
      simp[List.getD,hk1]
     have hg256:=zcp hP h1 h2 hB (zsw hP hg)
     have hsg:=zfL hg256 (Q:=E) (fun q hq=>zcp hP h1 h2 hB (hrp q hq))
     rw[if_pos (by omega),hat1,Z0,zj2 (by rw[hgp.len];omega) hg256,Z0]
     by_cases hm:P.getD k []∈E
     · rw[if_pos (hsg.2 hm),z1g (by omega)]
       refine⟨_,rfl,⟨k+1,E,U,by omega,rfl,hE,by omega,hU,hcl,fun j hj=> ?_⟩,by simp only;omega⟩
       by_cases e:j=k
       · rw[e];exact hm
       · exact hin j (by omega)
     · rw[if_neg (fun e=>hm (hsg.1 e)),z0j _ (by unfold z1B;rw[Zh];omega)]
       have hUf:∀g∈U++ [P.getD k []],g∈P:=fun g h=>by grind
       have hE2:GInv L (U++ [P.getD k []]) E:=⟨hE.nd,fun e he=>z7Q (fun g hg=>Ze.2 (.inl hg)) (hE.rc e he),hE.on⟩
       obtain⟨X,x1,x2,x3⟩:=zCX hP h1 h2 hB (w:=k) (by omega) hE2 hUf (by omega)
       rw[x3]
       refine⟨_,rfl,⟨k+1,E++X,U++ [P.getD k []],by omega,rfl,x1,by simp;omega,hUf,x2,fun j hj=> ?_⟩,by simp only;omega⟩
       · by_cases e:j=k
         · rw[e]
           have:=x2 _ x1.on (P.getD k []) (by simp)
           rwa [zoX hgp] at this
         · grind
   · right
     have hk2:k=P.length:=by omega
     rw[if_neg (by omega)]
     have hne2:E.map toI≠ []:=fun e=>by
      have:=hE.on
      rw[List.map_eq_nil_iff] at e
      rw[e] at this;simp at this
     unfold zjP
     rw[if_pos ⟨hne2,by rw[Zh];omega⟩,Z0]
     have hp:=z8P (E.map toI)
     have hback:∀e:List Nat,(toI e).map Int.toNat=e:=fun e=>by
      unfold toI;rw[Y3]
      have:(Int.toNat∘fun x:Nat=>(x:Int))=id:=by funext x;simp
      rw[this,YW]
     have hp2:((z8Q (E.map toI)).map fun x=>x.map Int.toNat).Perm E:=by
      have:=hp.map fun x=>x.map Int.toNat
      rw[Y3] at this
      have e:((fun x:List Int=>x.map Int.toNat)∘toI)=id:=by funext x;exact hback x
      rwa [e,YW] at this
     have hPU:∀g∈U,PermL L g:=fun g hg=>hP g (hU g hg)
     have heq:((z8Q (E.map toI)).map fun x=>x.map Int.toNat).map toI=z8Q (E.map toI):=by
      rw[Y3]
      refine(ZB fun x hx=> ?_).trans (XU _)
      obtain⟨e,he,rfl⟩:=Zm.1 (hp.mem_iff.1 hx)
      show toI ((toI e).map Int.toNat)=toI e
      rw[hback]
     refine⟨_,rfl,(z8Q (E.map toI)).map fun x=>x.map Int.toNat,by rw[heq],by rw[heq];exact z9Z _,hp2.nodup_iff.2 hE.nd,fun e=> ?_⟩
     · rw[hp2.mem_iff]
       refine⟨hrp e,fun h=> ?_⟩
       induction h with
       |one=>exact hE.on
       |step e g _ hg ih=>
        obtain⟨j,hj,rfl⟩:=Zt hg
        have hm:=hin j (by omega)
        rw[List.getD,Z1 hj,Zb] at hm
        exact zqS hPU (fun x hx=>z8T hP (hrp x hx)) hcl ih (hE.rc _ hm)
 · grind
end
end
section
open Go
variable{x:List Nat}
theorem zu2{p:List Nat}(hl:p.length<=1000)(hp:∀x∈p,x<256):z3P (toI p)=some (z1z (toI p)):=by
 unfold z3P
 rw[z0b,z0j _ (by unfold z0X;omega),Z3]
 have e0:toI p=(List.range p.length).map fun k=>((p.getD k 0:Nat):Int):=by
  refine Zf (by simp[toI]) fun i h1 h2=> ?_
  have hi:i<p.length:=by simpa[toI] using h1
  simp[toI,List.getD,hi]
 refine z0x (s:=((0:Int),List.replicate p.length (0:Int))) p.length (fun k=>((k:Int),zaL p.length (fun k=>((p.getD k 0:Nat):Int)) (fun _=>0) k)) (by rw[z9v];congr 1;exact(Zf (by simp) fun i h1 h2=>by simp)) (by simp only[LFm];omega) (fun k hk=> ?_) ?_
 · have hx:=hp _ (z0f hk)
   have hw:IntKind.u8.wrap ((p.getD k 0:Nat):Int)=((p.getD k 0:Nat):Int):=by rw[YI];omega
   simp only[z6b]
   rw[if_pos (by rw[z0b];omega),z1u hk,Z0,z6y hk,Z0,z1g (by omega),Z3,hw,z4S (f:=fun k=>((p.getD k 0:Nat):Int)) hk]
 · simp only[z6b]
   rw[if_neg (by rw[z0b];omega),z9u,←e0]
section
variable {d:DFA} {m n:Nat} {S:List Nat} {O:List Nat}
theorem zxS(c:Nat):szO d m n S O c<=S.length:=by
 unfold szO z6p
 split
 · simp
 · exact ZJ (ZC _ _) (ZJ (ZC _ _) (by simp))
theorem znF(hSl:S.length<=255)(hx:zgT d m n S O x):∀k∈x,k<256:=fun k hk=>by
 obtain⟨j,hj,rfl⟩:=Zt hk
 have:=hx.2 j (by rw[←hx.1];exact hj)
 rw[List.getD,Z1 hj,Zb] at this
 have:=zxS (d:=d) (m:=m) (n:=n) (S:=S) (O:=O) j
 omega
end
def znv(y:Nat->List Nat):Nat->Nat->List (List Nat)->Option (List (List Nat))
 |0,_,T=>some T
 |k+1,a,T=>if y a∈T then znv y k (a+1) T else if T.length=2000 then none else znv y k (a+1) (T++ [y a])
def zlL(st:Nat->List Nat->List Nat)(m:Nat):Nat->Nat->List (List Nat)->Option (List (List Nat))
 |0,_,T=>some T
 |f+1,i,T=>if i<T.length then(znv (fun a=>st a (T.getD i [])) m 0 T).bind (zlL st m f (i+1)) else some T
theorem zeV{y:Nat->List Nat}{P:List Nat->Prop}:∀(k a:Nat) (T T':List (List Nat)),(∀b,a<=b->b<a+k->P (y b))->(∀t∈T,P t)->T.Nodup->T.length<=2000->znv y k a T=some T'->
 (∃X,T'=T++X)/\(∀t∈T',P t)/\T'.Nodup/\T'.length<=2000/\ ∀b,a<=b->b<a+k->y b∈T'
 |0,a,T,T',hy,hP,hn,hl,h=>by
  simp only[znv,Z9] at h
  subst h
  exact⟨⟨[],by simp⟩,hP,hn,hl,fun b h1 h2=>by omega⟩
 |k+1,a,T,T',hy,hP,hn,hl,h=>by
  simp only[znv] at h
  split at h
  · rename_i hin
    obtain⟨⟨X,e⟩,h2,h3,h4,h5⟩:=zeV k (a+1) T T' (fun b h1 h2=>hy b (by omega) (by omega)) hP hn hl h
    refine⟨⟨X,e⟩,h2,h3,h4,fun b h6 h7=> ?_⟩
    by_cases e2:b=a
    · rw[e2,e];exact Ze.2 (.inl hin)
    · exact h5 b (by omega) (by omega)
  · rename_i hin
    split at h
    · cases h
    · rename_i hlt
      obtain⟨⟨X,e⟩,h2,h3,h4,h5⟩:=zeV k (a+1) (T++ [y a]) T' (fun b h1 h2=>hy b (by omega) (by omega)) (fun t ht=>by
       rcases Ze.1 ht with ht|ht
       · exact hP t ht
       · rw[Zj.1 ht];exact hy a (by omega) (by omega)) (Yu.2 ⟨hn,by simp,fun a ha b hb=>by obtain rfl:=Zj.1 hb;rintro rfl;exact hin ha⟩) (by rw[Za,ZE];omega) h
      refine⟨⟨[y a]++X,by rw[e,Zo]⟩,h2,h3,h4,fun b h6 h7=> ?_⟩
      by_cases e2:b=a
      · rw[e2,e];simp
      · exact h5 b (by omega) (by omega)
def zF2(i:Nat):Option (List (List Nat))->(Int×List (List Int)×List (ByteArray×Bool))⊕(List (List Int)×Int)
 |none=>.inr ([],3)
 |some T=>.inl (((i+1:Nat):Int),T.map toI,z8C T)
def zD5:Option (List (List Nat))->List (List Int)×Int
 |none=>([],3)
 |some T=>(z8Q (T.map toI),0)
section
variable {d:DFA} {m n:Nat} {S:List Nat} (hd:DfaOk d m n) (hn:n<=7) (hS:SetsP d m n S) {O:List Nat} (hH:zlS d m n S) (hO:OrdC d m n S O) (hpos:∀x∈S,x≠0)
include hd hn hS hH hO hpos
theorem zvT(hSl:S.length<=1000)(h0:0<S.length)(hx:zgT d m n S O x):z3s (z8n d m n S O) (toI x)=some ((tzN (S.getD (z8o d m n S O 0 0 x) 0):Nat):Int):=by
 have h128:2^n<=128:=Zi (n:=2) (by omega) hn
 have hOl:O.length<=S.length:=by
  rw[hO.prm.length_eq]
  unfold za5
  exact ZJ (ZC _ _) (by rw[ZD];exact z5w (z2u d m n S) S.length)
 have he:=(zie hd hn hS hH hO hpos hx h0 x.length (Z5 _)).1
 rw[Yr] at he
 have hcl:∀(y:List Nat) (c i:Nat),(z9E d m n S O c i y).length<=y.length:=fun y=>by
  induction y with
  |nil=>intro c i;simp[z9E]
  |cons s y ih=>
   intro c i
   have:=ih (c+1) (dnN d m n S O c i s)
   simp only[z9E,Za,Zr]
   split<;>simp<;>omega
 have hcx:=hcl x 0 0
 have hxl:=hx.1
 have hlast:=zp2 (d:=d) (m:=m) (n:=n) (S:=S) (O:=O) x 0 0
 unfold z3s
 rw[zxe hd hn hS hH hO hpos hSl h0 hx,Z0,z0b]
 generalize hl:(0::z9E d m n S O 0 0 x)=l at*
 have hll:l.length=(z9E d m n S O 0 0 x).length+1:=by rw[←hl,Zr]
 have w:IntKind.i64.wrap ((l.length:Int)-1)=((l.length-1:Nat):Int):=by rw[z2Y (by omega) (by omega)];omega
 have hg:l.getD (l.length-1) 0=z8o d m n S O 0 0 x:=by grind
 rw[w,z1u (by omega),Z0,hg,zna he,Z0]
 have hm:=z0f he
 have hlt:=hS.lt _ hm
 have hp:=hpos _ hm
 generalize S.getD (z8o d m n S O 0 0 x) 0=s at*
 have hw:IntKind.u64.wrap (s:Int)=(s:Int):=by rw[XB];omega
 unfold vTz
 rw[hw,if_pos (by omega),Z0,Z3]
theorem zAC(hSl:S.length<=255)(h0:0<S.length){T:List (List Nat)}(hT:∀t∈T,zgT d m n S O t)(hTl:T.length<=2000){i:Nat}(hi:i<T.length):
 z0k (z2t (z8n d m n S O) (i:Int)) LFm (0,T.map toI,z8C T)=some (zF2 i (znv (fun a=>z6R d m n S O a (T.getD i [])) m 0 T)):=by
 have hm6:=hd.m6
 have hlt:(z8n d m n S O).d.letters=m:=hd.lt
 have hx:zgT d m n S O (T.getD i []):=hT _ (z8j hi)
 have h256:∀t,zgT d m n S O t->∀k∈t,k<256:=fun t ht=>znF hSl ht
 have hOl:O.length<=S.length:=by
  rw[hO.prm.length_eq]
  unfold za5
  exact ZJ (ZC _ _) (by rw[ZD];exact z5w (z2u d m n S) S.length)
 generalize hX:T.getD i []=x at*
 generalize hR:znv (fun a=>z6R d m n S O a x) m 0 T=R
 refine Exists.elim (z2c (b:=z2t (z8n d m n S O) (i:Int)) (fun z=>∃(a:Nat) (U:List (List Nat)),a<=m/\z=((a:Int),U.map toI,z8C U)/\znv (fun a=>z6R d m n S O a x) (m-a) a U=R/\(∀t∈U,zgT d m n S O t)/\U.length<=2000/\i<U.length/\U.getD i []=x) (fun z=>m+1-z.1.toNat)
  (fun r=>r=zF2 i R) ?_ LFm (0,T.map toI,z8C T) ⟨0,T,by omega,rfl,hR,hT,hTl,hi,hX⟩ (by simp only[LFm];omega)) fun r h=> ?_
 · rintro z ⟨a,U,ha,rfl,hU,hUt,hUl,hUi,hUx⟩
   simp only[z2t]
   rw[hlt]
   by_cases ha1:a<m
   · have hat:atI (U.map toI) (i:Int)=some (toI x):=by
      rw[z1k (by simpa using hUi)]
      rw[←hUx]
      simp[List.getD,hUi]
     obtain⟨y1,y2⟩:=zaD hd hn hS hH hO hpos (a:=a) hx h0
     have hy256:=h256 _ y1
     have hyl:(z6R d m n S O a x).length<=1000:=by rw[y1.1];omega
     have hsg:=zfL hy256 (Q:=U) (fun q hq=>h256 q (hUt q hq))
     have hma:m-a=(m-(a+1))+1:=by omega
     rw[hma] at hU
     simp only[znv] at hU
     rw[if_pos (by omega),hat,Z0,zrW hd hn hS hH hO hpos (by omega) h0 ha1 hx,Z0]
     simp only
     rw[zu2 hyl hy256,Z0,z1g (by omega)]
     by_cases hin:z6R d m n S O a x∈U
     · left
       rw[if_pos hin] at hU
       rw[if_pos (hsg.2 hin)]
       exact⟨_,rfl,⟨a+1,U,by omega,rfl,hU,hUt,hUl,hUi,hUx⟩,by simp only;omega⟩
     · rw[if_neg hin] at hU
       rw[if_neg (fun e=>hin (hsg.1 e)),Zh]
       by_cases hfull:U.length=2000
       · right
         rw[if_pos hfull] at hU
         rw[if_pos (by omega)]
         exact⟨_,rfl,by rw[←hU];rfl⟩
       · left
         rw[if_neg hfull] at hU
         rw[if_neg (by omega),Z0,z0j _ (by unfold z1B;omega)]
         refine⟨_,rfl,⟨a+1,U++ [z6R d m n S O a x],by omega,by rw[zhR,ZY];rfl,hU,fun t ht=> ?_,by rw[Za,ZE];omega,by rw[Za];omega,?_⟩,by simp only;omega⟩
         · grind
         · grind
   · right
     have:a=m:=by omega
     subst this
     rw[XS] at hU
     simp only[znv] at hU
     rw[if_neg (by omega),z1g (by omega)]
     exact⟨_,rfl,by rw[←hU];rfl⟩
 · obtain⟨h3,rfl⟩:=h
   exact h3
theorem zry(hSl:S.length<=255)(h0:0<S.length):z1V (z8n d m n S O)=some (zD5 (zlL (z6R d m n S O) m 2001 0 [z4x d m n S O])):=by
 have hst:=zch hd hn hS hH hO hpos h0
 have hOl:O.length<=S.length:=by
  rw[hO.prm.length_eq]
  unfold za5
  exact ZJ (ZC _ _) (by rw[ZD];exact z5w (z2u d m n S) S.length)
 generalize hR:zlL (z6R d m n S O) m 2001 0 [z4x d m n S O]=R
 unfold z1V
 rw[zo0 hd hn hS hH hO hpos (by omega) h0,Z0,zu2 (by rw[hst.1];omega) (znF hSl hst),Z0]
 refine Exists.elim (z2c (b:=z3j (z8n d m n S O)) (fun z=>∃(i:Nat) (T:List (List Nat)),i<=T.length/\z=((i:Int),T.map toI,z8C T)/\zlL (z6R d m n S O) m (2001-i) i T=R/\(∀t∈T,zgT d m n S O t)/\T.Nodup/\T.length<=2000/\T≠ []) (fun z=>2001-z.1.toNat)
  (fun r=>r=zD5 R) ?_ LFm (0,[toI (z4x d m n S O)],z8p (z1z (toI (z4x d m n S O))) true ([]:List (ByteArray×Bool))) ⟨0,[z4x d m n S O],by simp,rfl,hR,fun t ht=>by rw[Zj.1 ht];exact hst,by simp,by simp,by simp⟩ (by simp only[LFm];omega)) fun r h=> ?_
 · rintro z ⟨i,T,hi,rfl,hT,hTt,hTn,hTl,hTe⟩
   simp only[z3j]
   rw[Zh]
   have hf:2001-i=(2001-(i+1))+1:=by omega
   rw[hf] at hT
   simp only[zlL] at hT
   by_cases hi1:i<T.length
   · rw[if_pos hi1] at hT
     rw[if_pos (by omega),zAC hd hn hS hH hO hpos hSl h0 hTt hTl hi1]
     cases hb:znv (fun a=>z6R d m n S O a (T.getD i [])) m 0 T with
     |none=>
      right
      rw[hb,Option.bind_none] at hT
      exact⟨_,rfl,by rw[←hT];rfl⟩
     |some T'=>
      left
      rw[hb,Z0] at hT
      have hx:zgT d m n S O (T.getD i []):=hTt _ (z8j hi1)
      obtain⟨⟨X,e⟩,h2,h3,h4,_⟩:=zeV m 0 T T' (fun b h1 h2=>(zaD hd hn hS hH hO hpos (a:=b) hx h0).1) hTt hTn hTl hb
      refine⟨_,rfl,⟨i+1,T',by rw[e,Za];omega,rfl,hT,h2,h3,h4,fun h=>hTe ?_⟩,by simp only;omega⟩
      rw[h] at e
      exact(List.append_eq_nil_iff.1 e.symm).1
   · right
     rw[if_neg hi1] at hT
     have hne:T.map toI≠ []:=fun e=>hTe (List.map_eq_nil_iff.1 e)
     rw[if_neg (by omega)]
     unfold zjP
     rw[if_pos ⟨hne,by rw[Zh];omega⟩,Z0]
     exact⟨_,rfl,by rw[←hT];rfl⟩
 · obtain⟨h3,rfl⟩:=h
   exact h3
end
end
section
open Go
section
variable {d:DFA} {m n:Nat} {S:List Nat} (hd:DfaOk d m n) (hn:n<=7) (hS:SetsP d m n S) {O:List Nat} (hH:zlS d m n S) (hO:OrdC d m n S O)
include hd hn hS hH hO
theorem zz5{c:Nat}(hc:c<O.length):O.getD c 0<(z6n d m n S).length/\z2d d m n S (O.getD c 0)<S.length:=by
 have _u:=hH
 have hmem:O.getD c 0∈O:=z0f hc
 have hout:=hO.prm.mem_iff.1 hmem
 unfold za5 at hout
 have h1:=Zk.1 (ZV.1 hout).1
 exact⟨h1,(z2I hd hn hS h1).2⟩
theorem zdE:O.length<=S.length:=by
 have _u:=hH
 rw[hO.prm.length_eq]
 unfold za5
 exact ZJ (ZC _ _) (by rw[ZD];exact z5w (z2u d m n S) S.length)
omit hd hn hS hH hO
include hd hn hS hH hO
end
end
section
open Go
theorem zrK{a b:List Nat}(h:toI a=toI b):a=b:=by
 have:=congrArg (List.map Int.toNat) h
 unfold toI at this
 rw[Y3,Y3] at this
 have e:(Int.toNat∘fun x:Nat=>(x:Int))=id:=by funext x;simp
 rwa [e,YW,YW] at this
abbrev zan:=List Nat×List (List Nat)
def zji(r:zan):CRow:=⟨toI r.1,r.2.map toI⟩
def z7d(x:List Nat)(f:Nat->List (List Nat))(k:Nat)(R:List zan):List zan:=(List.range k).foldl (fun R i=>if ∀r∈R,r.1≠x.take i then R++ [(x.take i,f i)] else R) R
theorem z9e(x:List Nat)(f:Nat->List (List Nat))(k:Nat)(R:List zan):z7d x f (k+1) R=if ∀r∈z7d x f k R,r.1≠x.take k then z7d x f k R++ [(x.take k,f k)] else z7d x f k R:=by
 unfold z7d
 rw[YA,YK]
 rfl
structure RowsOk(f:List Nat->Nat->List (List Nat))(L:Nat)(M:List (List Nat))(R:List zan):Prop where
 nd:R.Pairwise fun r q=>r.1≠q.1
 of:∀r∈R,∃x∈M,∃i,i<L/\r=(x.take i,f x i)
 al:∀x∈M,∀i,i<L->∃r∈R,r.1=x.take i
theorem zpi{f:List Nat->Nat->List (List Nat)}{L:Nat}{M:List (List Nat)}{R:List zan}(h:RowsOk f L M R)(x:List Nat):∀k,k<=L->
 (z7d x (f x) k R).Pairwise (fun r q=>r.1≠q.1)/\(∀r∈z7d x (f x) k R,∃y∈M++ [x],∃i,i<L/\r=(y.take i,f y i))/\(∀r∈R,r∈z7d x (f x) k R)/\ ∀i,i<k->∃r∈z7d x (f x) k R,r.1=x.take i
 |0,_=>⟨h.nd,fun r hr=>by
    obtain⟨y,hy,i,hi,e⟩:=h.of r hr
    exact⟨y,Ze.2 (.inl hy),i,hi,e⟩,fun r hr=>hr,fun i hi=>by omega⟩
 |k+1,hk=>by
  obtain⟨h1,h2,h3,h4⟩:=zpi h x k (by omega)
  rw[z9e]
  split
  · rename_i hnew
    refine⟨YB.2 ⟨h1,by simp,fun a ha b hb=>by rw[Zj.1 hb];exact hnew a ha⟩,fun r hr=> ?_,fun r hr=>Ze.2 (.inl (h3 r hr)),fun i hi=> ?_⟩
    · rcases Ze.1 hr with hr|hr
      · exact h2 r hr
      · exact⟨x,by simp,k,by omega,Zj.1 hr⟩
    · by_cases e:i=k
      · subst e;exact⟨_,Ze.2 (.inr (Zj.2 rfl)),rfl⟩
      · obtain⟨r,hr,e2⟩:=h4 i (by omega)
        exact⟨r,Ze.2 (.inl hr),e2⟩
  · rename_i hold
    refine⟨h1,h2,h3,fun i hi=> ?_⟩
    by_cases e:i=k
    · subst e
      obtain⟨r,hr⟩:=Classical.not_forall.1 hold
      obtain⟨hr,e2⟩:=Classical.not_imp.1 hr
      exact⟨r,hr,Classical.not_not.1 e2⟩
    · exact h4 i (by omega)
theorem zrc{f:List Nat->Nat->List (List Nat)}{L:Nat}{M:List (List Nat)}{R:List zan}(h:RowsOk f L M R)(x:List Nat):RowsOk f L (M++ [x]) (z7d x (f x) L R):=by
 obtain⟨h1,h2,h3,h4⟩:=zpi h x L (Z5 _)
 refine⟨h1,h2,fun y hy i hi=> ?_⟩
 rcases Ze.1 hy with hy|hy
 · obtain⟨r,hr,e⟩:=h.al y hy i hi
   exact⟨r,h3 r hr,e⟩
 · rw[Zj.1 hy];exact h4 i hi
end
section
open Go
variable{x:List Nat}{i:Nat}
def zAu:Cover:=⟨⟨0,[],[]⟩,[],[],[],[]⟩
section
variable (d:DFA) (m n:Nat) (S O:List Nat)
def z4Y(x:List Nat)(i:Nat):List (List Nat):=(List.range m).map fun a=>(z9G d m n S O a x).getD i []
def wC(x:List Nat)(a i:Nat):List (List Int):=(List.range a).map fun b=>toI ((z9G d m n S O b x).getD i [])
end
section
variable {d:DFA} {m n:Nat} {S:List Nat} (hd:DfaOk d m n) (hn:n<=7) (hS:SetsP d m n S) {O:List Nat} (hH:zlS d m n S) (hO:OrdC d m n S O) (hpos:∀x∈S,x≠0) (hbot:∀i k,i<S.length->k<S.length->zet S k=true->z7w d m n S i k=true->zet S i=true)
theorem zyr:wC d m n S O x m i=(z4Y d m n S O x i).map toI:=by
 unfold wC z4Y
 rw[Y3];rfl
theorem zyq{a:Nat}:wC d m n S O x (a+1) i=wC d m n S O x a i++ [toI ((z9G d m n S O a x).getD i [])]:=by
 unfold wC
 rw[YA,ZY];rfl
theorem zAy{a:Nat}:(wC d m n S O x a i).length=a:=by simp[wC]
include hd hn hS hH hO hpos
include hbot
end
end
section
open Go
theorem zuO(x y:List Int):zah y x= -zah x y:=by
 have:=z8l x y
 unfold zah
 split
 · split
   · omega
   · rfl
 · split
   · rfl
   · exact this
theorem zr5{x y z:List Int}(h1:zah x y<0)(h2:zah y z<0):zah x z<0:=by
 unfold zah at*
 have l1:x.length<=y.length:=by
  rcases Yw y.length x.length with hh|hh
  · rw[if_neg (by omega),if_pos hh] at h1;omega
  · exact hh
 have l2:y.length<=z.length:=by
  rcases Yw z.length y.length with hh|hh
  · rw[if_neg (by omega),if_pos hh] at h2;omega
  · exact hh
 by_cases b1:x.length<z.length
 · rw[if_pos b1];omega
 · rw[if_neg b1,if_neg (by omega)]
   rw[if_neg (by omega),if_neg (by omega)] at h1 h2
   have h3:=z7T x y z (by omega) (by omega)
   by_cases e:z8F x z=0
   · have:=h3.2 e;omega
   · omega
def ltR(r q:zan):Prop:=zah (toI r.1) (toI q.1)<0
instance(r q:zan):Decidable (ltR r q):=by unfold ltR;exact inferInstance
theorem zt2{a b c:zan}(h1:ltR a b)(h2:ltR b c):ltR a c:=zr5 h1 h2
theorem zBt{a b:zan}(hne:a.1≠b.1)(h:¬ltR a b):ltR b a:=by
 unfold ltR at*
 rw[zuO]
 have:zah (toI a.1) (toI b.1)≠0:=fun e=>hne (zrK ((zgG _ _).1 e))
 omega
section
variable {d:DFA} {z1:List Int} {z2:List Hol×Int} {z3:List Int}
end
end
section
open Go
theorem znR(e:List Nat):(toI e).map Int.toNat=e:=by
 unfold toI;rw[Y3]
 have:(Int.toNat∘fun x:Nat=>(x:Int))=id:=by funext x;simp
 rw[this,YW]
section
variable {d:DFA} {m n:Nat} {S:List Nat} (hd:DfaOk d m n) (hn:n<=7) (hS:SetsP d m n S) {O:List Nat} (hH:zlS d m n S) (hO:OrdC d m n S O) (hpos:∀x∈S,x≠0) (hbot:∀i k,i<S.length->k<S.length->zet S k=true->z7w d m n S i k=true->zet S i=true)
def zAg(d:DFA)(m n:Nat)(S O:List Nat)(x:List Nat):Nat:=tzN (S.getD (z8o d m n S O 0 0 x) 0)
include hd hn hS hH hO hpos
structure CovOk(d:DFA)(m n:Nat)(S O:List Nat)(z1:List Int)(G:List Hol)(c:Cover):Prop where
 ex:∃T Y:List (List Nat),∃W:List zan,zlL (z6R d m n S O) m 2001 0 [z4x d m n S O]=some T/\Y.map toI=z8Q (T.map toI)/\Y.Perm T/\W.Pairwise ltR/\RowsOk (z4Y d m n S O) O.length T W/\
  c=⟨⟨d.letters,z1,W.map zji⟩,toI (z4x d m n S O),Y.map toI,toI (Y.map (zAg d m n S O)),G⟩
theorem zmA{f:List Nat->Nat->List (List Nat)}{L:Nat}{M:List (List Nat)}{R W:List zan}(h:RowsOk f L M R)(hp:W.Perm R):RowsOk f L M W:=by
 have _u:=hd;have _v:=hn;have _w:=hS;have _x:=hH;have _y:=hO;have _z:=hpos
 exact⟨(hp.pairwise_iff fun {a b} h e=>h e.symm).2 h.nd,fun r hr=>h.of r (hp.mem_iff.1 hr),fun x hx i hi=>by obtain⟨r,hr,e⟩:=h.al x hx i hi;exact⟨r,hp.mem_iff.2 hr,e⟩⟩
include hbot
end
end
section
open Go
variable{l p:List Int}{N:Nat}
def zg5(N:Nat)(X:List Int):List Bool:=(List.range N).map fun x:Nat=>decide ((x:Int)∈X)
theorem zws{X:List Int}:(zg5 N X).length=N:=by simp[zg5]
theorem zBr:zg5 N []=List.replicate N false:=by
 unfold zg5;exact Zf (by simp) fun i h1 h2=>by simp
theorem zzj{v:Nat}{X:List Int}(h:v<N):atI (zg5 N X) (v:Int)=some (decide ((v:Int)∈X)):=by
 rw[z1k (by rw[zws];exact h)];simp[zg5]
theorem zwq{v:Nat}{X:List Int}(h:v<N):(zg5 N X).set v true=zg5 N (X++ [(v:Int)]):=by
 refine Zf (by simp[zg5]) fun i h1 h2=> ?_
 rw[Y9]
 simp only[zg5,ZG,ZQ,Ze,Zj]
 by_cases e:v=i
 · subst e;simp
 · rw[if_neg e]
   exact decide_eq_decide.2 ⟨fun h=>.inl h,fun h=>h.elim id fun h=>absurd h (by omega)⟩
theorem zvJ{k:Nat}(h:k<l.length):l.take (k+1)=l.take k++ [l[k]]:=by rw[ZA h]
theorem zi0:l.Nodup↔ ∀k (h:k<l.length),l[k]∉l.take k:=by
 rw[List.nodup_iff_pairwise_ne,ZK]
 constructor
 · intro h k hk hm
   obtain⟨i,hi,e⟩:=Zt hm
   rw[Zq] at hi
   rw[Xv] at e
   exact h i k (by omega) hk (by omega) e
 · intro h i j hi hj hij e
   refine h j hj ?_
   have:i<(l.take j).length:=by rw[Zq];omega
   have h2:=Zw this
   rw[Xv,e] at h2
   exact h2
def zfX(N:Nat)(p:List Int):Bool:=decide (p.length=N)&&(p.all (fun x=>decide (0<=x/\x<(N:Int)))&&decide p.Nodup)
theorem ziG:zfX N p=true↔p.length=N/\(∀x∈p,0<=x/\x<(N:Int))/\p.Nodup:=by
 simp[zfX]
def zAt(N:Nat)(p:List Int)(k:Nat):Bool:= !decide (0<=p.getD k 0/\p.getD k 0<(N:Int))||decide (p.getD k 0∈p.take k)
theorem zA8(hl:p.length=N):((List.range N).all fun k=> !zAt N p k)=zfX N p:=by
 rw[Yf,ziG,Zn]
 have hg:∀k (h:k<p.length),p.getD k 0=p[k]:=fun k h=>by rw[List.getD,Z1 h,Zb]
 constructor
 · intro h
   refine⟨hl,fun x hx=> ?_,zi0.2 fun k hk=> ?_⟩
   · obtain⟨k,hk,rfl⟩:=Zt hx
     have:=h k (Zk.2 (by omega))
     simp only[zAt,hg k hk] at this
     simp at this
     exact this.1
   · have:=h k (Zk.2 (by omega))
     simp only[zAt,hg k hk] at this
     simp at this
     exact this.2
 · rintro⟨_,h1,h2⟩ k hk
   have hk:=Zk.1 hk
   have a:=h1 _ (Zw (show k<p.length by omega))
   have b:=zi0.1 h2 k (by omega)
   simp only[zAt,hg k (by omega)]
   simp[a,b]
theorem zwe{Q:List (List Int)}(hN:N<=1000)(hQ:Q.length<4611686018427387904):z3r Q (N:Int)=some (Q.all (zfX N)):=by
 unfold z3r
 rw[zg8 (b:=z2A Q (N:Int)) (l:=Q) [] (zfX N) (A:=some false) (B:=some true) hQ ?_ ?_]
 · cases Q.all (zfX N)<;>rfl
 · intro k hk
   have hg:Q.getD k []=Q[k]:=by rw[List.getD,Z1 hk,Zb]
   simp only[z2A]
   rw[if_pos (by omega),z1k hk,Z0,hg]
   generalize Q[k]=p
   by_cases hl:p.length=N
   · rw[if_pos (by omega),z0j _ (by unfold z0X;omega),Z3,←zA8 hl,
      z7p (s:=((0:Int),List.replicate N false)) N (fun t=>((t:Int),zg5 N (p.take t))) (zAt N p) (fun _=>z0i (some false)) (x:=z0c ((k+1:Nat):Int)) (by rw[Xq,zBr];rfl) (by simp only[LFm];omega) ?_ ?_]
     · rw[zeK]
     · intro t ht
       have ht':t<p.length:=by omega
       have hgt:p.getD t 0=p[t]:=by rw[List.getD,Z1 ht',Zb]
       simp only[z3v,zAt,hgt]
       rw[if_pos (by omega),z1k ht',Z0,zvJ ht']
       generalize p[t]=v
       by_cases c1:v<0
       · rw[if_pos c1,if_pos (by simp;omega)]
       · rw[if_neg c1]
         by_cases c2:(N:Int)<=v
         · rw[if_pos c2,if_pos (by simp;omega)]
         · obtain⟨u,rfl⟩:=ZF (show 0<=v by omega)
           rw[if_neg c2,zzj (by omega),Z0]
           by_cases c3:(u:Int)∈p.take t
           · rw[if_pos (by simpa using c3),if_pos (by simp[c3])]
           · rw[if_neg (by simpa using c3),if_neg (by simp[c3];omega),z1g (by omega),Z3,zwq (by omega)]
     · simp only[z3v]
       rw[if_neg (by omega),z1g (by omega)]
   · have:zfX N p=false:=by unfold zfX;rw[decide_eq_false hl];rfl
     rw[if_neg (by omega),this,if_neg (by simp)]
 · simp only[z2A]
   rw[if_neg (by omega)]
end
section
open Go
def zxY(n:Nat)(s:Int):Bool:=decide (0<=s/\s<((2^n:Nat):Int))
theorem zo7{n:Nat}{s:Int}:zxY n s=true↔0<=s/\s.toNat<2^n:=by
 unfold zxY;rw[decide_eq_true_eq];omega
def zzu(d:DFA)(h:Hol)(k:Nat):Bool:=decide (((z4y d h.set.toNat (h.words.getD k ByteArray.empty).data.toList:Nat):Int)=h.set)&&(List.range h.tiles.length).all fun i=>decide (((z4y d (h.tiles.getD i 0).toNat (h.words.getD k ByteArray.empty).data.toList:Nat):Int)=h.tiles.getD ((h.perms.getD k []).getD i 0).toNat 0)
def zEM(d:DFA)(m n:Nat)(h:Hol):Bool:=zxY n h.set&&(decide (h.words.length=h.perms.length)&&(decide (1<=h.tiles.length/\h.tiles.length<=32)&&(h.tiles.all (zxY n)&&((List.range h.words.length).all fun k=>decide (zvC m (h.words.getD k ByteArray.empty))&&(zfX h.tiles.length (h.perms.getD k [])&&zzu d h k)))))
section
variable {d:DFA} {m n:Nat} (hd:DfaOk d m n) (hn:n<=12) {h:Hol} (hs:zxY n h.set=true) (hT:h.tiles.all (zxY n)=true) (hl:h.tiles.length<=32)
include hd hn hs hT hl
end
end
section
open Go
theorem zuX{d:DFA}{m n:Nat}{h:Hol}:zEM d m n h=true↔zxY n h.set=true/\h.words.length=h.perms.length/\(1<=h.tiles.length/\h.tiles.length<=32)/\h.tiles.all (zxY n)=true/\ ∀k,k<h.words.length->zvC m (h.words.getD k ByteArray.empty)/\zfX h.tiles.length (h.perms.getD k [])=true/\zzu d h k=true:=by
 unfold zEM
 simp only[Z6,decide_eq_true_eq,Zn,Zk]
section
variable {d:DFA} {m n:Nat} (hd:DfaOk d m n) (hn:n<=12) {h:Hol} (hw:h.words.length<2^61) (hp:h.perms.length<2^61)
include hd hn hw hp
end
end
section
open Go
def zDd(a:Nat):ByteArray:=⟨#[UInt8.ofNat (IntKind.u8.wrap (IntKind.i64.wrap (97+(a:Int)))).toNat]⟩
def zq6(W:List ByteArray)(w:ByteArray):Nat->Option (List Int)
 |0=>some []
 |a+1=>match zq6 W w a with
  |none=>none
  |some row=>if z9O w (zDd a) then(match z0k (z4b W (a:Int) row) LFm (w++zDd a,-1) with
   |some (.inl (x,r))=>if x=((a+1:Nat):Int) then some r else none
   |_=>none) else none
def zAr(m L:Nat):Bool:=match z6V m L with
 |none=>false
 |some W=>decide (1<=W.length)&&decide (W.length<=7)&&W.all fun w=>match zq6 W w m with
  |none=>false
  |some r=>decide (r.length=m)&&r.all fun x=>decide (0<=x/\x<(W.length:Int))
theorem zA4:zAr 1 1=true/\zAr 1 2=true/\zAr 2 1=true/\zAr 2 2=true:=⟨by kernel_rfl,by kernel_rfl,by kernel_rfl,by kernel_rfl⟩
theorem zCT{m:Nat}{W:List ByteArray}{i:Int}{fs:List Bool}{rs:List (List Int)}{w:ByteArray}{v:Int×Tape}{r:List Int}(hm:m<=6)(h:zq6 W w m=some r):
 z0k (z3o (m:Int) W i fs rs w v) LFm (0,[])=chk (z1B 24 (rs.length+1)) (z0c (IntKind.i64.wrap (i+1),v.2.l,v.2.at_,fs++ [decide (v.1=1)],rs++ [r])):=by
 have key:∀a,a<=m->∃r',zq6 W w a=some r':=by
  have:∀j a,a+j=m->∃r',zq6 W w a=some r':=by
   intro j
   induction j with
   |zero=>intro a ha;obtain rfl:a=m:=by omega
          exact⟨r,h⟩
   |succ j ih=>
    intro a ha
    obtain⟨r',hr'⟩:=ih (a+1) (by omega)
    rw[zq6] at hr'
    split at hr'
    · cases hr'
    · rename_i row hrow;exact⟨row,hrow⟩
  intro a ha
  exact this (m-a) a (by omega)
 refine z0x (s:=((0:Int),([]:List Int))) m (fun a=>((a:Int),(zq6 W w a).getD [])) rfl (by simp only[LFm];omega) (fun a ha=> ?_) ?_
 · obtain⟨r1,h1⟩:=key a (by omega)
   obtain⟨r2,h2⟩:=key (a+1) (by omega)
   rw[h1,h2,Zb,Zb]
   rw[zq6,h1] at h2
   simp only[z3o]
   rw[if_pos (by omega)]
   dsimp only at h2
   split at h2
   case isFalse=>cases h2
   rename_i hc
   change chk (z9O w (zDd a)) (z0k (z4b W (a:Int) r1) LFm (w++zDd a,-1))=_
   rw[z0j _ hc]
   split at h2
   · rename_i x q hq
     split at h2
     · rename_i hx
       cases h2
       rw[←hx]
       exact hq
     · cases h2
   · cases h2
 · simp only[z3o]
   rw[if_neg (by omega),h,Zb]
end
section
open Go
def defT:List (List Int):= [[1,2],[3,4],[5,6],[3,4],[5,6],[3,4],[5,6]]
theorem zEG(l s:Int)(f:List Bool):(z1A ⟨l,s,f,defT⟩ 2 7).length=10:=by kernel_rfl
def zAf(m L:Nat):Bool:=match z6V m L with
 |none=>true
 |some W=>decide (W.length<=4)||(decide (W.length=7)&&decide (m=2)&&decide ((W.map fun w=>zq6 W w m)=defT.map some))
theorem zAJ:zAf 1 1=true/\zAf 1 2=true/\zAf 2 1=true/\zAf 2 2=true:=⟨by kernel_rfl,by kernel_rfl,by kernel_rfl,by kernel_rfl⟩
theorem zrP(m L:Nat):match z6V m L with
 |none=>True
 |some W=>1<=m/\m<=2->1<=L/\L<=2->W.length<=4∨(W.length=7/\m=2/\(W.map fun w=>zq6 W w m)=defT.map some):=by
 cases hW:z6V m L with
 |none=>trivial
 |some W=>
  intro hm hL
  have h:zAf m L=true:=by
   obtain⟨c1,c2,c3,c4⟩:=zAJ
   rcases(by omega:(m=1/\L=1)∨(m=1/\L=2)∨(m=2/\L=1)∨(m=2/\L=2)) with⟨rfl,rfl⟩|⟨rfl,rfl⟩|⟨rfl,rfl⟩|⟨rfl,rfl⟩
   · exact c1
   · exact c2
   · exact c3
   · exact c4
  unfold zAf at h
  rw[hW] at h
  simpa[and_assoc] using h
theorem zkC{d:DFA}{m n:Nat}(hd:DfaOk d m n)(hn:n<=5):(z1A d m n).length<=32:=by
 have hS:=z7y hd
 have:=z2n hS.nd hS.lt
 have h32:2^n<=32:=Zi (n:=2) (by omega) hn
 omega
theorem zlx{t:Tape}(ht:TapeOk t)(m:Nat)(hm:1<=m/\m<=2):∃d t' n,z4l t m=some (d,t')/\DfaOk d m n/\n<=7/\TapeOk t'/\(n<=4∨(n=7/\m=2/\d.next=defT)):=by
 unfold z4l
 obtain⟨v,t1,e1,v0,v1,ht1⟩:=z7z ht 2 (by omega) (by omega)
 simp only[e1,Z0]
 obtain⟨k,rfl⟩:=ZF v0
 have hw:IntKind.i64.wrap (1+(k:Int))=((k+1:Nat):Int):=by rw[z2Y (by omega) (by omega)];omega
 rw[hw]
 have hchk:zAr m (k+1)=true:=by
  obtain⟨c1,c2,c3,c4⟩:=zA4
  rcases(by omega:(m=1/\k=0)∨(m=1/\k=1)∨(m=2/\k=0)∨(m=2/\k=1)) with⟨rfl,rfl⟩|⟨rfl,rfl⟩|⟨rfl,rfl⟩|⟨rfl,rfl⟩
  · exact c1
  · exact c2
  · exact c3
  · exact c4
 have hsmall:=zrP m (k+1)
 have htab:m=2/\k=1∨ ¬(m=2/\k=1):=Decidable.em _
 unfold zAr at hchk
 split at hchk
 · cases hchk
 rename_i W hW
 simp only[Z6,decide_eq_true_eq,Zn] at hchk
 obtain⟨⟨hW1,hW7⟩,hrow⟩:=hchk
 rw[hW,Z0]
 have hfin:∀nx:List (List Int),nx.map some=(W.map fun w=>zq6 W w m)->W.length<=4∨(W.length=7/\m=2/\nx=defT):=fun nx hnx=>by
  rw[hW] at hsmall
  rcases hsmall hm (by omega) with h|⟨h1,h2,h3⟩
  · exact .inl h
  · refine .inr ⟨h1,h2,?_⟩
    rw[h3] at hnx
    have:=congrArg (fun l=>l.map (fun o:Option (List Int)=>o.getD [])) hnx
    simpa[Function.comp_def] using this
 refine Exists.elim (z2c (b:=z4k (m:Int) W) (fun z=>0<=z.1/\z.1<=W.length/\TapeOk ⟨z.2.1,z.2.2.1⟩/\(z.2.2.2.1.length:Int)=z.1/\(z.2.2.2.2.length:Int)=z.1/\(∀r∈z.2.2.2.2,z9f m W.length r)/\z.2.2.2.2.map some=(W.take z.1.toNat).map fun w=>zq6 W w m) (fun z=>W.length+1-z.1.toNat)
  (fun r=>DfaOk r.1 m W.length/\TapeOk r.2/\r.1.next.map some=W.map fun w=>zq6 W w m) ?_ LFm (0,t1.l,t1.at_,[],[]) ⟨by simp,by simp,ht1,by simp,by simp,by simp,by simp⟩ (by simp only[LFm];omega)) fun r h=>⟨r.1,r.2,W.length,h.1,h.2.1,hW7,h.2.2.1,hfin r.1.next h.2.2.2⟩
 rintro⟨i,tl,ta,fs,rs⟩ ⟨i0,i1,i2,i3,i4,i5,i6⟩
 simp only at i0 i1 i2 i3 i4 i5 i6⊢
 obtain⟨i,rfl⟩:=ZF i0
 simp only[z4k]
 by_cases hi:(i:Int)<(W.length:Int)
 · left
   have hi':i<W.length:=by omega
   rw[if_pos hi,z1k hi',Z0]
   obtain⟨u,t3,e3,u0,u1,ht3⟩:=z7z i2 2 (by omega) (by omega)
   rw[e3,Z0,z0j _ (by unfold z1B;omega)]
   have hr:=hrow _ (Zw hi')
   split at hr
   · cases hr
   rename_i r hr0
   simp only[Z6,decide_eq_true_eq,Zn] at hr
   rw[zCT (by omega) hr0,z0j _ (by unfold z1B;omega),z2Y (by omega) (by omega)]
   refine⟨_,rfl,⟨by simp only;omega,by simp only;omega,ht3,by simp only[Za,ZE];omega,by simp only[Za,ZE];omega,fun y hy=> ?_,?_⟩,by simp only;omega⟩
   rotate_left
   · rw[Z3] at i6
     have e:((i:Int)+1).toNat=i+1:=by omega
     rw[e,ZY,i6,ZA hi',ZY,Zs,Ys,Zs,Ys,hr0]
   rcases zcy.1 hy with h|rfl
   · exact i5 y h
   · exact⟨hr.1,fun x hx=>hr.2 x hx⟩
 · right
   rw[if_neg hi]
   exact⟨_,rfl,⟨rfl,by omega,by omega,by omega,by simp only;omega,by simp only;omega,by simp only;omega,by simp only;omega,i5⟩,i2,by rw[i6,show(i:Int).toNat=W.length by omega,Yr]⟩
end
section
open Go
structure HolOk(m n:Nat)(h:Hol):Prop where
 t1:1<=h.tiles.length
 t2:h.tiles.length<=32
 wp:h.words.length=h.perms.length
 wl:h.words.length<=1000
 wb:∀w∈h.words,w.size<=257
 pl:∀p∈h.perms,p.length=h.tiles.length
section
variable {d:DFA} {m n:Nat} {S:List Nat} (hd:DfaOk d m n) (hn:n<=7) (hS:SetsP d m n S)
include hd hn hS
theorem zue{c:Nat}(hc:c<(z6n d m n S).length)(hz:szN (S.getD (z2d d m n S c) 0)≠1)(hpos:∀x∈S,x≠0)(h32:S.length<=32):HolOk m n (za9 d m n S c)/\zEM d m n (za9 d m n S c)=true:=by
 have h128:2^n<=128:=Zi (n:=2) (by omega) hn
 have h6:=hd.m6
 have hk:=(z2I hd hn hS hc).2
 have hI:=zvj hd hn hS (c:=c) S.length (Z5 _)
 obtain⟨t1,t2⟩:=z7Z hd hn hS hk
 have tl32:(z2K S (z2d d m n S c)).length<=S.length:=z8c t1 fun t ht=>(t2 t ht).1
 have hkl:=hS.lt _ (z0f hk)
 have tpos:1<=(z2K S (z2d d m n S c)).length:=by
  have hne:=hpos _ (z0f hk)
  obtain⟨q,hq⟩:∃q,(S.getD (z2d d m n S c) 0).testBit q=true:=by
   refine Y6 fun h=>hne (ZS fun q=> ?_)
   rw[X9]
   cases hh:(S.getD (z2d d m n S c) 0).testBit q with
   |false=>rfl
   |true=>exact absurd ⟨q,hh⟩ h
  obtain⟨t,ht,_⟩:=zcf hd hn hS hk hz hq
  have:=YT ht
  rw[zdt];omega
 have hB:S.length*m<=32*6:=Nat.mul_le_mul h32 h6
 have hbd:=hI.bd
 have hln:=hI.len
 have htI:(toI (z2K S (z2d d m n S c))).length=(z2K S (z2d d m n S c)).length:=z0b _
 refine⟨⟨by simp only[za9];omega,by simp only[za9];omega,by simp only[za9,Zh];omega,by simp only[za9];omega,fun w hw=> ?_,fun p hp=> ?_⟩,zuX.2 ⟨?_,by simp only[za9,Zh];omega,by simp only[za9];omega,?_,fun j hj=> ?_⟩⟩
 · simp only[za9] at hw
   obtain⟨j,hj,rfl⟩:=Zt hw
   obtain⟨_,e,_⟩:=zcM hI hj
   rw[List.getD,Z1 hj,Zb] at e
   omega
 · simp only[za9] at hp⊢
   obtain⟨y,hy,rfl⟩:=Zm.1 hp
   rw[z0b,z0b,zoD hI y hy]
 · simp only[za9];exact zo7.2 ⟨by omega,by rw[Z3];exact hkl⟩
 · simp only[za9]
   refine Zn.2 fun x hx=> ?_
   obtain⟨t,ht,rfl⟩:=Zm.1 hx
   exact zo7.2 ⟨by omega,by rw[Z3];exact(t2 t ht).2.2⟩
 · simp only[za9] at hj⊢
   obtain⟨l1,l2,l3⟩:=zcM hI hj
   have hj2:j<(zjA d m n S (z2K S (z2d d m n S c)) c S.length).2.length:=by omega
   have ep:((zjA d m n S (z2K S (z2d d m n S c)) c S.length).2.map toI).getD j []=toI ((zjA d m n S (z2K S (z2d d m n S c)) c S.length).2.getD j []):=by
    simp[List.getD,hj2]
   rw[l3] at ep
   obtain⟨p1,p2,p3⟩:=zaJ hd hn hS hk l1
   generalize hw:(zjA d m n S (z2K S (z2d d m n S c)) c S.length).1.getD j ByteArray.empty=w at*
   refine⟨⟨by omega,l1.hw⟩,?_,?_⟩
   · rw[ep,htI]
     refine ziG.2 ⟨by rw[z0b,zcv],fun x hx=> ?_,?_⟩
     · obtain⟨y,hy,rfl⟩:=Zm.1 hx
       have:=p2 y hy
       omega
     · exact YC _ (fun a b (hab:a≠b)=>by intro e;exact hab (by omega)) p1
   · unfold zzu
     simp only[za9]
     rw[hw,ep,htI,Z6,decide_eq_true_eq,Z3]
     refine⟨by rw[l1.run],Zn.2 fun i hi=> ?_⟩
     have hi:=Zk.1 hi
     have hpi:i<(z3F d w.data.toList (z2K S (z2d d m n S c))).length:=by rw[zcv];exact hi
     have g1:(toI (z2K S (z2d d m n S c))).getD i 0=(((z2K S (z2d d m n S c)).getD i 0:Nat):Int):=by simp[toI,List.getD,hi]
     have g2:(toI (z3F d w.data.toList (z2K S (z2d d m n S c)))).getD i 0=(((z3F d w.data.toList (z2K S (z2d d m n S c))).getD i 0:Nat):Int):=by simp[toI,List.getD,hpi]
     have hlt:=p2 _ (z0f hpi)
     have g3:(toI (z2K S (z2d d m n S c))).getD ((z3F d w.data.toList (z2K S (z2d d m n S c))).getD i 0) 0=(((z2K S (z2d d m n S c)).getD ((z3F d w.data.toList (z2K S (z2d d m n S c))).getD i 0) 0:Nat):Int):=by
      generalize (z3F d w.data.toList (z2K S (z2d d m n S c))).getD i 0=q at*
      simp[toI,List.getD,hlt]
     rw[g1,g2,Z3,Z3,g3,p3 i hi,decide_eq_true_eq]
end
end
section
open Go
variable{v w:List UInt8}{c k:Nat}
theorem zzE{d:DFA}{m n:Nat}{S:List Nat}(h:0<z7A d m n S k):szN (S.getD k 0)≠1:=fun e=>by
 have hz:zet S k=true:=by unfold zet;rw[decide_eq_true e]
 unfold z7A zoF at h
 cases hN:S.length with
 |zero=>rw[hN] at h;simp[zwN] at h
 |succ N=>rw[hN] at h;simp only[zwN] at h;rw[if_pos hz] at h;omega
def zqX(n:Nat):List Nat->Nat
 | []=>0
 |x::l=>x+n*zqX n l
theorem zng{n:Nat}:∀ {l:List Nat},(∀x∈l,x<n)->zqX n l<n^l.length
 | [],_=>by simp[zqX]
 |x::l,h=>by
  have h1:=h x (Zy ..)
  have h2:=zng (l:=l) (fun y hy=>h y (Zl _ hy))
  rw[zqX,Zr,Nat.pow_succ]
  have:n*zqX n l+n<=n^l.length*n:=by
   have:=Nat.mul_le_mul_left n h2
   rw[Nat.mul_succ] at this
   rwa [Nat.mul_comm (n^l.length)]
  omega
theorem zjj{n:Nat}:∀ {l r:List Nat},(∀x∈l,x<n)->(∀x∈r,x<n)->l.length=r.length->zqX n l=zqX n r->l=r
 | [],[],_,_,_,_=>rfl
 | [],_::_,_,_,h,_=>by simp at h
 |_::_,[],_,_,h,_=>by simp at h
 |x::l,y::r,hl,hr,hlen,h=>by
  have h1:=hl x (Zy ..)
  have h2:=hr y (Zy ..)
  rw[zqX,zqX] at h
  have e1:x=y:=by
   have:=congrArg (·%n) h
   simpa[Nat.add_mul_mod_self_left,YZ h1,YZ h2] using this
  subst e1
  have e2:zqX n l=zqX n r:=Nat.eq_of_mul_eq_mul_left (show 0<n by omega) (by omega)
  rw[zjj (fun z hz=>hl z (Zl _ hz)) (fun z hz=>hr z (Zl _ hz)) (by simpa using hlen) e2]
section
variable {d:DFA} {m n:Nat} {S:List Nat} (hd:DfaOk d m n) (hn:n<=7) (hS:SetsP d m n S)
include hd hn hS
theorem zwA(hk:k<S.length):Lead d m n (S.getD k 0) (S.getD k 0) []:=by
 have _u:=hd
 have _v:=hn
 exact⟨fun c hc=>by simp at hc,hS.lt _ (z0f hk),hS.lt _ (z0f hk),rfl,rfl⟩
theorem zwf(hk:k<S.length):z3F d [] (z2K S k)=List.range (z2K S k).length:=by
 obtain⟨h1,h2⟩:=z7Z hd hn hS hk
 refine Zf (by simp[z3F]) fun i i1 i2=> ?_
 have hi:i<(z2K S k).length:=by simpa[z3F] using i1
 simp only[z3F,ZG,ZQ,z4y]
 have hm:(z2K S k)[i]∈z2K S k:=Zw hi
 have e:=z4i hm
 have e2:(z2K S k).getD i 0=(z2K S k)[i]:=by grind
 exact z6G h1 (z6j hm) hi (by rw[e,e2])
theorem zwg(hk:k<S.length)(h1:Lead d m n (S.getD k 0) (S.getD k 0) w):zbh (z3F d w (z2K S k)) (z3F d v (z2K S k))=z3F d (w++v) (z2K S k):=by
 have hr:=zmo hd hn hS hk h1
 unfold zbh
 rw[show z3F d w (z2K S k)=(z2K S k).map fun t=>(z2K S k).idxOf (z4y d t w) from rfl,Y3]
 refine ZB fun t ht=> ?_
 have hm:=hr t ht
 show(z3F d v (z2K S k)).getD ((z2K S k).idxOf (z4y d t w)) 0=(z2K S k).idxOf (z4y d t (w++v))
 rw[zsI (z6j hm),z4i hm,←z6T]
def zgt(d:DFA)(m n:Nat)(S:List Nat)(c:Nat):List (List Nat):=(zjA d m n S (z2K S (z2d d m n S c)) c S.length).2
theorem zlj{g:List Nat}(hg:g∈zgt d m n S c):∃w,Lead d m n (S.getD (z2d d m n S c) 0) (S.getD (z2d d m n S c) 0) w/\g=z3F d w (z2K S (z2d d m n S c)):=by
 have hI:=zvj hd hn hS (c:=c) S.length (Z5 _)
 obtain⟨j,hj,rfl⟩:=Zt hg
 obtain⟨l1,l2,l3⟩:=zcM hI (j:=j) (by rw[hI.len];exact hj)
 have hj':j<(zjA d m n S (z2K S (z2d d m n S c)) c S.length).2.length:=hj
 rw[List.getD,Z1 hj',Zb] at l3
 exact⟨_,l1,l3⟩
theorem ztZ(hk:k<S.length)(h:Lead d m n (S.getD k 0) (S.getD k 0) w):PermL (z2K S k).length (z3F d w (z2K S k)):=by
 obtain⟨p1,p2,_⟩:=zaJ hd hn hS hk h
 exact⟨zcv _ _ _,p1,p2⟩
theorem zum(hcl:c<(z6n d m n S).length):∀g∈zgt d m n S c,PermL (z2K S (z2d d m n S c)).length g:=fun g hg=>by
 obtain⟨w,h,rfl⟩:=zlj hd hn hS hg
 exact ztZ hd hn hS (z2I hd hn hS hcl).2 h
theorem zhW(hcl:c<(z6n d m n S).length){e:List Nat}(h:RchG (z2K S (z2d d m n S c)).length (zgt d m n S c) e):∃w,Lead d m n (S.getD (z2d d m n S c) 0) (S.getD (z2d d m n S c) 0) w/\e=z3F d w (z2K S (z2d d m n S c)):=by
 have hk:=(z2I hd hn hS hcl).2
 induction h with
 |one=>exact⟨[],zwA hd hn hS hk,(zwf hd hn hS hk).symm⟩
 |step e g _ hg ih=>
  obtain⟨w,h1,rfl⟩:=ih
  obtain⟨v,h2,rfl⟩:=zlj hd hn hS hg
  exact⟨w++v,zaO h1 h2,zwg hd hn hS hk h1⟩
theorem zmJ(hk:k<S.length)(hw:ziM m w)(hv:ziM m v)(h:zh8 d n w=zh8 d n v):z3F d w (z2K S k)=z3F d v (z2K S k):=by
 obtain⟨_,h2⟩:=z7Z hd hn hS hk
 refine ZB fun t ht=> ?_
 have ha:∀i,i<n->z8r d i w=z8r d i v:=fun i hi=>by
  have:=congrArg (fun l=>l.getD i 0) h
  simpa[zh8,List.getD,hi] using this
 have e:z4y d t w=z4y d t v:=ZS fun p=>by
  rw[Yf,z9r hd hw (h2 t ht).2.2,z9r hd hv (h2 t ht).2.2]
  refine exists_congr fun i=>and_congr_right fun hi=>and_congr_right fun _=> ?_
  rw[ha i hi]
 rw[e]
theorem zsx(hcl:c<(z6n d m n S).length)(hn4:n<=4):∀l:List (List Nat),l.Nodup->(∀e∈l,RchG (z2K S (z2d d m n S c)).length (zgt d m n S c) e)->l.length<=2000:=fun l hnd hl=>by
 have hk:=(z2I hd hn hS hcl).2
 have hex:∀e∈l,∃w,ziM m w/\e=z3F d w (z2K S (z2d d m n S c)):=fun e he=>by
  obtain⟨w,h1,h2⟩:=zhW hd hn hS hcl (hl e he)
  exact⟨w,h1.hw,h2⟩
 obtain⟨wd,hwd⟩:∃wd:List Nat->List UInt8,∀e∈l,ziM m (wd e)/\e=z3F d (wd e) (z2K S (z2d d m n S c)):=by
  classical
  exact⟨fun e=>if h:∃w,ziM m w/\e=z3F d w (z2K S (z2d d m n S c)) then h.choose else [],fun e he=>by
   simp only
   rw[dif_pos (hex e he)];exact(hex e he).choose_spec⟩
 have hlt:∀e∈l,∀x∈zh8 d n (wd e),x<n:=fun e he x hx=>by
  obtain⟨q,hq,rfl⟩:=Zm.1 hx
  exact zij hd (Zk.1 hq) (hwd e he).1
 have hlen:∀e,(zh8 d n (wd e)).length=n:=fun e=>by simp[zh8]
 have h1:(l.map fun e=>zqX n (zh8 d n (wd e))).Nodup:=z5r hnd fun x hx y hy e=>by
  have:=zjj (hlt x hx) (hlt y hy) (by rw[hlen x,hlen y]) e
  rw[(hwd x hx).2,(hwd y hy).2,zmJ hd hn hS hk (hwd x hx).1 (hwd y hy).1 this]
 have h2:=z2n h1 (N:=n^n) fun x hx=>by
  obtain⟨e,he,rfl⟩:=Zm.1 hx
  have:=zng (hlt e he)
  rwa [hlen] at this
 rw[Zh] at h2
 have h3:n^n<=4^4:=ZJ (Nat.pow_le_pow_left hn4 n) (Zi (by omega) hn4)
 omega
end
theorem zuJ:∀a,a<2->∀b,b<2->∀q,q<7->((defT.getD (((defT.getD q []).getD a 0).toNat) []).getD b 0)=((defT.getD (((defT.getD 0 []).getD a 0).toNat) []).getD b 0):=by decide
theorem zAK:∀p,p<7->szN (2^p)=1:=by decide
section
variable {d:DFA} (hd:DfaOk d 2 7) (hT:d.next=defT)
include hd hT
omit hd in
theorem zuK{a b:UInt8}(h:ziM 2 (a::b::w)){q:Nat}(hq:q<7):z8r d q (a::b::w)=z8r d 0 (a::b::w):=by
 have ha:=(zbK h).2
 have hb:=(zbK (zbK h).1).2
 have:=zuJ _ ha _ hb q hq
 have e:nxN d (nxN d q (a.toNat-97)) (b.toNat-97)=nxN d (nxN d 0 (a.toNat-97)) (b.toNat-97):=by
  unfold nxN;rw[hT,this]
 rw[z8r,z8r,z8r,z8r,e]
theorem zzS{K:Nat}(h:Lead d 2 7 K K w)(hw:w≠ [])(hK:K≠0):szN K=1:=by
 have h2:=zaO h h
 have hone:∀p q,K.testBit p=true->K.testBit q=true->p=q:=fun p q hp hq=>by
  have hr:∀p,K.testBit p=true->∃i,i<7/\z8r d i (w++w)=p:=fun p hp=>by
   have:(z4y d K (w++w)).testBit p=true:=by rw[h2.run];exact hp
   obtain⟨i,i1,_,i3⟩:=(z9r hd h2.hw h.hK).1 this
   exact⟨i,i1,i3⟩
  obtain⟨i,i1,i2⟩:=hr p hp
  obtain⟨j,j1,j2⟩:=hr q hq
  have hl:=h2.hw
  revert i2 j2 hl
  cases w with
  |nil=>exact absurd rfl hw
  |cons a w=>
   obtain⟨b,v,e⟩:∃b v,(a::w)++(a::w)=a::b::v:=by
    cases w with
    |nil=>exact⟨a,[],rfl⟩
    |cons b w=>exact⟨b,w++(a::b::w),rfl⟩
   rw[e]
   intro i2 j2 hl
   rw[←i2,←j2,zuK hT hl i1,zuK hT hl j1]
 obtain⟨p,hp⟩:∃p,K.testBit p=true:=by
  refine Y6 fun hh=>hK (ZS fun q=> ?_)
  rw[X9]
  cases hb:K.testBit q with
  |false=>rfl
  |true=>exact absurd ⟨q,hb⟩ hh
 have hp7:=zv6 h.hK hp
 have e:K=2^p:=ZS fun q=>by grind
 rw[e];exact zAK p hp7
end
theorem zx8{d:DFA}{m n:Nat}{S:List Nat}(hd:DfaOk d m n)(hn:n<=7)(hS:SetsP d m n S)(h7:n=7/\m=2/\d.next=defT)(hcl:c<(z6n d m n S).length)(hz:szN (S.getD (z2d d m n S c) 0)≠1)(hpos:∀x∈S,x≠0):zgt d m n S c= []:=by
 obtain⟨rfl,rfl,hT⟩:=h7
 have hk:=(z2I hd hn hS hcl).2
 have hstep:∀i a,i<S.length->a<2->clN d 2 7 S i=c->zgY d 2 7 S (z2K S (z2d d 2 7 S c)) i ([],[]) a=([],[]):=fun i a hi ha hc=>by
  unfold zgY
  split
  · rename_i hj
    obtain⟨l1,l2⟩:=zn5 hd hn hS hi ha hj
    have hf:z2d d 2 7 S c=z5P d 2 7 S i:=by unfold z2d;rw[←hc];rfl
    rw[←hf] at l1
    refine absurd (zzS hd hT l1 (fun e=> ?_) (hpos _ (z0f hk))) hz
    have:=congrArg List.length e
    unfold hwN at this
    rw[zcX,zcX,z8b] at this
    simp at this
  · rfl
 have hrow:∀i,i<S.length->clN d 2 7 S i=c->∀a,a<=2->zlT d 2 7 S (z2K S (z2d d 2 7 S c)) i ([],[]) a=([],[]):=fun i hi hc a=>by
  induction a with
  |zero=>intro _;rfl
  |succ a ih=>intro ha;rw[ziA,ih (by omega),hstep i a hi (by omega) hc]
 have hall:∀k,k<=S.length->zjA d 2 7 S (z2K S (z2d d 2 7 S c)) c k=([],[]):=fun k=>by
  induction k with
  |zero=>intro _;rfl
  |succ k ih=>
   intro hk
   rw[zpg,ih (by omega)]
   split
   · grind
   · rfl
 unfold zgt
 rw[hall _ (Z5 _)]
theorem zzN{d:DFA}{m n:Nat}{S:List Nat}(hd:DfaOk d m n)(hn:n<=7)(hS:SetsP d m n S)(hs:n<=4∨(n=7/\m=2/\d.next=defT))(hcl:c<(z6n d m n S).length)(hz:szN (S.getD (z2d d m n S c) 0)≠1)(hpos:∀x∈S,x≠0):∀l:List (List Nat),l.Nodup->(∀e∈l,RchG (z2K S (z2d d m n S c)).length (zgt d m n S c) e)->l.length<=2000:=by
 rcases hs with h4|h7
 · exact zsx hd hn hS hcl h4
 · intro l hnd hl
   have hg:=zx8 hd hn hS h7 hcl hz hpos
   have hone:∀e∈l,e∈ [List.range (z2K S (z2d d m n S c)).length]:=fun e he=>by
    have:=hl e he
    rw[hg] at this
    rw[Zj]
    induction this with
    |one=>rfl
    |step e g _ hg _=>simp at hg
   have:=z8c hnd hone
   simp at this
   omega
end
section
open Go
variable{v w:List UInt8}{K c q:Nat}
def zec(n K:Nat):List Nat:=(List.range n).filter fun q=>K.testBit q
theorem zdz{n:Nat}:q∈zec n K↔q<n/\K.testBit q=true:=by
 unfold zec;rw[ZV,Zk]
theorem zsF(n K:Nat):(zec n K).Nodup:=YM _ YP
theorem zyX(n K:Nat):(zec n K).length<=n:=ZJ (ZC _ _) (by simp)
section
variable {d:DFA} {m n:Nat} (hd:DfaOk d m n) (hn:n<=7)
include hd hn
theorem zsm(hq:q<n)(hw:ziM m w):z4y d (2^q) w=2^z8r d q w:=ZS fun p=>by
 have _u:=hn
 rw[Yf,z9r hd hw (Yn (by omega) hq),Yh,decide_eq_true_eq]
 constructor
 · rintro⟨i,hi,h1,h2⟩
   rw[Yh,decide_eq_true_eq] at h1
   rw[h1,h2]
 · intro h
   exact⟨q,hq,by rw[Nat.testBit_two_pow_self],h⟩
theorem zpj(h:Lead d m n K K w):((zec n K).map fun q=>z8r d q w).Nodup/\ ∀x∈(zec n K).map fun q=>z8r d q w,x∈zec n K:=by
 have hsub:∀q,K.testBit q=true->z7D (2^q) K:=fun q hq=>z2i.2 fun p hp=>by
  rw[Yh,decide_eq_true_eq] at hp
  rw[←hp];exact hq
 refine⟨z5r (zsF n K) fun x hx y hy e=> ?_,fun x hx=> ?_⟩
 · obtain⟨x1,x2⟩:=zdz.1 hx
   obtain⟨y1,y2⟩:=zdz.1 hy
   have:=zcF hd hn h (hsub x x2) (hsub y y2) (by rw[zsm hd hn x1 h.hw,zsm hd hn y1 h.hw,e])
   exact(Nat.pow_right_inj (show 1<2 by omega)).1 this
 · obtain⟨q,hq,rfl⟩:=Zm.1 hx
   obtain⟨q1,q2⟩:=zdz.1 hq
   have hb:(z4y d K w).testBit (z8r d q w)=true:=(z9r hd h.hw h.hK).2 ⟨q,q1,q2,rfl⟩
   rw[h.run] at hb
   exact zdz.2 ⟨zij hd q1 h.hw,hb⟩
theorem zvl(hw:Lead d m n K K w)(hv:Lead d m n K K v)(h5:n<=5)(h:((zec n K).take 4).map (fun q=>z8r d q w)=((zec n K).take 4).map fun q=>z8r d q v):∀q∈zec n K,z8r d q w=z8r d q v:=by
 obtain⟨w1,w2⟩:=zpj hd hn hw
 obtain⟨v1,v2⟩:=zpj hd hn hv
 have hl:=zyX n K
 intro q hq
 obtain⟨j,hj,rfl⟩:=Zt hq
 by_cases h4:j<4
 · have:=congrArg (fun l=>l.getD j 0) h
   simpa[List.getD,h4,hj] using this
 · have hj4:j=4:=by omega
   subst hj4
   have hl5:(zec n K).length=5:=by omega
   have hsplit:zec n K=(zec n K).take 4++ [(zec n K)[4]]:=by
    rw[←ZA hj]
    exact(Yq (by omega)).symm
   apply Y6
   intro hne
   have ew:(zec n K).map (fun q=>z8r d q w)=((zec n K).take 4).map (fun q=>z8r d q w)++ [z8r d (zec n K)[4] w]:=by
    have:=congrArg (List.map fun q=>z8r d q w) hsplit
    rw[ZY,Zs,Ys] at this
    exact this
   have ev:(zec n K).map (fun q=>z8r d q v)=((zec n K).take 4).map (fun q=>z8r d q w)++ [z8r d (zec n K)[4] v]:=by
    have:=congrArg (List.map fun q=>z8r d q v) hsplit
    rw[ZY,Zs,Ys] at this
    rw[h];exact this
   rw[ew] at w1 w2
   rw[ev] at v1 v2
   have hnd:(((zec n K).take 4).map (fun q=>z8r d q w)++ [z8r d (zec n K)[4] w,z8r d (zec n K)[4] v]).Nodup:=by
    have a1:=Yu.1 w1
    have a2:=Yu.1 v1
    refine Yu.2 ⟨a1.1,by simpa using hne,fun a ha b hb=> ?_⟩
    rcases Zu.1 hb with rfl|hb
    · exact a1.2.2 a ha _ (by simp)
    · obtain rfl:=Zj.1 hb
      exact a2.2.2 a ha _ (by simp)
   have:=z8c hnd (r:=zec n K) fun x hx=>by
    rcases Ze.1 hx with hx|hx
    · exact w2 x (Ze.2 (.inl hx))
    · rcases Zu.1 hx with rfl|hx
      · exact w2 _ (by simp)
      · obtain rfl:=Zj.1 hx
        exact v2 _ (by simp)
   simp only[Za,Zh,Zq,Zr,Ye] at this
   omega
variable {S:List Nat} (hS:SetsP d m n S)
include hS
theorem zmI{k:Nat}(hk:k<S.length)(hw:ziM m w)(hv:ziM m v)(h:∀q∈zec n (S.getD k 0),z8r d q w=z8r d q v):z3F d w (z2K S k)=z3F d v (z2K S k):=by
 obtain⟨_,h2⟩:=z7Z hd hn hS hk
 refine ZB fun t ht=> ?_
 have e:z4y d t w=z4y d t v:=ZS fun p=>by
  rw[Yf,z9r hd hw (h2 t ht).2.2,z9r hd hv (h2 t ht).2.2]
  refine exists_congr fun i=>and_congr_right fun hi=>and_congr_right fun hb=> ?_
  rw[h i (zdz.2 ⟨hi,z2i.1 (h2 t ht).2.1 i hb⟩)]
 rw[e]
theorem zqc(hcl:c<(z6n d m n S).length)(h5:n<=5):∀l:List (List Nat),l.Nodup->(∀e∈l,RchG (z2K S (z2d d m n S c)).length (zgt d m n S c) e)->l.length<=2000:=fun l hnd hl=>by
 have hk:=(z2I hd hn hS hcl).2
 have hex:∀e∈l,∃w,Lead d m n (S.getD (z2d d m n S c) 0) (S.getD (z2d d m n S c) 0) w/\e=z3F d w (z2K S (z2d d m n S c)):=fun e he=>zhW hd hn hS hcl (hl e he)
 obtain⟨wd,hwd⟩:∃wd:List Nat->List UInt8,∀e∈l,Lead d m n (S.getD (z2d d m n S c) 0) (S.getD (z2d d m n S c) 0) (wd e)/\e=z3F d (wd e) (z2K S (z2d d m n S c)):=by
  classical
  exact⟨fun e=>if h:∃w,Lead d m n (S.getD (z2d d m n S c) 0) (S.getD (z2d d m n S c) 0) w/\e=z3F d w (z2K S (z2d d m n S c)) then h.choose else [],fun e he=>by
   simp only
   rw[dif_pos (hex e he)];exact(hex e he).choose_spec⟩
 let cd:=fun e=>((zec n (S.getD (z2d d m n S c) 0)).take 4).map fun q=>z8r d q (wd e)
 have hlt:∀e∈l,∀x∈cd e,x<5:=fun e he x hx=>by
  obtain⟨q,hq,rfl⟩:=Zm.1 hx
  have:=zij hd (zdz.1 (ZI hq)).1 (hwd e he).1.hw
  omega
 have hlen:∀e f,(cd e).length=(cd f).length:=fun e f=>by simp[cd]
 have hlen4:∀e,(cd e).length<=4:=fun e=>by simp[cd];omega
 have h1:(l.map fun e=>zqX 5 (cd e)).Nodup:=z5r hnd fun x hx y hy e=>by
  have:=zjj (hlt x hx) (hlt y hy) (hlen x y) e
  rw[(hwd x hx).2,(hwd y hy).2,zmI hd hn hS hk (hwd x hx).1.hw (hwd y hy).1.hw (zvl hd hn (hwd x hx).1 (hwd y hy).1 h5 this)]
 have h2:=z2n h1 (N:=5^4) fun x hx=>by
  obtain⟨e,he,rfl⟩:=Zm.1 hx
  exact Zx (zng (hlt e he)) (Zi (by omega) (hlen4 e))
 rw[Zh] at h2
 omega
theorem zx2(hs:n<=5∨(n=7/\m=2/\d.next=defT))(hcl:c<(z6n d m n S).length)(hz:szN (S.getD (z2d d m n S c) 0)≠1)(hpos:∀x∈S,x≠0):∀l:List (List Nat),l.Nodup->(∀e∈l,RchG (z2K S (z2d d m n S c)).length (zgt d m n S c) e)->l.length<=2000:=by
 rcases hs with h5|h7
 · exact zqc hd hn hS hcl h5
 · exact zzN hd hn hS (.inr h7) hcl hz hpos
end
end
section
open Go
def zyF(d:DFA)(m n:Nat)(S O:List Nat):List Int:=toI ((List.range O.length).map (szO d m n S O))
section
variable {d:DFA} {m n:Nat} {S:List Nat} (hd:DfaOk d m n) (hn:n<=7) (hS:SetsP d m n S) {O:List Nat} (hH:zlS d m n S) (hO:OrdC d m n S O) (hpos:∀x∈S,x≠0) (hbot:∀i k,i<S.length->k<S.length->zet S k=true->z7w d m n S i k=true->zet S i=true)
include hd hn hS hH hO hpos hbot
end
end
section
open Go
section
variable {d:DFA} {m n:Nat} {S O:List Nat}
end
section
variable {d:DFA} {m n:Nat} {S:List Nat} (hd:DfaOk d m n) (hn:n<=7) (hS:SetsP d m n S) {O:List Nat} (hH:zlS d m n S) (hO:OrdC d m n S O) (hpos:∀x∈S,x≠0)
include hd hn hS hH hO hpos
theorem znu(h0:0<S.length):∀(f i:Nat) (T T':List (List Nat)),(∀t∈T,zgT d m n S O t)->T.Nodup->T.length<=2000->zlL (z6R d m n S O) m f i T=some T'->(∀t∈T',zgT d m n S O t)/\T'.Nodup/\T'.length<=2000/\ ∃X,T'=T++X
 |0,i,T,T',h1,h2,h3,h=>by
  simp only[zlL,Z9] at h
  subst h;exact⟨h1,h2,h3,[],by simp⟩
 |f+1,i,T,T',h1,h2,h3,h=>by
  simp only[zlL] at h
  split at h
  · rename_i hi
    cases hb:znv (fun a=>z6R d m n S O a (T.getD i [])) m 0 T with
    |none=>rw[hb,Option.bind_none] at h;cases h
    |some U=>
     rw[hb,Z0] at h
     obtain⟨⟨X,e⟩,u2,u3,u4,_⟩:=zeV m 0 T U (fun b _ _=>(zaD hd hn hS hH hO hpos (a:=b) (h1 _ (z8j hi)) h0).1) h1 h2 h3 hb
     obtain⟨v1,v2,v3,Z,v4⟩:=znu h0 f (i+1) U T' u2 u3 u4 h
     exact⟨v1,v2,v3,X++Z,by rw[v4,e,Zo]⟩
  · simp only[Z9] at h
    subst h;exact⟨h1,h2,h3,[],by simp⟩
end
end
section
open Go
theorem zuF{L:Nat}{h:Hol}{Q:List (List Nat)}(et:h.tiles.length=L)(ep:h.perms=Q.map toI)(hQ:∀g∈Q,PermL L g)(h1:1<=L)(h2:L<=32)(hl:Q.length<=1000)
 (hB:∀l:List (List Nat),l.Nodup->(∀e∈l,RchG L Q e)->l.length<=2000):∃S,z3a h=some (S,0):=by
 have e0:toI (List.range L)=(List.range L).map fun k:Nat=>(k:Int):=rfl
 have hpm:(Q.map toI).all (zfX L)=true:=Zn.2 fun x hx=>by
  obtain⟨g,hg,rfl⟩:=Zm.1 hx
  have:=hQ g hg
  refine ziG.2 ⟨by rw[z0b,this.len],fun y hy=> ?_,?_⟩
  · obtain⟨z,hz,rfl⟩:=Zm.1 hy
    have:=this.lt z hz
    omega
  · exact YC _ (fun a b (hab:a≠b)=>by intro e;exact hab (by omega)) this.nd
 have hH:z3a h=if Q= [] then some ([toI (List.range L)],0) else(z5g (Q.map toI)).bind fun v=>some (v.1,v.2):=by
  unfold z3a
  rw[et,ep,if_neg (by omega),if_neg (by omega),zwe (by omega) (by rw[Zh];omega),Z0,hpm,if_pos rfl,z0j _ (by unfold z0X;omega),Z3]
  refine z0x (s:=((0:Int),List.replicate L (0:Int))) L (fun k=>((k:Int),zaL L (fun k=>(k:Int)) (fun _=>0) k)) (by rw[z9v];congr 1;exact(Zf (by simp) fun i h1 h2=>by simp)) (by simp only[LFm];omega) (fun k hk=> ?_) ?_
  · simp only[z4G]
    rw[et,if_pos (by omega),z6y hk,Z0,z1g (by omega),Z3,z4S (f:=fun k=>(k:Int)) hk]
  · simp only[z4G]
    rw[et,ep,if_neg (by omega),z9u,←e0,Zh]
    by_cases hq:Q= []
    · subst hq
      rw[if_pos (by simp),if_pos rfl]
    · rw[if_neg (by have:=ZH.2 hq;omega),if_neg hq]
 rw[hH]
 by_cases hq:Q= []
 · rw[if_pos hq];exact⟨_,rfl⟩
 · obtain⟨S,s1,_⟩:=zzG hQ h1 h2 hB hq (by omega)
   rw[if_neg hq,s1]
   exact⟨_,rfl⟩
section
variable {d:DFA} {m n:Nat} {S:List Nat} (hd:DfaOk d m n) (hn:n<=7) (hS:SetsP d m n S)
include hd hn hS
theorem zx5(hs:n<=5∨(n=7/\m=2/\d.next=defT)){c:Nat}(hcl:c<(z6n d m n S).length)(hz:szN (S.getD (z2d d m n S c) 0)≠1)(hpos:∀x∈S,x≠0)(h32:S.length<=32):
 ∃E,z3a (za9 d m n S c)=some (E,0):=by
 have hP:=zum hd hn hS hcl
 obtain⟨ho,_⟩:=zue hd hn hS hcl hz hpos h32
 have et:(za9 d m n S c).tiles.length=(z2K S (z2d d m n S c)).length:=z0b _
 have t1:=ho.t1
 have t2:=ho.t2
 have hpl:(zgt d m n S c).length<=1000:=by
  have h1:=ho.wp
  have h2:=ho.wl
  have:(za9 d m n S c).perms.length=(zgt d m n S c).length:=Zh _
  omega
 exact zuF et rfl hP (by omega) (by omega) hpl (zx2 hd hn hS hs hcl hz hpos)
end
end
section
open Go Go.IntKind
noncomputable section
variable{a0:Frm}{mp:List (ByteArray×CRow)}{a1:List (List Int)}
attribute [local simp] cfRw
abbrev RMs:=Option (List (List (List Int)))
abbrev zaF(v:List (List (List Int)))(w28:Int)(k:ByteArray)(c:List Int)(mp:List (ByteArray×CRow)):Int×List (List Int)->Option ((Int×List (List Int))⊕((Int×List (ByteArray×CRow)×RMs)⊕((Int×List (ByteArray×CRow))⊕List (ByteArray×CRow))))
 |(w54,acc)=>
 if w54<(v.length:Int) then
  (atI v w54).bind fun m=>
  (atI m w28).bind fun e=>
  chk (z1B 24 (acc.length+1))<|
  z0c (i64.wrap (w54+1),acc++ [e])
 else
  z0i<|
  z0c (i64.wrap (w28+1),z8p k ⟨c,acc⟩ mp,some v)
abbrev zbF(a0:Frm)(x:List Int)(w22:Int):Int×List (ByteArray×CRow)×RMs->Option ((Int×List (ByteArray×CRow)×RMs)⊕((Int×List (ByteArray×CRow))⊕List (ByteArray×CRow)))
 |(w28,mp,ms)=>
 if w28<(x.length:Int) then
  (z6w x 0 w28).bind fun p=>
  (z3P p).bind fun k=>
  (z8i k mp).elim
    (match ms with
    |some v=>
     chk (¬v.length=0)<|
     (zba p).bind fun c=>
     z0k (zaF v w28 k c mp) LFm (0,[])
    |none=>
     (z2H a0 x).bind fun v=>
     (zba p).bind fun c=>
     z0k (zaF v w28 k c mp) LFm (0,[]))
    fun _=>z0c (i64.wrap (w28+1),mp,ms)
 else
  z0i<|
  z0c (i64.wrap (w22+1),mp)
abbrev ziz(a0:Frm)(a1:List (List Int)):Int×List (ByteArray×CRow)->Option ((Int×List (ByteArray×CRow))⊕List (ByteArray×CRow))
 |(w22,mp)=>
 if w22<(a1.length:Int) then
  (atI a1 w22).bind fun x=>
  z0k (zbF a0 x w22) LFm (0,mp,none)
 else
  z0i<|
  chk (z0X 48 (mp.length:Int))<|
  some mp
abbrev zDa(mp:List (ByteArray×CRow)):T:=.mt none (mp.map fun x0=>.string x0.1) (mp.map fun x0=>.agg [.sl x0.2.pre.length (x0.2.pre.map fun x1=>.sc (.int .i64 x1)),.sl x0.2.maps.length (x0.2.maps.map fun x1=>.sl x1.length (x1.map fun x2=>.sc (.int .i64 x2)))])
theorem zse(k:ByteArray)(c:List Int)(ms:List (List Int))(mp:List (ByteArray×CRow)):z9H (.string k) (.agg [.sl c.length (c.map fun x1=>.sc (.int .i64 x1)),.sl ms.length (ms.map fun x1=>.sl x1.length (x1.map fun x2=>.sc (.int .i64 x2)))]) (mp.map fun x0=>.string x0.1) (mp.map fun x0=>.agg [.sl x0.2.pre.length (x0.2.pre.map fun x1=>.sc (.int .i64 x1)),.sl x0.2.maps.length (x0.2.maps.map fun x1=>.sl x1.length (x1.map fun x2=>.sc (.int .i64 x2)))])=((z8p k ⟨c,ms⟩ mp).map (fun x0=>.string x0.1),(z8p k ⟨c,ms⟩ mp).map fun x0=>.agg [.sl x0.2.pre.length (x0.2.pre.map fun x1=>.sc (.int .i64 x1)),.sl x0.2.maps.length (x0.2.maps.map fun x1=>.sl x1.length (x1.map fun x2=>.sc (.int .i64 x2)))]):=
 zsd k ⟨c,ms⟩ (fun x0:ByteArray×CRow=>.agg [.sl x0.2.pre.length (x0.2.pre.map fun x1=>.sc (.int .i64 x1)),.sl x0.2.maps.length (x0.2.maps.map fun x1=>.sl x1.length (x1.map fun x2=>.sc (.int .i64 x2)))]) mp
attribute [local simp] zse znb
instance{v:List (List (List Int))}{w28:Int}{k:ByteArray}{c:List Int}:Hd (zaF v w28 k c mp):=⟨fun(w54,acc)=>([(54,xI w54)],[(13,.vr [.os 1 c.length (c.map fun x1=>.sc (.int .i64 x1)),.os 1 acc.length (acc.map fun x1=>.sl x1.length (x1.map fun x2=>.sc (.int .i64 x2)))])])⟩
instance{x:List Int}{w22:Int}:Hd (zbF a0 x w22):=⟨fun(w28,mp,ms)=>([(28,xI w28),(8,match ms with|none=>.one (.k (.slice none 0 0))|some v=>.one (.t none (.sl v.length (v.map fun x0=>.sl x0.length (x0.map fun x1=>.sl x1.length (x1.map fun x2=>.sc (.int .i64 x2)))))))],[(5,zDa mp)])⟩
instance:Hd (ziz a0 a1):=⟨fun(w22,mp)=>([(22,xI w22)],[(5,zDa mp)])⟩
def zsp(a0:Frm)(a1:List (List Int)):Option (List (ByteArray×CRow)):=z0k (ziz a0 a1) LFm (0,[])
theorem zw4(h:zsp a0 a1=some mp):wpC Tryz.prog L cfRw LFm (zwh zh6) (z6H 89 [.pr [.sc (.int .i64 a0.d.letters),.sc (.int .i64 a0.d.start),(tB a0.d.final),(tR a0.d.next),(tI a0.x.sets),(tI a0.x.class_),(tI a0.x.height),(tR a0.x.tiles),(tS a0.x.words),(tS a0.x.back),(tI a0.comp),(tI a0.sizes),(tR a0.tiles),(tR a0.next)],.sl a1.length (a1.map fun x0=>.sl x0.length (x0.map fun x1=>.sc (.int .i64 x1)))]) (fun x fr=>x= .n/\z2J fr.tm 5= .one (.t none (z1P (zDa mp)))/\z2J fr.tm 16= .one (.h 16 [])/\z2f fr.ob 16=some (.os 2 0 [])/\fr.nt=89):=by
 have h:=z4u h
 unfold zsp at h
 simp only[z6H,z7u,z6N,z8Z,z6i]
 exact zm2
def zy7(r:CRow):List CRow->List CRow
 | []=> [r]
 |q::l=>if zah r.pre q.pre<0 then r::q::l else q::zy7 r l
def zq3(l:List CRow):List CRow:=l.foldr zy7 []
def zhb(a0:Frm)(a1:List (List Int)):Option (List CRow):=
 (zsp a0 a1).bind fun mp=>if(mp.map fun e=>e.2.pre).Nodup/\mp.length*48<=140737488355328 then some (zq3 (mp.map (·.2))) else none
abbrev zvo(r:CRow):List Int×T:=(r.pre,.sl r.maps.length (r.maps.map fun x1=>.sl x1.length (x1.map fun x2=>.sc (.int .i64 x2))))
theorem zub(r:CRow):∀l:List CRow,zvq (zvo r) (l.map zvo)=(zy7 r l).map zvo
 | []=>rfl
 |q::l=>by
  simp only[Zs,zvq,zy7]
  split
  · rfl
  · rw[zub r l];rfl
theorem zo2:∀l:List CRow,z4O (l.map zvo)=(zq3 l).map zvo
 | []=>rfl
 |r::l=>by
  show zvq (zvo r) (z4O (l.map zvo))=(zy7 r (zq3 l)).map zvo
  rw[zo2 l,zub]
theorem zkO:∀l:List CRow,zfQ (l.map fun x0=>.agg [.sl x0.pre.length (x0.pre.map fun x1=>.sc (.int .i64 x1)),.sl x0.maps.length (x0.maps.map fun x1=>.sl x1.length (x1.map fun x2=>.sc (.int .i64 x2)))])=some (l.map zvo)
 | []=>rfl
 |r::l=>by
  rw[Zs,zfQ,zkO l]
  simp only[zw6,z8d,if_true]
  rfl
instance:Ok (zhb a0 a1) (fun r=>L 18 [.pr [.sc (.int .i64 a0.d.letters),.sc (.int .i64 a0.d.start),(tB a0.d.final),(tR a0.d.next),(tI a0.x.sets),(tI a0.x.class_),(tI a0.x.height),(tR a0.x.tiles),(tS a0.x.words),(tS a0.x.back),(tI a0.comp),(tI a0.sizes),(tR a0.tiles),(tR a0.next)],.sl a1.length (a1.map fun x0=>.sl x0.length (x0.map fun x1=>.sc (.int .i64 x1)))]=some (.sl r.length (r.flatMap fun x0=> [.sl x0.pre.length (x0.pre.map fun x1=>.sc (.int .i64 x1)),.sl x0.maps.length (x0.maps.map fun x1=>.sl x1.length (x1.map fun x2=>.sc (.int .i64 x2)))]),[.dead,.dead])):=⟨fun r h=>by
 unfold zhb at h
 obtain⟨mp,h1,h2⟩:=z1t h
 split at h2
 case isFalse=>cases h2
 rename_i hc
 obtain⟨hnd,hby⟩:=hc
 have hr:zq3 (mp.map (·.2))=r:=YD h2
 have hA:=zw4 h1
 unfold wpC at hA
 obtain⟨x,fr,hco,hx,h5,h16,ho,hnt⟩:=hA
 subst hx
 obtain⟨n,hn⟩:=zgF _ hco
 refine zwy rfl ⟨n,fun m hm=> ?_⟩
 show xtF (z4J Tryz.prog xt zlA m) _ _=_
 unfold xtF
 rw[if_neg (by decide),if_pos rfl]
 unfold zjH
 rw[hn m hm]
 have e5:z1P (zDa mp)= .ms none (mp.map fun x0=>.string x0.1) ((mp.map (·.2)).map fun x0=>.agg [.sl x0.pre.length (x0.pre.map fun x1=>.sc (.int .i64 x1)),.sl x0.maps.length (x0.maps.map fun x1=>.sl x1.length (x1.map fun x2=>.sc (.int .i64 x2)))]):=by
  simp
 rw[e5] at h5
 simp only[h5,h16,ho,zkO]
 rw[if_pos ⟨by rw[Y3,Y3];exact hnd,by simpa using hby,by simp,by simp[z6i],hnt,fun q hq=>by
  obtain⟨z,hz,rfl⟩:=Zm.1 hq
  simp[zvo]⟩]
 rw[zo2,hr,Zh,List.flatMap_map]
 rfl⟩
end
end
section
open Go Go.IntKind
noncomputable section
variable{v25:Frm×Int}{v24:List Hol×Int}{a0:List Int}
def z7k(a0:Int):Option (Bool):=
 some (decide (32<a0))
instance{a0:Int}:Ok (z7k a0) (fun r=>L 14 [.sc (.int .i64 a0)]=some (.sc (.bool r),[.dead])):=⟨fun r h=>by have h:=z4u h;unfold z7k at h;exact z5i rfl Tryz.func14 (bdy Tryz.f14 rfl)⟩
abbrev z1j(a0:List Int):Int->Option (Int⊕Int)
 |w10=>
 if w10<(a0.length:Int) then
 (atI a0 w10).bind fun v13=>
 (z7k v13).bind fun v14=>
 if v14=true then
 z0i<|
 some w10
 else
 z0c (i64.wrap (w10+1))
 else
 z0i<|
 some (-1)
instance:Hd (z1j a0):=⟨fun w10=>([(8,xI w10)],[])⟩
def z0V(a0:List Int):Option (Int):=
 z0k (z1j a0) LFm 0
instance:Ok (z0V a0) (fun r=>L 35 [(tI a0),.sc (.func (.func 14) #[] #[])]=some (.sc (.int .i64 r),[.dead,.dead])):=⟨fun r h=>by have h:=z4u h;unfold z0V at h;exact z5i rfl Tryz.func35 (bdy Tryz.f35 rfl)⟩
def z0O(a0:List Int):Option (Bool):=
 (z0V a0).bind fun v2=>
 some (decide (0<=v2))
instance:Ok (z0O a0) (fun r=>L 13 [(tI a0),.sc (.func (.func 14) #[] #[])]=some (.sc (.bool r),[.dead,.dead])):=⟨fun r h=>by have h:=z4u h;unfold z0O at h;exact z5i rfl Tryz.func13 (bdy Tryz.f13 rfl)⟩
abbrev z5c(a0:DFA)(v24:List Hol×Int)(v25:Frm×Int)(v34:List (List Int)×Int):Int×List Int->Option ((Int×List Int)⊕(Cover×Int))
 |(w37,w38)=>
 if w37<(v34.1.length:Int) then
 (atI v34.1 w37).bind fun v42=>
 (z3s v25.1 v42).bind fun v43=>
 (atI w38 w37).bind fun v44=>
 z0c (i64.wrap (w37+1),(w38.set w37.toNat v43))
 else
 z0i<|
 (zhb v25.1 v34.1).bind fun v45=>
 (z2B v25.1).bind fun v46=>
 some ((⟨⟨a0.letters,v25.1.sizes,v45⟩,v46,v34.1,w38,v24.1⟩:Cover),0)
instance{a0:DFA}{v34:List (List Int)×Int}:Hd (z5c a0 v24 v25 v34):=⟨fun(w37,w38)=>([(72,xI w37)],[(12,(tO w38))])⟩
abbrev z3C(a0:DFA)(v24:List Hol×Int)(v25:Frm×Int):Int->Option (Int⊕(Cover×Int))
 |w29=>
 if w29<(v24.1.length:Int) then
 (atI v24.1 w29).bind fun v32=>
 (z3a v32).bind fun v33=>
 if v33.2=0 then
 z0c (i64.wrap (w29+1))
 else
 z0i<|
 some ((⟨⟨0,[],[]⟩,[],[],[],[]⟩:Cover),3)
 else
 z0i<|
 (z1V v25.1).bind fun v34=>
 if v34.2=0 then
 chk (z0X 8 (v34.1.length:Int))<|
 z0k (z5c a0 v24 v25 v34) LFm (0,List.replicate (v34.1.length:Int).toNat (0:Int))
 else
 some ((⟨⟨0,[],[]⟩,[],[],[],[]⟩:Cover),v34.2)
instance{a0:DFA}:Hd (z3C a0 v24 v25):=⟨fun w29=>([(46,xI w29)],[])⟩
def z4P(a0:DFA):Option (Cover×Int):=
 (z4w a0).bind fun v24=>
 if v24.2=0 then
 (z3w a0).bind fun v25=>
 if v25.2=0 then
 if 24<(v25.1.sizes.length:Int) then
 some ((⟨⟨0,[],[]⟩,[],[],[],[]⟩:Cover),3)
 else
 (z0O v25.1.sizes).bind fun v26=>
 if v26=true then
 some ((⟨⟨0,[],[]⟩,[],[],[],[]⟩:Cover),3)
 else
 z0k (z3C a0 v24 v25) LFm 0
 else
 some ((⟨⟨0,[],[]⟩,[],[],[],[]⟩:Cover),v25.2)
 else
 some ((⟨⟨0,[],[]⟩,[],[],[],[]⟩:Cover),v24.2)
instance{a0:DFA}:Ok (z4P a0) (fun r=>L 5 [.agg [.sc (.int .i64 a0.letters),.sc (.int .i64 a0.start),(tB a0.final),(tR a0.next)]]=some (.tup [.agg [.sc (.int .i64 r.1.casc.letters),(tI r.1.casc.sizes),.sl r.1.casc.rows.length (r.1.casc.rows.flatMap fun x0=> [(tI x0.pre),(tR x0.maps)]),(tI r.1.start),(tR r.1.tuples),(tI r.1.states),.sl r.1.groups.length (r.1.groups.flatMap fun x0=> [.sc (.int .i64 x0.set),(tI x0.tiles),(tS x0.words),(tR x0.perms)])],.sc (.int .i64 r.2)],[.dead])):=⟨fun r h=>by have h:=z4u h;unfold z4P at h;exact zeu rfl Tryz.func5 (bdy Tryz.f5 rfl)⟩
end
end
section
open Go
theorem zvV(T:List (List Nat)):∃Y:List (List Nat),Y.map toI=z8Q (T.map toI)/\Y.Perm T:=by
 have hp:=z8P (T.map toI)
 refine⟨(z8Q (T.map toI)).map fun x=>x.map Int.toNat,?_,?_⟩
 · rw[Y3]
   refine(ZB fun x hx=> ?_).trans (XU _)
   obtain⟨e,he,rfl⟩:=Zm.1 (hp.mem_iff.1 hx)
   show toI ((toI e).map Int.toNat)=toI e
   rw[znR]
 · have:=hp.map fun x:List Int=>x.map Int.toNat
   rw[Y3] at this
   have e:((fun x:List Int=>x.map Int.toNat)∘toI)=id:=by funext x;exact znR x
   rwa [e,YW] at this
theorem zmB{f:List Nat->Nat->List (List Nat)}{L:Nat}{M N:List (List Nat)}{R:List zan}(h:RowsOk f L M R)(hp:M.Perm N):RowsOk f L N R:=
 ⟨h.nd,fun r hr=>by obtain⟨x,hx,e⟩:=h.of r hr;exact⟨x,hp.mem_iff.1 hx,e⟩,fun x hx=>h.al x (hp.mem_iff.2 hx)⟩
section
variable {d:DFA} {m n:Nat} {S:List Nat} (hd:DfaOk d m n) (hn:n<=7) (hS:SetsP d m n S) {O:List Nat} (hH:zlS d m n S) (hO:OrdC d m n S O) (hpos:∀x∈S,x≠0)
def zvm(d:DFA)(m n:Nat)(S O:List Nat):Prop:=∀T Y:List (List Nat),zlL (z6R d m n S O) m 2001 0 [z4x d m n S O]=some T->Y.map toI=z8Q (T.map toI)->Y.Perm T->∃W:List zan,zhb (z8n d m n S O) (Y.map toI)=some (W.map zji)/\W.Pairwise ltR/\RowsOk (z4Y d m n S O) O.length Y W
include hd hn hS hH hO hpos
theorem zs7(hSl:S.length<=32):z0O (z8n d m n S O).sizes=some false:=by
 have hOl:=zdE hd hn hS hH hO
 have hlen:((z8n d m n S O).sizes.length:Int)=(O.length:Int):=by simp[z8n,z0b]
 have:z0V (z8n d m n S O).sizes=some (-1):=by
  unfold z0V
  refine z0x (s:=(0:Int)) O.length (fun k=>(k:Int)) rfl (by simp only[LFm];omega) (fun k hk=> ?_) ?_
  · have:=zxS (d:=d) (m:=m) (n:=n) (S:=S) (O:=O) k
    simp only[z1j]
    rw[hlen,if_pos (by omega),zut hk,Z0]
    unfold z7k
    rw[Z0,if_neg (by simp;omega),z1g (by omega)]
  · simp only[z1j]
    rw[hlen,if_neg (by omega)]
 unfold z0O
 rw[this,Z0]
 rfl
theorem zzU(hR:zvm d m n S O)(hs:n<=5∨(n=7/\m=2/\d.next=defT))(hSl:S.length<=32)(h0:0<S.length)(hF:z3w d=some (z8n d m n S O,0))(hG:z4w d=some (O.map (za9 d m n S),0)):
 ∃r,z4P d=some r/\((24<O.length/\r=(zAu,3))∨(O.length<=24/\((zlL (z6R d m n S O) m 2001 0 [z4x d m n S O]=none/\r=(zAu,3))∨(r.2=0/\CovOk d m n S O (zyF d m n S O) (O.map (za9 d m n S)) r.1)))):=by
 have hOl:=zdE hd hn hS hH hO
 have hst:=zch hd hn hS hH hO hpos h0
 have hlen:((z8n d m n S O).sizes.length:Int)=(O.length:Int):=by simp[z8n,z0b]
 unfold z4P
 rw[hG,Z0]
 simp only[if_true]
 rw[hF,Z0]
 simp only[if_true]
 rw[hlen]
 by_cases h24:24<O.length
 · rw[if_pos (by omega)]
   exact⟨_,rfl,.inl ⟨h24,rfl⟩⟩
 · rw[if_neg (by omega),zs7 hd hn hS hH hO hpos hSl,Z0,if_neg (by simp)]
   have hloop:∀ {R:Cover×Int},z3C d (O.map (za9 d m n S),0) (z8n d m n S O,0) (O.length:Int)=z0i (some R)->z0k (z3C d (O.map (za9 d m n S),0) (z8n d m n S O,0)) LFm 0=some R:=fun {R} hlast=>by
    refine z0x (s:=(0:Int)) O.length (fun k=>(k:Int)) rfl (by simp only[LFm];omega) (fun k hk=> ?_) hlast
    obtain⟨c1,c2⟩:=zz5 hd hn hS hH hO hk
    have hout:=hO.prm.mem_iff.1 (z0f hk:O.getD k 0∈O)
    unfold za5 at hout
    have hh:=(ZV.1 hout).2
    simp only[decide_eq_true_eq] at hh
    obtain⟨E,e1⟩:=zx5 hd hn hS hs c1 (zzE hh) hpos hSl
    have hat:atI (O.map (za9 d m n S)) (k:Int)=some (za9 d m n S (O.getD k 0)):=by
     rw[z1k (by simpa using hk)];simp[List.getD,hk]
    simp only[z3C]
    rw[Zh,if_pos (by omega),hat,Z0,e1,Z0]
    simp only[if_true]
    rw[z1g (by omega)]
   have hlast:z3C d (O.map (za9 d m n S),0) (z8n d m n S O,0) (O.length:Int)=z0i ((z1V (z8n d m n S O)).bind fun v34=>if v34.2=0 then chk (z0X 8 (v34.1.length:Int))<|z0k (z5c d (O.map (za9 d m n S),0) (z8n d m n S O,0) v34) LFm (0,List.replicate (v34.1.length:Int).toNat (0:Int)) else some (zAu,v34.2)):=by
    simp only[z3C]
    rw[Zh,if_neg (by omega)]
    rfl
   have ht:=zry hd hn hS hH hO hpos (by omega) h0
   cases hb:zlL (z6R d m n S O) m 2001 0 [z4x d m n S O] with
   |none=>
    rw[hb] at ht
    refine⟨(zAu,3),hloop ?_,.inr ⟨by omega,.inl ⟨rfl,rfl⟩⟩⟩
    rw[hlast,ht,Z0]
    exact congrArg z0i (if_neg (show ¬(zD5 none).2=0 by simp[zD5]))
   |some T=>
    rw[hb] at ht
    obtain⟨t1,t2,t3,_⟩:=znu hd hn hS hH hO hpos h0 _ _ _ _ (fun t h=>by rw[Zj.1 h];exact hst) (by simp) (by simp) hb
    obtain⟨Y,y1,y2⟩:=zvV T
    obtain⟨W,w1,w2,w3⟩:=hR T Y hb y1 y2
    have hYl:Y.length<=2000:=by rw[y2.length_eq];exact t3
    refine⟨(⟨⟨d.letters,zyF d m n S O,W.map zji⟩,toI (z4x d m n S O),Y.map toI,toI (Y.map (zAg d m n S O)),O.map (za9 d m n S)⟩,0),hloop ?_,.inr ⟨by omega,.inr ⟨rfl,⟨T,Y,W,hb,y1,y2,w2,zmB w3 y2,rfl⟩⟩⟩⟩
    have ht2:z1V (z8n d m n S O)=some (Y.map toI,0):=by rw[ht,y1];rfl
    rw[hlast,ht2,Z0]
    simp only[if_true]
    rw[Zh,z0j _ (by unfold z0X;omega),Z3]
    congr 1
    refine z0x (s:=((0:Int),List.replicate Y.length (0:Int))) Y.length (fun k=>((k:Int),zaL Y.length (fun k=>((zAg d m n S O (Y.getD k []):Nat):Int)) (fun _=>0) k)) (by rw[z9v];congr 1;exact(Zf (by simp) fun i h1 h2=>by simp)) (by simp only[LFm];omega) (fun k hk=> ?_) ?_
    · have hat:atI (Y.map toI) (k:Int)=some (toI (Y.getD k [])):=by
       rw[z1k (by simpa using hk)];simp[List.getD,hk]
      have hx:zgT d m n S O (Y.getD k []):=t1 _ (y2.mem_iff.1 (z8j hk))
      simp only[z5c]
      rw[Zh,if_pos (by omega),hat,Z0,zvT hd hn hS hH hO hpos (by omega) h0 hx,Z0,z6y hk,Z0,z1g (by omega),Z3]
      exact congrArg (fun x=>z0c (((k+1:Nat):Int),x)) (z4S (f:=fun k=>((zAg d m n S O (Y.getD k []):Nat):Int)) hk)
    · have hfin:(List.range Y.length).map (fun k=>((zAg d m n S O (Y.getD k []):Nat):Int))=toI (Y.map (zAg d m n S O)):=by
       refine Zf (by simp[toI]) fun k h1 h2=> ?_
       have hk:k<Y.length:=by simpa using h1
       simp[toI,List.getD,hk]
      simp only[z5c]
      rw[Zh,if_neg (by omega),z9u,hfin,w1,Z0,zo0 hd hn hS hH hO hpos (by omega) h0,Z0]
      rfl
end
end
section
open Go
variable{x:List Nat}
def zvr(r:zan):List zan->List zan
 | []=> [r]
 |q::l=>if ltR r q then r::q::l else q::zvr r l
theorem zoA(r:zan):∀l:List zan,zy7 (zji r) (l.map zji)=(zvr r l).map zji
 | []=>rfl
 |q::l=>by
  simp only[Zs,zy7,zvr]
  by_cases h:ltR r q
  · rw[if_pos h,if_pos (show zah (zji r).pre (zji q).pre<0 from h)];rfl
  · rw[if_neg h,if_neg (show ¬zah (zji r).pre (zji q).pre<0 from h),zoA r l];rfl
def zyB(l:List zan):List zan:=l.foldr zvr []
theorem zkB:∀l:List zan,zq3 (l.map zji)=(zyB l).map zji
 | []=>rfl
 |r::l=>by
  show zy7 (zji r) (zq3 (l.map zji))=(zvr r (zyB l)).map zji
  rw[zkB l,zoA]
theorem zgn(r:zan):∀l:List zan,(zvr r l).Perm (r::l)
 | []=>.refl _
 |q::l=>by
  simp only[zvr]
  split
  · exact .refl _
  · exact((zgn r l).cons q).trans (.swap r q l)
theorem zfI:∀l:List zan,(zyB l).Perm l
 | []=>.refl _
 |r::l=>(zgn r (zyB l)).trans ((zfI l).cons r)
theorem zgm{r:zan}:∀ {l:List zan},(∀q∈l,r.1≠q.1)->l.Pairwise ltR->(zvr r l).Pairwise ltR
 | [],_,_=>by simp[zvr]
 |q::l,hne,hs=>by
  obtain⟨h1,h2⟩:=Zz.1 hs
  simp only[zvr]
  split
  · rename_i h
    exact Zz.2 ⟨fun a ha=>by
     rcases Zu.1 ha with rfl|ha
     · exact h
     · exact zt2 h (h1 a ha),hs⟩
  · rename_i h
    refine Zz.2 ⟨fun a ha=> ?_,zgm (fun q hq=>hne q (Zl _ hq)) h2⟩
    rcases Zu.1 ((zgn r l).mem_iff.1 ha) with rfl|ha
    · exact zBt (hne q (by simp)) h
    · exact h1 a ha
theorem zfH:∀ {l:List zan},l.Pairwise (fun r q=>r.1≠q.1)->(zyB l).Pairwise ltR
 | [],_=>by simp[zyB]
 |r::l,h=>by
  obtain⟨h1,h2⟩:=Zz.1 h
  exact zgm (fun q hq=>h1 q ((zfI l).mem_iff.1 hq)) (zfH h2)
def zeN(R:List zan):List (ByteArray×CRow):=R.map fun r=>(z1z (toI r.1),zji r)
theorem zo6{k:ByteArray}{v:CRow}:∀ {mp:List (ByteArray×CRow)},(∀e∈mp,e.1≠k)->z8p k v mp=mp++ [(k,v)]
 | [],_=>rfl
 |(a,u)::mp,h=>by
  have h1:¬a=k:=h (a,u) (by simp)
  simp only[z8p]
  rw[if_neg h1,zo6 fun e he=>h e (Zl _ he)]
  rfl
theorem zoK{p:List Nat}(hp:∀x∈p,x<256):∀ {R:List zan},(∀r∈R,∀x∈r.1,x<256)->((z8i (z1z (toI p)) (zeN R)).isSome=true↔ ∃r∈R,r.1=p)
 | [],_=>by simp[zeN,z8i]
 |r::R,h=>by
  have ih:=zoK hp (R:=R) fun q hq=>h q (Zl _ hq)
  have hr:=h r (by simp)
  show(z8i (z1z (toI p)) ((z1z (toI r.1),zji r)::zeN R)).isSome=true↔_
  simp only[z8i]
  by_cases e:r.1=p
  · rw[if_pos (by rw[e])]
    exact iff_of_true rfl ⟨r,by simp,e⟩
  · rw[if_neg (fun q=>e (zgp hr hp q)),ih]
    constructor
    · rintro⟨q,hq,e2⟩;exact⟨q,Zl _ hq,e2⟩
    · rintro⟨q,hq,e2⟩
      rcases Zu.1 hq with rfl|hq
      · exact absurd e2 e
      · exact⟨q,hq,e2⟩
theorem zrd(x:List Nat)(f:Nat->List (List Nat))(k:Nat)(R:List zan):(z7d x f k R).length<=R.length+k:=by
 induction k with
 |zero=>exact Z5 _
 |succ k ih=>
  rw[z9e]
  split
  · rw[Za];simp;omega
  · omega
section
variable {d:DFA} {m n:Nat} {S:List Nat} (hd:DfaOk d m n) (hn:n<=7) (hS:SetsP d m n S) {O:List Nat} (hH:zlS d m n S) (hO:OrdC d m n S O) (hpos:∀x∈S,x≠0)
def zh2(d:DFA)(m n:Nat)(S O:List Nat)(x:List Nat):List (List (List Int)):=(List.range m).map fun a=>(z9G d m n S O a x).map toI
include hd hn hS hH hO hpos
theorem zxZ(hSl:S.length<=255)(h0:0<S.length)(hx:zgT d m n S O x){i:Nat}(hi:i<O.length)(k:ByteArray)(c:List Int)(mp:List (ByteArray×CRow)):z0k (zaF (zh2 d m n S O x) (i:Int) k c mp) LFm (0,[])=some (.inl (((i+1:Nat):Int),z8p k ⟨c,(z4Y d m n S O x i).map toI⟩ mp,some (zh2 d m n S O x))):=by
 have hm6:=hd.m6
 have hOl:=zdE hd hn hS hH hO
 have hvl:(zh2 d m n S O x).length=m:=by simp[zh2]
 rw[←zyr]
 refine z0x (s:=((0:Int),([]:List (List Int)))) m (fun a=>((a:Int),wC d m n S O x a i)) rfl (by simp only[LFm];omega) (fun a ha=> ?_) ?_
 · have y2:=(zaD hd hn hS hH hO hpos (a:=a) hx h0).2
   have hat:atI (zh2 d m n S O x) (a:Int)=some ((z9G d m n S O a x).map toI):=by
    rw[z1k (by rw[hvl];exact ha)];simp[zh2]
   have hat2:atI ((z9G d m n S O a x).map toI) (i:Int)=some (toI ((z9G d m n S O a x).getD i [])):=by
    rw[z1k (by simpa[y2] using hi)]
    simp[List.getD,y2,hi]
   simp only[zaF]
   rw[hvl,if_pos (by omega),hat,Z0,hat2,Z0,zAy,z0j _ (by unfold z1B;omega),z1g (by omega),←zyq]
 · simp only[zaF]
   rw[hvl,if_neg (by omega),z1g (by omega)]
   rfl
theorem zDU(hSl:S.length<=255)(h0:0<S.length)(hx:zgT d m n S O x)(w:Nat)(hw:w<100000){R:List zan}(hR:∀r∈R,∀k∈r.1,k<256):
 z0k (zbF (z8n d m n S O) (toI x) (w:Int)) LFm (0,zeN R,none)=some (.inl (((w+1:Nat):Int),zeN (z7d x (z4Y d m n S O x) O.length R))):=by
 have hOl:=zdE hd hn hS hH hO
 have hxl:=hx.1
 have h256:=znF hSl hx
 have hm1:=hd.m1
 have hpre:∀k,∀r∈z7d x (z4Y d m n S O x) k R,∀j∈r.1,j<256:=fun k=>by
  induction k with
  |zero=>exact hR
  |succ k ih=>
   intro r hr
   rw[z9e] at hr
   split at hr
   · rcases Ze.1 hr with hr|hr
     · exact ih r hr
     · rw[Zj.1 hr]
       exact fun j hj=>h256 j (ZI hj)
   · exact ih r hr
 have hone:∀k,k<O.length->(∀r∈z7d x (z4Y d m n S O x) k R,r.1≠x.take k)->z8p (z1z (toI (x.take k))) (⟨toI (x.take k),(z4Y d m n S O x k).map toI⟩:CRow) (zeN (z7d x (z4Y d m n S O x) k R))=zeN (z7d x (z4Y d m n S O x) (k+1) R):=fun k hk hnew=>by
  rw[z9e,if_pos hnew,zo6 fun e he=>by
   obtain⟨r,hr,rfl⟩:=Zm.1 he
   exact fun q=>hnew r hr (zgp (hpre k r hr) (fun j hj=>h256 j (ZI hj)) q)]
  unfold zeN
  rw[ZY];rfl
 refine Exists.elim (z2c (b:=zbF (z8n d m n S O) (toI x) (w:Int)) (fun z=>∃(k:Nat) (ms:RMs),k<=O.length/\z=((k:Int),zeN (z7d x (z4Y d m n S O x) k R),ms)/\(ms=none∨ms=some (zh2 d m n S O x))) (fun z=>O.length+1-z.1.toNat)
  (fun r=>r= .inl (((w+1:Nat):Int),zeN (z7d x (z4Y d m n S O x) O.length R))) ?_ LFm (0,zeN R,none) ⟨0,none,by omega,rfl,.inl rfl⟩ (by simp only[LFm];omega)) fun r h=> ?_
 · rintro z ⟨k,ms,hk,rfl,hms⟩
   by_cases hk1:k<O.length
   · left
     have hpc:z6w (toI x) 0 (k:Int)=some (toI (x.take k)):=by
      have:=zfW (xs:=toI x) (k:=k) (by rw[z0b];omega)
      rw[this];unfold toI;rw[List.map_take]
     have hkey:z3P (toI (x.take k))=some (z1z (toI (x.take k))):=zu2 (by rw[Zq];omega) fun j hj=>h256 j (ZI hj)
     have hg:=zoK (p:=x.take k) (fun j hj=>h256 j (ZI hj)) (hpre k)
     have hbody:zbF (z8n d m n S O) (toI x) (w:Int) ((k:Int),zeN (z7d x (z4Y d m n S O x) k R),ms)=z0c (((k+1:Nat):Int),zeN (z7d x (z4Y d m n S O x) (k+1) R),(if ∀r∈z7d x (z4Y d m n S O x) k R,r.1≠x.take k then some (zh2 d m n S O x) else ms)):=by
      simp only[zbF]
      rw[z0b,if_pos (by omega),hpc,Z0,hkey,Z0,z1g (by omega)]
      by_cases hnew:∀r∈z7d x (z4Y d m n S O x) k R,r.1≠x.take k
      · have hno:z8i (z1z (toI (x.take k))) (zeN (z7d x (z4Y d m n S O x) k R))=none:=by
         cases he:z8i (z1z (toI (x.take k))) (zeN (z7d x (z4Y d m n S O x) k R)) with
         |none=>rfl
         |some v=>obtain⟨r,hr,e⟩:=hg.1 (by rw[he];rfl);exact absurd e (hnew r hr)
        have hvc:zba (toI (x.take k))=some (toI (x.take k)):=by
         unfold zba;rw[if_pos (by rw[z0b,Zq];omega)]
        rw[hno,if_pos hnew]
        rcases hms with rfl|rfl
        · simp only[Option.elim]
          have hmp:z2H (z8n d m n S O) (toI x)=some (zh2 d m n S O x):=zzk hd hn hS hH hO hpos (by omega) h0 hx
          rw[hmp,Z0,hvc,Z0,zxZ hd hn hS hH hO hpos hSl h0 hx hk1,hone k hk1 hnew];rfl
        · simp only[Option.elim]
          rw[z0j _ (by simp[zh2];omega),hvc,Z0,zxZ hd hn hS hH hO hpos hSl h0 hx hk1,hone k hk1 hnew];rfl
      · have hex:∃r∈z7d x (z4Y d m n S O x) k R,r.1=x.take k:=by
         obtain⟨r,hr⟩:=Classical.not_forall.1 hnew
         obtain⟨hr,e2⟩:=Classical.not_imp.1 hr
         exact⟨r,hr,Classical.not_not.1 e2⟩
        obtain⟨v,hv⟩:=ZX.1 (hg.2 hex)
        rw[hv,if_neg hnew,z9e,if_neg hnew];rfl
     refine⟨_,hbody,⟨k+1,_,by omega,rfl,?_⟩,by simp only;omega⟩
     split
     · exact .inr rfl
     · exact hms
   · right
     have:k=O.length:=by omega
     subst this
     refine⟨_,?_,rfl⟩
     simp only[zbF]
     rw[z0b,if_neg (by omega),z1g (by omega)]
     rfl
 · obtain⟨h3,rfl⟩:=h
   exact h3
theorem zyQ(hSl:S.length<=255)(h0:0<S.length){Y:List (List Nat)}(hY:∀x∈Y,zgT d m n S O x)(hYl:Y.length<=2000):∃W:List zan,zhb (z8n d m n S O) (Y.map toI)=some (W.map zji)/\W.Pairwise ltR/\RowsOk (z4Y d m n S O) O.length Y W:=by
 let Rk:=fun k=>(Y.take k).foldl (fun R x=>z7d x (z4Y d m n S O x) O.length R) ([]:List zan)
 have hRs:∀k,(hk:k<Y.length)->Rk (k+1)=z7d Y[k] (z4Y d m n S O Y[k]) O.length (Rk k):=fun k hk=>by
  simp only[Rk]
  rw[ZA hk,YK];rfl
 have hRo:∀k,k<=Y.length->RowsOk (z4Y d m n S O) O.length (Y.take k) (Rk k):=fun k=>by
  induction k with
  |zero=>intro _;exact⟨by simp[Rk],by simp[Rk],by simp⟩
  |succ k ih=>
   intro hk
   rw[hRs k (by omega),ZA (show k<Y.length by omega)]
   exact zrc (ih (by omega)) _
 have hRl:∀k,k<=Y.length->∀r∈Rk k,∀j∈r.1,j<256:=fun k hk r hr j hj=>by
  obtain⟨x,hx,i,hi,rfl⟩:=(hRo k hk).of r hr
  exact znF hSl (hY x (ZI hx)) j (ZI hj)
 have hOl:=zdE hd hn hS hH hO
 have hRn:∀k,k<=Y.length->(Rk k).length<=k*O.length:=fun k=>by
  induction k with
  |zero=>intro _;simp[Rk]
  |succ k ih=>
   intro hk
   rw[hRs k (by omega),Yi,Nat.one_mul]
   have:=zrd Y[k] (z4Y d m n S O Y[k]) O.length (Rk k)
   have:=ih (by omega)
   omega
 have hel:(zeN (Rk Y.length)).length=(Rk Y.length).length:=by simp[zeN]
 have hbd:(Rk Y.length).length<=2000*255:=ZJ (hRn _ (Z5 _)) (Nat.mul_le_mul hYl (by omega))
 have hA:zsp (z8n d m n S O) (Y.map toI)=some (zeN (Rk Y.length)):=by
  unfold zsp
  refine z0x (s:=((0:Int),([]:List (ByteArray×CRow)))) Y.length (fun k=>((k:Int),zeN (Rk k))) (by simp[Rk,zeN]) (by simp only[LFm];omega) (fun k hk=> ?_) ?_
  · have hat:atI (Y.map toI) (k:Int)=some (toI Y[k]):=by
     rw[z1k (by simpa using hk)];simp
    simp only[ziz]
    rw[Zh,if_pos (by omega),hat,Z0,zDU hd hn hS hH hO hpos hSl h0 (hY _ (Zw hk)) k (by omega) (hRl k (by omega)),←hRs k hk];rfl
  · simp only[ziz]
    rw[Zh,if_neg (by omega),z0j _ (by unfold z0X;rw[hel];omega)]
 have hok:=hRo Y.length (Z5 _)
 rw[Yr] at hok
 have hnd:((zeN (Rk Y.length)).map fun e=>e.2.pre).Nodup:=by
  unfold zeN
  rw[Y3]
  exact YC _ (fun a b (h:a.1≠b.1)=>fun e=>h (zrK e)) hok.nd
 have hmap:(zeN (Rk Y.length)).map (·.2)=(Rk Y.length).map zji:=by
  unfold zeN;rw[Y3];rfl
 refine⟨zyB (Rk Y.length),?_,zfH hok.nd,zmA hd hn hS hH hO hpos hok (zfI _)⟩
 unfold zhb
 rw[hA,Z0,if_pos ⟨hnd,by rw[hel];omega⟩,hmap,zkB]
end
end
section
open Go
theorem zyR{d:DFA}{m n:Nat}(hd:DfaOk d m n)(hn:n<=7)(h32:(z1A d m n).length<=32){O:List Nat}(hO:OrdC d m n (z1A d m n) O):zvm d m n (z1A d m n) O:=fun T Y hT y1 y2=>by
 have hS:=z7y hd
 have hH:=zcN hd hn
 have hpos:∀x∈z1A d m n,x≠0:=fun x hx=>zaE hd hx
 obtain⟨h0,hfull⟩:=zaU hd hn
 have hst:=zch hd hn hS hH hO hpos h0
 obtain⟨t1,t2,t3,_⟩:=znu hd hn hS hH hO hpos h0 _ _ _ _ (fun t h=>by rw[Zj.1 h];exact hst) (by simp) (by simp) hT
 exact zyQ hd hn hS hH hO hpos (by omega) h0 (fun x hx=>t1 x (y2.mem_iff.1 hx)) (by rw[y2.length_eq];exact t3)
theorem zBN{d:DFA}{m n:Nat}(hd:DfaOk d m n)(hn:n<=7)(hs:n<=5∨(n=7/\m=2/\d.next=defT))(h32:(z1A d m n).length<=32):
 ∃O,OrdC d m n (z1A d m n) O/\O.Perm (za5 d m n (z1A d m n) (z1A d m n).length)/\z4w d=some (O.map (za9 d m n (z1A d m n)),0)/\ ∃r,z4P d=some r/\
  ((24<O.length/\r=(zAu,3))∨(O.length<=24/\((zlL (z6R d m n (z1A d m n) O) m 2001 0 [z4x d m n (z1A d m n) O]=none/\r=(zAu,3))∨(r.2=0/\CovOk d m n (z1A d m n) O (zyF d m n (z1A d m n) O) (O.map (za9 d m n (z1A d m n))) r.1)))):=by
 have hS:=z7y hd
 have hH:=zcN hd hn
 have hpos:∀x∈z1A d m n,x≠0:=fun x hx=>zaE hd hx
 obtain⟨h0,hfull⟩:=zaU hd hn
 obtain⟨O,hG1,o1,o2⟩:=zBE hd hn
 have hO:OrdC d m n (z1A d m n) O:=⟨o1,o2⟩
 have hF1:=zl5 hd hn hS hH hO (by omega) (zCZ hd hn)
 obtain⟨r,r1,r2⟩:=zzU hd hn hS hH hO hpos (zyR hd hn h32 hO) hs h32 h0 hF1 hG1
 exact⟨O,hO,o2,hG1,r,r1,r2⟩
end
section
open Go
variable{p:List Nat}{c:Nat}
theorem zwM{d:DFA}{m n:Nat}{S:List Nat}{k:Nat}(h:0<z7A d m n S k):szN (S.getD k 0)≠1:=fun e=>by
 have hz:zet S k=true:=by unfold zet;rw[decide_eq_true e]
 unfold z7A zoF at h
 cases hN:S.length with
 |zero=>rw[hN] at h;simp[zwN] at h
 |succ N=>rw[hN] at h;simp only[zwN] at h;rw[if_pos hz] at h;omega
def mvL(p:List Nat)(s:Nat):Nat->Nat
 |0=>0
 |q+1=>if s.testBit q=true then mvL p s q|||2^p.getD q 0 else mvL p s q
def itL(p:List Nat):Nat->Nat->Nat
 |0,s=>s
 |k+1,s=>itL p k (mvL p s 5)
def zvp(x:Nat):Bool:=decide (szN x≠1)&&decide (x≠0)
def manL:List Nat:=(List.range 32).filter zvp
def gdB(p:List Nat)(A:Nat):Bool:=zvp A&&zvp (mvL p A 5)&&decide (mvL p A 5<32)&& !decide (mvL p A 5=A)&&(List.range 6).any fun k=>decide (itL p k (mvL p A 5)=A)
def okB(p:List Nat):Bool:= !decide (mvL p 31 5=31)||((List.range 5).all fun q=>decide (p.getD q 0=q))||(List.range 32).any fun A=>gdB p A&&(List.range 32).any fun B=>gdB p B&& !decide (A=B)&& !decide (A=mvL p B 5)&& !decide (mvL p A 5=B)&& !decide (mvL p A 5=mvL p B 5)
theorem zBd:((List.range 5).all fun a=>(List.range 5).all fun b=>(List.range 5).all fun c=>(List.range 5).all fun d=>(List.range 5).all fun e=>okB [a,b,c,d,e])=true:=by kernel_rfl
theorem zzl:manL.length=26:=by kernel_rfl
theorem zyu:((List.range 31).all fun u=>(List.range 31).all fun v=>decide ((manL.filter fun x=>decide (x=31)||decide (x&&&u=x)||decide (x&&&v=x)).length<=24))=true:=by kernel_rfl
theorem zGX:((List.range 5).all fun n=>decide (((List.range (2^n)).filter zvp).length<=11))=true:=by kernel_rfl
theorem zBD:((List.range 32).all fun x=>decide (mvL [0,1,2,3,4] x 5=x))=true:=by kernel_rfl
theorem zza:((List.range 5).all fun q=> !zvp (2^q))=true:=by kernel_rfl
theorem z7B{N:Nat}{p:Nat->Bool}(h:(List.range N).all p=true){x:Nat}(hx:x<N):p x=true:=Zn.1 h x (Zk.2 hx)
theorem zEo(h:p.length=5):p= [p.getD 0 0,p.getD 1 0,p.getD 2 0,p.getD 3 0,p.getD 4 0]:=by
 match p,h with
 | [_,_,_,_,_],_=>rfl
theorem zzb(h:p.length=5)(h5:∀q,q<5->p.getD q 0<5):okB p=true:=by
 rw[zEo h]
 exact z7B (z7B (z7B (z7B (z7B zBd (h5 0 (by omega))) (h5 1 (by omega))) (h5 2 (by omega))) (h5 3 (by omega))) (h5 4 (by omega))
section
variable {d:DFA} {m n:Nat} (hd:DfaOk d m n)
include hd
theorem zsn{P:Nat->Prop}(hs:∀x a,x<2^n->a<m->P x->P (mvN d x a)):∀(w:List UInt8) (s:Nat),s<2^n->(∀c∈w,97<=c.toNat/\c.toNat<97+m)->P s->P (z4y d s w)
 | [],s,_,_,h=>h
 |c::w,s,hl,hw,h=>by
  have hc:=hw c (Zy ..)
  exact zsn hs w _ (zcx hd (by omega)) (fun c' h'=>hw c' (Zl _ h')) (hs _ _ hl (by omega) h)
theorem zvX{P:Nat->Prop}(h0:P (2^n-1))(h1:∀q,q<n->P (2^q))(hs:∀x a,x<2^n->a<m->P x->P (mvN d x a)):∀x∈z1A d m n,P x:=fun x hx=>by
 have hp:=Yv n
 have hr:=z6u hd (s:=2^n-1) (by omega)
 have hx:=(z8R _).mem_iff.1 hx
 rcases((z7c hr.nd n).2.1 x).1 hx with h|⟨i,hi,rfl⟩
 · obtain⟨k,hk,rfl⟩:=Zt h
   obtain⟨_,o2,o3⟩:=hr.ok k hk
   have e:(z1C d m n (2^n-1)).1[k]=(z1C d m n (2^n-1)).1.getD k 0:=by grind
   rw[e,←o3]
   exact zsn hd hs _ _ (by omega) o2 h0
 · exact h1 i hi
theorem zyh{a s:Nat}(ha:a<m):zrj d m (mvN d s a) s:=by
 have:=hd.m6
 have e:(UInt8.ofNat (97+a)).toNat=97+a:=zaN (by omega)
 refine⟨[UInt8.ofNat (97+a)],fun c hc=> ?_,?_⟩
 · rw[Zj.1 hc,e];omega
 · simp only[z4y,e,Ym]
   exact zcg _
variable {S O:List Nat} (hS:SetsP d m n S) (hO:OrdC d m n S O)
include hS hO
theorem za1(hc:c∈O):c<(z6n d m n S).length/\z2d d m n S c<S.length/\szN (S.getD (z2d d m n S c) 0)≠1:=by
 have h:=hO.prm.mem_iff.1 hc
 unfold za5 at h
 obtain⟨h1,h2⟩:=ZV.1 h
 have h1:=Zk.1 h1
 exact⟨h1,zbf _ _ _ (z0f h1),zwM (of_decide_eq_true h2)⟩
theorem zsu{c':Nat}(hc:c∈O)(hc':c'∈O)(h1:zrj d m (S.getD (z2d d m n S c) 0) (S.getD (z2d d m n S c') 0))(h2:zrj d m (S.getD (z2d d m n S c') 0) (S.getD (z2d d m n S c) 0)):c=c':=by
 obtain⟨a1,a2,_⟩:=za1 hd hS hO hc
 obtain⟨b1,b2,_⟩:=za1 hd hS hO hc'
 have he:=z8Y hd hS
 refine zjb he (zab he _ (Z5 _)) (zbf _ _) a2 a1 b1 (he.refl _ a2) ?_
 show z2u d m n S (z2d d m n S c) (z2d d m n S c')=true
 simp only[z2u,Z6]
 exact⟨(z4f hd hS b2).2 h1,(z4f hd hS a2).2 h2⟩
end
theorem zsV{d:DFA}{a s:Nat}{p:List Nat}(hp:∀q,q<5->p.getD q 0=((d.next.getD q []).getD a 0).toNat):∀q,q<=5->ziH d.next s a q=mvL p s q
 |0,_=>rfl
 |q+1,h=>by rw[ziH,mvL,zsV hp q (by omega),hp q (by omega)]
theorem zyi{d:DFA}{m a:Nat}(hd:DfaOk d m 5)(ha:a<m){p:List Nat}(hp:∀s,mvN d s a=mvL p s 5):∀(k s:Nat),zrj d m (itL p k s) s
 |0,s=>zd2 d m s
 |k+1,s=>by
  have h:=zyh hd (s:=s) ha
  rw[hp] at h
  exact zd1 hd (zyi hd ha hp k _) h
theorem zH8{d:DFA}{m:Nat}(hd:DfaOk d m 5)(hm:m<=2){R:List Nat}(hn:R.Nodup)(hR:∀x∈R,x∈z1A d m 5/\zvp x=true)(h1:∀x∈R,∀y∈R,zrj d m x y->zrj d m y x->x=y):R.length<=24:=by
 have hS:=z7y hd
 have hml:∀x,x<32->zvp x=true->x∈manL:=fun x hx h=>ZV.2 ⟨Zk.2 hx,h⟩
 have hlt:∀x∈R,x<32:=fun x hx=>hS.lt x (hR x hx).1
 by_cases hp:∃a,a<m/\mvN d 31 a=31/\ ∃q,q<5/\((d.next.getD q []).getD a 0).toNat≠q
 · obtain⟨a,ha,h31,q,hq,hne⟩:=hp
   obtain⟨p,hpd⟩:∃p,p=(List.range 5).map fun q=>((d.next.getD q []).getD a 0).toNat:=⟨_,rfl⟩
   have hpl:p.length=5:=by rw[hpd];rfl
   have hpq:∀q,q<5->p.getD q 0=((d.next.getD q []).getD a 0).toNat:=fun q hq=>by
    rw[hpd,List.getD,Zd,List.getElem?_range hq];rfl
   have hmv:∀s,mvN d s a=mvL p s 5:=fun s=>by
    unfold mvN
    rw[hd.nl]
    exact zsV hpq 5 (by omega)
   have hok:=zzb hpl fun q hq=>by
    obtain⟨_,_,e,r0,r1⟩:=zbG hd hq ha
    rw[hpq q hq,e];omega
   unfold okB at hok
   rw[←hmv,h31] at hok
   have hnid:((List.range 5).all fun q=>decide (p.getD q 0=q))=false:=by
    rw[Bool.eq_false_iff]
    intro h
    have:=z7B h hq
    rw[decide_eq_true_eq,hpq q hq] at this
    exact hne this
   rw[hnid] at hok
   simp only[decide_true,Xe,Xf,Yg,Zk,Z6,Yb,decide_eq_false_iff_not] at hok
   obtain⟨A,hA,gA,B,hB,⟨⟨⟨gB,e1⟩,e2⟩,e3⟩,e4⟩:=hok
   have pick:∀A,A<32->gdB p A=true->∃x,(x=A∨x=mvL p A 5)/\x∉R/\x∈manL:=fun A hA g=>by
    unfold gdB at g
    simp only[Z6,Yg,Zk,decide_eq_true_eq,Yb,decide_eq_false_iff_not] at g
    obtain⟨⟨⟨⟨g1,g2⟩,g3⟩,g4⟩,k,hk,g5⟩:=g
    by_cases hr:A∈R
    · refine⟨_,.inr rfl,fun h=>g4 (h1 _ h _ hr ?_ ?_),hml _ g3 g2⟩
      · rw[←hmv];exact zyh hd ha
      · have:=zyi hd ha hmv k (mvL p A 5)
        rwa [g5] at this
    · exact⟨A,.inl rfl,hr,hml A hA g1⟩
   obtain⟨x,x1,x2,x3⟩:=pick A hA gA
   obtain⟨y,y1,y2,y3⟩:=pick B hB gB
   have hxy:x≠y:=by
    rcases x1 with rfl|rfl<;>rcases y1 with rfl|rfl<;>assumption
   have:=z8c (l:=x::y::R) (r:=manL) (by simp only[YH,Zu,not_or];exact⟨⟨hxy,x2⟩,y2,hn⟩) fun z hz=>by
    simp only[Zu] at hz
    rcases hz with rfl|rfl|hz
    · exact x3
    · exact y3
    · exact hml z (hlt z hz) (hR z hz).2
   rw[zzl] at this
   simp only[Zr] at this
   omega
 · have hid:∀a,a<m->mvN d 31 a=31->∀x,x<32->mvN d x a=x:=fun a ha h x hx=>by
    have hq:∀q,q<5->((d.next.getD q []).getD a 0).toNat=q:=fun q hq=>Decidable.byContradiction fun e=>hp ⟨a,ha,h,q,hq,e⟩
    have:=z7B zBD hx
    rw[decide_eq_true_eq] at this
    unfold mvN
    rw[hd.nl,zsV (p:= [0,1,2,3,4]) (fun q h=> ?_) 5 (by omega),this]
    rw[hq q h]
    rcases(by omega:q=0∨q=1∨q=2∨q=3∨q=4) with rfl|rfl|rfl|rfl|rfl<;>rfl
   have hU:∀a,∃u,u<31/\(a<m->mvN d 31 a≠31->u=mvN d 31 a):=fun a=>by
    by_cases h:a<m/\mvN d 31 a≠31
    · have:=zcx hd (s:=31) h.1
      exact⟨mvN d 31 a,by have:=h.2;omega,fun _ _=>rfl⟩
    · exact⟨0,by omega,fun h1 h2=>absurd ⟨h1,h2⟩ h⟩
   obtain⟨u,u1,u2⟩:=hU 0
   obtain⟨v,v1,v2⟩:=hU 1
   have sub31:∀x,x<32->z7D x 31:=fun x hx=>by
    have:=Nat.and_two_pow_sub_one_eq_mod x 5
    unfold z7D
    rw[show(31:Nat)=2^5-1 from rfl,this,YZ hx]
   have hP:=zvX hd (P:=fun x=>x=31∨(∃q,q<5/\x=2^q)∨x&&&u=x∨x&&&v=x) (.inl rfl) (fun q hq=>.inr (.inl ⟨q,hq,rfl⟩)) fun x a hx ha h=>by
    by_cases h31:mvN d 31 a=31
    · rw[hid a ha h31 x hx];exact h
    · have hs:=zsU hd ha (sub31 x hx)
      unfold z7D at hs
      rcases(by omega:a=0∨a=1) with rfl|rfl
      · rw[u2 ha h31];exact .inr (.inr (.inl hs))
      · rw[v2 ha h31];exact .inr (.inr (.inr hs))
   have:=z8c (l:=R) (r:=manL.filter fun x=>decide (x=31)||decide (x&&&u=x)||decide (x&&&v=x)) hn fun x hx=>by
    obtain⟨r1,r2⟩:=hR x hx
    refine ZV.2 ⟨hml x (hlt x hx) r2,?_⟩
    rcases hP x r1 with h|⟨q,hq,rfl⟩|h|h
    · simp[h]
    · have:=z7B zza hq
      rw[r2] at this
      simp at this
    · simp[h]
    · simp[h]
   have h24:=z7B (z7B zyu u1) v1
   rw[decide_eq_true_eq] at h24
   omega
theorem zz3{d:DFA}{m n:Nat}(hd:DfaOk d m n)(hn:n<=5)(hm:m<=2){O:List Nat}(hO:OrdC d m n (z1A d m n) O):O.length<=24:=by
 have hS:=z7y hd
 have hOn:O.Nodup:=hO.prm.nodup_iff.2 (YP.filter _)
 obtain⟨R,hRd⟩:∃R,R=O.map fun c=>(z1A d m n).getD (z2d d m n (z1A d m n) c) 0:=⟨_,rfl⟩
 have hl:R.length=O.length:=by rw[hRd,Zh]
 have hR:∀x∈R,x∈z1A d m n/\zvp x=true:=fun x hx=>by
  rw[hRd] at hx
  obtain⟨c,hc,rfl⟩:=Zm.1 hx
  obtain⟨_,f2,f3⟩:=za1 hd hS hO hc
  have:=z0f f2
  exact⟨this,by unfold zvp;rw[decide_eq_true f3,decide_eq_true (zaE hd this)];rfl⟩
 have hRn:R.Nodup:=by
  rw[hRd]
  exact z5r hOn fun x hx y hy e=>zsu hd hS hO hx hy (by rw[e];exact zd2 ..) (by rw[e];exact zd2 ..)
 rw[←hl]
 by_cases h5:n=5
 · subst h5
   refine zH8 hd hm hRn hR fun x hx y hy h1 h2=> ?_
   rw[hRd] at hx hy
   obtain⟨c,hc,rfl⟩:=Zm.1 hx
   obtain⟨c',hc',rfl⟩:=Zm.1 hy
   rw[zsu hd hS hO hc hc' h1 h2]
 · have:=z8c (r:=(List.range (2^n)).filter zvp) hRn fun x hx=>ZV.2 ⟨Zk.2 (hS.lt x (hR x hx).1),(hR x hx).2⟩
   have h4:=z7B zGX (show n<5 by omega)
   rw[decide_eq_true_eq] at h4
   omega
end
section
open Go
variable{U:List Nat}
theorem zl2{α:Type}[DecidableEq α]:∀ {l p:List α},l.Nodup->(∀a∈l,a∈p)->l.length<=p.length
 | [],_,_,_=>Yt _
 |a::l,p,h,hs=>by
  rw[YH] at h
  have ha:=hs a (by simp)
  have:=zl2 (p:=p.erase a) h.2 fun b hb=>(List.mem_erase_of_ne (by rintro rfl;exact h.1 hb)).2 (hs b (Zl _ hb))
  have hl:=List.length_erase_of_mem ha
  have:=YT ha
  simp only[Zr]
  omega
def zvw(U:List Nat):Nat->Nat->List (List Nat)
 |0,_=> [[]]
 |f+1,x=> []::(U.filter fun y=>decide (y&&&x=y)&& !decide (y=x)).flatMap fun y=>(zvw U f y).map (y:: ·)
def zD0(U:List Nat):Nat->List Nat->Prop
 |_,[]=>True
 |x,y::l=>y∈U/\y&&&x=y/\y≠x/\zD0 U y l
theorem zuL{U:List Nat}:∀ {f x:Nat} {l:List Nat},zD0 U x l->l.length<=f->l∈zvw U f x
 |0,x,[],_,_=>by simp[zvw]
 |0,x,y::l,_,h=>by simp at h
 |f+1,x,[],_,_=>by simp[zvw]
 |f+1,x,y::l,h,hl=>by
  obtain⟨h1,h2,h3,h4⟩:=h
  simp only[zvw,Zu,List.mem_flatMap,ZV,Zm]
  refine .inr ⟨y,⟨h1,by simp[h2,h3]⟩,l,zuL h4 (by simpa using hl),rfl⟩
theorem zly{U V:List Nat}(hU:∀x∈U,x∈V):∀ {x:Nat} {l:List Nat},zD0 U x l->zD0 V x l
 |_,[],_=>trivial
 |_,_::_,⟨h1,h2,h3,h4⟩=>⟨hU _ h1,h2,h3,zly hU h4⟩
theorem zoo{f:Nat->Nat}:∀ {X Y:List Nat},(∀a b,a∈X->b∈Y->f a=f b->a=b)->X.map f=Y.map f->X=Y
 | [],[],_,_=>rfl
 | [],_::_,_,h=>by simp at h
 |_::_,[],_,h=>by simp at h
 |x::X,y::Y,hf,h=>by
  simp only[Zs,Xl] at h
  rw[hf x y (by simp) (by simp) h.1,zoo (fun a b ha hb=>hf a b (Zl _ ha) (Zl _ hb)) h.2]
theorem zgN{y:Nat->List Nat}{P:List Nat->Prop}(hB:∀l:List (List Nat),l.Nodup->(∀t∈l,P t)->l.length<2000):∀(k a:Nat) (T:List (List Nat)),(∀b,a<=b->b<a+k->P (y b))->(∀t∈T,P t)->T.Nodup->∃T',znv y k a T=some T'/\(∀t∈T',P t)/\T'.Nodup
 |0,a,T,_,hP,hn=>⟨T,rfl,hP,hn⟩
 |k+1,a,T,hy,hP,hn=>by
  simp only[znv]
  by_cases h:y a∈T
  · rw[if_pos h]
    exact zgN hB k (a+1) T (fun b h1 h2=>hy b (by omega) (by omega)) hP hn
  · have:=hB T hn hP
    rw[if_neg h,if_neg (by omega)]
    refine zgN hB k (a+1) _ (fun b h1 h2=>hy b (by omega) (by omega)) (fun t ht=> ?_) (Yu.2 ⟨hn,by simp,fun u hu v hv=>by rw[Zj] at hv;subst hv;rintro rfl;exact h hu⟩)
    rcases Ze.1 ht with ht|ht
    · exact hP t ht
    · rw[Zj.1 ht];exact hy a (by omega) (by omega)
theorem zlK{st:Nat->List Nat->List Nat}{m:Nat}{P:List Nat->Prop}(hst:∀a x,a<m->P x->P (st a x))(hB:∀l:List (List Nat),l.Nodup->(∀t∈l,P t)->l.length<2000):∀(f i:Nat) (T:List (List Nat)),(∀t∈T,P t)->T.Nodup->∃T',zlL st m f i T=some T'
 |0,i,T,_,_=>⟨T,rfl⟩
 |f+1,i,T,hP,hn=>by
  simp only[zlL]
  by_cases h:i<T.length
  · rw[if_pos h]
    have hx:P (T.getD i []):=hP _ (by rw[List.getD,Z1 h];exact Zw h)
    obtain⟨T',e,h1,h2⟩:=zgN hB m 0 T (y:=fun a=>st a (T.getD i [])) (fun b _ hb=>hst b _ (by omega) hx) hP hn
    rw[e,Z0]
    exact zlK hst hB f (i+1) T' h1 h2
  · rw[if_neg h];exact⟨T,rfl⟩
def zxr(d:DFA)(m n:Nat)(S O:List Nat):Nat->Nat->List Nat->Prop
 |_,_,[]=>True
 |c,i,s::x=>(cpN d m n S O i≠c->s=0)/\zxr d m n S O (c+1) (dnN d m n S O c i s) x
theorem zxT{d:DFA}{m n:Nat}{S O:List Nat}(a:Nat):∀(x:List Nat) (c o i:Nat),zxr d m n S O c i ((stN d m n S O a c o i x).map (·.1))
 | [],_,_,_=>trivial
 |s::x,c,o,i=>by
  simp only[stN,Zs,zxr]
  refine⟨fun h=> ?_,zxT a x _ _ _⟩
  unfold zlU
  rw[if_neg h]
  simp only[List.getD,List.getElem?_replicate]
  split<;>rfl
theorem zxW{d:DFA}{m n:Nat}{S O:List Nat}(q:Nat):∀(k c i:Nat),zxr d m n S O c i (srN d m n S O q k c i)
 |0,_,_=>trivial
 |k+1,c,i=>by
  simp only[srN,zxr]
  exact⟨fun h=>if_neg h,zxW q k _ _⟩
theorem zp1(d:DFA)(m n:Nat)(S O:List Nat):∀(y:List Nat) (c i:Nat),(z9E d m n S O c i y).length<=y.length
 | [],_,_=>by simp[z9E]
 |s::y,c,i=>by
  have:=zp1 d m n S O y (c+1) (dnN d m n S O c i s)
  simp only[z9E,Za,Zr]
  split<;>simp<;>omega
section
variable {d:DFA} {m n:Nat} {S O:List Nat} (hd:DfaOk d m n) (hn:n<=7) (hS:SetsP d m n S) (hH:zlS d m n S) (hO:OrdC d m n S O) (hpos:∀x∈S,x≠0)
include hd hn hS hH hO hpos
theorem zuV:∀(y:List Nat) (c i:Nat),i<S.length->c<=cpN d m n S O i->c+y.length<=O.length->(∀j,j<y.length->y.getD j 0<szO d m n S O (c+j))->∀k∈z9E d m n S O c i y,k<S.length
 | [],c,i,_,_,_,_,k,hk=>by simp[z9E] at hk
 |s::y,c,i,hi,hc,hl,hx,k,hk=>by
  simp only[Zr] at hl
  have hcO:c<O.length:=by omega
  have hs:s<szO d m n S O c:=by simpa using hx 0 (by simp)
  obtain⟨i1,i2⟩:=znj hd hn hS hH hO hpos hcO hi hc hs
  simp only[z9E] at hk
  rcases Ze.1 hk with hk|hk
  · split at hk
    · rw[Zj.1 hk];exact i1
    · simp at hk
  · exact zuV y (c+1) _ i1 i2 (by omega) (fun j hj=>by have:=hx (j+1) (by simp;omega);simp only[Yz] at this;rwa [show c+1+j=c+(j+1) by omega]) k hk
theorem zrY:∀(x y:List Nat) (c i:Nat),x.length=y.length->i<S.length->c<=cpN d m n S O i->c+x.length<=O.length->(∀j,j<x.length->x.getD j 0<szO d m n S O (c+j))->(∀j,j<y.length->y.getD j 0<szO d m n S O (c+j))->
 zxr d m n S O c i x->zxr d m n S O c i y->z9E d m n S O c i x=z9E d m n S O c i y->x=y
 | [],[],_,_,_,_,_,_,_,_,_,_,_=>rfl
 | [],t::y,_,_,h,_,_,_,_,_,_,_,_=>by simp at h
 |s::x,[],_,_,h,_,_,_,_,_,_,_,_=>by simp at h
 |s::x,t::y,c,i,hl,hi,hc,hcl,hx,hy,h1,h2,he=>by
  simp only[Zr] at hl hcl
  have hcO:c<O.length:=by omega
  have hs:s<szO d m n S O c:=by simpa using hx 0 (by simp)
  have ht:t<szO d m n S O c:=by simpa using hy 0 (by simp)
  obtain⟨a1,a2⟩:=h1
  obtain⟨b1,b2⟩:=h2
  have hst:s=t:=by
   by_cases e:cpN d m n S O i=c
   · simp only[z9E,if_pos e,XI,Xl] at he
     have hz:=zgX hd hn hS hH hO hi (by omega)
     rw[e] at hz
     have he1:=he.1
     unfold dnN at he1
     rw[if_pos e,if_pos e] at he1
     exact z6G (zrL hd hn hS hi) (by omega) (by omega) he1
   · rw[a1 e,b1 e]
  subst hst
  obtain⟨i1,i2⟩:=znj hd hn hS hH hO hpos hcO hi hc hs
  have he2:z9E d m n S O (c+1) (dnN d m n S O c i s) x=z9E d m n S O (c+1) (dnN d m n S O c i s) y:=by
   simp only[z9E] at he
   exact YQ he
  have sh:∀z:List Nat,(∀j,j<(s::z).length->(s::z).getD j 0<szO d m n S O (c+j))->∀j,j<z.length->z.getD j 0<szO d m n S O (c+1+j):=fun z hz j hj=>by
   have:=hz (j+1) (by simp;omega)
   simp only[Yz] at this
   rwa [show c+1+j=c+(j+1) by omega]
  rw[zrY x y (c+1) _ (by omega) i1 i2 (by omega) (sh x hx) (sh y hy) a2 b2 he2]
theorem zuW:∀(x:List Nat) (c i:Nat),i<S.length->c<=cpN d m n S O i->c+x.length<=O.length->(∀j,j<x.length->x.getD j 0<szO d m n S O (c+j))->zD0 S (S.getD i 0) ((z9E d m n S O c i x).map fun k=>S.getD k 0)
 | [],_,_,_,_,_,_=>trivial
 |s::x,c,i,hi,hc,hcl,hx=>by
  simp only[Zr] at hcl
  have hcO:c<O.length:=by omega
  have hs:s<szO d m n S O c:=by simpa using hx 0 (by simp)
  obtain⟨i1,i2⟩:=znj hd hn hS hH hO hpos hcO hi hc hs
  have ih:=zuW x (c+1) _ i1 i2 (by omega) (fun j hj=>by
   have:=hx (j+1) (by simp;omega)
   simp only[Yz] at this
   rwa [show c+1+j=c+(j+1) by omega])
  by_cases e:cpN d m n S O i=c
  · have hz:=zgX hd hn hS hH hO hi (by omega)
    rw[e] at hz
    have hd1:dnN d m n S O c i s=(tlR d m n S i).getD s 0:=by unfold dnN;rw[if_pos e]
    have ht:=(znT hd hn hS hi (s:=s) (by omega)).1
    obtain⟨t1,t2,t3⟩:=z4U.1 (z5N ht).1
    simp only[z9E,if_pos e,XI,Zs]
    refine⟨z0f i1,?_,fun h=> ?_,ih⟩
    · rw[hd1];exact t3
    · rw[hd1] at h;exact t2 (z6G hS.nd t1 hi h)
  · have hd1:dnN d m n S O c i s=i:=by unfold dnN;rw[if_neg e]
    simp only[z9E,if_neg e,Y4]
    rw[hd1] at ih⊢
    exact ih
theorem zpr(h0:0<S.length)(h24:O.length<=24){N:Nat}(hU:∀x∈S,x∈U)(hN:(zvw U 24 (S.getD 0 0)).length<=N){l:List (List Nat)}(hl:l.Nodup)(hT:∀t∈l,zgT d m n S O t/\zxr d m n S O 0 0 t):l.length<=N:=by
 have h1:(l.map fun x=>(z9E d m n S O 0 0 x).map fun k=>S.getD k 0).Nodup:=by
  refine z5r hl fun x hx y hy e=> ?_
  obtain⟨⟨x1,x2⟩,x3⟩:=hT x hx
  obtain⟨⟨y1,y2⟩,y3⟩:=hT y hy
  have hx2:∀j,j<x.length->x.getD j 0<szO d m n S O (0+j):=fun j hj=>by rw[Zp];exact x2 j (by omega)
  have hy2:∀j,j<y.length->y.getD j 0<szO d m n S O (0+j):=fun j hj=>by rw[Zp];exact y2 j (by omega)
  refine zrY hd hn hS hH hO hpos x y 0 0 (by omega) h0 (Yt _) (by omega) hx2 hy2 x3 y3 ?_
  have lt:∀z:List Nat,z.length=O.length->(∀j,j<z.length->z.getD j 0<szO d m n S O (0+j))->∀k∈z9E d m n S O 0 0 z,k<S.length:=fun z hz h=>zuV hd hn hS hH hO hpos z 0 0 h0 (Yt _) (by omega) h
  have lx:=lt x x1 hx2
  have ly:=lt y y1 hy2
  generalize z9E d m n S O 0 0 x=X at e lx
  generalize z9E d m n S O 0 0 y=Y at e ly
  exact zoo (fun a b ha hb e=>z6G hS.nd (lx a ha) (ly b hb) e) e
 have h2:=zl2 (p:=zvw U 24 (S.getD 0 0)) h1 fun z hz=>by
  obtain⟨x,hx,rfl⟩:=Zm.1 hz
  obtain⟨⟨x1,x2⟩,x3⟩:=hT x hx
  refine zuL (zly hU (zuW hd hn hS hH hO hpos x 0 0 h0 (Yt _) (by omega) fun j hj=>by rw[Zp];exact x2 j (by omega))) ?_
  rw[Zh]
  have:=zp1 d m n S O x 0 0
  omega
 rw[Zh] at h2
 omega
theorem zp9(h0:0<S.length)(h24:O.length<=24)(hU:∀x∈S,x∈U)(hN:(zvw U 24 (S.getD 0 0)).length<2000):∃T,zlL (z6R d m n S O) m 2001 0 [z4x d m n S O]=some T:=by
 refine zlK (P:=fun t=>zgT d m n S O t/\zxr d m n S O 0 0 t) (fun a x _ h=>⟨(zaD hd hn hS hH hO hpos h.1 h0).1,zxT a x 0 0 0⟩) (fun l hl hT=> ?_) 2001 0 _ (fun t ht=> ?_) (by simp)
 · exact X2 (zpr hd hn hS hH hO hpos h0 h24 hU (Z5 _) hl hT) hN
 · rw[Zj.1 ht]
   exact⟨zch hd hn hS hH hO hpos h0,zxW _ _ _ _⟩
end
theorem zzV:((List.range 6).all fun n=>decide ((zvw ((List.range (2^n)).filter fun x=> !decide (x=0)) 24 (2^n-1)).length<2000))=true:=by kernel_rfl
end
section
open Go
theorem zH9(l s:Int)(f:List Bool):decide ((zvw (z1A ⟨l,s,f,defT⟩ 2 7) 24 127).length<2000)=true:=by kernel_rfl
theorem zzT{d:DFA}{m n:Nat}(hd:DfaOk d m n)(hm:m<=2)(hs:n<=5∨(n=7/\m=2/\d.next=defT)):∃O c,OrdC d m n (z1A d m n) O/\O.length<=24/\(z1A d m n).length<=32/\z4w d=some (O.map (za9 d m n (z1A d m n)),0)/\z4P d=some (c,0)/\
 CovOk d m n (z1A d m n) O (zyF d m n (z1A d m n) O) (O.map (za9 d m n (z1A d m n))) c:=by
 have hn:n<=7:=by omega
 have hS:=z7y hd
 have hH:=zcN hd hn
 have hpos:∀x∈z1A d m n,x≠0:=fun x hx=>zaE hd hx
 obtain⟨h0,hfull⟩:=zaU hd hn
 have h32:(z1A d m n).length<=32:=by
  rcases hs with h|⟨rfl,rfl,h⟩
  · exact zkC hd h
  · obtain⟨l,s,f,nx⟩:=d
    simp only at h
    subst h
    rw[zEG];omega
 obtain⟨O,hO,_,hG,r,r1,r2⟩:=zBN hd hn hs h32
 have h24:O.length<=24:=by
  rcases hs with h|⟨rfl,rfl,h⟩
  · exact zz3 hd h hm hO
  · have:=zdE hd hn hS hH hO
    obtain⟨l,s,f,nx⟩:=d
    simp only at h
    subst h
    rw[zEG] at this;omega
 have hb:∃T,zlL (z6R d m n (z1A d m n) O) m 2001 0 [z4x d m n (z1A d m n) O]=some T:=by
  rcases hs with h|⟨rfl,rfl,h⟩
  · have hN:=z7B zzV (show n<6 by omega)
    rw[decide_eq_true_eq,←hfull] at hN
    exact zp9 hd hn hS hH hO hpos h0 h24 (fun x hx=>ZV.2 ⟨Zk.2 (hS.lt x hx),by simp[hpos x hx]⟩) hN
  · refine zp9 hd hn hS hH hO hpos h0 h24 (fun x hx=>hx) ?_
    rw[hfull]
    obtain⟨l,s,f,nx⟩:=d
    simp only at h
    subst h
    exact of_decide_eq_true (zH9 l s f)
 obtain⟨T,hT⟩:=hb
 rcases r2 with⟨h,_⟩|⟨_,⟨h,_⟩|⟨h,hc⟩⟩
 · omega
 · rw[hT] at h;cases h
 · obtain⟨c,e⟩:=r
   simp only at h
   subst h
   exact⟨O,c,hO,h24,h32,hG,r1,hc⟩
theorem zAa{t:Tape}(ht:TapeOk t)(m most:Nat)(hm:1<=m/\m<=2)(hk:1<=most/\most<=5):∃d t' n,z5H t m most=some (d,t')/\DfaOk d m n/\n<=7/\TapeOk t'/\(z1A d m n).length<=32/\(n<=5∨(n=7/\m=2/\d.next=defT)):=by
 unfold z5H
 obtain⟨v,t1,e1,v0,v1,ht1⟩:=z7z ht 6 (by omega) (by omega)
 simp only[e1,Z0]
 split
 · obtain⟨d,t',n,e,h1,h2,h3⟩:=zqm ht1 m most (by omega) (by omega)
   exact⟨d,t',n,by rw[e,Z0],h1,by omega,h3,zkC h1 (by omega),.inl (by omega)⟩
 · split
   · have:(if(4:Int)<(most:Int) then(4:Int) else(most:Int))=((min most 4:Nat):Int):=by split<;>omega
     rw[this]
     obtain⟨d,t',n,e,h1,h2,h3⟩:=zwd ht1 m (min most 4) (by omega) (by omega)
     exact⟨d,t',n,by rw[e,Z0],h1,by omega,h3,zkC h1 (by omega),.inl (by omega)⟩
   · split
     · obtain⟨d,t',n,e,h1,h2,h3,h4⟩:=zlx ht1 m hm
       refine⟨d,t',n,by rw[e,Z0],h1,h2,h3,?_,h4.imp (fun h=>by omega) id⟩
       rcases h4 with h4|⟨rfl,rfl,h4⟩
       · exact zkC h1 (by omega)
       · obtain⟨l,s,f,nx⟩:=d
         simp only at h4
         subst h4
         rw[zEG];omega
     · obtain⟨d,t',n,e,h1,h2,h3⟩:=zyd ht1 m most (by omega) (by omega)
       exact⟨d,t',n,by rw[e,Z0],h1,by omega,h3,zkC h1 (by omega),.inl (by omega)⟩
end
section
open Go
theorem zrM{d:DFA}{m n:Nat}(hd:DfaOk d m n)(hn:n<=7){S:List Nat}(hS:SetsP d m n S){i:Nat}(hi:i<S.length)(hz:szN (S.getD i 0)≠1)(h0:S.getD i 0≠0):2<=(z6p S i).length:=by
 obtain⟨q,hq⟩:=YR h0
 obtain⟨t,ht,hb⟩:=zcf hd hn hS hi hz hq
 obtain⟨_,_,f3,f4⟩:=zce hn hS hi ht
 have:∃p,(S.getD i 0).testBit p=true/\(S.getD t 0).testBit p=false:=by
  refine Y6 fun hc=>f4 (ZS fun p=> ?_)
  cases e:(S.getD t 0).testBit p with
  |true=>exact(z2i.1 f3 p e).symm
  |false=>
   cases e2:(S.getD i 0).testBit p with
   |true=>exact absurd ⟨p,e2,e⟩ hc
   |false=>rfl
 obtain⟨p,p1,p2⟩:=this
 obtain⟨u,hu,hub⟩:=zcf hd hn hS hi hz p1
 have hne:u≠t:=fun e=>by rw[e,p2] at hub;cases hub
 match hl:z6p S i,ht,hu with
 | [],ht,_=>simp at ht
 | [x],ht,hu=>simp at ht hu;exact absurd (hu.trans ht.symm) hne
 |_::_::_,_,_=>simp
theorem zzI:∀n:Fin 8,szN (2^n.val-1)=n.val:=by decide+kernel
theorem zAG{d:DFA}{m n:Nat}(hd:DfaOk d m n)(hm:m<=2)(hs:n<=5∨(n=7/\m=2/\d.next=defT)):∃c G,z4P d=some (c,0)/\z4w d=some (G,0)/\c.casc.sizes.length=G.length/\c.groups=G/\G.length<=24/\(∀i,i<G.length->c.casc.sizes.getD i 0=(((G.getD i default).tiles.length:Nat):Int)/\2<=(G.getD i default).tiles.length/\(G.getD i default).tiles.length<=32)/\(G.length=0↔n=1):=by
 have hn:n<=7:=by omega
 have hn1:=hd.n1
 have hS:=z7y hd
 have hH:=zcN hd hn
 have hpos:∀x∈z1A d m n,x≠0:=fun x hx=>zaE hd hx
 obtain⟨h0,hf⟩:=zaU hd hn
 obtain⟨O,c,hO,h24,h32,hG,hc,T,Y,W,_,_,_,_,_,rfl⟩:=zzT hd hm hs
 refine⟨_,_,hc,hG,by simp[zyF,toI],rfl,by simpa using h24,fun i hi=> ?_,?_⟩
 · rw[Zh] at hi
   obtain⟨f1,f2,f3⟩:=za1 hd hS hO (z0f hi)
   have e1:((O.map (za9 d m n (z1A d m n))).getD i default).tiles=toI (z2K (z1A d m n) (z2d d m n (z1A d m n) (O.getD i 0))):=by
    rw[List.getD,Zd,Z1 hi]
    simp[za9,List.getD,hi]
   have e2:(zyF d m n (z1A d m n) O).getD i 0=((szO d m n (z1A d m n) O i:Nat):Int):=by
    simp[zyF,toI,List.getD,hi]
   have e3:(toI (z2K (z1A d m n) (z2d d m n (z1A d m n) (O.getD i 0)))).length=szO d m n (z1A d m n) O i:=by
    simp[toI,z2K,szO]
   have e4:=zrM hd hn hS f2 f3 (hpos _ (z0f f2))
   have e5:szO d m n (z1A d m n) O i<=(z1A d m n).length:=by
    unfold szO z6p
    split
    · simp
    · refine ZJ (ZC _ _) ?_
      unfold z9L
      refine ZJ (ZC _ _) ?_
      simp
   refine⟨?_,?_,?_⟩
   · rw[e1,e3];exact e2
   · rw[e1,e3];exact e4
   · rw[e1,e3];omega
 · rw[Zh]
   constructor
   · intro hO0
     refine Y6 fun h1=> ?_
     have hz:szN ((z1A d m n).getD 0 0)≠1:=by
      rw[hf]
      have:=zzI ⟨n,by omega⟩
      simp only at this
      rw[this];exact h1
     have hp:0<z7A d m n (z1A d m n) 0:=zzD hd hn hS h0 (by
      have:=zrM hd hn hS h0 hz (hpos _ (z0f h0))
      intro e;rw[e] at this;simp at this)
     have:=(zoY hd hn hS hH hO h0).2 hp
     rw[ZW hO0] at this
     simp at this
   · rintro rfl
     match hO':O with
     | []=>rfl
     |c::O'=>
      exfalso
      obtain⟨f1,f2,f3⟩:=za1 hd hS hO (c:=c) (by simp)
      have a:=hS.lt _ (z0f f2)
      have b:=hpos _ (z0f f2)
      have:(z1A d m 1).getD (z2d d m 1 (z1A d m 1) c) 0=1:=by omega
      rw[this] at f3
      exact f3 (by decide)
end
end Go.Proofs.YtianakjpgmmflaaGreatDoor
