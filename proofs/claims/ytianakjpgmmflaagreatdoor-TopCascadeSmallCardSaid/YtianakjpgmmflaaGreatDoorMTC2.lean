/- Proved here: a part of the proof of the law at hand, in one text: no condition. -/
import Derived.Test.YtianakjpgmmflaaGreatDoorMTC1
import Derived.MapKept
import Derived.WideKeyRuns
import Derived.Laws.StructEq
import Derived.OrdersHeld
import Derived.Tactics
import Derived.Still
import Derived.Deep.Quiet
import Derived.Scope
set_option linter.unusedVariables false
set_option linter.unusedSimpArgs false
set_option linter.unusedSectionVars false
set_option maxRecDepth 100000
namespace Go.Proofs.YtianakjpgmmflaaGreatDoor
section
mutual
def opn:T->Bool
 | .sc _=>false
 | .dead=>false
 | .agg cs=>zgV cs
 | .tup cs=>zgV cs
 | .sl n cs=> !(n==0&&cs.isEmpty)
 | .os _ _ cs=>zgV cs
 | .vr cs=>zgV cs
 | .vo _ cs=>zgV cs
 | .pr _=>true
 | .mp _ _=>false
 | .mr _ _=>true
 | .mt _ _ _=>true
 | .ms _ _ _=>true
 | .cl _ cs=>zgV cs
def zgV:List T->Bool
 | []=>false
 |t::ts=>opn t||zgV ts
end
theorem zaK:∀ {cs:List T} {t:T} {j:Nat},zgV cs=false->cs[j]? =some t->opn t=false
 | [],t,j,h,hj=>by simp at hj
 |c::cs,t,0,h,hj=>by
  simp only[zgV,YY] at h
  simp at hj;subst hj;exact h.1
 |c::cs,t,j+1,h,hj=>by
  simp only[zgV,YY] at h
  exact zaK h.2 (by simpa using hj)
theorem TRep.moveC{w w':World}{K K':Nat->z0a}{c:z0a}{v:Value}{t:T}(h:TRep w K c v t):opn t=false->∀ {c':z0a},
 (∀b s,b<w.heap.size->c≠ []->K b=c++s->K' b=c'++s/\w'.heap[b]? =w.heap[b]?)->(c= []↔c'= [])->w.heap.size<=w'.heap.size->TRep w' K' c' v t:=by
 induction h with
 |sc c v h=>intro _ c' _ _ _;exact .sc c' v h
 |dead c v=>intro _ c' _ _ _;exact .dead c' v
 |agg c vs cs F hl hF h ih=>
  intro ho c' h1 h3 h4
  refine .agg c' vs cs F hl hF (fun j t ht=>ih j t ht (zaK ho ht) ?_ ?_ h4)
  · intro b s hb hc hK
    by_cases hc0:c= []
    · subst hc0;exact absurd rfl hc
    · have hc0':c'≠ []:=fun e=>hc0 (h3.2 e)
      rw[z6M hc0] at hK
      rw[z6M hc0']
      have:=h1 b (j::s) hb hc0 (by simpa using hK)
      exact⟨by simpa using this.1,this.2⟩
  · cases c with
    |nil=>have:=h3.1 rfl;subst this;simp[ext]
    |cons a c=>cases c' with
     |nil=>have:=h3.2 rfl;cases this
     |cons a' c'=>simp[ext]
 |tup c vs cs F hl hF h ih=>
  intro ho c' h1 h3 h4
  refine .tup c' vs cs F hl hF (fun j t ht=>ih j t ht (zaK ho ht) ?_ ?_ h4)
  · intro b s hb hc hK
    by_cases hc0:c= []
    · subst hc0;exact absurd rfl hc
    · have hc0':c'≠ []:=fun e=>hc0 (h3.2 e)
      rw[z6M hc0] at hK
      rw[z6M hc0']
      have:=h1 b (j::s) hb hc0 (by simpa using hK)
      exact⟨by simpa using this.1,this.2⟩
  · cases c with
    |nil=>have:=h3.1 rfl;subst this;simp[ext]
    |cons a c=>cases c' with
     |nil=>have:=h3.2 rfl;cases this
     |cons a' c'=>simp[ext]
 |emp c a cap hc=>intro _ c' _ _ _;exact .emp c' a cap hc
 |fro c g o n cap cs F hK hg hn hc hF h ih=>
  intro ho c' h1 h3 h4
  simp only[opn,Bool.not_eq_false',Z6,beq_iff_eq,List.isEmpty_iff] at ho
  obtain⟨rfl,rfl⟩:=ho
  exact .emp c' _ cap hc
 |nil c sz=>intro _ c' _ _ _;exact .nil c' sz
 |own c g n cap size cs arr e fz F hfz hc0 hK hg hs hl hz hn hc hF h ih=>
  intro ho c' h1 h3 h4
  have hc0':c'≠ []:=fun e=>hc0 (h3.2 e)
  obtain⟨k1,k2⟩:=h1 g [] (z0P hg) hc0 (by simpa using hK)
  refine .own c' g n cap size cs arr e fz F hfz hc0' (by simpa using k1) (by rw[k2];exact hg) hs hl hz hn hc hF (fun j t ht=>ih j t ht (zaK ho ht) ?_ (by simp) h4)
  intro b s hb _ hK
  have:=h1 b (j::s) hb hc0 (by simpa using hK)
  exact⟨by simpa using this.1,this.2⟩
 |vr c g cs arr e fz F hfz hc0 hK hg hl hF h ih=>
  intro ho c' h1 h3 h4
  have hc0':c'≠ []:=fun e=>hc0 (h3.2 e)
  obtain⟨k1,k2⟩:=h1 g [] (z0P hg) hc0 (by simpa using hK)
  refine .vr c' g cs arr e fz F hfz hc0' (by simpa using k1) (by rw[k2];exact hg) hl hF (fun j t ht=>ih j t ht (zaK ho ht) ?_ (by simp) h4)
  intro b s hb _ hK
  have:=h1 b (j::s) hb hc0 (by simpa using hK)
  exact⟨by simpa using this.1,this.2⟩
 |vo c g off cs h ih=>intro ho c' h1 h3 h4;exact .vo c' g off cs (ih ho h1 h3 h4)
 |pr=>intro ho;cases ho
 |mr=>intro ho;cases ho
 |mt=>intro ho;cases ho
 |ms=>intro ho;cases ho
 |mp c g kk es ents clock hc0 hK hg hh=>
  intro ho c' h1 h3 h4
  obtain⟨k1,k2⟩:=h1 g [] (z0P hg) hc0 (by simpa using hK)
  exact .mp c' g kk es ents clock (fun e=>hc0 (h3.2 e)) (by simpa using k1) (by rw[k2];exact hg) hh
 |cl c f vs cs F hl hF h ih=>
  intro ho c' h1 h3 h4
  exact .cl c' f vs cs F hl hF (fun j t ht=>ih j t ht (zaK ho ht) (fun _ _ _ hc=>absurd rfl hc) YU h4)
def z6i:T->Bool
 | .vr _=>true
 | .os _ _ _=>true
 | .vo _ _=>true
 |_=>false
def zil(w:World)(K:Nat->z0a)(i:Nat)(v:Value)(t:T):Prop:=TRep w K (if z6i t then col i else []) v t
structure EnvS(I:World->(Nat->z0a)->Prop):Prop where
 keep:∀ {w K w' K'},I w K->w.heap.size<=w'.heap.size->(∀b,b<w.heap.size->K b= []->K' b= []/\w'.heap[b]? =w.heap[b]?)->I w' K'
theorem EnvS.step{I:World->(Nat->z0a)->Prop}(h:EnvS I){w w':World}{K K':Nat->z0a}(hi:I w K)(s:Step w K w' K'):I w' K':=
 h.keep hi s.size fun b hb e=>by
  obtain⟨a1,a2⟩:=s.old b hb (.inl e)
  exact⟨a1.trans e,a2⟩
theorem EnvS.none:EnvS (fun _ _=>True):=⟨fun _ _ _=>trivial⟩
structure CallOk(P:Program)(I:World->(Nat->z0a)->Prop)(f:FuncId)(args:List T)(res:T)(outs:List T):Prop where
 enter:∀(vals:Array Value) (w:World),(callFunc f vals).run P w= .ok (.enter f vals) w
 calls:∀(w:World) (K:Nat->z0a) (vals:Array Value),vals.size=args.length->(∀i t,args[i]? =some t->zil w K i (vals.getD i undef) t)->I w K->
  Calls P f vals w fun e w'=>∃v K',e= .returned v/\TRep w' K' [0] v res/\(∀i t,args[i]? =some t->z6i t=true->∃t',outs[i]? =some t'/\TRep w' K' (col i) (vals.getD i undef) t')/\Step w K w' K'
variable{a:Act}{fr:Fr}{cs:List T}{g:Nat}{G R:Nat->Value}{K K' K0:Nat->z0a}{t:T}{u v:Value}{w w':World}{c:z0a}
abbrev z0e:=FuncId->List T->Option (T×List T)
def z7e(P:Program)(I:World->(Nat->z0a)->Prop)(C:z0e):Prop:=∀f args r outs,C f args=some (r,outs)->CallOk P I f args r outs
def znQ:T->T
 | .os _ n cs=>.sl n cs
 | .vr _=>.dead
 | .vo _ _=>.dead
 |x=>x
abbrev zpk:=List (Nat×List Nat)
def zA9(fr:Fr):A->Option (T×zpk)
 | .k v=>some (zeh false v,[])
 | .t none x=>some (znQ x,[])
 | .t (some i) x=>some (znQ x,[(i,[])])
 | .tf n cs=>some (.sl n cs,[])
 | .ea none cs 0=>some (.pr cs,[])
 | .ea (some i) cs 0=>some (.pr cs,[(i,[])])
 | .h id p=>match z2f fr.ob id with
   |none=>none
   |some root=>match sub root p with
    |some t=>if zcs t then some (t,[]) else some (z1P t,[(id,p)])
    |none=>none
 |_=>none
def zvh(fr:Fr):List A->Option (List T×zpk)
 | []=>some ([],[])
 |x::xs=>match zA9 fr x,zvh fr xs with
  |some (t,d),some (ts,ds)=>if z6i t then none else some (t::ts,d++ds)
  |_,_=>none
def zDt(fr:Fr)(io:Bool):E->Option (T×zpk×Option Nat)
 | .ag xs=>(match zvh fr xs with|some (ts,d)=>some (.agg ts,d,none)|none=>none)
 | .one (.a id [] off)=>(match z2f fr.ob id with|some (.vr cs)=>if off=0 then some (.vr cs,[],some id) else none|some (.os _ _ cs)=>if io then some (.vo off cs,[],some id) else none|_=>none)
 | .one (.h id [])=>
   if io then(match z2f fr.ob id with|some (.os sz n cs)=>some (.os sz n cs,[],some id)|some (.vr cs)=>some (.vr cs,[],some id)|_=>none)
   else(match zA9 fr (.h id []) with|some (t,d)=>if z6i t then none else some (t,d,none)|none=>none)
 | .one x=>(match zA9 fr x with|some (t,d)=>if z6i t then none else some (t,d,none)|none=>none)
def z4Z(deps:zpk)(h:Nat)(q:List Nat):Bool:=deps.any fun x=>decide (h=x.1+2)&&(z5h x.2 q).isSome
def zv1(deps:zpk)(io:Option (Nat×Nat)):z0a->z0a
 | []=> []
 |h::q=>if z4Z deps h q then [] else match io with
  |some (i,id)=>if h=id+2 then(i+2)::q else [1]
  |none=> [1]
theorem TRep.top(h:TRep w K [] v t):TRep w K [] v (znQ t):=by
 cases h with
 |sc _ _ h=>exact .sc _ _ h
 |dead=>exact .dead _ _
 |agg c vs cs F hl hF h=>exact .agg _ vs cs F hl hF h
 |tup c vs cs F hl hF h=>exact .tup _ vs cs F hl hF h
 |emp c a cap hc=>exact .emp _ a cap hc
 |fro c g o n cap cs F hK hg hn hc hF h=>exact .fro _ g o n cap cs F hK hg hn hc hF h
 |nil=>exact .emp _ none 0 (by decide)
 |own _ _ _ _ _ _ _ _ _ _ _ hc0=>exact absurd rfl hc0
 |vr _ _ _ _ _ _ _ _ hc0=>exact absurd rfl hc0
 |vo _ _ _ _ h=>exact absurd rfl h.vr_ne
 |pr _ g o cs F hK hg hF h=>exact .pr _ g o cs F hK hg hF h
 |mr _ g kk es ents clock hK hg hh=>exact .mr _ g kk es ents clock hK hg hh
 |mp _ _ _ _ _ _ hc0=>exact absurd rfl hc0
 |mt _ _ _ _ _ _ _ _ hc0=>exact absurd rfl hc0
 |ms _ g kk ks cs ents clock F hK hg hh h=>exact .ms _ g kk ks cs ents clock F hK hg hh h
 |cl _ f vs cs F hl hF h=>exact .cl _ f vs cs F hl hF h
theorem zdS(w:World)(K:Nat->z0a)(own:Bool)(v:Value):TRep w K [] v (zeh own v):=by
 unfold zeh
 split
 · rename_i vs
   refine .agg _ vs _ (fun j=>vs.getD j undef) (by simp) (fun j hj=>z5z _ _ (by simpa using hj)) (fun j t hj=> ?_)
   simp only[Zd,Z4,Zv] at hj
   obtain⟨v,hv,rfl⟩:=hj
   have:vs.getD j undef=v:=by simp[Z7,hv]
   rw[this]
   exact z7b _ _ _ _ _
 · exact z7b _ _ _ _ _
theorem zpd{x:A}{deps:zpk}(h:FRep w K R G fr a)(hx:ARep w K R fr.ob x u)(ha:zA9 fr x=some (t,deps))
 (h0:∀b,K b= []->K0 b= []) (hd:∀b hh q,K b=hh::q->z4Z deps hh q=true->K0 b= []):TRep w K0 [] u t:=by
 unfold zA9 at ha
 split at ha
 · cases ha
   obtain rfl:u=_:=hx
   exact zdS _ _ _ _
 · cases ha
   exact(TRep.fz hx.1 (fun b _ e=>⟨h0 b e,rfl⟩) (Z5 _)).top
 · rename_i i x
   cases ha
   refine(TRep.fz hx.1 (fun b _ e=>⟨?_,rfl⟩) (Z5 _)).top
   simp only[frz] at e
   split at e
   · rename_i hh
     cases hk:K b with
     |nil=>exact h0 b hk
     |cons a s=>
      rw[hk] at hh;simp at hh;subst hh
      exact hd b _ s hk (by simp[z4Z,z5h])
   · exact h0 b e
 · cases ha
   exact TRep.fz hx.2 (fun b _ e=>⟨h0 b e,rfl⟩) (Z5 _)
 · rename_i cs
   cases ha
   obtain⟨g,o,F,h1,h2,h3,h4,h5,h6⟩:=hx
   rw[h1]
   exact .pr [] g o _ F (h0 _ h2) h3 h4 (fun j t ht=>TRep.fz (h5 j t ht) (fun b _ e=>⟨h0 b e,rfl⟩) (Z5 _))
 · rename_i i cs
   cases ha
   have hz:∀b,frz K (some i) b= []->K0 b= []:=fun b e=>by
    simp only[frz] at e
    split at e
    · rename_i hh
      cases hk:K b with
      |nil=>exact h0 b hk
      |cons a s=>
       rw[hk] at hh;simp at hh;subst hh
       exact hd b _ s hk (by simp[z4Z,z5h])
    · exact h0 b e
   obtain⟨g,o,F,h1,h2,h3,h4,h5,h6⟩:=hx
   rw[h1]
   exact .pr [] g o _ F (hz _ h2) h3 h4 (fun j t ht=>TRep.fz (h5 j t ht) (fun b _ e=>⟨hz b e,rfl⟩) (Z5 _))
 · rename_i id p
   split at ha
   case h_1=>cases ha
   case h_2 root hroot=>
   split at ha
   · rename_i t' hsub
     obtain⟨n1,_⟩:=hx
     obtain⟨v',m1,hrep⟩:=(h.ob id root hroot).sub (z1D id) hsub
     rw[n1] at m1;cases m1
     split at ha
     · rename_i hp
       cases ha
       exact TRep.fz (hrep.free hp []) (fun b _ e=>⟨h0 b e,rfl⟩) (Z5 _)
     · cases ha
       refine hrep.freeze (fun b s hb hc hK=>⟨?_,rfl⟩) (fun b _ e=>⟨h0 b e,rfl⟩) (Z5 _) []
       exact hd b (id+2) (p++s) (by simpa[col] using hK) (by simp[z4Z,z6g])
   · cases ha
 · cases ha
theorem z5I(d1 d2:zpk)(h:Nat)(q:List Nat):z4Z (d1++d2) h q=(z4Z d1 h q||z4Z d2 h q):=by simp[z4Z]
theorem zlO{w:World}{K K0:Nat->z0a}{R G:Nat->Value}{fr:Fr}{a:Act}(h:FRep w K R G fr a)(h0:∀b,K b= []->K0 b= []):∀ {xs:List A} {F:Nat->Value} {ts:List T} {deps:zpk},(∀j x,xs[j]? =some x->ARep w K R fr.ob x (F j))->
 zvh fr xs=some (ts,deps)->(∀b hh q,K b=hh::q->z4Z deps hh q=true->K0 b= [])->ts.length=xs.length/\ ∀j t,ts[j]? =some t->TRep w K0 [] (F j) t
 | [],F,ts,deps,hx,ha,hd=>by
   cases ha
   exact⟨rfl,fun j t ht=>by simp at ht⟩
 |x::xs,F,ts,deps,hx,ha,hd=>by
  simp only[zvh] at ha
  split at ha
  · rename_i t d ts' ds h1 h2
    split at ha
    · cases ha
    · cases ha
      obtain⟨r1,r2⟩:=zlO h h0 (xs:=xs) (F:=fun j=>F (j+1)) (fun j y hy=>hx (j+1) y (by simpa using hy)) h2 (fun b hh q e e2=>hd b hh q e (by rw[z5I,e2,Bool.or_true]))
      refine⟨by simp[r1],fun j t' ht=> ?_⟩
      match j,ht with
      |0,ht=>
       simp at ht;subst ht
       exact zpd h (hx 0 x rfl) h1 h0 (fun b hh q e e2=>hd b hh q e (by rw[z5I,e2,Bool.true_or]))
      |j+1,ht=>exact r2 j t' (by simpa using ht)
  · cases ha
def zvn(fr:Fr)(R:Nat->Value)(id:Nat)(t:T)(u:Value):Prop:=
 (z2f fr.ob id=some t/\u=R id/\ ∀off cs,t≠ .vo off cs)∨ ∃sz n cs off g,z2f fr.ob id=some (.os sz n cs)/\t= .vo off cs/\z6O (R id)=some g/\u= .pointer (some ⟨g,off,none⟩)
theorem zpc{e:E}{deps:zpk}{io:Option Nat}{fl:Bool}(h:FRep w K R G fr a)(he:ERep w K R fr.ob e u)(ha:zDt fr fl e=some (t,deps,io))
 (h0:∀b,K b= []->K0 b= []) (hd:∀b hh q,K b=hh::q->z4Z deps hh q=true->K0 b= []):
 (io=none/\z6i t=false/\TRep w K0 [] u t)∨ ∃id,io=some id/\z6i t=true/\deps= []/\zvn fr R id t u:=by
 have byval:∀x,e= .one x->(match zA9 fr x with|some (t,d)=>if z6i t then none else some (t,d,none)|none=>none)=some (t,deps,io)->(io=none/\z6i t=false/\TRep w K0 [] u t):=fun x hxe hh=>by
  subst hxe
  split at hh
  · rename_i t' d' h1
    split at hh
    · cases hh
    · rename_i hio
      cases hh
      exact⟨rfl,by simpa using hio,zpd h he h1 h0 hd⟩
  · cases hh
 unfold zDt at ha
 split at ha
 · rename_i xs
   split at ha
   · rename_i ts d h1
     cases ha
     obtain⟨arr,rfl,e2,e3⟩:=he
     obtain⟨r1,r2⟩:=zlO h h0 (F:=fun j=>arr.getD j undef) e3 h1 hd
     exact .inl ⟨rfl,rfl,.agg _ arr ts (fun j=>arr.getD j undef) (by omega) (fun j hj=>z5z _ _ (by omega)) r2⟩
   · cases ha
 · rename_i id off
   split at ha
   · rename_i cs hob
     split at ha
     case isFalse=>cases ha
     case isTrue h0=>
     subst h0
     cases ha
     obtain⟨hv,g,n1,n4,n5,t0,n2,n3⟩:=he
     simp only[nav,Z9] at n1
     refine .inr ⟨id,rfl,rfl,rfl,.inl ⟨hob,?_,fun _ _ e=>by cases e⟩⟩
     have hr:=h.ob id _ hob
     rw[n5,n1]
     rw[n1] at hr
     cases hr with
     |vr c g' cs arr e fz F hfz hc0 hK hg hl hF hh=>
      simp only[z6O,Z9] at n4
      rw[n4]
   · rename_i sz n cs hob
     split at ha
     case isFalse=>cases ha
     case isTrue=>
     cases ha
     obtain⟨hv,g,n1,n4,n5,t0,n2,n3⟩:=he
     simp only[nav,Z9] at n1
     exact .inr ⟨id,rfl,rfl,rfl,.inr ⟨sz,n,cs,off,g,hob,rfl,by rw[n1];exact n4,n5⟩⟩
   · cases ha
 · rename_i id
   split at ha
   · split at ha
     · rename_i sz n cs hob
       cases ha
       obtain⟨n1,_⟩:=he
       simp only[nav,Z9] at n1
       exact .inr ⟨id,rfl,rfl,rfl,.inl ⟨hob,n1.symm,fun _ _ e=>by cases e⟩⟩
     · rename_i cs hob
       cases ha
       obtain⟨n1,_⟩:=he
       simp only[nav,Z9] at n1
       exact .inr ⟨id,rfl,rfl,rfl,.inl ⟨hob,n1.symm,fun _ _ e=>by cases e⟩⟩
     · cases ha
   · exact .inl (byval _ rfl ha)
 · exact .inl (byval _ rfl ha)
def zh7(fr:Fr)(io:Nat->Bool):List E->Nat->Option (List T×zpk×Option (Nat×Nat))
 | [],_=>some ([],[],none)
 |x::xs,i=>match zDt fr (io i) x,zh7 fr io xs (i+1) with
  |some (t,d,none),some (ts,ds,o)=>some (t::ts,d++ds,o)
  |some (t,d,some id),some (ts,ds,none)=>some (t::ts,d++ds,some (i,id))
  |_,_=>none
theorem TRep.toVo{sz n:Nat}(h:TRep w K c v (.os sz n cs))(hb:z6O v=some g)(off:Nat):TRep w K c (.pointer (some ⟨g,off,none⟩)) (.vo off cs):=by
 cases h with
 |nil=>cases hb
 |own c g' n cap size cs arr e fz F hfz hc0 hK hg hs hl hz hn hc hF h=>
  simp only[z6O,Z9] at hb
  subst hb
  exact .vo _ _ _ _ (.vr c g' cs arr e fz F hfz hc0 hK hg (by rw[hl,hs];exact Yc _ hn) hF h)
theorem TRep.ofVo{c':z0a}{sz n off o':Nat}{cs':List T}(h:TRep w K c v (.os sz n cs))(hb:z6O v=some g)(hz:SzK w w')(hu:u= .pointer (some ⟨g,off,none⟩))(h':TRep w' K' c' u (.vo o' cs'))(hl':cs'.length=cs.length):TRep w' K' c' v (.os sz n cs'):=by
 cases h with
 |nil=>cases hb
 |own c g' n cap size cs arr e fz F hfz hc0 hK hg hs hl hz0 hn hc hF h=>
  simp only[z6O,Z9] at hb
  subst hb
  cases h' with
  |vo _ g2 _ _ h2=>
   simp only[Value.pointer.injEq,Z9,Addr.mk.injEq] at hu
   obtain⟨rfl,_,_⟩:=hu
   cases h2 with
   |vr _ _ _ arr2 e2 fz2 F2 hfz2 hc2 hK2 hg2 hl2 hF2 hh2=>
    obtain⟨a3,e3,f3,q1,q2⟩:=hz _ _ _ _ hg
    rw[hg2] at q1
    cases q1
    exact .own c' _ n cap sz cs' arr2 e2 fz2 F2 hfz2 hc2 hK2 hg2 (by rw[q2,hs]) (by rw[hl',hl]) hz0 hn hc hF2 hh2
def z9K(d:Nat):A->A
 | .h i q=>if i=d/\q≠ [] then .dead else .h i q
 | .a i q off=>if i=d/\q≠ [] then .dead else .a i q off
 | .t (some i) x=>if i=d then .dead else .t (some i) x
 | .ea (some i) cs off=>if i=d then .dead else .ea (some i) cs off
 |x=>x
theorem FRep.renew(h:FRep w K R G fr a){d:Nat}{t':T}(k:Keep w w' K K' (But d))(ht:TRep w' K' (col d) (R d) t'):
 FRep w' K' R G {fr with tm:=z6J (z9K d) fr.tm,ob:=z6h fr.ob d t'} a:=by
 have hR:∀i,i≠d->R i=R i/\z2f (z6h fr.ob d t') i=z2f fr.ob i:=fun i hi=>⟨rfl,by rw[z0A,if_neg (fun e=>hi e.symm)]⟩
 refine⟨fun i=> ?_,fun id t ht'=> ?_,h.nt,h.df⟩
 · show ERep w' K' R (z6h fr.ob d t') (z2J (z6J (z9K d) fr.tm) i) _
   rw[z5M _ rfl]
   refine(h.tm i).map _ fun x u hx=> ?_
   by_cases hxd:onA x=some d
   · cases x with
     |dead=>trivial
     |k v=>cases hxd
     |t dep x=>simp only[onA] at hxd;subst hxd;simp only[z9K,if_true];trivial
     |h i q=>
      simp only[onA,Z9] at hxd;subst hxd
      by_cases hq:q= []
      · subst hq
        obtain⟨n1,_⟩:=hx
        simp only[z9K]
        rw[if_neg (by simp)]
        exact⟨n1,t',by simp[z0A],rfl⟩
      · rw[show z9K i (.h i q)= .dead by simp[z9K,hq]];trivial
     |a i q off=>
      simp only[onA,Z9] at hxd;subst hxd
      by_cases hq:q= []
      · subst hq
        obtain⟨hv,g,n1,n4,n5,_⟩:=hx
        simp only[z9K]
        rw[if_neg (by simp)]
        exact⟨hv,g,n1,n4,n5,t',by simp[z0A],rfl⟩
      · rw[show z9K i (.a i q off)= .dead by simp[z9K,hq]];trivial
     |ea dep cs off=>simp only[onA] at hxd;subst hxd;simp only[z9K,if_true];trivial
     |tf=>cases hxd
   · have:z9K d x=x:=by
      cases x with
      |dead=>rfl
      |k v=>rfl
      |t dep x=>cases dep with
       |none=>rfl
       |some i=>simp only[z9K];rw[if_neg (fun e=>hxd (by simp[onA,e]))]
      |h i q=>simp only[z9K];rw[if_neg (fun e=>hxd (by simp[onA,e.1]))]
      |a i q off=>simp only[z9K];rw[if_neg (fun e=>hxd (by simp[onA,e.1]))]
      |tf=>rfl
      |ea dep cs off=>cases dep with
       |none=>rfl
       |some i=>simp only[z9K];rw[if_neg (fun e=>hxd (by simp[onA,e]))]
     rw[this]
     exact hx.but h.ob k hR hxd
 · rw[z0A] at ht'
   split at ht'
   · rename_i e
     subst e
     cases ht'
     exact ht
   · rename_i hne
     have hne':id≠d:=fun e=>hne e.symm
     exact(h.ob id t ht').keep k fun s _=>⟨id,s,rfl,hne'⟩
end
section
variable{fr fr':Fr}{id:Nat}{R:Nat->Value}{K:Nat->z0a}{w:World}
def zgv(fr:Fr):zpk->Option Fr
 | []=>some fr
 |(id,p)::l=>match z5Q fr id p with|some fr'=>zgv fr' l|none=>none
theorem zqT{p:List Nat}(hs:z5Q fr id p=some fr'):fr'.nt=fr.nt/\ ∀i,i≠id->z2f fr'.ob i=z2f fr.ob i:=by
 unfold z5Q at hs
 split at hs
 · cases hs
 · split at hs
   · cases hs
   · split at hs
     · cases hs
     · cases hs
       exact⟨rfl,fun i hi=>by rw[z0A,if_neg (fun e=>hi e.symm)]⟩
theorem zgu{w:World}{R G:Nat->Value}{a:Act}:∀ {deps:zpk} {K:Nat->z0a} {fr fr1:Fr},FRep w K R G fr a->zgv fr deps=some fr1->
 ∃K1,FRep w K1 R G fr1 a/\Step w K w K1/\(∀b,K b= []->K1 b= [])/\(∀b h q,K b=h::q->z4Z deps h q=true->K1 b= [])/\(∀b h q,K b=h::q->K1 b= []∨K1 b=K b)/\(∀b h q,K b=h::q->(∀x∈deps,h≠x.1+2)->K1 b=K b)/\
  (∀i,(∀x∈deps,x.1≠i)->z2f fr1.ob i=z2f fr.ob i)/\fr1.nt=fr.nt
 | [],K,fr,fr1,h,hf=>by
   cases hf
   exact⟨K,h,Step.refl _ _,fun _ e=>e,fun b hh q e hd=>by simp[z4Z] at hd,fun _ _ _ _=>.inr rfl,fun _ _ _ _ _=>rfl,fun _ _=>rfl,rfl⟩
 |(id,p)::l,K,fr,fr1,h,hf=>by
  simp only[zgv] at hf
  split at hf
  · rename_i fr2 h2
    obtain⟨a1,_⟩:=h.freeze h2
    obtain⟨n1,n2⟩:=zqT h2
    obtain⟨K1,b1,b2,b3,b4,b5,b6,b7,b8⟩:=zgu (deps:=l) a1 hf
    have hz:∀b,fzK id p (K b)= []∨fzK id p (K b)=K b:=fun b=>by
     cases hk:K b with
     |nil=>left;rfl
     |cons hh q=>simp only[fzK];split<;>simp
    refine⟨K1,b1,(zaT id p).trans b2,fun b e=>b3 b (by show fzK id p (K b)= [];rw[e];rfl),fun b hh q e hd=> ?_,fun b hh q e=> ?_,fun b hh q e hd=> ?_,fun i hi=> ?_,b8.trans n1⟩
    · rcases hz b with e1|e1
      · exact b3 b e1
      · rw[show z4Z ((id,p)::l) hh q=(decide (hh=id+2)&&(z5h p q).isSome||z4Z l hh q) from rfl,Y7] at hd
        rcases hd with hd|hd
        · exfalso
          rw[e] at e1
          simp only[fzK] at e1
          simp only[Z6,decide_eq_true_eq] at hd
          rw[if_pos hd] at e1
          cases e1
        · exact b4 b hh q (e1.trans e) hd
    · rcases hz b with e1|e1
      · exact .inl (b3 b e1)
      · rcases b5 b hh q (e1.trans e) with e2|e2
        · exact .inl e2
        · exact .inr (e2.trans e1)
    · have e1:fzK id p (K b)=K b:=by
       rw[e];simp only[fzK]
       rw[if_neg (fun hc=>hd (id,p) (by simp) hc.1)]
      rw[b6 b hh q (e1.trans e) (fun x hx=>hd x (by simp[hx])),e1]
    · rw[b7 i (fun x hx=>hi x (by simp[hx])),n2 i (fun e=>hi (id,p) (by simp) e.symm)]
  · cases hf
theorem zgO{w:World}{K K0:Nat->z0a}{R G:Nat->Value}{fr:Fr}{a:Act}(h:FRep w K R G fr a){io:Nat->Bool}(h0:∀b,K b= []->K0 b= []):∀ {args:List E} {vs:List Value} {i0:Nat} {ts:List T} {deps:zpk} {o:Option (Nat×Nat)},zh7 fr io args i0=some (ts,deps,o)->
 vs.length=args.length->(∀(j:Nat) (e:E) (v:Value),args[j]? =some e->vs[j]? =some v->ERep w K R fr.ob e v)->(∀b hh q,K b=hh::q->z4Z deps hh q=true->K0 b= [])->
 ts.length=args.length/\(∀j t,ts[j]? =some t->∃x,vs[j]? =some x/\((z6i t=false/\TRep w K0 [] x t)∨(z6i t=true/\ ∃id,o=some (i0+j,id)/\zvn fr R id t x)))/\
  (∀i id,o=some (i,id)->∃j t,i=i0+j/\ts[j]? =some t/\z6i t=true)
 | [],vs,i0,ts,deps,o,ha,hl,hv,hd=>by
   cases ha
   exact⟨rfl,fun j t ht=>by simp at ht,fun i id e=>by cases e⟩
 |x::xs,[],i0,ts,deps,o,ha,hl,hv,hd=>by simp at hl
 |x::xs,u::us,i0,ts,deps,o,ha,hl,hv,hd=>by
  have hl':us.length=xs.length:=by simpa using hl
  have hv':∀(j:Nat) (e:E) (v:Value),xs[j]? =some e->us[j]? =some v->ERep w K R fr.ob e v:=fun j e v h1 h2=>hv (j+1) e v (by simpa using h1) (by simpa using h2)
  have hx:ERep w K R fr.ob x u:=hv 0 x u rfl rfl
  simp only[zh7] at ha
  split at ha
  · rename_i t d ts' ds o' h1 h2
    cases ha
    obtain⟨r1,r2,r3⟩:=zgO h h0 h2 hl' hv' (fun b hh q e e2=>hd b hh q e (by rw[z5I,e2,Bool.or_true]))
    refine⟨by simp[r1],fun j t' ht=> ?_,fun i id e=> ?_⟩
    · match j,ht with
      |0,ht=>
       simp at ht;subst ht
       rcases zpc h hx h1 h0 (fun b hh q e e2=>hd b hh q e (by rw[z5I,e2,Bool.true_or])) with⟨-,e2,e3⟩|⟨id,e1,_⟩
       · exact⟨u,rfl,.inl ⟨e2,e3⟩⟩
       · cases e1
      |j+1,ht=>
       obtain⟨y,y1,y2⟩:=r2 j t' (by simpa using ht)
       refine⟨y,by simpa using y1,?_⟩
       rcases y2 with y2|⟨y2,id,y3,y4⟩
       · exact .inl y2
       · exact .inr ⟨y2,id,by rw[y3];congr 2;omega,y4⟩
    · obtain⟨j,t',j1,j2,j3⟩:=r3 i id e
      exact⟨j+1,t',by omega,by simpa using j2,j3⟩
  · rename_i t d id ts' ds h1 h2
    cases ha
    obtain⟨r1,r2,r3⟩:=zgO h h0 h2 hl' hv' (fun b hh q e e2=>hd b hh q e (by rw[z5I,e2,Bool.or_true]))
    rcases zpc h hx h1 h0 (fun b hh q e e2=>hd b hh q e (by rw[z5I,e2,Bool.true_or])) with⟨e1,_⟩|⟨id',e1,e2,e3,e4⟩
    · cases e1
    · cases e1
      refine⟨by simp[r1],fun j t' ht=> ?_,fun i id2 e=> ?_⟩
      · match j,ht with
        |0,ht=>
         simp at ht;subst ht
         exact⟨u,rfl,.inr ⟨e2,id,rfl,e4⟩⟩
        |j+1,ht=>
         obtain⟨y,y1,y2⟩:=r2 j t' (by simpa using ht)
         refine⟨y,by simpa using y1,?_⟩
         rcases y2 with y2|⟨y2,id,y3,y4⟩
         · exact .inl y2
         · cases y3
      · cases e
        exact⟨0,t,by omega,rfl,e2⟩
  · cases ha
def clB(r:T)(outs:List T)(io:Option (Nat×Nat)):Bool:=opn r||(match io with|some (i,_)=>(match outs[i]? with|some t=>opn t|none=>false)|none=>false)
def zlN(o:Option T):T->T
 | .vo _ cs'=>(match o with|some (.os sz n cs)=>if cs'.length=cs.length then .os sz n cs' else .dead|_=>.dead)
 | .vr cs'=>(match o with|some (.os _ _ _)=>.dead|_=>.vr cs')
 | .pr cs'=>(match o with|some (.os _ _ _)=>.dead|_=>.pr cs')
 |t=>t
theorem zvc{w':World}{K':Nat->z0a}{c c':z0a}{t t':T}{u:Value}(hh:zvn fr R id t u)(hob:∀t,z2f fr.ob id=some t->TRep w K c (R id) t)(hz:SzK w w')(h':TRep w' K' c' u t'):TRep w' K' c' (R id) (zlN (z2f fr.ob id) t'):=by
 rcases hh with⟨z1,z2,z3⟩|⟨sz,n,cs,off,g,z1,z2,z3,z4⟩
 · rw[z2] at h'
   have hr:=hob t z1
   rw[z1]
   cases t' with
   |vo o' cs'=>
    simp only[zlN]
    split
    · rename_i sz n cs he
      cases he
      exfalso
      generalize R id=v at h' hr
      cases h' with
      |vo=>cases hr
    · exact .dead _ _
   |vr cs'=>
    simp only[zlN]
    split
    · exact .dead _ _
    · exact h'
   |pr cs'=>
    simp only[zlN]
    split
    · exact .dead _ _
    · exact h'
   |_=>exact h'
 · rw[z1]
   have hr:=hob _ z1
   subst z4
   cases h' with
   |dead=>exact .dead _ _
   |sc _ _ hb=>cases hb
   |vr=>exact .dead _ _
   |pr=>exact .dead _ _
   |vo _ _ _ cs' h2=>
    simp only[zlN]
    split
    · rename_i hl
      exact hr.ofVo z3 hz rfl (.vo _ g off cs' h2) hl
    · exact .dead _ _
def ioF(fr:Fr)(deps:zpk)(outs:List T):Option (Nat×Nat)->Option Fr
 |none=>some fr
 |some (i,id)=>if deps.any (fun x=>decide (x.1=id)) then none else match outs[i]? with
  |some t'=>some {fr with tm:=z6J (z9K id) fr.tm,ob:=z6h fr.ob id (zlN (z2f fr.ob id) t')}
  |none=>none
def zD4(d:Nat):T->A
 | .vr _=>.a d [] 0
 |_=>.h d []
def zDV(fr:Fr)(dst:Option Nat)(r:T)(io:Option (Nat×Nat)):Option Fr:=
 match dst with
 |none=>some fr
 |some d=>if d<fr.nt/\(io.map (·.2))≠some d then
   (if zcs r then some {fr with tm:=z7P fr.tm d (.one (.t none r))} else some {fr with tm:=z7P (z6J (kill d) fr.tm) d (.one (zD4 d r)),ob:=z6h fr.ob d r})
  else none
def zcZ(C:z0e)(wio:FuncId->Nat->Bool)(fr:Fr)(f:FuncId)(args:List E)(dst:Option Nat):Option Fr:=
 match zh7 fr (wio f) args 0 with
 |none=>none
 |some (ts,deps,io)=>match C f ts with
  |none=>none
  |some (r,outs)=>match(if deps.isEmpty||(!clB r outs io&& !wio 777777 f) then some fr else zgv fr deps) with
   |none=>none
   |some fr1=>match ioF fr1 deps outs io with
    |none=>none
    |some fr2=>zDV fr2 dst r io
def zAj(d:Nat)(io:Option (Nat×Nat)):z0a->z0a
 | []=> []
 |0::s=>(d+2)::s
 |1::_=> [1]
 |(j+2)::s=>match io with|some (i,id)=>if j=i then(id+2)::s else [1]|none=> [1]
def zbP(io:Option (Nat×Nat))(c:z0a):Prop:=∃i id s,io=some (i,id)/\c=(id+2)::s
theorem z8U(c:z0a):¬zbP none c:=fun⟨_,_,_,e,_⟩=>by cases e
theorem zns{P:Program}{I:World->(Nat->z0a)->Prop}{C:z0e}{wio:FuncId->Nat->Bool}{G:Nat->Value}{a:Act}{o:Oper}{f:FuncId}{args:List E}{vs:List Value}{next:Act->World->Prop}{Q:Exit->Act->World->Prop}
 (hI:EnvS I) (hC:z7e P I C) (h:FRep w K R G fr a) (hIw:I w K) (hrun0:(callFunc f vs.toArray).run P w= .ok (.enter f vs.toArray) w->(execOp a.eval o).run P w= .ok (.enter f vs.toArray) w) (hvl:vs.length=args.length) (hvr:∀(j:Nat) (e:E) (v:Value),args[j]? =some e->vs[j]? =some v->ERep w K R fr.ob e v) (hf:zcZ C wio fr f args o.dst=some fr')
 (hn:∀a' w' K' R',FRep w' K' R' G fr' a'->Step w K w' K'->(∀ts deps io,zh7 fr (wio f) args 0=some (ts,deps,io)->∀b,b<w.heap.size->¬zbP io (K b)->(K' b= []∨K' b=K b)/\w'.heap[b]? =w.heap[b]?)->next a' w'):o.wp P a w next Q:=by
 unfold zcZ at hf
 split at hf
 case h_1=>cases hf
 case h_2 ts deps io hargs=>
 split at hf
 case h_1=>cases hf
 case h_2 r outs hcf=>
 split at hf
 case h_1=>cases hf
 case h_2 fr1 hfz=>
 split at hf
 case h_1=>cases hf
 case h_2 fr2 hio=>
 have hok:=hC f ts r outs hcf
 let vals:Array Value:=vs.toArray
 have hrun:(execOp a.eval o).run P w= .ok (.enter f vals) w:=hrun0 (hok.enter vals w)
 unfold Oper.wp
 rw[hrun]
 simp only[Oper.upon]
 obtain⟨Kx,dx,x1,x2,x3,x4,x5,x6,x7,x8,x9,x10⟩:∃Kx dx,FRep w Kx R G fr1 a/\Step w K w Kx/\(∀b,K b= []->Kx b= [])/\(∀b hh q,K b=hh::q->z4Z deps hh q=true->Kx b= []∨(Kx b=hh::q/\z4Z dx hh q=true))/\(dx= []∨clB r outs io=false)/\
  (∀i,(∀x∈deps,x.1≠i)->z2f fr1.ob i=z2f fr.ob i)/\fr1.nt=fr.nt/\(∀b hh q,K b=hh::q->(∀x∈deps,hh≠x.1+2)->Kx b=K b)/\(∀x∈dx,x∈deps)/\(∀b,Kx b= []∨Kx b=K b):=by
  split at hfz
  · rename_i hc
    cases hfz
    rw[Y7] at hc
    rcases hc with hc|hc
    · have:deps= []:=by simpa using hc
      subst this
      exact⟨K,[],h,Step.refl _ _,fun _ e=>e,fun b hh q e hd=>by simp[z4Z] at hd,.inl rfl,fun _ _=>rfl,rfl,fun _ _ _ _ _=>rfl,fun _ h=>h,fun _=>.inr rfl⟩
    · exact⟨K,deps,h,Step.refl _ _,fun _ e=>e,fun b hh q e hd=>.inr ⟨e,hd⟩,.inr (by rw[Z6] at hc;simpa using hc.1),fun _ _=>rfl,rfl,fun _ _ _ _ _=>rfl,fun _ h=>h,fun _=>.inr rfl⟩
  · obtain⟨K1,b1,b2,b3,b4,b5,b6,b7,b8⟩:=zgu h hfz
    have hz:∀b,K1 b= []∨K1 b=K b:=fun b=>by
     cases hk:K b with
     |nil=>exact .inl (b3 b hk)
     |cons hh q=>
      rw[←hk]
      exact b5 b hh q hk
    exact⟨K1,[],b1,b2,b3,fun b hh q e hd=>.inl (b4 b hh q e hd),.inl rfl,b7,b8,b6,fun _ h=>(by cases h),hz⟩
 let K0:Nat->z0a:=fun b=>zv1 dx io (Kx b)
 have k00:∀b,Kx b= []->K0 b= []:=fun b e=>by show zv1 dx io (Kx b)= [];rw[e];rfl
 have k01:∀b,K b= []->K0 b= []:=fun b e=>k00 b (x3 b e)
 have k02:∀b hh q,K b=hh::q->z4Z deps hh q=true->K0 b= []:=fun b hh q e hd=>by
  rcases x4 b hh q e hd with e1|⟨e1,e2⟩
  · exact k00 b e1
  · show zv1 dx io (Kx b)= []
    rw[e1];simp[zv1,e2]
 obtain⟨g1,g2,g3⟩:=zgO (K0:=K0) h k01 hargs hvl hvr k02
 have hioid:∀i id,io=some (i,id)->(∀x∈deps,x.1≠id)/\(∃t,outs[i]? =some t/\fr2= {fr1 with tm:=z6J (z9K id) fr1.tm,ob:=z6h fr1.ob id (zlN (z2f fr1.ob id) t)}):=fun i id e=>by
  subst e
  simp only[ioF] at hio
  split at hio
  · cases hio
  · rename_i hd
    split at hio
    · rename_i t' ht'
      cases hio
      exact⟨fun x hx e=>hd (Yg.2 ⟨x,hx,by simpa using e⟩),t',ht',rfl⟩
    · cases hio
 have k03:∀b i id s,io=some (i,id)->Kx b=(id+2)::s->K0 b=(i+2)::s:=fun b i id s e e1=>by
  show zv1 dx io (Kx b)=_
  rw[e1,e]
  have:z4Z dx (id+2) s=false:=by
   cases hb:z4Z dx (id+2) s with
   |false=>rfl
   |true=>
    simp only[z4Z,Yg,Z6,decide_eq_true_eq] at hb
    obtain⟨x,hx,hh,_⟩:=hb
    exact absurd (show x.1=id by omega) ((hioid i id e).1 x (x9 x hx))
  simp[zv1,this]
 have k04:∀b,¬zbP io (Kx b)->K0 b= []∨K0 b= [1]:=fun b hb=>by
  show zv1 dx io (Kx b)= []∨zv1 dx io (Kx b)= [1]
  cases hk:Kx b with
  |nil=>left;rfl
  |cons hh q=>
   simp only[zv1]
   split
   · left;rfl
   · cases io with
     |none=>right;rfl
     |some x=>
      obtain⟨i,id⟩:=x
      simp only
      split
      · rename_i e
        exact absurd ⟨i,id,q,rfl,by rw[hk,e]⟩ hb
      · right;rfl
 have k05:dx= []->∀b,¬zbP io (Kx b)->K0 b= []->Kx b= []:=fun hd b hb e=>by
  cases hk:Kx b with
  |nil=>rfl
  |cons hh q=>
   exfalso
   have e':zv1 dx io (Kx b)= []:=e
   rw[hk,hd] at e'
   simp only[zv1] at e'
   rw[if_neg (by simp[z4Z])] at e'
   cases io with
   |none=>cases e'
   |some x=>
    obtain⟨i,id⟩:=x
    simp only at e'
    split at e'<;>cases e'
 refine(hok.calls w K0 vals (by simp[vals,g1,hvl]) (fun j t ht=> ?_) (hI.keep hIw (Z5 _) fun b hb e=>⟨k01 b e,rfl⟩)).mono ?_
 · obtain⟨x,y1,y2⟩:=g2 j t ht
   have hlt:=(Z8.1 y1).1
   have hv:vals.getD j undef=x:=by
    simp[vals,Z7,y1]
   rw[hv]
   unfold zil
   rcases y2 with⟨z1,z2⟩|⟨z1,id,z2,z3⟩
   · rw[z1];exact z2
   · rw[z1]
     simp only[if_true,Zp] at z2⊢
     have hid:=(hioid _ _ z2).1
     have hmv:∀t2,z2f fr.ob id=some t2->TRep w K0 (col j) (R id) t2:=fun t2 ht2=>by
      have hr:=x1.ob id t2 (by rw[x6 id hid];exact ht2)
      exact hr.move (fun b s hb hc hK=>⟨by simpa[col] using k03 b _ id s z2 (by simpa[col] using hK),rfl⟩) (fun b hb e=>⟨k00 b e,rfl⟩) (by simp[col]) (Z5 _)
     rcases z3 with⟨q1,q2,_⟩|⟨sz,n,cs,off,g,q1,q2,q3,q4⟩
     · rw[q2];exact hmv _ q1
     · rw[q2,q4];exact(hmv _ q1).toVo q3 off
 · rintro e w' ⟨v,K',rfl,hres,hout,hst⟩
   simp only
   let d:Nat:=o.dst.getD 0
   haveI hdec:∀b,Decidable (b<w.heap.size/\ ¬zbP io (Kx b)):=fun b=>Classical.propDecidable _
   let K2:Nat->z0a:=fun b=>if b<w.heap.size/\ ¬zbP io (Kx b) then Kx b else zAj d io (K' b)
   have e1:∀b,b<w.heap.size->¬zbP io (Kx b)->K2 b=Kx b/\K' b=K0 b/\w'.heap[b]? =w.heap[b]? :=fun b hb hn=>by
    obtain⟨q1,q2⟩:=hst.old b hb (k04 b hn)
    refine⟨?_,q1,q2⟩
    show(if b<w.heap.size/\ ¬zbP io (Kx b) then Kx b else zAj d io (K' b))=Kx b
    rw[if_pos ⟨hb,hn⟩]
   have e2:∀b hh s,K' b=hh::s->hh≠1->K2 b=zAj d io (K' b):=fun b hh s he hne=>by
    show(if b<w.heap.size/\ ¬zbP io (Kx b) then Kx b else zAj d io (K' b))=_
    rw[if_neg]
    rintro⟨hb,hn⟩
    obtain⟨_,q1,_⟩:=e1 b hb hn
    rcases k04 b hn with q|q<;>rw[q,he] at q1
    · cases q1
    · cases q1;exact hne rfl
   have e3:dx= []->∀b,K' b= []->K2 b= []:=fun hd b he=>by
    show(if b<w.heap.size/\ ¬zbP io (Kx b) then Kx b else zAj d io (K' b))= []
    split
    · rename_i hc
      obtain⟨_,q1,_⟩:=e1 b hc.1 hc.2
      exact k05 hd b hc.2 (q1▸he)
    · rw[he];rfl
   have hnc:∀b,Kx b= []∨Kx b= [1]->¬zbP io (Kx b):=fun b hb ⟨i,id,s,_,e⟩=>by rcases hb with hb|hb<;>rw[e] at hb<;>simp at hb
   have hstep:Step w Kx w' K2:=⟨hst.os,hst.tape,hst.output,hst.size,fun b hb hc=>⟨(e1 b hb (hnc b hc)).1,(e1 b hb (hnc b hc)).2.2⟩,hst.sz⟩
   have hsame:∀ts' deps' io',zh7 fr (wio f) args 0=some (ts',deps',io')->∀b,b<w.heap.size->¬zbP io' (K b)->(K2 b= []∨K2 b=K b)/\w'.heap[b]? =w.heap[b]? :=fun ts' deps' io' he b hb hn=>by
    rw[hargs] at he
    cases he
    have hx:¬zbP io (Kx b):=by
     rcases x10 b with e|e
     · exact hnc b (.inl e)
     · rw[e];exact hn
    obtain⟨q1,_,q3⟩:=e1 b hb hx
    rw[q1]
    exact⟨x10 b,q3⟩
   have hmove:∀(c c':z0a) (u:Value) (t:T),TRep w' K' c u t->c≠ []->c'≠ []->(∀b s,K' b=c++s->K2 b=c'++s)->(dx= []∨opn t=false)->TRep w' K2 c' u t:=fun c c' u t hr hc hc' hk hcl=>by
    rcases hcl with hcl|hcl
    · exact hr.move (fun b s _ _ e=>⟨hk b s e,rfl⟩) (fun b _ e=>⟨e3 hcl b e,rfl⟩) (by simp[hc,hc']) (Z5 _)
    · exact hr.moveC hcl (fun b s _ _ e=>⟨hk b s e,rfl⟩) (by simp[hc,hc']) (Z5 _)
   have hclr:dx= []∨opn r=false:=x5.imp id fun h=>by
    unfold clB at h
    rw[YY] at h
    exact h.1
   have hr1:TRep w' K2 (col d) v r:=hmove [0] (col d) v r hres (by simp) (z1D d) (fun b s e=>by
    have e':K' b=0::s:=by simpa using e
    rw[e2 b 0 s e' (by decide),e'];rfl) hclr
   have hfr2:FRep w' K2 R G fr2 a:=by
    cases io with
    |none=>
     simp only[ioF,Z9] at hio
     subst hio
     have hk:Keep w w' Kx K2 (fun _=>True):=⟨fun b hb e=>⟨(e1 b hb (z8U _)).1.trans e,(e1 b hb (z8U _)).2.2⟩,fun b hb _=>⟨(e1 b hb (z8U _)).1,(e1 b hb (z8U _)).2.2⟩,hst.size⟩
     exact x1.keep hk
    |some x=>
     obtain⟨i,id⟩:=x
     obtain⟨m1,t',m2,m3⟩:=hioid i id rfl
     rw[m3]
     have hnio:∀b i' s,Kx b=(i'+2)::s->i'≠id->¬zbP (some (i,id)) (Kx b):=fun b i' s e hne ⟨_,_,s',e2,e3⟩=>by
      cases e2
      rw[e] at e3;simp at e3;exact hne e3.1
     have hk:Keep w w' Kx K2 (But id):=⟨fun b hb e=>⟨(e1 b hb (hnc b (.inl e))).1.trans e,(e1 b hb (hnc b (.inl e))).2.2⟩,fun b hb ⟨i',s,e,hne⟩=>⟨(e1 b hb (hnio b i' s e hne)).1,(e1 b hb (hnio b i' s e hne)).2.2⟩,hst.size⟩
     refine x1.renew hk ?_
     obtain⟨j,t,j1,j2,j3⟩:=g3 i id rfl
     obtain⟨t2,p1,p2⟩:=hout j t j2 j3
     have hji:i=j:=by omega
     subst hji
     rw[m2] at p1;cases p1
     obtain⟨x,y1,y2⟩:=g2 i t j2
     have hv:vals.getD i undef=x:=by
      simp[vals,Z7,y1]
     rcases y2 with⟨z1,z2⟩|⟨z1,id',z2,z3⟩
     · rw[z1] at j3;cases j3
     · rw[Zp] at z2
       cases z2
       rw[hv] at p2
       have hid:=(hioid _ _ rfl).1
       have z3':zvn fr1 R id t x:=by
        unfold zvn
        rw[x6 id hid]
        exact z3
       refine zvc (K:=Kx) (c:=col id) z3' (fun t2 ht2=>x1.ob id t2 ht2) hst.sz (hmove (col i) (col id) _ _ p2 (z1D _) (z1D _) (fun b s e=> ?_) (x5.imp _root_.id fun h=> ?_))
       · have e':K' b=(i+2)::s:=by simpa[col] using e
         rw[e2 b (i+2) s e' (by omega),e']
         simp[zAj,col]
       · unfold clB at h
         rw[YY] at h
         simpa[m2] using h.2
   unfold zDV at hf
   split at hf
   · rename_i hdst
     cases hf
     rw[hdst]
     exact hn a w' K2 R hfr2 (x2.trans hstep) hsame
   · rename_i d' hdst
     have hdd:d=d':=by show o.dst.getD 0=d';rw[hdst];rfl
     split at hf
     case isFalse=>cases hf
     case isTrue hc=>
     rw[hdst]
     split at hf
     · rename_i hp
       cases hf
       refine hn _ w' K2 R (hfr2.put hc.1 ⟨?_,fun _ e=>by cases e⟩) (x2.trans hstep) hsame
       have:=hr1.free hp []
       exact this
     · cases hf
       subst hdd
       have h3:=hfr2.replace (d:=d) (w':=w') (K':=K2) (v:=v) (t:=r) ⟨fun b hb e=>⟨e,rfl⟩,fun b hb _=>⟨rfl,rfl⟩,Z5 _⟩ hr1
       refine hn _ w' K2 _ (h3.put (d:=d) (x:=.one (zD4 d r)) (v:=v) hc.1 ?_) (x2.trans hstep) hsame
       have hh:ARep w' K2 (z9P R d v) (z6h fr2.ob d r) (.h d []) v:=⟨by simp[z9P,nav],r,by simp[z0A],rfl⟩
       unfold zD4
       split
       · rename_i cs _
         cases hr1 with
         |vr c g arr2 arr e fz F hfz hc0 hK hg hl hF hh=>exact⟨.pointer (some ⟨g,0,none⟩),g,by simp[z9P,nav],rfl,rfl,.vr cs,by simp[z0A],rfl⟩
       · exact hh
end
section
open Go.MapKept
variable{a:Act}{fr fr':Fr}{ob:List (Nat×T)}{es:List (Value×Value)}{xs ys:List Int}{N:Nat}{M:Nat->Bool}{G R:Nat->Value}{K:Nat->z0a}{kk:Option IntKind}{P:Program}{d:TypeDesc}{e kt t:TypeId}{k u v:Value}{w:World}
def zAn:TypeDesc->Option (Option IntKind)
 | .int .i8=>none
 | .int .i16=>none
 | .int k=>some (some k)
 | .string=>some none
 |_=>none
def zox:List Value->List Value->Bool
 | [],[]=>true
 | .int _ x::a,.int _ y::b=>decide (x=y)&&zox a b
 |_,_=>false
def zof(a b:Array Value):Bool:=match a.toList,b.toList with| [.int _ x,.int _ y],[.int _ x',.int _ y']=>decide (x=x'/\y=y')|a,b=>zox a b
def z5U:Value->Value->Bool
 | .int _ a,.int _ b=>decide (a=b)
 | .string a,.string b=>decide (a=b)
 | .agg a,.agg b=>zof a b
 |_,_=>false
def z6o(k:Value):List (Value×Value)->Option Value
 | []=>none
 |(a,v)::r=>if z5U a k then some v else z6o k r
def zhQ(k v:Value):List (Value×Value)->List (Value×Value)
 | []=> [(k,v)]
 |(a,u)::r=>if z5U a k then(k,v)::r else(a,u)::zhQ k v r
theorem zow:∀xs ys:List Int,zox (xs.map (Value.int .i64)) (ys.map (Value.int .i64))=decide (xs=ys)
 | [],[]=>rfl
 | [],_::_=>rfl
 |_::_,[]=>rfl
 |x::xs,y::ys=>by simp[zox,zow xs ys]
theorem zdI(xs ys:List Int):z5U (agI xs) (agI ys)=decide (xs=ys):=by
 simp only[z5U,agI,zof]
 split
 · rename_i x y x' y' h1 h2
   match xs,ys,h1,h2 with
   | [_,_],[_,_],h1,h2=>simp at h1 h2;obtain⟨⟨_,rfl⟩,_,rfl⟩:=h1;obtain⟨⟨_,rfl⟩,_,rfl⟩:=h2;simp
 · exact zow xs ys
def AK(N:Nat)(v:Value):Prop:=∃xs:List Int,xs.length=N/\v=agI xs
theorem zvg{n:Nat}(h:zCW n v=true):AK n v:=by
 unfold zCW at h
 split at h
 · rename_i vs
   rw[Z6,decide_eq_true_eq] at h
   obtain⟨l⟩:=vs
   have key:∀l:List Value,l.all zu6=true->∃xs:List Int,l=xs.map (Value.int .i64):=fun l=>by
    induction l with
    |nil=>intro _;exact⟨[],rfl⟩
    |cons a l ih=>
     intro h
     rw[Xx,Z6] at h
     obtain⟨xs,rfl⟩:=ih h.2
     cases a with
     |int k x=>
      cases k with
      |i64=>exact⟨x::xs,rfl⟩
      |_=>cases h.1
     |_=>cases h.1
   obtain⟨xs,rfl⟩:=key l h.2
   exact⟨xs,by simpa using h.1,rfl⟩
 · cases h
theorem zCV(n:Nat)(xs:List Int):zCW n (agI xs)=decide (xs.length=n):=by
 have:∀xs:List Int,(xs.map (Value.int .i64)).all zu6=true:=fun xs=>by simp[zu6]
 simp[zCW,agI,zu6]
def KOk(P:Program)(kt:TypeId)(kk:Option IntKind):Prop:=
 (∃d,P.underlying kt=some d/\zAn d=some kk)∨ ∃N e,(∀v,zbO kk v=true->AK N v)/\P.underlying kt=some (.array N e)/\P.underlying e=some (.int .i64)/\(P.info? e).map (·.size)=some 1
theorem zqk(h:zwi v=true):AK 2 v:=by
 unfold zwi at h
 split at h
 · rename_i vs
   obtain⟨l⟩:=vs
   simp only at h
   split at h
   · exact⟨[_,_],rfl,rfl⟩
   · cases h
 · cases h
theorem zdJ(hd:zAn d=some kk)(hv:zbO kk v=true):(∃k a,kk=some k/\d= .int k/\v= .int k a)∨ ∃s,kk=none/\d= .string/\v= .string s:=by
 unfold zAn at hd
 split at hd
 · cases hd
 · cases hd
 · rename_i k hk hk2
   cases hd
   left
   cases k<;>first|exact absurd rfl hk|exact absurd rfl hk2|(cases v<;>simp_all[zbO])
 · cases hd
   right
   cases v<;>simp_all[zbO]
 · cases hd
theorem zaP(hd:zAn d=some kk)(hv:zbO kk v=true):IsKey d v:=by
 rcases zdJ hd hv with⟨k,a,rfl,rfl,rfl⟩|⟨s,rfl,rfl,rfl⟩
 · rfl
 · trivial
theorem zgb{a b:Value}(hk:KOk P kt kk)(ha:zbO kk a=true)(hb:zbO kk b=true):z5U a b=true↔a=b:=by
 rcases hk with⟨d,_,hd⟩|⟨N,e,hv,-⟩
 · rcases zdJ hd ha with⟨k,x,h1,h2,rfl⟩|⟨s,h1,h2,rfl⟩<;>rcases zdJ hd hb with⟨k',y,h3,h4,rfl⟩|⟨s',h3,h4,rfl⟩
   · rw[h1] at h3;cases h3;simp[z5U]
   · rw[h1] at h3;cases h3
   · rw[h1] at h3;cases h3
   · simp[z5U]
 · obtain⟨xs,_,rfl⟩:=hv a ha
   obtain⟨ys,_,rfl⟩:=hv b hb
   rw[zdI,decide_eq_true_eq]
   refine⟨fun h=>by rw[h],fun h=> ?_⟩
   have e:=zdI xs ys
   rw[h,zdI,decide_eq_true rfl] at e
   exact of_decide_eq_true e.symm
theorem zsk{k:IntKind}(ue:P.underlying e=some (.int k)){cs:Array Value}{i:Nat}(h:cs[i]? =some v):(part e cs i).run P w= .ok v w:=by
 simp[part,isAgg,run_underlying ue,h]
theorem zkJ(h:(P.info? e).map (·.size)=some 1):(sizeOf e).run P w= .ok 1 w:=by
 obtain⟨i,h1,h2⟩:=Z4.1 h
 simp[sizeOf,typeInfo,h1,h2]
theorem zEC(n:Nat)(ue:P.underlying e=some (.int .i64))(a b:Int)(w:World):(Op.equalIn (n+1) e (.int .i64 a) (.int .i64 b)).run P w= .ok (a==b) w:=run_equalIn_int w n e .i64 .i64 a b ue
theorem zjx(ue:P.underlying e=some (.int .i64)){m:Nat}(h:m<xs.length):(part e (xs.map (Value.int .i64)).toArray (m*1)).run P w= .ok (.int .i64 xs[m]) w:=zsk ue (by simp[h])
theorem zzP(n:Nat)(u2:P.underlying kt=some (.array N e))(ue:P.underlying e=some (.int .i64))(hs:(P.info? e).map (·.size)=some 1)(hx:xs.length=N)(hy:ys.length=N):(Op.equalIn (n+2) kt (agI xs) (agI ys)).run P w= .ok (decide (xs=ys)) w:=by
 unfold Op.equalIn agI
 simp only[Zc,run_underlying u2,Z2,zkJ hs]
 simp only[XJ,Std.Legacy.Range.size,YJ,Nat.add_one_sub_one,Nat.div_one]
 generalize hf:(fun(i:Nat) (__s:Option Bool×Unit)=>do
  let a←part e (List.map (Value.int IntKind.i64) xs).toArray (i*1)
  let b←part e (List.map (Value.int IntKind.i64) ys).toArray (i*1)
  let c←Op.equalIn (n+1) e a b
  if(!c)=true then pure (ForInStep.done (some false,())) else pure (ForInStep.yield (none,())))=f
 have key:∀k m,m+k=N->(forIn (List.range' m k) ((none,()):Option Bool×Unit) f).run P w= .ok (if xs.drop m=ys.drop m then(none,()) else(some false,())) w:=fun k=>by
  induction k with
  |zero=>
   intro m hm
   rw[List.drop_of_length_le (by omega),List.drop_of_length_le (by omega)]
   simp
  |succ k ih=>
   intro m hm
   have h1:m<xs.length:=by omega
   have h2:m<ys.length:=by omega
   have hst:(f m (none,())).run P w= .ok (if xs[m]=ys[m] then ForInStep.yield (none,()) else ForInStep.done (some false,())) w:=by
    subst hf
    simp only[Zc,zjx ue h1,zjx ue h2,Z2,zEC n ue]
    by_cases h:xs[m]=ys[m]<;>simp[h]
   rw[List.range'_succ,List.forIn_cons,Yd h1,Yd h2]
   simp only[Zc,hst,Z2,Xl]
   by_cases h:xs[m]=ys[m]
   · simp only[h,if_true,true_and]
     exact ih (m+1) (by omega)
   · simp only[h,if_false,false_and,Zg]
 rw[key N 0 (by omega)]
 by_cases h:xs=ys<;>simp[h]
theorem zr8(n:Nat)(u2:P.underlying kt=some (.array N e))(ue:P.underlying e=some (.int .i64))(hs:(P.info? e).map (·.size)=some 1)(em:Bool)(hx:xs.length=N):(Instr.checkKey em (n+2) kt (agI xs)).run P w= .ok () w:=by
 unfold Instr.checkKey agI
 simp only[Zc,run_underlying u2,Z2]
 simp only[XJ,Std.Legacy.Range.size,YJ,Nat.add_one_sub_one,Nat.div_one]
 have hc:∀x:Int,(Instr.checkKey em (n+1) e (.int .i64 x)).run P w= .ok () w:=fun x=>by simp[Instr.checkKey,run_underlying ue]
 generalize hf:(fun(i:Nat) (__s:PUnit)=>do
  let s←sizeOf e
  let a←part e (List.map (Value.int IntKind.i64) xs).toArray (i*s)
  Instr.checkKey em (n+1) e a
  pure (ForInStep.yield PUnit.unit))=f
 have key:∀k m,m+k=N->(forIn (List.range' m k) PUnit.unit f).run P w= .ok PUnit.unit w:=fun k=>by
  induction k with
  |zero=>intro m hm;simp
  |succ k ih=>
   intro m hm
   have h1:m<xs.length:=by omega
   rw[List.range'_succ,List.forIn_cons]
   have:=ih (m+1) (by omega)
   subst hf
   simp only[Zc,zkJ hs,zjx ue h1,Z2,hc,Zg,this]
 rw[key N 0 (by omega)]
 simp
theorem zsj:∀xs:List Int,((xs.map (Value.int .i64)).zip (xs.map (Value.int .i64))).all (fun(x,y)=>Instr.sameBits 9999 x y)=true:=fun xs=>by
 induction xs with
 |nil=>rfl
 |cons x xs ih=>simp only[Zs,List.zip_cons_cons,Xx,ih,XP];simp[Instr.sameBits]
theorem zvS(xs:List Int):(Instr.keyThatStays (agI xs) (agI xs)).run P w= .ok (agI xs) w:=by
 have h:Instr.sameBits (9999+1) (agI xs) (agI xs)=true:=by
  simp only[agI,Instr.sameBits,beq_self_eq_true,YN]
  exact zsj xs
 unfold Instr.keyThatStays
 rw[if_pos h]
 rfl
theorem zBI(u2:P.underlying kt=some (.array N e))(ue:P.underlying e=some (.int .i64))(hs:(P.info? e).map (·.size)=some 1)(hx:xs.length=N)(hy:ys.length=N):(Op.equal kt (agI xs) (agI ys)).run P w= .ok (decide (xs=ys)) w:=zzP 9998 u2 ue hs hx hy
theorem z9A(hk:KOk P kt kk)(hv:zbO kk k=true)(em:Bool):(Instr.checkKey em 10000 kt k).run P w= .ok () w:=by
 rcases hk with⟨d,hu,hd⟩|⟨N,e,ha,u2,ue,hs⟩
 · exact run_checkKey hu (zaP hd hv) em 9999
 · obtain⟨xs,hx,rfl⟩:=ha k hv
   exact zr8 9998 u2 ue hs em hx
theorem znZ(hk:KOk P kt kk)(hv:zbO kk k=true):(Instr.keyThatStays k k).run P w= .ok k w:=by
 rcases hk with⟨d,hu,hd⟩|⟨N,e,ha,u2,ue,hs⟩
 · exact run_keyThatStays (zaP hd hv)
 · obtain⟨xs,hx,rfl⟩:=ha k hv
   exact zvS xs
theorem zvd{P:Program}{kt e:TypeId}{N:Nat}(u2:P.underlying kt=some (.array N e))(ue:P.underlying e=some (.int .i64))(hs:(P.info? e).map (·.size)=some 1){k:Value}(hk:AK N k):∀(l:List MapEntry) (i:Nat),(∀x∈l,AK N x.key)->
 ((∀w,(Instr.findAsking kt k l i).run P w= .ok none w)/\ ∀e∈l,z5U e.key k=false)∨ ∃j e,(∀w,(Instr.findAsking kt k l i).run P w= .ok (some (i+j,e.val)) w)/\l[j]? =some e/\e.key=k/\ ∀i<j,∀e',l[i]? =some e'->z5U e'.key k=false
 | [],i,_=>.inl ⟨fun w=>rfl,fun e he=>by cases he⟩
 |x::l,i,h=>by
  obtain⟨xs,h1,rfl⟩:=hk
  obtain⟨ys,h2,hx⟩:=h x (.head _)
  have hstep:∀w,(Instr.findAsking kt (agI xs) (x::l) i).run P w=if xs=ys then .ok (some (i,x.val)) w else(Instr.findAsking kt (agI xs) l (i+1)).run P w:=fun w=>by
   simp only[Instr.findAsking,hx,Zc,zBI u2 ue hs h1 h2,Z2,decide_eq_true_eq]
   split<;>rfl
  by_cases hc:xs=ys
  · refine .inr ⟨0,x,fun w=>by rw[hstep,if_pos hc];rfl,rfl,?_,fun i' hi=>by omega⟩
    rw[hx,hc]
  · have hne:z5U x.key (agI xs)=false:=by
     rw[hx,zdI,decide_eq_false fun h=>hc h.symm]
    rcases zvd u2 ue hs (k:=agI xs) ⟨xs,h1,rfl⟩ l (i+1) (fun y hy=>h y (.tail _ hy)) with⟨h1,h2⟩|⟨j,e',h1,h2,h3,h4⟩
    · refine .inl ⟨fun w=>by rw[hstep,if_neg hc];exact h1 w,fun e he=> ?_⟩
      rcases Zu.1 he with rfl|he
      · exact hne
      · exact h2 e he
    · refine .inr ⟨j+1,e',fun w=>by rw[hstep,if_neg hc,h1,show i+1+j=i+(j+1) by omega],by simpa using h2,h3,fun i' hi e'' he=> ?_⟩
      cases i' with
      |zero=>simp at he;subst he;exact hne
      |succ i'=>exact h4 i' (by omega) e'' (by simpa using he)
theorem zic{k:Value}:∀ {l:List MapEntry},(∀e∈l,z5U e.key k=false)->z6o k (l.map fun e=>(e.key,e.val))=none/\ ∀v,zhQ k v (l.map fun e=>(e.key,e.val))=(l.map fun e=>(e.key,e.val))++ [(k,v)]
 | [],_=>⟨rfl,fun _=>rfl⟩
 |e::es,h=>by
  have e2:=h e (.head _)
  obtain⟨h1,h2⟩:=zic (l:=es) fun x hx=>h x (.tail _ hx)
  exact⟨by simp[z6o,e2,h1],fun v=>by simp[zhQ,e2,h2]⟩
theorem zib{k:Value}(hkk:z5U k k=true):∀ {l:List MapEntry} {j:Nat} {e:MapEntry},l[j]? =some e->e.key=k->(∀i<j,∀e',l[i]? =some e'->z5U e'.key k=false)->z6o k (l.map fun e=>(e.key,e.val))=some e.val/\ ∀v,zhQ k v (l.map fun e=>(e.key,e.val))=(l.map fun e=>(e.key,e.val)).set j (k,v)
 | [],j,e,h,_,_=>by simp at h
 |x::es,0,e,h,he,_=>by
  simp at h;subst h;subst he
  exact⟨by simp[z6o,hkk],fun v=>by simp[zhQ,hkk]⟩
 |x::es,j+1,e,h,he,hb=>by
  have e2:=hb 0 (by omega) x rfl
  obtain⟨h1,h2⟩:=zib hkk (l:=es) (j:=j) (by simpa using h) he fun i hi e' h'=>hb (i+1) (by omega) e' (by simpa using h')
  exact⟨by simp[z6o,e2,h1],fun v=>by simp[zhQ,e2,h2]⟩
theorem zsR{d:TypeDesc}{kk:Option IntKind}{k:Value}(hke:∀a,zbO kk a=true->(z5U a k=true↔a=k))(hd:zAn d=some kk)(hk:zbO kk k=true):∀(l:List MapEntry) (i:Nat),(∀x∈l,zbO kk x.key=true)->
 (Instr.findNow d k l i=some none/\ ∀e∈l,z5U e.key k=false)∨ ∃j e,Instr.findNow d k l i=some (some (i+j,e.val))/\l[j]? =some e/\e.key=k/\ ∀i<j,∀e',l[i]? =some e'->z5U e'.key k=false
 | [],i,h=>.inl ⟨rfl,fun e he=>by cases he⟩
 |e::es,i,h=>by
  have he:=h e (.head _)
  obtain⟨r,hr,hiff⟩:=sameNow_of_keys (zaP hd hk) (zaP hd he)
  cases r with
  |true=>
   have e1:e.key=k:=(hiff.1 rfl).symm
   exact .inr ⟨0,e,by simp[Instr.findNow,hr],rfl,e1,fun i' hi=>by omega⟩
  |false=>
   have e2:z5U e.key k=false:=by
    rw[←XC];intro q;have:=hiff.2 ((hke _ he).1 q).symm;cases this
   rcases zsR hke hd hk es (i+1) (fun x hx=>h x (.tail _ hx)) with⟨h1,h2⟩|⟨j,e',h1,h2,h3,h4⟩
   · refine .inl ⟨by simp[Instr.findNow,hr,h1],fun x hx=> ?_⟩
     rcases Zu.1 hx with rfl|hx
     · exact e2
     · exact h2 x hx
   · refine .inr ⟨j+1,e',by simp[Instr.findNow,hr,h1];omega,by simpa using h2,h3,fun i' hi e'' h'=> ?_⟩
     cases i' with
     |zero=>simp at h';subst h';exact e2
     |succ i'=>exact h4 i' (by omega) e'' (by simpa using h')
theorem zgA(hk:KOk P kt kk)(hv:zbO kk k=true)(l:List MapEntry)(hl:∀x∈l,zbO kk x.key=true):
 ((∀w,(Instr.findKey kt k l).run P w= .ok none w)/\ ∀e∈l,z5U e.key k=false)∨ ∃j e,(∀w,(Instr.findKey kt k l).run P w= .ok (some (j,e.val)) w)/\l[j]? =some e/\e.key=k/\ ∀i<j,∀e',l[i]? =some e'->z5U e'.key k=false:=by
 have hke:∀a,zbO kk a=true->(z5U a k=true↔a=k):=fun a ha=>zgb hk ha hv
 rcases hk with⟨d,hu,hd⟩|⟨N,e,ha,u2,ue,hs⟩
 · rcases zsR hke hd hv l 0 hl with⟨h1,h2⟩|⟨j,e,h1,h2⟩
   · exact .inl ⟨fun w=>run_findKey hu h1,h2⟩
   · exact .inr ⟨j,e,fun w=>by rw[run_findKey hu h1,Zp],h2⟩
 · have hw:∀w,(Instr.findKey kt k l).run P w=(Instr.findAsking kt k l 0).run P w:=fun w=>run_findKey_eq w (by rw[u2]) k l
   rcases zvd u2 ue hs (ha k hv) l 0 (fun x hx=>ha _ (hl x hx)) with⟨h1,h2⟩|⟨j,e,h1,h2⟩
   · exact .inl ⟨fun w=>(hw w).trans (h1 w),h2⟩
   · exact .inr ⟨j,e,fun w=>by rw[hw,h1,Zp],h2⟩
theorem zoP(hk:KOk P kt kk)(hv:zbO kk k=true)(l:List MapEntry)(hl:∀x∈l,zbO kk x.key=true):
 ((∀w,(Instr.findKey kt k l).run P w= .ok none w)/\z6o k (l.map fun e=>(e.key,e.val))=none/\ ∀v,zhQ k v (l.map fun e=>(e.key,e.val))=(l.map fun e=>(e.key,e.val))++ [(k,v)])∨
 ∃j e,(∀w,(Instr.findKey kt k l).run P w= .ok (some (j,e.val)) w)/\l[j]? =some e/\e.key=k/\z6o k (l.map fun e=>(e.key,e.val))=some e.val/\ ∀v,zhQ k v (l.map fun e=>(e.key,e.val))=(l.map fun e=>(e.key,e.val)).set j (k,v):=by
 rcases zgA hk hv l hl with⟨h1,h2⟩|⟨j,e,h1,h2,h3,h4⟩
 · exact .inl ⟨h1,zic h2⟩
 · exact .inr ⟨j,e,h1,h2,h3,zib ((zgb hk hv hv).2 rfl) h2 h3 h4⟩
def zAU(fr:Fr):E->Option (Option Nat×Option IntKind×List (Value×Value))
 | .one (.t dep (.mr kk es))=>some (dep,kk,es)
 | .one (.h id p)=>match z2f fr.ob id with
   |none=>none
   |some root=>match sub root p with
    |some (.mp kk es)=>some (some id,kk,es)
    |some (.mr kk es)=>some (none,kk,es)
    |_=>none
 |_=>none
theorem zkS{e:E}{dep:Option Nat}(h:FRep w K R G fr a)(he:ERep w K R fr.ob e u)(hr:zAU fr e=some (dep,kk,es)):
 ∃g ents clock,u= .map (some g)/\frz K dep g= []/\w.heap[g]? =some (.map ents clock)/\zre kk ents clock es:=by
 unfold zAU at hr
 split at hr
 · cases hr
   have h1:=he.1
   cases h1 with
   |mr _ g _ _ ents clock hK hg hh=>exact⟨g,ents,clock,rfl,hK,hg,hh⟩
 · rename_i id p
   split at hr
   case h_1=>cases hr
   case h_2 root hroot=>
   obtain⟨n1,t,n2,n3⟩:=he
   split at hr
   · rename_i kk' es' hsub
     cases hr
     obtain⟨v,e1,r⟩:=(h.ob id root hroot).sub (z1D id) hsub
     rw[n1] at e1;cases e1
     cases r with
     |mp _ g _ _ ents clock hc0 hK hg hh=>exact⟨g,ents,clock,rfl,by simp[frz,hK,col],hg,hh⟩
   · rename_i kk' es' hsub
     cases hr
     obtain⟨v,e1,r⟩:=(h.ob id root hroot).sub (z1D id) hsub
     rw[n1] at e1;cases e1
     cases r with
     |mr _ g _ _ ents clock hK hg hh=>exact⟨g,ents,clock,rfl,hK,hg,hh⟩
   · cases hr
 · cases hr
def zim(P:Program)(t:TypeId):Option Value:=match P.info? t with|some i=>i.zero|none=>none
theorem zfN{z:Value}(h:zim P t=some z)(w:World):(zeroValue t).run P w= .ok z w:=by
 unfold zim at h
 split at h
 · rename_i i hi
   simp[zeroValue,typeInfo,hi,h,Sem.run]
 · cases h
def zb5(P:Program)(t:TypeId):Option (Option IntKind×TypeId):=
 match z2w P t with
 |some ⟨.map kt et,_,_,_⟩=>match z2w P kt with
  |some ⟨.array 2 e,_,_,_⟩=>match z2w P e with
   |some ⟨.int .i64,1,_,_⟩=>some (some .i8,et)
   |_=>none
  |some ⟨.array 7 e,_,_,_⟩=>match z2w P e with
   |some ⟨.int .i64,1,_,_⟩=>some (some .i16,et)
   |_=>none
  |some ki=>match zAn ki.u with
   |some kk=>some (kk,et)
   |none=>none
  |none=>none
 |_=>none
theorem z5E{et:TypeId}(h:zb5 P t=some (kk,et)):∃kt,P.underlying t=some (.map kt et)/\KOk P kt kk:=by
 unfold zb5 at h
 split at h
 · rename_i kt et' s b z ht
   split at h
   · rename_i e s1 b1 z1 hki
     split at h
     · rename_i b2 z2 he
       cases h
       obtain⟨h1,j,h2,h3,_⟩:=z3E he
       exact⟨kt,(z3E ht).1,.inr ⟨2,e,fun v hv=>zqk hv,(z3E hki).1,h1,by rw[h2];exact congrArg some h3⟩⟩
     · cases h
   · rename_i e s1 b1 z1 hki
     split at h
     · rename_i b2 z2 he
       cases h
       obtain⟨h1,j,h2,h3,_⟩:=z3E he
       exact⟨kt,(z3E ht).1,.inr ⟨7,e,fun v hv=>zvg hv,(z3E hki).1,h1,by rw[h2];exact congrArg some h3⟩⟩
     · cases h
   · rename_i ki hne hne2 hki
     split at h
     · rename_i kk' hkk
       cases h
       exact⟨kt,(z3E ht).1,.inl ⟨ki.u,(z3E hki).1,hkk⟩⟩
     · cases h
   · cases h
 · cases h
def zn3:List T->Option (List Int)
 | []=>some []
 | .sc (.int .i64 x)::r=>(zn3 r).map (x:: ·)
 |_=>none
theorem zu8(xs:List Int):zn3 (xs.map fun x=>.sc (.int .i64 x))=some xs:=by
 induction xs with
 |nil=>rfl
 |cons x xs ih=>simp[zn3,ih]
theorem zi6:∀ {cs:List T} {xs:List Int},zn3 cs=some xs->cs=xs.map fun x=>.sc (.int .i64 x)
 | [],xs,h=>by cases h;rfl
 | .sc (.int .i64 x)::r,xs,h=>by
   simp only[zn3,Z4] at h
   obtain⟨ys,h1,rfl⟩:=h
   rw[zi6 h1];rfl
def zDX(cs:List T):Option Value:=
 if cs.length=2 then(match cs with| [.sc a,.sc b]=>some (.agg #[a,b])|_=>none) else(zn3 cs).map agI
def rdK:E->Option Value
 | .ag [x,y]=>(match rdV (.one x),rdV (.one y) with|some a,some b=>some (.agg #[a,b])|_,_=>none)
 | .one (.t none (.agg cs))=>zDX cs
 |e=>rdV e
theorem zcq{e:E}(h:ERep w K R ob e u)(hr:rdK e=some k):u=k:=by
 unfold rdK at hr
 split at hr
 · rename_i x y
   split at hr
   · rename_i a b ha hb
     cases hr
     obtain⟨arr,rfl,h1,h2⟩:=h
     have e0:ERep w K R ob (.one x) (arr.getD 0 undef):=h2 0 x rfl
     have e1:ERep w K R ob (.one y) (arr.getD 1 undef):=h2 1 y rfl
     have d0:=(z1o e0 ha).1
     have d1:=(z1o e1 hb).1
     obtain⟨l⟩:=arr
     match l,h1 with
     | [p,q],_=>
       have d0:p=a:=d0
       have d1:q=b:=d1
       subst d0 d1
       rfl
   · cases hr
 · rename_i cs0
   have h1:=h.1
   unfold zDX at hr
   split at hr
   rotate_left
   · rw[Z4] at hr
     obtain⟨xs,hx,rfl⟩:=hr
     have hcs:=zi6 hx
     generalize hT:T.agg cs0=t at h1
     cases h1 with
     |agg c vs cs F hl hF hh=>
      cases hT
      subst hcs
      unfold agI
      congr 1
      refine Array.ext (by simpa using hl) fun i i1 i2=> ?_
      have hi:i<xs.length:=by simpa using i2
      have g:=(hh i _ (by simp[hi];rfl)).sc_eq
      have f:=hF i (by simpa using hi)
      rw[YG i1] at f
      rw[YD f,g]
      simp
     |_=>cases hT
   split at hr
   rotate_left
   · cases hr
   rename_i a b _
   cases hr
   generalize hT:T.agg [.sc a,.sc b]=t at h1
   cases h1 with
   |agg c vs cs F hl hF hh=>
    cases hT
    have g0:=(hh 0 _ rfl).sc_eq
    have g1:=(hh 1 _ rfl).sc_eq
    have f0:=hF 0 (by simp)
    have f1:=hF 1 (by simp)
    obtain⟨l⟩:=vs
    match l,hl with
    | [p,q],_=>
      simp at f0 f1
      rw[f0,f1,g0,g1]
   |_=>cases hT
 · exact(z1o h hr).1
def ziQ(P:Program)(M:Nat->Bool)(fr:Fr)(t:TypeId)(x key:E)(ok:Bool):Option E:=
 match zb5 P t with
 |none=>none
 |some (kk,et)=>match zim P et with
  |none=>none
  |some z=>match zAU fr x with
   |none=>(match rdV x,rdK key with
    |some (.map none),some k=>if zbO kk k=true/\scB z=true then(if ok then some (.one (.t none (.tup [.sc z,.sc (.bool false)]))) else some (scE z)) else none
    |_,_=>none)
   |some (dep,kk',es)=>match rdK key with
    |none=>none
    |some k=>if kk=kk'/\zbO kk k=true/\scB z=true/\zjk dep M=false then
      (if ok then some (.one (.t none (.tup [.sc ((z6o k es).getD z),.sc (.bool (z6o k es).isSome)]))) else some (scE ((z6o k es).getD z)))
     else none
theorem zlp{k v:Value}:∀ {es:List (Value×Value)},z6o k es=some v->∃x∈es,x.2=v
 | [],h=>by cases h
 |(a,u)::r,h=>by
  simp only[z6o] at h
  split at h
  · cases h;exact⟨_,.head _,rfl⟩
  · obtain⟨x,hx,e⟩:=zlp h
    exact⟨x,.tail _ hx,e⟩
theorem zqs{x key e:E}{ku:Value}{ok:Bool}(h:FRep w K R G fr a)(hx:ERep w K R fr.ob x u)(hkey:ERep w K R fr.ob key ku)(hl:ziQ P M fr t x key ok=some e):
 ∃v,ERep w K R fr.ob e v/\ ∀w',Stay w w' K M->(Instr.lookup t u ku ok).run P w'= .ok v w':=by
 unfold ziQ at hl
 split at hl
 case h_1=>cases hl
 case h_2 kk et ht=>
 split at hl
 case h_1=>cases hl
 case h_2 z hz=>
 split at hl
 case h_1=>
  split at hl
  case h_2=>cases hl
  case h_1 k hv hk=>
  split at hl
  case isFalse=>cases hl
  case isTrue hc=>
  obtain⟨kt,u1,u3⟩:=z5E ht
  obtain rfl:=zcq hkey hk
  obtain rfl:=(z1o hx hv).1
  have hfd:∀w',(Instr.findKey kt ku []).run P w'= .ok none w':=by
   rcases zgA u3 hc.1 [] (fun x hx=>by cases hx) with⟨h1,-⟩|⟨j,e',-,h2,-⟩
   · exact h1
   · simp at h2
  have hrun:∀w',(Instr.lookup t (.map none) ku ok).run P w'= .ok (if ok then .tuple #[z,.bool false] else z) w':=fun w'=>by
   simp only[Instr.lookup,Zc,run_underlying u1,Z2,Zg]
   rw[z9A u3 hc.1]
   simp only[Z2,hfd,zfN hz,Zc,Zg]
  cases ok with
  |true=>
   simp only[if_true,Z9] at hl
   subst hl
   refine⟨_,⟨?_,fun _ e=>by cases e⟩,fun w' _=>hrun w'⟩
   refine .tup _ _ _ (fun j=>if j=0 then z else .bool false) rfl (fun j hj=> ?_) (fun j t ht=> ?_)
   · match j,hj with
     |0,_=>rfl
     |1,_=>rfl
   · match j,ht with
     |0,ht=>cases ht;exact .sc _ _ hc.2
     |1,ht=>cases ht;exact .sc _ _ rfl
  |false=>
   simp only[ZR,if_false,Z9] at hl
   subst hl
   exact⟨_,z3L hc.2,fun w' _=>by simpa using hrun w'⟩
 case h_2 dep kk' es hrd=>
 split at hl
 case h_1=>cases hl
 case h_2 k hk=>
 split at hl
 case isFalse=>cases hl
 case isTrue hc=>
 obtain⟨rfl,hkb,hzb,hdep⟩:=hc
 obtain⟨kt,u1,u3⟩:=z5E ht
 obtain rfl:=zcq hkey hk
 obtain⟨g,ents,clock,rfl,hKg,hg,hm1,hm2,hm3,hm4⟩:=zkS h hx hrd
 subst hm1
 have hks:∀x∈ents.toList,zbO kk x.key=true:=fun x hx=>(hm2 (x.key,x.val) (Zm.2 ⟨x,hx,rfl⟩)).1
 have hstay:∀w',Stay w w' K M->w'.heap[g]? =some (.map ents clock):=fun w' hst=>by
  have:=hst.dep hdep (z0P hg) hKg
  rw[this];exact hg
 have hfv:∀v,z6o ku (ents.toList.map fun e=>(e.key,e.val))=some v->scB v=true:=fun v hv=>by
  obtain⟨x,hx,rfl⟩:=zlp hv
  exact(hm2 x hx).2
 have hres:scB ((z6o ku (ents.toList.map fun e=>(e.key,e.val))).getD z)=true:=by
  cases hfd:z6o ku (ents.toList.map fun e=>(e.key,e.val)) with
  |none=>exact hzb
  |some v=>exact hfv v hfd
 have hrun:∀w',Stay w w' K M->(Instr.lookup t (.map (some g)) ku ok).run P w'= .ok (if ok then .tuple #[(z6o ku (ents.toList.map fun e=>(e.key,e.val))).getD z,.bool (z6o ku (ents.toList.map fun e=>(e.key,e.val))).isSome] else(z6o ku (ents.toList.map fun e=>(e.key,e.val))).getD z) w':=fun w' hst=>by
  have hb:=hstay w' hst
  rcases zoP u3 hkb ents.toList hks with⟨h1,h2,-⟩|⟨j,e',h1,h2,h3,h4,-⟩
  · rw[h2]
    simp only[Instr.lookup,Zc,run_underlying u1,Go.MapKept.run_getObj_map hb,Z2,Zg]
    rw[z9A u3 hkb]
    simp only[Z2,h1,zfN hz,Zc,Zg]
    rfl
  · rw[h4]
    simp only[Instr.lookup,Zc,run_underlying u1,Go.MapKept.run_getObj_map hb,Z2,Zg]
    rw[z9A u3 hkb]
    simp only[Z2,h1,Zc,Zg]
    rfl
 cases ok with
 |true=>
  simp only[if_true,Z9] at hl
  subst hl
  refine⟨_,⟨?_,fun _ e=>by cases e⟩,hrun⟩
  refine .tup _ _ _ (fun j=>if j=0 then(z6o ku (ents.toList.map fun e=>(e.key,e.val))).getD z else .bool (z6o ku (ents.toList.map fun e=>(e.key,e.val))).isSome) rfl (fun j hj=> ?_) (fun j t ht=> ?_)
  · match j,hj with
    |0,_=>rfl
    |1,_=>rfl
  · match j,ht with
    |0,ht=>cases ht;exact .sc _ _ hres
    |1,ht=>cases ht;exact .sc _ _ rfl
 |false=>
  simp only[ZR,if_false,Z9] at hl
  subst hl
  exact⟨_,z3L hres,fun w' hst=>by simpa using hrun w' hst⟩
def ziK(P:Program)(M:Nat->Bool)(fr:Fr)(t:TypeId)(x:E):Option E:=
 match zb5 P t with
 |none=>none
 |some _=>match zAU fr x with
  |none=>none
  |some (dep,_,es)=>if zjk dep M=false then some (scE (.int .i64 es.length)) else none
theorem zqr{x e:E}(h:FRep w K R G fr a)(hx:ERep w K R fr.ob x u)(hl:ziK P M fr t x=some e):
 ∃v,ERep w K R fr.ob e v/\ ∀w',Stay w w' K M->∀ty,(Builtin.len_ #[t] ty #[u]).run P w'= .ok v w':=by
 unfold ziK at hl
 split at hl
 case h_1=>cases hl
 case h_2 q ht=>
 split at hl
 case h_1=>cases hl
 case h_2 dep kk es hrd=>
 split at hl
 case isFalse=>cases hl
 case isTrue hdep=>
 cases hl
 obtain⟨kk',et⟩:=q
 obtain⟨kt,u1,u3⟩:=z5E ht
 obtain⟨g,ents,clock,rfl,hKg,hg,hm1,hm2,hm3,hm4⟩:=zkS h hx hrd
 refine⟨_,z3L rfl,fun w' hst ty=> ?_⟩
 have hb:w'.heap[g]? =some (.map ents clock):=by rw[hst.dep hdep (z0P hg) hKg];exact hg
 have hlen:es.length=ents.size:=by rw[←hm1];simp
 simp[Builtin.len_,Zc,run_underlying u1,Go.MapKept.run_getObj_map hb,Z2,Zg,goInt,hlen]
def zbM(id:Nat):A->A
 | .t (some i) x=>if i=id then .dead else .t (some i) x
 | .ea (some i) cs o=>if i=id then .dead else .ea (some i) cs o
 |x=>x
theorem FRep.mapset{w':World}{id:Nat}{p:List Nat}{root root':T}{es':List (Value×Value)}{g:Nat}{ents ents':Array MapEntry}{clock clock':Nat}
 (h:FRep w K R G fr a) (hroot:z2f fr.ob id=some root) (hbox:sub root p=some (.mp kk es)) (hupd:upd root p (.mp kk es')=some root') (hnav:nav w (R id) p=some (.map (some g)))
 (hg:w.heap[g]? =some (.map ents clock)) (hg':w'.heap[g]? =some (.map ents' clock')) (hh:zre kk ents' clock' es') (hsz:w'.heap.size=w.heap.size) (hoth:∀b,b≠g->w'.heap[b]? =w.heap[b]?):
 FRep w' K R G {fr with tm:=z6J (zbM id) fr.tm,ob:=z6h fr.ob id root'} a:=by
 have hrt:=h.ob id root hroot
 obtain⟨hv2,hnav2,hrep⟩:=hrt.sub (z1D id) hbox
 rw[hnav] at hnav2;cases hnav2
 have hKg:K g=col id++p:=by cases hrep with|mp _ g _ _ ents clock hc0 hK hg hh=>exact hK
 have hne:∀b i s,K b=(i+2)::s->i≠id->b≠g:=fun b i s e1 e2 e3=>by
  subst e3;rw[hKg] at e1;simp[col] at e1;exact e2 e1.1.symm
 have hne0:∀b,K b= []->b≠g:=fun b e1 e3=>by subst e3;rw[hKg] at e1;simp[col] at e1
 have hfro:∀b,b<w.heap.size->K b= []->K b= []/\w'.heap[b]? =w.heap[b]? :=fun b hb e1=>⟨e1,hoth b (hne0 b e1)⟩
 have hcell:∀gb j,w'.cell? ⟨gb,j,none⟩=w.cell? ⟨gb,j,none⟩:=fun gb j=>by
  by_cases e1:gb=g
  · subst e1;simp[World.cell?,hg,hg']
  · exact z0Y (hoth gb e1) j
 have hway:∀i t q,z2f fr.ob i=some t->(sub t q).isSome->nav w' (R i) q=nav w (R i) q:=fun i t q ho hs=>
  z6x (h.ob i t ho) (z1D i) hs fun r j s gb hq hKb hb=>hcell gb j
 have hsub:∀q,(sub root q).isSome->(sub root' q).isSome:=fun q hs=>by
  by_cases hp:p<+:q
  · obtain⟨s,rfl⟩:=hp
    rw[z6q hupd]
    rw[z5d hbox] at hs
    cases s with
    |nil=>simp[sub]
    |cons j s=>simp[sub,zlV] at hs
  · exact z4R hupd hp hs
 have hdep:∀i,i≠id->∀b,b<w.heap.size->frz K (some i) b= []->frz K (some i) b= []/\w'.heap[b]? =w.heap[b]? :=fun i hi b hb e1=>by
  refine⟨e1,?_⟩
  simp only[frz] at e1
  split at e1
  · rename_i hh
    obtain⟨s,hs⟩:∃s,K b=(i+2)::s:=by
     cases hk:K b with
     |nil=>rw[hk] at hh;cases hh
     |cons a s=>rw[hk] at hh;simp at hh;subst hh;exact⟨s,rfl⟩
    exact hoth b (hne b i s hs hi)
  · exact(hfro b hb e1).2
 have hobi:∀i,i≠id->z2f (z6h fr.ob id root') i=z2f fr.ob i:=fun i hi=>by rw[z0A,if_neg (fun e=>hi e.symm)]
 refine⟨fun i=> ?_,fun i t ho=> ?_,h.nt,h.df⟩
 · show ERep w' K R (z6h fr.ob id root') (z2J (z6J (zbM id) fr.tm) i) _
   rw[z5M _ rfl]
   refine(h.tm i).map _ fun x u hx=> ?_
   cases x with
   |dead=>trivial
   |k v=>exact hx
   |t dep x=>
    cases dep with
    |none=>exact⟨TRep.fz hx.1 hfro (by omega),fun _ e=>by cases e⟩
    |some i=>
     by_cases hi:i=id
     · simp only[zbM,if_pos hi];trivial
     · simp only[zbM,if_neg hi]
       exact⟨TRep.fz hx.1 (fun b hb e1=>hdep i hi b hb e1) (by omega),fun _ e=>by cases e;rw[hobi i hi];exact hx.2 i rfl⟩
   |h i q=>
    obtain⟨n1,t,n2,n3⟩:=hx
    refine⟨by rw[hway i t q n2 n3];exact n1,?_⟩
    by_cases hi:i=id
    · subst hi
      rw[hroot] at n2;cases n2
      exact⟨root',by simp[z0A],hsub q n3⟩
    · exact⟨t,by rw[hobi i hi];exact n2,n3⟩
   |a i q o=>
    obtain⟨hv,g,n1,n4,n5,t,n2,n3⟩:=hx
    refine⟨hv,g,by rw[hway i t q n2 n3];exact n1,n4,n5,?_⟩
    by_cases hi:i=id
    · subst hi
      rw[hroot] at n2;cases n2
      exact⟨root',by simp[z0A],hsub q n3⟩
    · exact⟨t,by rw[hobi i hi];exact n2,n3⟩
   |tf n cs=>exact⟨hx.1,TRep.fz hx.2 hfro (by omega)⟩
   |ea dep cs o=>
    obtain⟨g,o,F,e1,e2,e3,e4,e5,e6⟩:=hx
    cases dep with
    |none=>exact⟨g,o,F,e1,e2,by omega,fun j hj=>by rw[hcell];exact e4 j hj,fun j t ht=>TRep.fz (e5 j t ht) hfro (by omega),fun _ e=>by cases e⟩
    |some i=>
     by_cases hi:i=id
     · simp only[zbM,if_pos hi];trivial
     · simp only[zbM,if_neg hi]
       exact⟨g,o,F,e1,e2,by omega,fun j hj=>by rw[hcell];exact e4 j hj,fun j t ht=>TRep.fz (e5 j t ht) (fun b hb e1=>hdep i hi b hb e1) (by omega),fun _ e=>by cases e;rw[hobi i hi];exact e6 i rfl⟩
 · rw[z0A] at ho
   split at ho
   · rename_i e1
     subst e1;cases ho
     refine TRep.upd hrt (z1D id) hnav hupd ⟨hfro,fun b hb ⟨s,e1,hs⟩=> ?_,by omega⟩ (.mp _ g kk es' ents' clock' (by simp[col]) hKg hg' hh)
     have hb':b≠g:=fun e2=>by subst e2;rw[hKg] at e1;exact hs (by rw[YQ e1];exact List.prefix_rfl)
     exact⟨rfl,hoth b hb'⟩
   · rename_i e1
     refine(h.ob i t ho).keep (D:=But id) ⟨hfro,fun b hb ⟨j,s,e2,hj⟩=>⟨rfl,hoth b (hne b j s e2 hj)⟩,by omega⟩ (fun s _=>⟨i,s,rfl,fun e=>e1 e.symm⟩)
def ziI(P:Program)(fr:Fr)(t:TypeId)(m key val:E):Option Fr:=
 match zb5 P t with
 |none=>none
 |some (kk,_)=>match m with
  | .one (.h id p)=>match z2f fr.ob id with
    |none=>none
    |some root=>match sub root p with
     |some (.mp kk' es)=>match rdK key,rdV val with
      |some k,some v=>if kk=kk'/\zbO kk k=true then(match upd root p (.mp kk (zhQ k v es)) with
        |some root'=>some {fr with tm:=z6J (zbM id) fr.tm,ob:=z6h fr.ob id root'}
        |none=>none) else none
      |_,_=>none
     |_=>none
  |_=>none
theorem zqq{m key val:E}{um uk uv:Value}(h:FRep w K R G fr a)(hm:ERep w K R fr.ob m um)(hk:ERep w K R fr.ob key uk)(hv:ERep w K R fr.ob val uv)(hf:ziI P fr t m key val=some fr'):
 ∃w',(Instr.mapUpdate t um uk uv).run P w= .ok () w'/\FRep w' K R G fr' a/\Step w K w' K/\ ∀b i s,K b=(i+2)::s->(∀id p,m= .one (.h id p)->i≠id)->w'.heap[b]? =w.heap[b]? :=by
 unfold ziI at hf
 split at hf
 case h_1=>cases hf
 case h_2 kk et ht=>
 split at hf
 case h_2=>cases hf
 case h_1 id p=>
 split at hf
 case h_1=>cases hf
 case h_2 root hroot=>
 split at hf
 case h_2=>cases hf
 case h_1 kk' es hsub=>
 split at hf
 case h_2=>cases hf
 case h_1 k v hrk hrv=>
 split at hf
 case isFalse=>cases hf
 case isTrue hc=>
 obtain⟨rfl,hkb⟩:=hc
 split at hf
 case h_2=>cases hf
 case h_1 root' hupd=>
 cases hf
 obtain rfl:=zcq hk hrk
 obtain⟨rfl,hvb⟩:=z1o hv hrv
 obtain⟨kt,u1,u3⟩:=z5E ht
 obtain⟨n1,t0,n2,n3⟩:=hm
 obtain⟨v0,e1,r⟩:=(h.ob id root hroot).sub (z1D id) hsub
 rw[n1] at e1;cases e1
 obtain⟨g,ents,clock,rfl,hKg,hg,hm1,hm2,hm3,hm4⟩:∃g ents clock,um= .map (some g)/\K g=col id++p/\w.heap[g]? =some (.map ents clock)/\zre kk ents clock es:=by
  cases r with
  |mp _ g _ _ ents clock hc0 hK hg hh=>exact⟨g,ents,clock,rfl,hK,hg,hh⟩
 have hks:∀x∈ents.toList,zbO kk x.key=true:=fun x hx=>(hm2 (x.key,x.val) (by rw[←hm1];exact Zm.2 ⟨x,hx,rfl⟩)).1
 have main:∃ents' clock',(Instr.mapUpdate t (.map (some g)) uk uv).run P w= .ok () {w with heap:=w.heap.setIfInBounds g (.map ents' clock')}/\zre kk ents' clock' (zhQ uk uv es):=by
  rcases zoP u3 hkb ents.toList hks with⟨h1,h2,h3⟩|⟨j,e',h1,h2,h3,h4,h5⟩
  · refine⟨ents.push {key:=uk,val:=uv,born:=clock},clock+1,?_,?_,?_,?_,?_⟩
    · simp only[Instr.mapUpdate,Zc,run_underlying u1,Go.MapKept.run_getObj_map hg,Z2]
      rw[z9A u3 hkb]
      simp only[Z2,h1]
      exact run_setObj_map _ hg
    · rw[←hm1,h3];simp
    · rw[←hm1,h3]
      intro x hx
      rcases Ze.1 hx with hx|hx
      · exact hm2 x (by rw[←hm1];exact hx)
      · simp at hx;subst hx;exact⟨hkb,hvb⟩
    · intro x hx
      simp only[Array.toList_push,Ze,Zj] at hx
      rcases hx with hx|hx
      · have:=hm3 x hx;omega
      · subst hx;exact XA _
    · simp only[Array.toList_push,ZY,Zs,Ys]
      refine Yu.2 ⟨hm4,by simp,fun b hb c hc e=> ?_⟩
      rw[Zj] at hc
      subst hc
      obtain⟨x,hx,rfl⟩:=Zm.1 hb
      have:=hm3 x hx;omega
  · have hj:ents[j]? =some e':=by simpa using h2
    have hbn:(ents.modify j fun e=> {e with key:=uk,val:=uv}).toList.map (·.born)=ents.toList.map (·.born):=by
     apply XW
     intro i
     simp only[Zd,Zv,Y2]
     by_cases e:j=i
     · subst e;simp[hj]
     · simp[e]
    refine⟨ents.modify j fun e=> {e with key:=uk,val:=uv},clock,?_,?_,?_,?_,?_⟩
    · simp only[Instr.mapUpdate,Zc,run_underlying u1,Go.MapKept.run_getObj_map hg,Z2]
      rw[z9A u3 hkb]
      simp only[Z2,h1,hj,ZP,Zb,h3,Zc,znZ u3 hkb]
      exact run_setObj_map _ hg
    · rw[←hm1,h5]
      apply XW
      intro i
      simp only[Zd,Zv,Y2,XV]
      by_cases e:j=i
      · subst e
        have:j<ents.size:=(ZO.1 hj).1
        simp[hj,this]
      · simp[e]
    · rw[←hm1,h5]
      intro x hx
      rcases Xt hx with hx|hx
      · exact hm2 x (by rw[←hm1];exact hx)
      · subst hx;exact⟨hkb,hvb⟩
    · intro x hx
      have hb:x.born∈(ents.modify j fun e=> {e with key:=uk,val:=uv}).toList.map (·.born):=Zm.2 ⟨x,hx,rfl⟩
      rw[hbn] at hb
      obtain⟨y,hy,e⟩:=Zm.1 hb
      rw[←e];exact hm3 y hy
    · rw[hbn];exact hm4
 obtain⟨ents',clock',hrun,hmi⟩:=main
 have hs:=heap_set (o':=.map ents' clock') hg
 refine⟨_,hrun,h.mapset hroot hsub hupd n1 hg hs.1 hmi (by simp) (fun b hb=>hs.2 b hb),⟨rfl,rfl,rfl,by simp,fun b hb hc=>⟨rfl,hs.2 b (fun e=> ?_)⟩,fun b arr e fz hb=>⟨arr,e,fz,(hs.2 b (fun e=>by subst e;rw[hg] at hb;cases hb)).trans hb,rfl⟩⟩,fun b i s hb hi=>hs.2 b (fun e=> ?_)⟩
 · subst e;rw[hKg] at hc;rcases hc with hc|hc<;>simp[col] at hc
 · subst e;rw[hKg] at hb;simp[col] at hb;exact hi id p rfl hb.1.symm
def zuf:Option E->Bool
 |none=>true
 |some e=>match rdV e with|some (.int _ _)=>true|_=>false
def zeE(P:Program)(fr:Fr)(t:TypeId)(r:Option E)(d:Nat):Option Fr:=
 match zb5 P t with
 |none=>none
 |some (kk,_)=>if d<fr.nt/\zuf r=true then
   some {fr with tm:=z7P (z6J (kill d) fr.tm) d (.one (.h d [])),ob:=z6h fr.ob d (.mp kk [])} else none
theorem zmW{r:Option E}{ur:Option Value}{d:Nat}(h:FRep w K R G fr a)(hr:zxt w K R fr.ob r ur)(hf:zeE P fr t r d=some fr'):
 ∃v w',(Instr.makeMap t ur).run P w= .ok v w'/\(∃K' R',FRep w' K' R' G fr' (a.put (some d) v)/\Step w K w' K')/\ ∀b,b<w.heap.size->w'.heap[b]? =w.heap[b]? :=by
 unfold zeE at hf
 split at hf
 case h_1=>cases hf
 case h_2 kk et ht=>
 split at hf
 case isFalse=>cases hf
 case isTrue hc=>
 obtain⟨hd,hc⟩:=hc
 cases hf
 obtain⟨kt,u1,u3⟩:=z5E ht
 have hnew:=NewB.alloc w (.map #[] 0)
 have hrun:(Instr.makeMap t ur).run P w= .ok (.map (some w.heap.size)) {w with heap:=w.heap.push (.map #[] 0)}:=by
  cases ur with
  |none=>simp[Instr.makeMap,newObj,Sem.run]
  |some v=>
   cases r with
   |none=>exact absurd hr id
   |some e=>
    simp only[zuf] at hc
    split at hc
    · rename_i k n he
      obtain⟨rfl,-⟩:=z1o hr he
      have h2:(asInt (.int k n)).run P w= .ok n w:=by simp[asInt,asIntOf]
      simp only[Instr.makeMap,Zc,run_underlying u1,Z2,h2]
      simp[newObj,Sem.run]
    · cases hc
 refine⟨_,_,hrun,?_,fun b hb=>hnew.old hb⟩
 have h2:=h.keep (hnew.keep (c:=col d))
 have h3:=h2.replace (d:=d) (v:=.map (some w.heap.size)) (t:=.mp kk []) ⟨fun b hb e=>⟨e,rfl⟩,fun b hb _=>⟨rfl,rfl⟩,Z5 _⟩ (.mp _ w.heap.size kk [] #[] 0 (z1D d) (by simp) hnew.new ⟨rfl,(fun x hx=>by cases hx),(fun x hx=>by cases hx),List.nodup_nil⟩)
 refine⟨_,_,h3.put (d:=d) (x:=.one (.h d [])) hd ⟨by simp[z9P,nav],.mp kk [],by simp[z0A],rfl⟩,hnew.step⟩
def zCO:E->Option T
 | .one (.k v)=>some (zag false v)
 | .one (.t none x)=>some x
 | .one (.ea none cs 0)=>some (.pr cs)
 |_=>none
def zuY(fr:Fr):List Operand->Option (List T)
 | []=>some []
 |x::xs=>match zCO (opE fr x),zuY fr xs with|some t,some ts=>some (t::ts)|_,_=>none
def zDr(fr:Fr)(dep:Nat):E->Option T
 | .one (.a id [] 0)=>if id=dep then(match z2f fr.ob id with|some (.vr cs)=>some (.pr (z5R cs))|_=>none) else none
 |e=>zCO e
def zuZ(fr:Fr)(dep:Nat):List Operand->Option (List T)
 | []=>some []
 |x::xs=>match zDr fr dep (opE fr x),zuZ fr dep xs with|some t,some ts=>some (t::ts)|_,_=>none
def zlv(fr:Fr):List Operand->Option Nat
 | []=>none
 |x::xs=>match opE fr x with| .one (.a id [] 0)=>some id|_=>zlv fr xs
def zcA(fr:Fr)(fn:Fn)(first captured:List Operand):Option E:=
 match fn,first with
 | .func f,[]=>(match captured with
   | []=>some (scE (.func (.func f) #[] #[]))
   |_=>match zlv fr captured with
    |none=>(match zuY fr captured with|some ts=>some (.one (.t none (.cl f ts)))|none=>none)
    |some id=>match zuZ fr id captured with|some ts=>some (.one (.t (some id) (.cl f ts)))|none=>none)
 |_,_=>none
theorem zp3{e:E}{t:T}(h:ERep w K R ob e u)(hc:zCO e=some t):TRep w K [] u t:=by
 unfold zCO at hc
 split at hc
 · cases hc
   rename_i v
   obtain rfl:u=v:=h
   exact z7b _ _ _ _ _
 · cases hc;exact h.1
 · cases hc
   obtain⟨g,o,F,h1,h2,h3,h4,h5,h6⟩:=h
   rw[h1]
   exact .pr [] g o _ F h2 h3 h4 h5
 · cases hc
theorem zlB{w:World}{K:Nat->z0a}{R G:Nat->Value}{fr:Fr}{a:Act}(h:FRep w K R G fr a):∀ {xs:List Operand} {ts:List T},zuY fr xs=some ts->ts.length=xs.length/\ ∀(j:Nat) (t:T),ts[j]? =some t->∃x,xs[j]? =some x/\TRep w K [] (a.eval x) t
 | [],ts,hc=>by cases hc;exact⟨rfl,fun j t ht=>by simp at ht⟩
 |x::xs,ts,hc=>by
  simp only[zuY] at hc
  split at hc
  · rename_i t ts' h1 h2
    cases hc
    obtain⟨r1,r2⟩:=zlB h h2
    refine⟨by simp[r1],fun j t' ht=> ?_⟩
    match j,ht with
    |0,ht=>simp at ht;subst ht;exact⟨x,rfl,zp3 (h.opE x) h1⟩
    |j+1,ht=>obtain⟨y,y1,y2⟩:=r2 j t' (by simpa using ht);exact⟨y,by simpa using y1,y2⟩
  · cases hc
theorem zxf{e:E}{t:T}{dep:Nat}(h:FRep w K R G fr a)(he:ERep w K R fr.ob e u)(hc:zDr fr dep e=some t):TRep w (frz K (some dep)) [] u t:=by
 have h0:∀b,K b= []->frz K (some dep) b= []:=fun b e=>by simp[frz,e]
 unfold zDr at hc
 split at hc
 · rename_i id
   split at hc
   case isFalse=>cases hc
   case isTrue hid=>
   subst hid
   split at hc
   case h_2=>cases hc
   case h_1 cs hob=>
   cases hc
   obtain⟨hv,g,n1,n4,n5,-⟩:=he
   simp only[nav,Z9] at n1
   have hr:=h.ob id _ hob
   rw[n1] at hr
   rw[n5,z3U]
   cases hr with
   |vr c g' cs arr e fz F hfz hc0 hK hg hl hF hh=>
    simp only[z6O,Z9] at n4
    subst n4
    refine .pr [] g' 0 _ F (by simp[frz,hK,col]) (z0P hg) (fun j hj=>by rw[z1E hg,Zp];exact hF j (by simpa using hj)) (fun j t ht=> ?_)
    simp only[Zd,Z4] at ht
    obtain⟨t0,ht0,rfl⟩:=ht
    exact(hh j t0 ht0).freeze (fun b s hb _ hKb=>⟨by simp[frz,hKb,col],rfl⟩) (fun b _ e=>⟨h0 b e,rfl⟩) (Z5 _) []
 · exact TRep.fz (zp3 he hc) (fun b _ e=>⟨h0 b e,rfl⟩) (Z5 _)
theorem zlC{w:World}{K:Nat->z0a}{R G:Nat->Value}{fr:Fr}{a:Act}{dep:Nat}(h:FRep w K R G fr a):∀ {xs:List Operand} {ts:List T},zuZ fr dep xs=some ts->ts.length=xs.length/\ ∀(j:Nat) (t:T),ts[j]? =some t->∃x,xs[j]? =some x/\TRep w (frz K (some dep)) [] (a.eval x) t
 | [],ts,hc=>by cases hc;exact⟨rfl,fun j t ht=>by simp at ht⟩
 |x::xs,ts,hc=>by
  simp only[zuZ] at hc
  split at hc
  · rename_i t ts' h1 h2
    cases hc
    obtain⟨r1,r2⟩:=zlC h h2
    refine⟨by simp[r1],fun j t' ht=> ?_⟩
    match j,ht with
    |0,ht=>simp at ht;subst ht;exact⟨x,rfl,zxf h (h.opE x) h1⟩
    |j+1,ht=>obtain⟨y,y1,y2⟩:=r2 j t' (by simpa using ht);exact⟨y,by simpa using y1,y2⟩
  · cases hc
theorem zlu{w:World}{K:Nat->z0a}{R G:Nat->Value}{fr:Fr}{a:Act}(h:FRep w K R G fr a):∀ {xs:List Operand} {id:Nat},zlv fr xs=some id->(z2f fr.ob id).isSome
 | [],id,hc=>by cases hc
 |x::xs,id,hc=>by
  simp only[zlv] at hc
  split at hc
  · rename_i id' he
    cases hc
    have hx:=h.opE x
    rw[he] at hx
    obtain⟨hv,g,_,_,_,t,n2,_⟩:=hx
    rw[n2];rfl
  · exact zlu h hc
theorem zlb{fn:Fn}{first captured:List Operand}{e:E}(h:FRep w K R G fr a)(hf:zcA fr fn first captured=some e):
 ERep w K R fr.ob e (.func fn (first.map a.eval).toArray (captured.map a.eval).toArray):=by
 unfold zcA at hf
 split at hf
 · rename_i f
   split at hf
   · cases hf;exact z3L rfl
   · split at hf
     · split at hf
       · rename_i ts hts
         cases hf
         obtain⟨r1,r2⟩:=zlB h hts
         refine⟨.cl _ f _ _ (fun j=>(captured.map a.eval).getD j undef) (by simp[r1]) (fun j hj=> ?_) (fun j t ht=> ?_),fun _ e=>by cases e⟩
         · have:j<captured.length:=by omega
           simp[List.getD,this]
         · obtain⟨x,x1,x2⟩:=r2 j t ht
           have:(captured.map a.eval).getD j undef=a.eval x:=by simp[List.getD,x1]
           rw[this];exact x2
       · cases hf
     · rename_i id hid
       split at hf
       · rename_i ts hts
         cases hf
         obtain⟨r1,r2⟩:=zlC h hts
         refine⟨.cl _ f _ _ (fun j=>(captured.map a.eval).getD j undef) (by simp[r1]) (fun j hj=> ?_) (fun j t ht=> ?_),fun i e=>by cases e;exact zlu h hid⟩
         · have:j<captured.length:=by omega
           simp[List.getD,this]
         · obtain⟨x,x1,x2⟩:=r2 j t ht
           have:(captured.map a.eval).getD j undef=a.eval x:=by simp[List.getD,x1]
           rw[this];exact x2
       · cases hf
 · cases hf
def zbW(fr:Fr)(x:Operand):Option (FuncId×List T):=
 match opE fr x with
 | .one (.t none (.sc (.func (.func f) fs cs)))=>if fs.isEmpty&&cs.isEmpty then some (f,[]) else none
 | .one (.k (.func (.func f) fs cs))=>if fs.isEmpty&&cs.isEmpty then some (f,[]) else none
 | .one (.t none (.cl f ts))=>some (f,ts)
 |_=>none
theorem zlF{x:Operand}{f:FuncId}{ts:List T}(h:FRep w K R G fr a)(hc:zbW fr x=some (f,ts)):
 ∃vs:List Value,a.eval x= .func (.func f) #[] vs.toArray/\vs.length=ts.length/\ ∀(j:Nat) (t:T) (v:Value),ts[j]? =some t->vs[j]? =some v->TRep w K [] v t:=by
 have hx:=h.opE x
 unfold zbW at hc
 split at hc
 · rename_i f' fs cs he
   rw[he] at hx
   split at hc
   · rename_i hb
     cases hc
     simp only[Z6,X4] at hb
     obtain⟨rfl,rfl⟩:=hb
     have:=hx.1.sc_eq
     exact⟨[],this,rfl,fun j t v ht=>by simp at ht⟩
   · cases hc
 · rename_i f' fs cs he
   rw[he] at hx
   split at hc
   · rename_i hb
     cases hc
     simp only[Z6,X4] at hb
     obtain⟨rfl,rfl⟩:=hb
     exact⟨[],hx,rfl,fun j t v ht=>by simp at ht⟩
   · cases hc
 · rename_i f' ts' he
   rw[he] at hx
   cases hc
   obtain⟨h1,-⟩:=hx
   generalize a.eval x=u at h1
   cases h1 with
   |cl _ _ vs _ F hl hF hh=>
    refine⟨vs.toList,by simp,by simp[hl],fun j t v ht hv=> ?_⟩
    have hlt:=(Z8.1 ht).1
    have e1:=hF j hlt
    rw[Zv,e1] at hv
    cases hv
    exact hh j t ht
 · cases hc
end
section
open Go.MapKept
variable{a:Act}{ents:Array MapEntry}{e key x:E}{fr fr':Fr}{ob:List (Nat×T)}{ks:List Value}{clock d:Nat}{M:Nat->Bool}{G R:Nat->Value}{K:Nat->z0a}{r:Option E}{kk:Option IntKind}{ur:Option Value}{P:Program}{t:TypeId}{ku u uk um uv:Value}{w:World}
def zAD:Option TyI->Bool
 |some ⟨.slice _,_,_,_⟩=>true
 |some ⟨.struct _,_,_,_⟩=>true
 |_=>false
def zwD:A->Option T
 | .t none x=>some x
 | .k v=>some (zag false v)
 |_=>none
def zld:List A->Option (List T)
 | []=>some []
 |x::r=>match zwD x,zld r with|some t,some ts=>some (t::ts)|_,_=>none
def zwC:E->Option T
 | .one (.t none x)=>some x
 | .one (.k v)=>some (zeh false v)
 | .ag xs=>(match zld xs with|some ts=>some (.agg ts)|none=>none)
 |_=>none
theorem zu1{x:A}{t:T}(h:ARep w K R ob x u)(hl:zwD x=some t):TRep w K [] u t:=by
 unfold zwD at hl
 split at hl
 · cases hl;exact h.1
 · cases hl
   rename_i v
   obtain rfl:u=v:=h
   exact z7b _ _ _ _ _
 · cases hl
theorem zi3{w:World}{K:Nat->z0a}{R:Nat->Value}{ob:List (Nat×T)}:∀ {xs:List A} {F:Nat->Value} {ts:List T},(∀j x,xs[j]? =some x->ARep w K R ob x (F j))->zld xs=some ts->ts.length=xs.length/\ ∀(j:Nat) (t:T),ts[j]? =some t->TRep w K [] (F j) t
 | [],F,ts,hx,hl=>by cases hl;exact⟨rfl,fun j t ht=>by simp at ht⟩
 |x::xs,F,ts,hx,hl=>by
  simp only[zld] at hl
  split at hl
  · rename_i t ts' h1 h2
    cases hl
    obtain⟨r1,r2⟩:=zi3 (F:=fun j=>F (j+1)) (fun j y hy=>hx (j+1) y (by simpa using hy)) h2
    refine⟨by simp[r1],fun j t' ht=> ?_⟩
    match j,ht with
    |0,ht=>simp at ht;subst ht;exact zu1 (hx 0 x rfl) h1
    |j+1,ht=>exact r2 j t' (by simpa using ht)
  · cases hl
theorem zu0{t:T}(h:ERep w K R ob e u)(hl:zwC e=some t):TRep w K [] u t:=by
 unfold zwC at hl
 split at hl
 · cases hl;exact h.1
 · cases hl
   rename_i v
   obtain rfl:u=v:=h
   exact zdS _ _ _ _
 · rename_i xs
   split at hl
   · rename_i ts h1
     cases hl
     obtain⟨arr,rfl,e2,e3⟩:=h
     obtain⟨r1,r2⟩:=zi3 (F:=fun j=>arr.getD j undef) e3 h1
     exact .agg _ arr ts (fun j=>arr.getD j undef) (by omega) (fun j hj=>z5z _ _ (by omega)) r2
   · cases hl
 · cases hl
def z9N(k:Value):List Value->List T->Option T
 |a::ks,t::cs=>if z5U a k then some t else z9N k ks cs
 |_,_=>none
def z9H(k:Value)(t:T):List Value->List T->List Value×List T
 |a::ks,c::cs=>if z5U a k then(k::ks,t::cs) else(a::(z9H k t ks cs).1,c::(z9H k t ks cs).2)
 |_,_=>([k],[t])
theorem zgz{k:Value}:∀ {l:List MapEntry} {cs:List T},cs.length=l.length->(∀e∈l,z5U e.key k=false)->z9N k (l.map fun e=>e.key) cs=none/\ ∀t,z9H k t (l.map fun e=>e.key) cs=((l.map fun e=>e.key)++ [k],cs++ [t])
 | [],[],_,_=>⟨rfl,fun _=>rfl⟩
 | [],_::_,hl,_=>by simp at hl
 |_::_,[],hl,_=>by simp at hl
 |e::es,c::cs,hl,h=>by
  have e2:=h e (.head _)
  obtain⟨h1,h2⟩:=zgz (l:=es) (cs:=cs) (by simpa using hl) fun x hx=>h x (.tail _ hx)
  exact⟨by simp[z9N,e2,h1],fun v=>by simp[z9H,e2,h2]⟩
theorem zgy{k:Value}(hkk:z5U k k=true):∀ {l:List MapEntry} {cs:List T} {j:Nat} {e:MapEntry},cs.length=l.length->l[j]? =some e->e.key=k->(∀i<j,∀e',l[i]? =some e'->z5U e'.key k=false)->∃c,cs[j]? =some c/\z9N k (l.map fun e=>e.key) cs=some c/\ ∀t,z9H k t (l.map fun e=>e.key) cs=((l.map fun e=>e.key).set j k,cs.set j t)
 | [],_,j,e,_,h,_,_=>by simp at h
 |_::_,[],_,_,hl,_,_,_=>by simp at hl
 |x::es,c::cs,0,e,_,h,he,_=>by
  simp at h;subst h;subst he
  exact⟨c,rfl,by simp[z9N,hkk],fun v=>by simp[z9H,hkk]⟩
 |x::es,c::cs,j+1,e,hl,h,he,hb=>by
  have e2:=hb 0 (by omega) x rfl
  obtain⟨c',h1,h2,h3⟩:=zgy hkk (l:=es) (cs:=cs) (j:=j) (by simpa using hl) (by simpa using h) he fun i hi e' h'=>hb (i+1) (by omega) e' (by simpa using h')
  exact⟨c',by simpa using h1,by simp[z9N,e2,h2],fun v=>by simp[z9H,e2,h3]⟩
theorem zlq{kt:TypeId}{k:Value}(hk:KOk P kt kk)(hv:zbO kk k=true)(l:List MapEntry)(cs:List T)(hl:∀x∈l,zbO kk x.key=true)(hc:cs.length=l.length):
 ((∀w,(Instr.findKey kt k l).run P w= .ok none w)/\z9N k (l.map fun e=>e.key) cs=none/\ ∀t,z9H k t (l.map fun e=>e.key) cs=((l.map fun e=>e.key)++ [k],cs++ [t]))∨
 ∃(j:Nat) (e:MapEntry) (c:T),(∀w,(Instr.findKey kt k l).run P w= .ok (some (j,e.val)) w)/\l[j]? =some e/\e.key=k/\cs[j]? =some c/\z9N k (l.map fun e=>e.key) cs=some c/\ ∀t,z9H k t (l.map fun e=>e.key) cs=((l.map fun e=>e.key).set j k,cs.set j t):=by
 rcases zgA hk hv l hl with⟨h1,h2⟩|⟨j,e,h1,h2,h3,h4⟩
 · exact .inl ⟨h1,zgz hc h2⟩
 · obtain⟨c,c1,c2,c3⟩:=zgy ((zgb hk hv hv).2 rfl) hc h2 h3 h4
   exact .inr ⟨j,e,c,h1,h2,h3,c1,c2,c3⟩
def zAl(fr:Fr):E->Option (Option Nat×Option Nat×Option IntKind×List Value×List T)
 | .one (.t dep (.ms kk ks cs))=>some (dep,dep,kk,ks,cs)
 | .one (.h id p)=>match z2f fr.ob id with
   |none=>none
   |some root=>match sub root p with
    |some (.mt kk ks cs)=>some (some id,none,kk,ks,cs)
    |some (.ms kk ks cs)=>some (none,none,kk,ks,cs)
    |_=>none
 |_=>none
theorem zkR{dep vd:Option Nat}{cs:List T}(h:FRep w K R G fr a)(he:ERep w K R fr.ob e u)(hr:zAl fr e=some (dep,vd,kk,ks,cs)):
 ∃g ents clock,∃F:Nat->Value,u= .map (some g)/\frz K dep g= []/\w.heap[g]? =some (.map ents clock)/\MapTs kk ents clock ks cs.length F/\ ∀j t,cs[j]? =some t->TRep w (frz K vd) [] (F j) t:=by
 have h0:∀dep b,K b= []->frz K dep b= []:=fun dep b e=>by cases dep<;>simp[frz,e]
 unfold zAl at hr
 split at hr
 · cases hr
   have h1:=he.1
   cases h1 with
   |ms _ g _ _ _ ents clock F hK hg hh h=>exact⟨g,ents,clock,F,rfl,hK,hg,hh,h⟩
 · rename_i id p
   split at hr
   case h_1=>cases hr
   case h_2 root hroot=>
   obtain⟨n1,t,n2,n3⟩:=he
   split at hr
   · rename_i kk' ks' cs' hsub
     cases hr
     obtain⟨v,e1,r⟩:=(h.ob id root hroot).sub (z1D id) hsub
     rw[n1] at e1;cases e1
     cases r with
     |mt _ g _ _ _ ents clock F hc0 hK hg hh hT=>exact⟨g,ents,clock,F,rfl,by simp[frz,hK,col],hg,hh,fun j t ht=>TRep.fz (hT j t ht) (fun b _ e=>⟨h0 _ b e,rfl⟩) (Z5 _)⟩
   · rename_i kk' ks' cs' hsub
     cases hr
     obtain⟨v,e1,r⟩:=(h.ob id root hroot).sub (z1D id) hsub
     rw[n1] at e1;cases e1
     cases r with
     |ms _ g _ _ _ ents clock F hK hg hh hT=>exact⟨g,ents,clock,F,rfl,hK,hg,hh,hT⟩
   · cases hr
 · cases hr
def zeF(P:Program)(M:Nat->Bool)(fr:Fr)(t:TypeId)(x key:E)(ok:Bool):Option E:=
 match zb5 P t with
 |none=>none
 |some (kk,et)=>match zim P et with
  |none=>none
  |some z=>match zAl fr x with
   |none=>none
   |some (dep,vd,kk',ks,cs)=>match rdK key with
    |none=>none
    |some k=>if kk=kk'/\zbO kk k=true/\zjk dep M=false then
      (if ok then some (.one (.t vd (.tup [(z9N k ks cs).getD (zeh false z),.sc (.bool (z9N k ks cs).isSome)]))) else some (.one (.t vd ((z9N k ks cs).getD (zeh false z)))))
     else none
theorem zl8{n:Nat}{F:Nat->Value}(h:MapTs kk ents clock ks n F):n=ents.toList.length:=by
 obtain⟨h1,h2,_⟩:=h
 rw[←h2,←h1];simp
theorem zmZ{ok:Bool}(h:FRep w K R G fr a)(hx:ERep w K R fr.ob x u)(hkey:ERep w K R fr.ob key ku)(hl:zeF P M fr t x key ok=some e):
 ∃v,ERep w K R fr.ob e v/\ ∀w',Stay w w' K M->(Instr.lookup t u ku ok).run P w'= .ok v w':=by
 unfold zeF at hl
 split at hl
 case h_1=>cases hl
 case h_2 kk et ht=>
 split at hl
 case h_1=>cases hl
 case h_2 z hz=>
 split at hl
 case h_1=>cases hl
 case h_2 dep vd kk' ks cs hrd=>
 split at hl
 case h_1=>cases hl
 case h_2 k hk=>
 split at hl
 case isFalse=>cases hl
 case isTrue hc=>
 obtain⟨rfl,hkb,hdep⟩:=hc
 obtain⟨kt,u1,u3⟩:=z5E ht
 obtain rfl:=zcq hkey hk
 obtain⟨g,ents,clock,F,rfl,hKg,hg,hm,hT⟩:=zkR h hx hrd
 have hlen:=zl8 hm
 obtain⟨hm1,hm2,hm3,hm4,-⟩:=hm
 subst hm1
 have hdok:znk fr.ob vd:=by
  unfold zAl at hrd
  split at hrd
  · cases hrd;exact hx.2
  · split at hrd
    · cases hrd
    · rename_i root hroot
      split at hrd
      · cases hrd;exact fun i e=>by cases e
      · cases hrd;exact fun i e=>by cases e
      · cases hrd
  · cases hrd
 have hks:∀x∈ents.toList,zbO kk x.key=true:=fun x hx=>hm3 x.key (Zm.2 ⟨x,hx,rfl⟩)
 have hstay:∀w',Stay w w' K M->w'.heap[g]? =some (.map ents clock):=fun w' hst=>by
  have:=hst.dep hdep (z0P hg) hKg
  rw[this];exact hg
 obtain⟨v,hv,hrun⟩:∃v,TRep w (frz K vd) [] v ((z9N ku (ents.toList.map fun e=>e.key) cs).getD (zeh false z))/\ ∀w',Stay w w' K M->(Instr.lookup t (.map (some g)) ku ok).run P w'= .ok (if ok then .tuple #[v,.bool (z9N ku (ents.toList.map fun e=>e.key) cs).isSome] else v) w':=by
  rcases zlq u3 hkb ents.toList cs hks hlen with⟨h1,h2,-⟩|⟨j,e',c,h1,h2,h3,h6,h4,-⟩
  · rw[h2]
    refine⟨z,zdS _ _ _ _,fun w' hst=> ?_⟩
    simp only[Instr.lookup,Zc,run_underlying u1,Go.MapKept.run_getObj_map (hstay w' hst),Z2,Zg]
    rw[z9A u3 hkb]
    simp only[Z2,h1,zfN hz,Zc,Zg]
    rfl
  · rw[h4]
    refine⟨e'.val,by rw[hm4 j e' (by simpa using h2)];exact hT j c h6,fun w' hst=> ?_⟩
    simp only[Instr.lookup,Zc,run_underlying u1,Go.MapKept.run_getObj_map (hstay w' hst),Z2,Zg]
    rw[z9A u3 hkb]
    simp only[Z2,h1,Zc,Zg]
    rfl
 cases ok with
 |true=>
  simp only[if_true,Z9] at hl
  subst hl
  refine⟨_,⟨?_,hdok⟩,hrun⟩
  refine .tup _ _ _ (fun j=>if j=0 then v else .bool (z9N ku (ents.toList.map fun e=>e.key) cs).isSome) rfl (fun j hj=> ?_) (fun j t ht=> ?_)
  · match j,hj with
    |0,_=>rfl
    |1,_=>rfl
  · match j,ht with
    |0,ht=>cases ht;exact hv
    |1,ht=>cases ht;exact .sc _ _ rfl
 |false=>
  simp only[ZR,if_false,Z9] at hl
  subst hl
  exact⟨_,⟨hv,hdok⟩,fun w' hst=>by simpa using hrun w' hst⟩
def zeC(P:Program)(M:Nat->Bool)(fr:Fr)(t:TypeId)(x:E):Option E:=
 match zb5 P t with
 |none=>none
 |some _=>match zAl fr x with
  |none=>none
  |some (dep,_,_,ks,_)=>if zjk dep M=false then some (scE (.int .i64 ks.length)) else none
theorem zmT(h:FRep w K R G fr a)(hx:ERep w K R fr.ob x u)(hl:zeC P M fr t x=some e):
 ∃v,ERep w K R fr.ob e v/\ ∀w',Stay w w' K M->∀ty,(Builtin.len_ #[t] ty #[u]).run P w'= .ok v w':=by
 unfold zeC at hl
 split at hl
 case h_1=>cases hl
 case h_2 q ht=>
 split at hl
 case h_1=>cases hl
 case h_2 dep vd kk ks cs hrd=>
 split at hl
 case isFalse=>cases hl
 case isTrue hdep=>
 cases hl
 obtain⟨kk',et⟩:=q
 obtain⟨kt,u1,u3⟩:=z5E ht
 obtain⟨g,ents,clock,F,rfl,hKg,hg,hm,-⟩:=zkR h hx hrd
 refine⟨_,z3L rfl,fun w' hst ty=> ?_⟩
 have hb:w'.heap[g]? =some (.map ents clock):=by rw[hst.dep hdep (z0P hg) hKg];exact hg
 have hlen:ks.length=ents.size:=by rw[←hm.1];simp
 simp[Builtin.len_,Zc,run_underlying u1,Go.MapKept.run_getObj_map hb,Z2,Zg,goInt,hlen]
theorem FRep.mapsetG{w':World}{id:Nat}{p:List Nat}{root root':T}{t0 t1:T}{g:Nat}{ents':Array MapEntry}{clock':Nat}
 (h:FRep w K R G fr a) (hroot:z2f fr.ob id=some root) (hbox:sub root p=some t0) (hkid:∀j,zlV t0 j=none) (hupd:upd root p t1=some root') (hnav:nav w (R id) p=some (.map (some g)))
 (hg:w.heap[g]? =some (.map ents clock)) (hg':w'.heap[g]? =some (.map ents' clock')) (hKg:K g=col id++p) (hnew:TRep w' K (col id++p) (.map (some g)) t1) (hsz:w'.heap.size=w.heap.size) (hoth:∀b,b≠g->w'.heap[b]? =w.heap[b]?):
 FRep w' K R G {fr with tm:=z6J (zbM id) fr.tm,ob:=z6h fr.ob id root'} a:=by
 have hrt:=h.ob id root hroot
 have hne:∀b i s,K b=(i+2)::s->i≠id->b≠g:=fun b i s e1 e2 e3=>by
  subst e3;rw[hKg] at e1;simp[col] at e1;exact e2 e1.1.symm
 have hne0:∀b,K b= []->b≠g:=fun b e1 e3=>by subst e3;rw[hKg] at e1;simp[col] at e1
 have hfro:∀b,b<w.heap.size->K b= []->K b= []/\w'.heap[b]? =w.heap[b]? :=fun b hb e1=>⟨e1,hoth b (hne0 b e1)⟩
 have hcell:∀gb j,w'.cell? ⟨gb,j,none⟩=w.cell? ⟨gb,j,none⟩:=fun gb j=>by
  by_cases e1:gb=g
  · subst e1;simp[World.cell?,hg,hg']
  · exact z0Y (hoth gb e1) j
 have hway:∀i t q,z2f fr.ob i=some t->(sub t q).isSome->nav w' (R i) q=nav w (R i) q:=fun i t q ho hs=>
  z6x (h.ob i t ho) (z1D i) hs fun r j s gb hq hKb hb=>hcell gb j
 have hsub:∀q,(sub root q).isSome->(sub root' q).isSome:=fun q hs=>by
  by_cases hp:p<+:q
  · obtain⟨s,rfl⟩:=hp
    rw[z6q hupd]
    rw[z5d hbox] at hs
    cases s with
    |nil=>simp[sub]
    |cons j s=>simp[sub,hkid] at hs
  · exact z4R hupd hp hs
 have hdep:∀i,i≠id->∀b,b<w.heap.size->frz K (some i) b= []->frz K (some i) b= []/\w'.heap[b]? =w.heap[b]? :=fun i hi b hb e1=>by
  refine⟨e1,?_⟩
  simp only[frz] at e1
  split at e1
  · rename_i hh
    obtain⟨s,hs⟩:∃s,K b=(i+2)::s:=by
     cases hk:K b with
     |nil=>rw[hk] at hh;cases hh
     |cons a s=>rw[hk] at hh;simp at hh;subst hh;exact⟨s,rfl⟩
    exact hoth b (hne b i s hs hi)
  · exact(hfro b hb e1).2
 have hobi:∀i,i≠id->z2f (z6h fr.ob id root') i=z2f fr.ob i:=fun i hi=>by rw[z0A,if_neg (fun e=>hi e.symm)]
 refine⟨fun i=> ?_,fun i t ho=> ?_,h.nt,h.df⟩
 · show ERep w' K R (z6h fr.ob id root') (z2J (z6J (zbM id) fr.tm) i) _
   rw[z5M _ rfl]
   refine(h.tm i).map _ fun x u hx=> ?_
   cases x with
   |dead=>trivial
   |k v=>exact hx
   |t dep x=>
    cases dep with
    |none=>exact⟨TRep.fz hx.1 hfro (by omega),fun _ e=>by cases e⟩
    |some i=>
     by_cases hi:i=id
     · simp only[zbM,if_pos hi];trivial
     · simp only[zbM,if_neg hi]
       exact⟨TRep.fz hx.1 (fun b hb e1=>hdep i hi b hb e1) (by omega),fun _ e=>by cases e;rw[hobi i hi];exact hx.2 i rfl⟩
   |h i q=>
    obtain⟨n1,t,n2,n3⟩:=hx
    refine⟨by rw[hway i t q n2 n3];exact n1,?_⟩
    by_cases hi:i=id
    · subst hi
      rw[hroot] at n2;cases n2
      exact⟨root',by simp[z0A],hsub q n3⟩
    · exact⟨t,by rw[hobi i hi];exact n2,n3⟩
   |a i q o=>
    obtain⟨hv,g,n1,n4,n5,t,n2,n3⟩:=hx
    refine⟨hv,g,by rw[hway i t q n2 n3];exact n1,n4,n5,?_⟩
    by_cases hi:i=id
    · subst hi
      rw[hroot] at n2;cases n2
      exact⟨root',by simp[z0A],hsub q n3⟩
    · exact⟨t,by rw[hobi i hi];exact n2,n3⟩
   |tf n cs=>exact⟨hx.1,TRep.fz hx.2 hfro (by omega)⟩
   |ea dep cs o=>
    obtain⟨g,o,F,e1,e2,e3,e4,e5,e6⟩:=hx
    cases dep with
    |none=>exact⟨g,o,F,e1,e2,by omega,fun j hj=>by rw[hcell];exact e4 j hj,fun j t ht=>TRep.fz (e5 j t ht) hfro (by omega),fun _ e=>by cases e⟩
    |some i=>
     by_cases hi:i=id
     · simp only[zbM,if_pos hi];trivial
     · simp only[zbM,if_neg hi]
       exact⟨g,o,F,e1,e2,by omega,fun j hj=>by rw[hcell];exact e4 j hj,fun j t ht=>TRep.fz (e5 j t ht) (fun b hb e1=>hdep i hi b hb e1) (by omega),fun _ e=>by cases e;rw[hobi i hi];exact e6 i rfl⟩
 · rw[z0A] at ho
   split at ho
   · rename_i e1
     subst e1;cases ho
     refine TRep.upd hrt (z1D id) hnav hupd ⟨hfro,fun b hb ⟨s,e1,hs⟩=> ?_,by omega⟩ hnew
     have hb':b≠g:=fun e2=>by subst e2;rw[hKg] at e1;exact hs (by rw[YQ e1];exact List.prefix_rfl)
     exact⟨rfl,hoth b hb'⟩
   · rename_i e1
     refine(h.ob i t ho).keep (D:=But id) ⟨hfro,fun b hb ⟨j,s,e2,hj⟩=>⟨rfl,hoth b (hne b j s e2 hj)⟩,by omega⟩ (fun s _=>⟨i,s,rfl,fun e=>e1 e.symm⟩)
def zeB(P:Program)(fr:Fr)(t:TypeId)(m key val:E):Option Fr:=
 match zb5 P t with
 |none=>none
 |some (kk,_)=>match m with
  | .one (.h id p)=>match z2f fr.ob id with
    |none=>none
    |some root=>match sub root p with
     |some (.mt kk' ks cs)=>match rdK key,zwC val with
      |some k,some v=>if kk=kk'/\zbO kk k=true then(match upd root p (.mt kk (z9H k v ks cs).1 (z9H k v ks cs).2) with
        |some root'=>some {fr with tm:=z6J (zbM id) fr.tm,ob:=z6h fr.ob id root'}
        |none=>none) else none
      |_,_=>none
     |_=>none
  |_=>none
theorem zmS{m val:E}(h:FRep w K R G fr a)(hm:ERep w K R fr.ob m um)(hk:ERep w K R fr.ob key uk)(hv:ERep w K R fr.ob val uv)(hf:zeB P fr t m key val=some fr'):
 ∃w',(Instr.mapUpdate t um uk uv).run P w= .ok () w'/\FRep w' K R G fr' a/\Step w K w' K/\ ∀b i s,K b=(i+2)::s->(∀id p,m= .one (.h id p)->i≠id)->w'.heap[b]? =w.heap[b]? :=by
 unfold zeB at hf
 split at hf
 case h_1=>cases hf
 case h_2 kk et ht=>
 split at hf
 case h_2=>cases hf
 case h_1 id p=>
 split at hf
 case h_1=>cases hf
 case h_2 root hroot=>
 split at hf
 case h_2=>cases hf
 case h_1 kk' ks cs hsub=>
 split at hf
 case h_2=>cases hf
 case h_1 k v hrk hrv=>
 split at hf
 case isFalse=>cases hf
 case isTrue hc=>
 obtain⟨rfl,hkb⟩:=hc
 split at hf
 case h_2=>cases hf
 case h_1 root' hupd=>
 cases hf
 obtain rfl:=zcq hk hrk
 have hvr:=zu0 hv hrv
 obtain⟨kt,u1,u3⟩:=z5E ht
 obtain⟨n1,t0,n2,n3⟩:=hm
 obtain⟨v0,e1,r⟩:=(h.ob id root hroot).sub (z1D id) hsub
 rw[n1] at e1;cases e1
 obtain⟨g,ents,clock,F,rfl,hKg,hg,hm,hT⟩:∃g ents clock,∃F:Nat->Value,um= .map (some g)/\K g=col id++p/\w.heap[g]? =some (.map ents clock)/\MapTs kk ents clock ks cs.length F/\ ∀j t,cs[j]? =some t->TRep w K [] (F j) t:=by
  cases r with
  |mt _ g _ _ _ ents clock F hc0 hK hg hh hT=>exact⟨g,ents,clock,F,rfl,hK,hg,hh,hT⟩
 have hlen:=zl8 hm
 obtain⟨hm1,hm2,hm3,hm4,hm5,hm6⟩:=hm
 have hks:∀x∈ents.toList,zbO kk x.key=true:=fun x hx=>hm3 x.key (by rw[←hm1];exact Zm.2 ⟨x,hx,rfl⟩)
 have main:∃ents' clock',∃F':Nat->Value,(Instr.mapUpdate t (.map (some g)) uk uv).run P w= .ok () {w with heap:=w.heap.setIfInBounds g (.map ents' clock')}/\MapTs kk ents' clock' (z9H uk v ks cs).1 (z9H uk v ks cs).2.length F'/\ ∀j t,(z9H uk v ks cs).2[j]? =some t->TRep w K [] (F' j) t:=by
  rcases zlq u3 hkb ents.toList cs hks hlen with⟨h1,h2,h3⟩|⟨j,e',c,h1,h2,h3,h6,h4,h5⟩
  · refine⟨ents.push {key:=uk,val:=uv,born:=clock},clock+1,fun j=>if j=cs.length then uv else F j,?_,?_,?_⟩
    · simp only[Instr.mapUpdate,Zc,run_underlying u1,Go.MapKept.run_getObj_map hg,Z2]
      rw[z9A u3 hkb]
      simp only[Z2,h1]
      exact run_setObj_map _ hg
    · rw[←hm1,h3]
      have hps:∀(j:Nat) (e:MapEntry),(ents.push {key:=uk,val:=uv,born:=clock})[j]? =some e->(j<ents.size/\ents[j]? =some e)∨(j=ents.size/\e= {key:=uk,val:=uv,born:=clock}):=fun j e he=>by
       rw[Yk] at he
       split at he
       · rename_i e2;cases he;exact .inr ⟨e2,rfl⟩
       · exact .inl ⟨(ZO.1 he).1,he⟩
      refine⟨by simp,by simp[hlen],fun x hx=> ?_,fun j e he=> ?_,fun j e he=> ?_,fun i j e e' hi hj hb=> ?_⟩
      rotate_left 2
      · rcases hps j e he with⟨_,h⟩|⟨_,h⟩
        · have:=hm5 j e h;omega
        · subst h;exact XA _
      · rcases hps i e hi with⟨a1,a2⟩|⟨a1,a2⟩<;>rcases hps j e' hj with⟨b1,b2⟩|⟨b1,b2⟩
        · exact hm6 i j e e' a2 b2 hb
        · subst b2;have:=hm5 i e a2;simp only at hb;omega
        · subst a2;have:=hm5 j e' b2;simp only at hb;omega
        · omega
      · rcases Ze.1 hx with hx|hx
        · exact hm3 x (by rw[←hm1];exact hx)
        · simp at hx;subst hx;exact hkb
      · have hle:cs.length=ents.size:=by simpa using hlen
        rw[Yk] at he
        split at he
        · cases he;rename_i e2;simp[hle,e2]
        · have:=(ZO.1 he).1
          show e.val=if j=cs.length then uv else F j
          rw[if_neg (by omega)];exact hm4 j e he
    · rw[←hm1,h3]
      intro j t ht
      rw[List.getElem?_append] at ht
      split at ht
      · rename_i hlt;simp only[if_neg (Nat.ne_of_lt hlt)];exact hT j t ht
      · rename_i hge
        have hj:j-cs.length<1:=by have:=(Z8.1 ht).1;simpa using this
        have:j=cs.length:=by omega
        subst this
        simp at ht;subst ht
        simp only[if_true];exact hvr
  · have hj:ents[j]? =some e':=by simpa using h2
    refine⟨ents.modify j fun e=> {e with key:=uk,val:=uv},clock,fun i=>if i=j then uv else F i,?_,?_,?_⟩
    · simp only[Instr.mapUpdate,Zc,run_underlying u1,Go.MapKept.run_getObj_map hg,Z2]
      rw[z9A u3 hkb]
      simp only[Z2,h1,hj,ZP,Zb,h3,Zc,znZ u3 hkb]
      exact run_setObj_map _ hg
    · rw[←hm1,h5]
      have hmd:∀(i:Nat) (e:MapEntry),(ents.modify j fun e=> {e with key:=uk,val:=uv})[i]? =some e->∃e0,ents[i]? =some e0/\e0.born=e.born:=fun i e he=>by
       rw[Y2] at he
       by_cases e2:j=i
       · subst e2;rw[if_pos rfl,hj] at he;simp at he;subst he;exact⟨e',hj,rfl⟩
       · rw[if_neg e2] at he;exact⟨e,he,rfl⟩
      refine⟨?_,by simp[hlen],fun x hx=> ?_,fun i e he=> ?_,fun i e he=> ?_,fun i i2 e e2 hi hi2 hb=> ?_⟩
      rotate_left 3
      · obtain⟨e0,h1,h2⟩:=hmd i e he
        rw[←h2];exact hm5 i e0 h1
      · obtain⟨e0,h1,h2⟩:=hmd i e hi
        obtain⟨e1,h3,h4⟩:=hmd i2 e2 hi2
        exact hm6 i i2 e0 e1 h1 h3 (by rw[h2,h4,hb])
      · apply XW
        intro i
        simp only[Zd,Zv,Y2,XV]
        by_cases e:j=i
        · subst e
          have:j<ents.size:=(ZO.1 hj).1
          simp[hj,this]
        · simp[e]
      · rcases Xt hx with hx|hx
        · exact hm3 x (by rw[←hm1];exact hx)
        · subst hx;exact hkb
      · rw[Y2] at he
        by_cases e2:j=i
        · subst e2;rw[if_pos rfl,hj] at he;simp at he;subst he;simp
        · rw[if_neg e2] at he
          show e.val=if i=j then uv else F i
          rw[if_neg (fun e3=>e2 (Eq.symm e3))];exact hm4 i e he
    · rw[←hm1,h5]
      intro i t ht
      rw[XV] at ht
      by_cases e2:j=i
      · subst e2;rw[if_pos rfl] at ht;split at ht<;>cases ht;simp only[if_true];exact hvr
      · rw[if_neg e2] at ht;simp only[if_neg (fun e3=>e2 (Eq.symm e3))];exact hT i t ht
 obtain⟨ents',clock',F',hrun,hmi,hT'⟩:=main
 have hs:=heap_set (o':=.map ents' clock') hg
 have hne0:∀b,K b= []->b≠g:=fun b e1 e3=>by subst e3;rw[hKg] at e1;simp[col] at e1
 refine⟨_,hrun,h.mapsetG hroot hsub (fun _=>rfl) hupd n1 hg hs.1 hKg (.mt _ g kk _ _ ents' clock' F' (by simp[col]) hKg hs.1 hmi (fun j t ht=>TRep.fz (hT' j t ht) (fun b _ e=>⟨e,hs.2 b (hne0 b e)⟩) (by simp))) (by simp) (fun b hb=>hs.2 b hb),⟨rfl,rfl,rfl,by simp,fun b hb hc=>⟨rfl,hs.2 b (fun e=> ?_)⟩,fun b arr e fz hb=>⟨arr,e,fz,(hs.2 b (fun e=>by subst e;rw[hg] at hb;cases hb)).trans hb,rfl⟩⟩,fun b i s hb hi=>hs.2 b (fun e=> ?_)⟩
 · subst e;rw[hKg] at hc;rcases hc with hc|hc<;>simp[col] at hc
 · subst e;rw[hKg] at hb;simp[col] at hb;exact hi id p rfl hb.1.symm
def zcz(P:Program)(fr:Fr)(t:TypeId)(r:Option E)(d:Nat):Option Fr:=
 match zb5 P t with
 |none=>none
 |some (kk,_)=>if d<fr.nt/\zuf r=true then
   some {fr with tm:=z7P (z6J (kill d) fr.tm) d (.one (.h d [])),ob:=z6h fr.ob d (.mt kk [] [])} else none
theorem zl9(h:FRep w K R G fr a)(hr:zxt w K R fr.ob r ur)(hf:zcz P fr t r d=some fr'):
 ∃v w',(Instr.makeMap t ur).run P w= .ok v w'/\(∃K' R',FRep w' K' R' G fr' (a.put (some d) v)/\Step w K w' K')/\ ∀b,b<w.heap.size->w'.heap[b]? =w.heap[b]? :=by
 unfold zcz at hf
 split at hf
 case h_1=>cases hf
 case h_2 kk et ht=>
 split at hf
 case isFalse=>cases hf
 case isTrue hc=>
 obtain⟨hd,hc⟩:=hc
 cases hf
 obtain⟨kt,u1,u3⟩:=z5E ht
 have hnew:=NewB.alloc w (.map #[] 0)
 have hrun:(Instr.makeMap t ur).run P w= .ok (.map (some w.heap.size)) {w with heap:=w.heap.push (.map #[] 0)}:=by
  cases ur with
  |none=>simp[Instr.makeMap,newObj,Sem.run]
  |some v=>
   cases r with
   |none=>exact absurd hr id
   |some e=>
    simp only[zuf] at hc
    split at hc
    · rename_i k n he
      obtain⟨rfl,-⟩:=z1o hr he
      have h2:(asInt (.int k n)).run P w= .ok n w:=by simp[asInt,asIntOf]
      simp only[Instr.makeMap,Zc,run_underlying u1,Z2,h2]
      simp[newObj,Sem.run]
    · cases hc
 refine⟨_,_,hrun,?_,fun b hb=>hnew.old hb⟩
 have h2:=h.keep (hnew.keep (c:=col d))
 have h3:=h2.replace (d:=d) (v:=.map (some w.heap.size)) (t:=.mt kk [] []) ⟨fun b hb e=>⟨e,rfl⟩,fun b hb _=>⟨rfl,rfl⟩,Z5 _⟩ (.mt _ w.heap.size kk [] [] #[] 0 (fun _=>undef) (z1D d) (by simp) hnew.new ⟨rfl,(rfl:([]:List Value).length=0),(fun x hx=>by cases hx),(fun j e he=>by simp at he),(fun j e he=>by simp at he),(fun i j e e' he=>by simp at he)⟩ (fun j t ht=>by simp at ht))
 refine⟨_,_,h3.put (d:=d) (x:=.one (.h d [])) hd ⟨by simp[z9P,nav],.mt kk [] [],by simp[z0A],rfl⟩,hnew.step⟩
def zeD(P:Program)(fr:Fr)(t:TypeId)(r:Option E)(d:Nat):Option Fr:=
 match zb5 P t with
 |none=>none
 |some (_,et)=>if zAD (z2w P et)=true then zcz P fr t r d else zeE P fr t r d
theorem zla(h:FRep w K R G fr a)(hr:zxt w K R fr.ob r ur)(hf:zeD P fr t r d=some fr'):
 ∃v w',(Instr.makeMap t ur).run P w= .ok v w'/\(∃K' R',FRep w' K' R' G fr' (a.put (some d) v)/\Step w K w' K')/\ ∀b,b<w.heap.size->w'.heap[b]? =w.heap[b]? :=by
 unfold zeD at hf
 split at hf
 · cases hf
 · split at hf
   · exact zl9 h hr hf
   · exact zmW h hr hf
def zg7(P:Program)(fr:Fr)(t:TypeId)(m key val:E):Option Fr:=
 match ziI P fr t m key val with|some f=>some f|none=>zeB P fr t m key val
theorem zg6{m val:E}(h:FRep w K R G fr a)(hm:ERep w K R fr.ob m um)(hk:ERep w K R fr.ob key uk)(hv:ERep w K R fr.ob val uv)(hf:zg7 P fr t m key val=some fr'):
 ∃w',(Instr.mapUpdate t um uk uv).run P w= .ok () w'/\FRep w' K R G fr' a/\Step w K w' K/\ ∀b i s,K b=(i+2)::s->(∀id p,m= .one (.h id p)->i≠id)->w'.heap[b]? =w.heap[b]? :=by
 unfold zg7 at hf
 split at hf
 · rename_i f hf'
   cases hf;exact zqq h hm hk hv hf'
 · exact zmS h hm hk hv hf
def ziP(P:Program)(M:Nat->Bool)(fr:Fr)(t:TypeId)(x key:E)(ok:Bool):Option E:=
 match ziQ P M fr t x key ok with|some e=>some e|none=>zeF P M fr t x key ok
theorem zn0{ok:Bool}(h:FRep w K R G fr a)(hx:ERep w K R fr.ob x u)(hkey:ERep w K R fr.ob key ku)(hl:ziP P M fr t x key ok=some e):
 ∃v,ERep w K R fr.ob e v/\ ∀w',Stay w w' K M->(Instr.lookup t u ku ok).run P w'= .ok v w':=by
 unfold ziP at hl
 split at hl
 · rename_i f hf'
   cases hl;exact zqs h hx hkey hf'
 · exact zmZ h hx hkey hl
def ziJ(P:Program)(M:Nat->Bool)(fr:Fr)(t:TypeId)(x:E):Option E:=
 match ziK P M fr t x with|some e=>some e|none=>zeC P M fr t x
theorem zmU(h:FRep w K R G fr a)(hx:ERep w K R fr.ob x u)(hl:ziJ P M fr t x=some e):
 ∃v,ERep w K R fr.ob e v/\ ∀w',Stay w w' K M->∀ty,(Builtin.len_ #[t] ty #[u]).run P w'= .ok v w':=by
 unfold ziJ at hl
 split at hl
 · rename_i f hf'
   cases hl;exact zqr h hx hf'
 · exact zmT h hx hl
end
section
variable{a:Act}{e:E}{fr fr':Fr}{G R:Nat->Value}{K:Nat->z0a}{o:Oper}{P:Program}{w:World}
def zmV(P:Program)(M:Nat->Bool)(fr:Fr)(c:Call):Option E:=
 match c.callee,c.args.toList,c.argTypes.toList with
 | .builtin .len,[x],[t]=>ziJ P M fr t (opE fr x)
 |_,_,_=>none
def za3(P:Program)(M:Nat->Bool)(fr:Fr)(op:Op):Option E:=
 match op with
 | .build t parts=>zlI P fr t parts.toList
 | .lookup t x i ok=>ziP P M fr t (opE fr x) (opE fr i) ok
 | .makeFunc fn first captured=>zcA fr fn first.toList captured.toList
 | .call c=>(match za2 P M fr (.call c) with|some e=>some e|none=>zmV P M fr c)
 |op=>za2 P M fr op
theorem zaI{M:Nat->Bool}(h:FRep w K R G fr a)(hq:za3 P M fr o.op=some e):
 ∃v,ERep w K R fr.ob e v/\ ∀w',Stay w w' K M->(execOp a.eval o).run P w'= .ok (.value v) w':=by
 have lift:∀ {s:Sem Value} {v:Value} {w':World},s.run P w'= .ok v w'->(do pure (Next.value (←s)):Sem Next).run P w'= .ok (.value v) w':=fun {s v w'} hs=>by
  simp only[Zc,hs,Z2,Zg]
 unfold za3 at hq
 split at hq
 · rename_i t parts hop
   obtain⟨v,h1,h2⟩:=zv3 h hq
   refine⟨v,h1,fun w' _=> ?_⟩
   have:parts.map (fun(x:Nat×Operand)=>(x.1,a.eval x.2))=(parts.toList.map fun(i,x)=>(i,a.eval x)).toArray:=by
    apply Yp;simp
   simp only[execOp,hop]
   rw[this]
   simp only[Zc,h2,Z2,Zg]
 · rename_i t x i ok hop
   obtain⟨v,h1,h2⟩:=zn0 h (h.opE x) (h.opE i) hq
   exact⟨v,h1,fun w' hst=>by simp only[execOp,hop];exact lift (h2 w' hst)⟩
 · rename_i fn first captured hop
   refine⟨_,zlb h hq,fun w' _=> ?_⟩
   have e1:(first.toList.map a.eval).toArray=first.map a.eval:=by apply Yp;simp
   have e2:(captured.toList.map a.eval).toArray=captured.map a.eval:=by apply Yp;simp
   rw[e1,e2]
   simp only[execOp,hop,Instr.makeFunc,Zc,Zg,Z2]
 · rename_i c hop
   split at hq
   · rename_i e' he'
     cases hq
     exact zkU h (by rw[hop];exact he')
   · unfold zmV at hq
     split at hq
     · rename_i x t hc hxs hts
       obtain⟨v,h1,h2⟩:=zmU h (h.opE x) hq
       refine⟨v,h1,fun w' hst=> ?_⟩
       obtain⟨callee,args,ats⟩:=c
       simp only at hc hxs hts
       subst hc
       obtain rfl:args= #[x]:=by apply Yp;simpa using hxs
       obtain rfl:ats= #[t]:=by apply Yp;simpa using hts
       simp only[execOp,hop,resolve,Zc,Zg,Z2,invoke,builtin]
       simp[h2 w' hst]
     · cases hq
 · exact zkU h hq
def zlt(P:Program)(fr:Fr)(o:Oper):Option Fr:=
 match o.op with
 | .makeMap t r=>(match o.dst with|some d=>zeD P fr t (r.map (opE fr)) d|none=>none)
 | .mapUpdate t m k v=>(match o.dst with|none=>zg7 P fr t (opE fr m) (opE fr k) (opE fr v)|some _=>none)
 | .insert t m k v=>(match o.dst with|none=>zg7 P fr t (opE fr m) (opE fr k) (opE fr v)|some _=>none)
 |_=>zDo P fr o
def zig(o:Oper):Bool:=
 match o.op with
 | .mapUpdate _ _ _ _=>false
 | .insert _ _ _ _=>false
 |_=>znr o
theorem zeO(h:FRep w K R G fr a)(hf:zlt P fr o=some fr'):
 ∃r w',(execOp a.eval o).run P w= .ok r w'/\((∃v,r= .value v/\ ∃K' R',FRep w' K' R' G fr' (a.put o.dst v)/\Step w K w' K')∨(r= .skip/\o.dst=none/\ ∃K' R',FRep w' K' R' G fr' a/\Step w K w' K'))/\(zig o=true->∀b,b<w.heap.size->w'.heap[b]? =w.heap[b]?):=by
 have lift:∀ {s:Sem Value} {v:Value} {w'},s.run P w= .ok v w'->(do pure (Next.value (←s)):Sem Next).run P w= .ok (.value v) w':=fun {s v w'} hs=>by
  simp only[Zc,hs,Z2,Zg]
 unfold zlt at hf
 split at hf
 · rename_i t r hop
   split at hf
   · rename_i d hd
     obtain⟨v,w',h1,h2,h3⟩:=zla h (zjy h r) hf
     exact⟨_,w',by simp only[execOp,hop];exact lift h1,.inl ⟨v,rfl,by rw[hd];exact h2⟩,fun _=>h3⟩
   · cases hf
 · rename_i t m k v hop
   split at hf
   · rename_i hd
     obtain⟨w',h1,h2,h3,_⟩:=zg6 h (h.opE m) (h.opE k) (h.opE v) hf
     exact⟨.skip,w',by simp only[execOp,hop,Zc,h1,Z2,Zg],.inr ⟨rfl,hd,K,R,h2,h3⟩,fun hc=>by simp[zig,hop] at hc⟩
   · cases hf
 · rename_i t m k v hop
   split at hf
   · rename_i hd
     obtain⟨w',h1,h2,h3,_⟩:=zg6 h (h.opE m) (h.opE k) (h.opE v) hf
     exact⟨.skip,w',by simp only[execOp,hop,Zc,h1,Z2,Zg],.inr ⟨rfl,hd,K,R,h2,h3⟩,fun hc=>by simp[zig,hop] at hc⟩
   · cases hf
 · rename_i h1 h2 h3
   obtain⟨r,w',e1,e2,e3⟩:=zzR h hf
   refine⟨r,w',e1,e2,fun hc=>e3 ?_⟩
   unfold zig at hc
   split at hc
   · cases hc
   · cases hc
   · exact hc
def putF(fr:Fr)(dst:Option Nat)(e:E):Option Fr:=
 match dst with
 |none=>some fr
 |some d=>if d<fr.nt then some {fr with tm:=z7P fr.tm d e} else none
theorem FRep.putF{dst:Option Nat}{v:Value}(h:FRep w K R G fr a)(he:ERep w K R fr.ob e v)(hf:putF fr dst e=some fr'):FRep w K R G fr' (a.put dst v):=by
 unfold Proofs.YtianakjpgmmflaaGreatDoor.putF at hf
 split at hf
 · cases hf;exact h
 · split at hf
   · rename_i hd
     cases hf;exact h.put hd he
   · cases hf
def zwR(s:Nat)(p:List Nat):List Nat:=if s<100000 then p else p++ [s/100000-1]
def zzL(fr:Fr)(s:Nat):Fr:=match z2J fr.tm (s%100000) with| .one (.h id p)=>(freezeKids fr id (zwR s p)).getD fr| .one (.a id p _)=>(freezeKids fr id (zwR s p)).getD fr|_=>fr
def frz1(fr:Fr)(s:Nat):Fr:=if 1000000000<=s then zzL fr (s-1000000000) else match z2J fr.tm (s%100000) with| .one (.h id p)=>(z5Q fr id (zwR s p)).getD fr| .one (.a id p _)=>(z5Q fr id (zwR s p)).getD fr| .one (.tf n cs)=> {fr with tm:=z7P fr.tm (s%100000) (.one (.t none (.sl n cs)))}|_=>fr
def zzK(fr:Fr):List Nat->Fr
 | []=>fr
 |s::l=>zzK (frz1 fr s) l
theorem zje{w:World}{G:Nat->Value}{a:Act}:∀ {l:List Nat} {K:Nat->z0a} {R:Nat->Value} {fr:Fr},FRep w K R G fr a->∃K',FRep w K' R G (zzK fr l) a/\Step w K w K'
 | [],K,R,fr,h=>⟨K,h,Step.refl _ _⟩
 |s::l,K,R,fr,h=>by
  have h1:∃K',FRep w K' R G (frz1 fr s) a/\Step w K w K':=by
   unfold frz1
   split
   · unfold zzL
     split
     · rename_i id p he
       cases hf:freezeKids fr id (zwR (s-1000000000) p) with
       |none=>exact⟨K,h,Step.refl _ _⟩
       |some fr'=>exact h.freezeKids hf
     · rename_i id p off he
       cases hf:freezeKids fr id (zwR (s-1000000000) p) with
       |none=>exact⟨K,h,Step.refl _ _⟩
       |some fr'=>exact h.freezeKids hf
     · exact⟨K,h,Step.refl _ _⟩
   split
   · rename_i id p he
     cases hf:z5Q fr id (zwR s p) with
     |none=>exact⟨K,h,Step.refl _ _⟩
     |some fr'=>exact⟨_,(h.freeze hf).1,zaT id _⟩
   · rename_i id p off he
     cases hf:z5Q fr id (zwR s p) with
     |none=>exact⟨K,h,Step.refl _ _⟩
     |some fr'=>exact⟨_,(h.freeze hf).1,zaT id _⟩
   · rename_i n cs he
     have h2:=h.tm (s%100000)
     rw[he] at h2
     exact⟨K,h.reput (d:=s%100000) (x:=.one (.t none (.sl n cs))) ⟨h2.2,fun _ e=>by cases e⟩,Step.refl _ _⟩
   · exact⟨K,h,Step.refl _ _⟩
  obtain⟨K1,h2,h3⟩:=h1
  obtain⟨K2,h4,h5⟩:=zje (l:=l) h2
  exact⟨K2,h4,h3.trans h5⟩
def zhO:Operand->Nat
 | .tmp s=>s
 |_=>999999999
def opF(P:Program)(C:z0e)(wio:FuncId->Nat->Bool)(fr:Fr)(o:Oper):Option Fr:=
 match o.op with
 | .assign x=>(match putF fr o.dst (opE fr x) with
   |some fr1=>(match o.dst with|some d=>if wio 777781 d=true then some fr1 else zCU P fr1 o.type d|none=>some fr1)
   |none=>none)
 | .call {callee:=.value c,args,..}=>(match zbW fr c with|some (f,cs)=>zcZ C wio fr f (args.toList.map (opE fr)++cs.map fun t=>.one (.t none t)) o.dst|none=>none)
 | .store t ad x=>if wio 777784 (zhO x)=true then(match o.dst with|none=>zhN P false (frz1 fr (zhO x)) t (opE (frz1 fr (zhO x)) ad) (opE (frz1 fr (zhO x)) x)|some _=>none) else if wio 999999 0=true then(match o.dst with|none=>zhN P true fr t (opE fr ad) (opE fr x)|some _=>none) else zlt P fr o
 | .buildSlice t n parts=>if wio 777780 (o.dst.getD 0)=true then(match o.dst with|some d=>if d<fr.nt then zaX P fr t n parts.toList d else none|none=>none) else if wio 777782 (o.dst.getD 0)=true then(match o.dst with|some d=>z8m P true fr t n parts.toList d|none=>none) else zlt P fr o
 |op=>(match za3 P noM fr op with
  |some e=>putF fr o.dst e
  |none=>zlt P fr o)
theorem zdU{c:Operand}{args:Array Operand}{ats:Array TypeId}{f:FuncId}{cs:List T}(h:FRep w K R G fr a)(hop:o.op= .call {callee:=.value c,args:=args,argTypes:=ats})(hc:zbW fr c=some (f,cs)):
 ∃vs:List Value,((callFunc f vs.toArray).run P w= .ok (.enter f vs.toArray) w->(execOp a.eval o).run P w= .ok (.enter f vs.toArray) w)/\vs.length=(args.toList.map (opE fr)++cs.map fun t=>E.one (.t none t)).length/\
  ∀(j:Nat) (e:E) (v:Value),(args.toList.map (opE fr)++cs.map fun t=>E.one (.t none t))[j]? =some e->vs[j]? =some v->ERep w K R fr.ob e v:=by
 obtain⟨us,u1,u2,u3⟩:=zlF h hc
 refine⟨args.toList.map a.eval++us,fun hcall=> ?_,by simp[u2],fun j e v he hv=> ?_⟩
 · have ha:(args.toList.map a.eval++us).toArray=args.map a.eval++us.toArray:=by apply Yp;simp
   rw[ha] at hcall⊢
   simp only[execOp,hop,resolve,u1,Deferred.ofValue,Zc,Zg,Z2,invoke]
   simpa using hcall
 · rcases Yw j args.toList.length with hj|hj
   · rw[ZL (by simpa using hj)] at he hv
     simp only[Zd,Z4] at he hv
     obtain⟨x,hx,rfl⟩:=he
     obtain⟨y,hy,rfl⟩:=hv
     rw[hx] at hy;cases hy
     exact h.opE x
   · rw[Y5 (by simpa using hj)] at he hv
     simp only[Zh,Zd,Z4] at he hv
     obtain⟨t,ht,rfl⟩:=he
     exact⟨u3 _ t v ht hv,fun _ e=>by cases e⟩
theorem zz8{I:World->(Nat->z0a)->Prop}{C:z0e}{wio:FuncId->Nat->Bool}{next:Act->World->Prop}{Q:Exit->Act->World->Prop}
 (hI:EnvS I) (hC:z7e P I C) (h:FRep w K R G fr a) (hIw:I w K) (hf:opF P C wio fr o=some fr') (hn:∀a' w' K' R',FRep w' K' R' G fr' a'->Step w K w' K'->next a' w'):o.wp P a w next Q:=by
 unfold opF at hf
 split at hf
 · rename_i x hop
   split at hf
   case h_2=>cases hf
   case h_1 fr1 h1=>
   have h2:=h.putF (v:=a.eval x) (h.opE x) h1
   have hrun:(execOp a.eval o).run P w= .ok (.value (a.eval x)) w:=by simp[execOp,hop]
   unfold Oper.wp
   rw[hrun]
   simp only[Oper.upon]
   split at hf
   · rename_i d hd
     split at hf
     · cases hf
       exact hn _ w K R h2 (Step.refl _ _)
     · obtain⟨K',R',e1,e2,e3,_⟩:=zve h2 hf
       exact hn _ w K' R' e1 e2
   · cases hf
     exact hn _ w K R h2 (Step.refl _ _)
 · rename_i c args ats hop
   split at hf
   · rename_i f cs hc
     obtain⟨vs,q1,q2,q3⟩:=zdU (P:=P) h hop hc
     exact zns hI hC h hIw q1 q2 q3 hf fun a' w' K' R' h1 h2 _=>hn a' w' K' R' h1 h2
   · cases hf
 · rename_i t ad x hop
   have dflt:∀ {fr'},zlt P fr o=some fr'->(∀a' w' K' R',FRep w' K' R' G fr' a'->Step w K w' K'->next a' w')->o.wp P a w next Q:=fun {fr'} hf hn=>by
    obtain⟨r,w',h1,h2,_⟩:=zeO h hf
    unfold Oper.wp
    rw[h1]
    rcases h2 with⟨v,rfl,K',R',e1,e2⟩|⟨rfl,hd,K',R',e1,e2⟩
    · exact hn _ w' K' R' e1 e2
    · simp only[Oper.upon,hd]
      exact hn _ w' K' R' e1 e2
   split at hf
   · split at hf
     · rename_i hd
       obtain⟨K0,h0,s0⟩:=zje (l:= [zhO x]) h
       simp only[zzK] at h0
       obtain⟨w',h1,⟨K',R',e1,e2⟩,_⟩:=zdw h0 (h0.opE ad) (h0.opE x) hf
       unfold Oper.wp
       have hrun:(execOp a.eval o).run P w= .ok .skip w':=by
        simp only[execOp,hop,Zc,h1,Z2,Zg]
       rw[hrun]
       simp only[Oper.upon,hd]
       exact hn _ w' K' R' e1 (s0.trans e2)
     · cases hf
   split at hf
   · split at hf
     · rename_i hd
       obtain⟨w',h1,⟨K',R',e1,e2⟩,_⟩:=zdw h (h.opE ad) (h.opE x) hf
       unfold Oper.wp
       have hrun:(execOp a.eval o).run P w= .ok .skip w':=by
        simp only[execOp,hop,Zc,h1,Z2,Zg]
       rw[hrun]
       simp only[Oper.upon,hd]
       exact hn _ w' K' R' e1 e2
     · cases hf
   · exact dflt hf hn
 · rename_i t n parts hop
   split at hf
   · split at hf
     · rename_i d hd
       split at hf
       · rename_i hlt
         obtain⟨v,w',h1,K',R',e1,e2⟩:=zjp h hlt hf
         have:parts.map (fun(x:Nat×Operand)=>(x.1,a.eval x.2))=(parts.toList.map fun(i,x)=>(i,a.eval x)).toArray:=by
          apply Yp;simp
         have hrun:(execOp a.eval o).run P w= .ok (.value v) w':=by
          simp only[execOp,hop]
          rw[this]
          simp only[Zc,h1,Z2,Zg]
         unfold Oper.wp
         rw[hrun]
         simp only[Oper.upon,hd]
         exact hn _ w' K' R' e1 e2
       · cases hf
     · cases hf
   · split at hf
     · split at hf
       · rename_i d hd
         obtain⟨v,w',_,h1,⟨K',R',e1,e2,_⟩,_⟩:=zal h hf
         have:parts.map (fun(x:Nat×Operand)=>(x.1,a.eval x.2))=(parts.toList.map fun(i,x)=>(i,a.eval x)).toArray:=by
          apply Yp;simp
         have hrun:(execOp a.eval o).run P w= .ok (.value v) w':=by
          simp only[execOp,hop]
          rw[this]
          simp only[Zc,h1,Z2,Zg]
         unfold Oper.wp
         rw[hrun]
         simp only[Oper.upon,hd]
         exact hn _ w' K' R' e1 e2
       · cases hf
     · obtain⟨r,w',h1,h2,_⟩:=zeO h hf
       unfold Oper.wp
       rw[h1]
       rcases h2 with⟨v,rfl,K',R',e1,e2⟩|⟨rfl,hd,K',R',e1,e2⟩
       · exact hn _ w' K' R' e1 e2
       · simp only[Oper.upon,hd]
         exact hn _ w' K' R' e1 e2
 · split at hf
   · rename_i e he
     obtain⟨v,h1,h2⟩:=zaI h he
     unfold Oper.wp
     rw[h2 w (Stay.refl w K noM)]
     exact hn _ w K R (h.putF h1 hf) (Step.refl _ _)
   · obtain⟨r,w',h1,h2,_⟩:=zeO h hf
     unfold Oper.wp
     rw[h1]
     rcases h2 with⟨v,rfl,K',R',e1,e2⟩|⟨rfl,hd,K',R',e1,e2⟩
     · exact hn _ w' K' R' e1 e2
     · simp only[Oper.upon,hd]
       exact hn _ w' K' R' e1 e2
def zeX:E->Option (Option Bool)
 | .one (.k (.bool b))=>some (some b)
 | .one (.k _)=>some none
 | .one (.t _ (.sc (.bool b)))=>some (some b)
 |_=>none
def z6F(ops:Array Oper)(fr:Fr)(o:Oper):Option Bool:=
 match o.guard with
 |none=>some true
 |some (j,want)=>match(ops[j]?).bind (·.dst) with
  |none=>some false
  |some t=>if t<fr.nt then(match zeX (z2J fr.tm t) with|some b=>some (b==some want)|none=>none) else none
theorem z8W{ops:Array Oper}{b:Bool}(h:FRep w K R G fr a)(hg:z6F ops fr o=some b):Region.wanted o (yielded ops a.tmps)=b:=by
 unfold z6F at hg
 unfold Region.wanted
 split at hg
 · rename_i hn
   rw[hn];cases hg;rfl
 · rename_i j want hn
   rw[hn]
   simp only
   split at hg
   · rename_i hd
     cases hg
     simp[yielded,hd]
   · rename_i t hd
     split at hg
     · rename_i ht
       split at hg
       · rename_i y hy
         cases hg
         have hreg:=h.tm t
         rw[z9I,if_pos (by rw[h.nt];exact ht)] at hreg
         have htmp:a.tmps[t]? =some (a.tmps.getD t undef):=z5z _ _ (by rw[h.nt];exact ht)
         have hyy:yielded ops a.tmps j=y:=by
          simp only[yielded,hd,Z0,htmp]
          generalize a.tmps.getD t undef=u at hreg
          unfold zeX at hy
          split at hy
          · rename_i b' he
            cases hy
            rw[he] at hreg
            obtain rfl:u= .bool b':=hreg
            rfl
          · rename_i v hnb he
            cases hy
            rw[he] at hreg
            obtain rfl:u=v:=hreg
            cases u<;>first|rfl|(exfalso;exact hnb _ rfl)
          · rename_i dep b' he
            cases hy
            rw[he] at hreg
            have:=hreg.1.sc_eq
            subst this;rfl
          · cases hy
         rw[hyy]
       · cases hg
     · cases hg
def zeo(P:Program)(C:z0e)(wio:FuncId->Nat->Bool)(ops:Array Oper):List Oper->Fr->Option Fr
 | [],fr=>some fr
 |o::rest,fr=>match z6F ops fr o with
  |none=>none
  |some true=>(match opF P C wio fr o with|some fr'=>zeo P C wio ops rest fr'|none=>none)
  |some false=>(match putF fr o.dst (.one (.k undef)) with|some fr'=>zeo P C wio ops rest fr'|none=>none)
theorem zhV{P:Program}{I:World->(Nat->z0a)->Prop}{C:z0e}{wio:FuncId->Nat->Bool}{ops:Array Oper}{Q:Exit->Act->World->Prop}(hI:EnvS I)(hC:z7e P I C):∀ {l:List Oper} {w:World} {K:Nat->z0a} {R G:Nat->Value} {fr fr':Fr} {a:Act},FRep w K R G fr a->I w K->zeo P C wio ops l fr=some fr'->
 (∀a' w' K' R',FRep w' K' R' G fr' a'->Step w K w' K'->Q .normal a' w')->wpList P ops Q l a w
 | [],w,K,R,G,fr,fr',a,h,hIw,hf,hn=>by
   cases hf
   exact wpList_nil (hn a w K R h (Step.refl _ _))
 |o::rest,w,K,R,G,fr,fr',a,h,hIw,hf,hn=>by
  simp only[zeo] at hf
  split at hf
  · cases hf
  · rename_i hg
    split at hf
    · rename_i fr1 h1
      refine wpList_step fun Kk hK=> ?_
      rw[z8W h hg]
      simp only[if_true]
      exact zz8 hI hC h hIw h1 fun a' w' K' R' hr hs=>hK a' w' (zhV hI hC hr (hI.step hIw hs) hf fun a2 w2 K2 R2 hr2 hs2=>hn a2 w2 K2 R2 hr2 (hs.trans hs2))
    · cases hf
  · rename_i hg
    split at hf
    · rename_i fr1 h1
      refine wpList_step fun Kk hK=> ?_
      rw[z8W h hg]
      simp only[ZR,if_false]
      exact hK _ _ (zhV hI hC (h.putF (v:=undef) (e:=.one (.k undef)) rfl h1) hIw hf hn)
    · cases hf
end
section
variable{j k:Nat}{z:Option Nat}{w:World}{B:World->Prop}
section
variable {P:Program} {ops:Array Oper} {Q:Exit->Act->World->Prop} {md:Region.Mode}
def NoPz(Q:Exit->Act->World->Prop):Exit->Act->World->Prop
 | .panic _,_,_=>False
 |e,a,w=>Q e a w
theorem NoPz.imp{Q:Exit->Act->World->Prop}:∀(e:Exit) (a:Act) (w:World),NoPz Q e a w->Q e a w:=fun e a w h=>by
 cases e<;>first|exact h|exact(h:False).elim
def ShutL(md:Region.Mode)(ops:Array Oper)(L:Array Bool):Prop:=
 L.size=ops.size/\ ∀(i:Nat) (o:Oper),ops[i]? =some o->L.getD i false=true->∀e∈o.after,Region.binds md e=true->L.getD e.on false=true
theorem ShutL.set{L:Array Bool}(h:ShutL md ops L)(hj:j∈Region.ready md ops L):ShutL md ops (L.setIfInBounds j true):=by
 obtain⟨h1,h2⟩:=h
 obtain⟨j1,o,j2,j3⟩:=mem_ready.1 hj
 refine⟨by simpa using h1,fun i oi hi hl e he hb=> ?_⟩
 have mono:∀k,L.getD k false=true->(L.setIfInBounds j true).getD k false=true:=fun k hk=>by
  simp only[Z7,ZZ] at hk⊢
  split
  · split<;>simp_all
  · exact hk
 by_cases e1:i=j
 · subst e1
   rw[j2] at hi;cases hi
   exact mono _ (j3 e he hb)
 · refine mono _ (h2 i oi hi ?_ e he hb)
   simp only[Z7,ZZ] at hl⊢
   rw[if_neg (fun e2=>e1 e2.symm)] at hl
   exact hl
def zAW(md:Region.Mode)(ops:Array Oper)(l:List Nat):List Nat:=l.flatMap fun i=>match ops[i]? with|some o=>(o.after.toList.filter (Region.binds md)).map (·.on)|none=> []
def zAb(md:Region.Mode)(ops:Array Oper):Nat->List Nat->List Nat
 |0,l=>l
 |n+1,l=>zAb md ops n ((zAW md ops l).foldl (fun acc x=>if acc.contains x then acc else x::acc) l)
theorem zol{x:Nat}:∀ {m l:List Nat},x∈m.foldl (fun acc x=>if acc.contains x then acc else x::acc) l->x∈m∨x∈l
 | [],l,h=>.inr h
 |a::m,l,h=>by
  simp only[Xk] at h
  rcases zol h with h|h
  · exact .inl (.tail _ h)
  · split at h
    · exact .inr h
    · rcases Zu.1 h with h|h
      · subst h;exact .inl (.head _)
      · exact .inr h
theorem zdX{L:Array Bool}(hL:ShutL md ops L):∀(n:Nat) (l:List Nat),(∀i∈l,L.getD i false=true)->∀i∈zAb md ops n l,L.getD i false=true
 |0,l,h,i,hi=>h i hi
 |n+1,l,h,i,hi=>by
  refine zdX hL n _ (fun k hk=> ?_) i hi
  rcases zol hk with hk|hk
  · simp only[zAW,List.mem_flatMap] at hk
    obtain⟨j,hj,hk⟩:=hk
    split at hk
    · rename_i o ho
      simp only[Zm,ZV,Array.mem_toList_iff] at hk
      obtain⟨e,⟨he,hb⟩,rfl⟩:=hk
      exact hL.2 j o ho (h j hj) e he hb
    · cases hk
  · exact h k hk
def z7C(P:Program)(md:Region.Mode)(ops:Array Oper)(Q:Exit->Act->World->Prop)(S:Array Bool->World->Prop):Nat->Array Bool->Act->World->Prop
 |0,L,a,w=>Region.ready md ops L= []/\Q .normal a w
 |n+1,L,a,w=>
  (Region.ready md ops L= []->Q .normal a w)/\
  ∀i∈Region.ready md ops L,wpOp P ops Q i (fun a' w'=>S (L.setIfInBounds i true) w'/\z7C P md ops Q S n (L.setIfInBounds i true) a' w') a w
theorem zd4{S:Array Bool->World->Prop}:∀(n:Nat) (L:Array Bool) (a:Act) (w:World),z7C P md ops Q S n L a w->wpAny P md ops Q n L a w
 |0,_,_,_,h=>h
 |n+1,_,_,_,h=>⟨h.1,fun i hi=>wpOp_mono (fun a' w' h'=>zd4 n _ a' w' h'.2) (h.2 i hi)⟩
theorem z9i{S S':Array Bool->World->Prop}(p:Array Bool->Prop)(hp:∀L j,p L->p (L.setIfInBounds j true))(h:∀L w,p L->S' L w->S L w):∀(n:Nat) (L:Array Bool) (a:Act) (w:World),p L->z7C P md ops Q S' n L a w->z7C P md ops Q S n L a w
 |0,_,_,_,_,hh=>hh
 |n+1,L,a,w,hL,hh=>⟨hh.1,fun i hi=>wpOp_mono (fun a' w' h3=>⟨h _ _ (hp L i hL) h3.1,z9i p hp h n _ a' w' (hp L i hL) h3.2⟩) (hh.2 i hi)⟩
theorem zdZ{S:Array Bool->World->Prop}{C:World->Prop}{i:Nat}{oi:Oper}{v:Value}(hi:ops[i]? =some oi)(hsel:∀(j:Nat) (o:Oper) cs b,ops[j]? =some o->o.op≠ .select cs b)
 (hQ:∀c a w,Q (.panic c) (a.put oi.dst v) w->Q (.panic c) a w) (hS:∀L w,S (L.setIfInBounds i true) w↔S L w) (hC:∀L w,ShutL md ops L->L.getD i true=false->S L w->C w):
 ∀(n:Nat) (L:Array Bool) (a:Act) (w:World),ShutL md ops L->
  (∀j oj,ops[j]? =some oj->j≠i->L.getD j true=false->(∀e∈oj.after,Region.binds md e=true->e.on≠i)->oi.apart ops oj=true)->
  i∈Region.ready md ops L->YieldsIf P ops C oi v a->S L w->
  z7C P md ops Q S n (L.setIfInBounds i true) (a.put oi.dst v) w->z7C P md ops Q S (n+1) L a w:=by
 intro n
 induction n with
 |zero=>
  intro L a w hsh _ hr hy hSw H
  have hun:=(mem_ready.1 hr).1
  refine⟨fun h=>(by rw[h] at hr;cases hr),fun j hj=> ?_⟩
  by_cases hji:j=i
  · subst hji;exact hy.wpOp hi (hC L w hsh hun hSw) ⟨(hS L w).2 hSw,H⟩
  · have:=ready_mono hj hji
    rw[H.1] at this
    cases this
 |succ n ih=>
  intro L a w hsh hfree hr hy hSw H
  have hun:=(mem_ready.1 hr).1
  refine⟨fun h=>(by rw[h] at hr;cases hr),fun j hj=> ?_⟩
  by_cases hji:j=i
  · subst hji;exact hy.wpOp hi (hC L w hsh hun hSw) ⟨(hS L w).2 hSw,H⟩
  · have h1:=H.2 j (ready_mono hj hji)
    obtain⟨hjun,oj,hoj,hall⟩:=mem_ready.1 hj
    have hnot:∀e∈oj.after,Region.binds md e=true->e.on≠i:=fun e he hb heq=>by
     have h1:=hall e he hb
     have h0:=(mem_ready.1 hr).1
     rw[heq] at h1
     rcases Yw i L.size with h'|h'
     · simp[h'] at h0 h1;rw[h0] at h1;cases h1
     · simp[Array.getElem?_eq_none h'] at h1
    have h2:=wpOp_putIf hoj (hfree j oj hoj hji hjun hnot) (fun cs b=>hsel i oi cs b hi) (fun cs b=>hsel j oj cs b hoj) hQ hy h1
    have hfree':∀k ok,ops[k]? =some ok->k≠i->(L.setIfInBounds j true).getD k true=false->
     (∀e∈ok.after,Region.binds md e=true->e.on≠i)->oi.apart ops ok=true:=fun k ok hk hki hun hno=>by
     refine hfree k ok hk hki ?_ hno
     by_cases hjk:j=k
     · subst hjk;exact hjun
     · rw[getD_set_ne true hjk] at hun;exact hun
    have hcomm:(L.setIfInBounds i true).setIfInBounds j true=(L.setIfInBounds j true).setIfInBounds i true:=(Array.setIfInBounds_comm _ _ (Ne.symm hji))
    refine wpOp_mono (fun a' w' h3=> ?_) h2
    have hS':S (L.setIfInBounds j true) w':=by
     have:=h3.2.1
     rw[hcomm] at this
     exact(hS _ w').1 this
    refine⟨hS',ih (L.setIfInBounds j true) a' w' (hsh.set hj) hfree' (ready_mono hr (Ne.symm hji)) h3.1 hS' ?_⟩
    have:=h3.2.2
    rwa [hcomm] at this
def z9s:List (Nat×Oper×Nat)->Option Nat
 | []=>none
 |(k,_,m)::r=>if m=2 then some k else z9s r
def zyC(md:Region.Mode)(ops:Array Oper)(k:Nat)(rest:List (Nat×Oper×Nat)):Bool:=match z9s rest with|none=>true|some z=>(zAb md ops ops.size [z]).contains k
def z7V(P:Program)(md:Region.Mode)(ops:Array Oper)(Q:Exit->Act->World->Prop):List (Nat×Oper×Nat)->(World->Prop)->(World->Prop)->(World->Prop)->Act->Prop
 | [],A,B,T,a=>∀w,T w->Q .normal a w
 |(k,o,m)::rest,A,B,T,a=>
  if Region.wanted o (yielded ops a.tmps)=true then
   (if m=0∨m=3 then ∃v,(∀w,(if m=0 then A w else B w)->(execOp a.eval o).run P w= .ok (.value v) w)/\z7V P md ops Q rest A B T (a.put o.dst v)
   else ∀w,T w->o.wp P a w (fun a' w'=>∃A' B' T':World->Prop,T' w'/\(∀x,T' x->A' x)/\(∀x,A' x->B' x)/\(∀x,B' x->B x)/\(m=2∨ ∀x,A' x->A x)/\z7V P md ops Q rest A' B' T' a') Q)
  else z7V P md ops Q rest A B T (a.put o.dst undef)
def zhY(md:Region.Mode)(ops:Array Oper):List (Nat×Oper×Nat)->Array Bool->Bool
 | [],L=>decide (Region.ready md ops L= [])
 |(k,_,m)::rest,L=>(if m=0∨m=3 then(Region.ready md ops L).contains k&&Region.free md ops L k&&decide (z9s rest≠some k)&&(m==3||zyC md ops k rest) else decide (Region.ready md ops L= [k]))&&zhY md ops rest (L.setIfInBounds k true)
def zno(z:Option Nat)(A B:World->Prop)(L:Array Bool)(w:World):Prop:=match z with|none=>A w|some z=>if L.getD z false=true then B w else A w
theorem zyg{A:World->Prop}(hAB:∀x,A x->B x){L:Array Bool}(h:zno z A B L w):B w:=by
 unfold zno at h
 split at h
 · exact hAB _ h
 · split at h
   · exact h
   · exact hAB _ h
theorem znn{A:World->Prop}(hAB:∀x,A x->B x){L:Array Bool}(h:A w):zno z A B L w:=by
 unfold zno
 split
 · exact h
 · split
   · exact hAB _ h
   · exact h
theorem z7N{L:Array Bool}(h:k<L.size):(L.setIfInBounds k true).getD k false=true:=by
 simp[Z7,h]
theorem z9x{L:Array Bool}(h:L.getD k false=true):(L.setIfInBounds j true).getD k false=true:=by
 simp only[Z7,ZZ] at h⊢
 split
 · split<;>simp_all
 · exact h
theorem zuk{L:Array Bool}(h:L.getD k true=false):L.getD k false=false:=by
 simp only[Z7] at h⊢
 cases hk:L[k]? with
 |none=>rfl
 |some b=>rw[hk] at h;simpa using h
theorem z9h(hs:Region.noSelect ops=true)(hQ:∀c a d v w,Q (.panic c) (Act.put a d v) w->Q (.panic c) a w):∀(l:List (Nat×Oper×Nat)) (L:Array Bool) (A B T:World->Prop) (a:Act),
 (∀x∈l,ops[x.1]? =some x.2.1)->ShutL md ops L->zhY md ops l L=true->(∀x,A x->B x)->(∀x,T x->A x)->z7V P md ops Q l A B T a->∀w,T w->z7C P md ops Q (zno (z9s l) A B) l.length L a w
 | [],L,A,B,T,a,_,hsh,hO,hAB,hTA,h,w,hw=>⟨by simpa[zhY] using hO,h w hw⟩
 |(k,o,m)::rest,L,A,B,T,a,hl,hsh,hO,hAB,hTA,h,w,hw=>by
  have h0:ops[k]? =some o:=hl (k,o,m) (by simp)
  have hk:k<L.size:=by rw[hsh.1];exact(ZO.1 h0).1
  have hl':∀x∈rest,ops[x.1]? =some x.2.1:=fun x hx=>hl x (by simp[hx])
  simp only[zhY,Z6] at hO
  obtain⟨hO1,hO2⟩:=hO
  by_cases hm:m=0∨m=3
  · rw[if_pos hm] at hO1
    simp only[Z6,decide_eq_true_eq] at hO1
    obtain⟨⟨⟨hr,hf⟩,hzk⟩,hso⟩:=hO1
    have hm2:m≠2:=by rcases hm with e|e<;>omega
    have hr':k∈Region.ready md ops L:=by simpa using hr
    have key:∃v,YieldsIf P ops (fun w=>if m=0 then A w else B w) o v a/\z7V P md ops Q rest A B T (a.put o.dst v):=by
     simp only[z7V,if_pos hm] at h
     split at h
     · rename_i hwt
       obtain⟨v,h1,h2⟩:=h
       exact⟨v,.inl ⟨hwt,h1⟩,h2⟩
     · rename_i hwt
       exact⟨undef,.inr ⟨by simpa using hwt,rfl⟩,h⟩
    obtain⟨v,hy,hK⟩:=key
    have hnz:z9s ((k,o,m)::rest)=z9s rest:=by simp[z9s,hm2]
    rw[hnz]
    refine zdZ (C:=fun w=>if m=0 then A w else B w) h0 (Region.noSelect_spec hs) (fun c a w h=>hQ c a _ _ w h) (fun L' w'=> ?_) (fun L' w' hsh' hun hS=> ?_) rest.length L a w hsh (Region.free_spec h0 hf) hr' hy (znn hAB (hTA _ hw))
     (z9h hs hQ rest _ A B T _ hl' (hsh.set hr') hO2 hAB hTA hK w hw)
    · cases hz:z9s rest with
      |none=>exact YU
      |some z=>
       have hne:z≠k:=fun e=>hzk (by rw[hz,e])
       have:(L'.setIfInBounds k true).getD z false=L'.getD z false:=by
        simp only[Z7,ZZ]
        rw[if_neg (fun e=>hne e.symm)]
       simp only[zno,this]
    · by_cases hm0:m=0
      · rw[if_pos hm0]
        subst hm0
        have hso:zyC md ops k rest=true:=by simpa using hso
        unfold zyC at hso
        split at hso
        · rename_i hz
          rw[hz] at hS
          exact hS
        · rename_i z hz
          rw[hz] at hS
          simp only[zno] at hS
          split at hS
          · rename_i hlz
            have:=zdX hsh' ops.size [z] (fun i hi=>by simp at hi;subst hi;exact hlz) k (by simpa using hso)
            rw[zuk hun] at this
            cases this
          · exact hS
      · rw[if_neg hm0]
        exact zyg hAB hS
  · rw[if_neg hm] at hO1
    have hr:Region.ready md ops L= [k]:=by simpa using hO1
    have hr':k∈Region.ready md ops L:=by rw[hr];simp
    refine⟨fun h1=>(by rw[h1] at hr;cases hr),fun i hi=> ?_⟩
    rw[hr] at hi
    obtain rfl:i=k:=by simpa using hi
    simp only[z7V,if_neg hm] at h
    unfold wpOp
    simp only[h0]
    have fin:∀(A' B' T':World->Prop) (a':Act) (w':World),T' w'->(∀x,T' x->A' x)->(∀x,A' x->B' x)->(∀x,B' x->B x)->(m=2∨ ∀x,A' x->A x)->z7V P md ops Q rest A' B' T' a'->
     zno (z9s ((i,o,m)::rest)) A B (L.setIfInBounds i true) w'/\z7C P md ops Q (zno (z9s ((i,o,m)::rest)) A B) rest.length (L.setIfInBounds i true) a' w':=fun A' B' T' a' w' t1 t2 t3 t4 t5 t6=>by
     have hrest:=z9h hs hQ rest _ A' B' T' a' hl' (hsh.set hr') hO2 t3 t2 t6 w' t1
     by_cases hm2:m=2
     · have hz:z9s ((i,o,m)::rest)=some i:=by simp[z9s,hm2]
       rw[hz]
       have hp:∀(L':Array Bool) (x:World),L'.getD i false=true->zno (z9s rest) A' B' L' x->zno (some i) A B L' x:=fun L' x hL hx=>by
        simp only[zno,hL,if_true]
        exact t4 _ (zyg t3 hx)
       refine⟨hp _ _ (z7N hk) (znn t3 (t2 _ t1)),z9i (fun L'=>L'.getD i false=true) (fun L' j hL=>z9x hL) hp rest.length _ a' w' (z7N hk) hrest⟩
     · have hz:z9s ((i,o,m)::rest)=z9s rest:=by simp[z9s,hm2]
       rw[hz]
       have t5':∀x,A' x->A x:=by rcases t5 with e|e;exact absurd e hm2;exact e
       have hp:∀(L':Array Bool) (x:World),True->zno (z9s rest) A' B' L' x->zno (z9s rest) A B L' x:=fun L' x _ hx=>by
        cases hz2:z9s rest with
        |none=>rw[hz2] at hx;exact t5' _ hx
        |some z=>
         rw[hz2] at hx
         simp only[zno] at hx⊢
         by_cases hh:L'.getD z false=true
         · rw[if_pos hh] at hx⊢;exact t4 _ hx
         · rw[if_neg hh] at hx⊢;exact t5' _ hx
       exact⟨hp _ _ trivial (znn t3 (t2 _ t1)),z9i (fun _=>True) (fun _ _ _=>trivial) hp rest.length _ a' w' trivial hrest⟩
    split
    · rename_i hwt
      rw[if_pos hwt] at h
      exact .inl (Oper.wp_mono (fun a' w' ⟨A',B',T',h1,h2,h3,h4,h5,h6⟩=>fin A' B' T' a' w' h1 h2 h3 h4 h5 h6) (h w hw))
    · rename_i hwt
      rw[if_neg hwt] at h
      exact fin A B T _ w hw hTA hAB (fun _ h=>h) (.inr fun _ h=>h) h
def zcu(ops:Array Oper)(sch:List (Nat×Nat)):List (Nat×Oper×Nat):=sch.filterMap fun x=>(ops[x.1]?).map fun o=>(x.1,o,x.2)
theorem zek{id:Nat}{a:Act}{l:List Oper}(sch:List (Nat×Nat))(A B T:World->Prop)(hm:P.follows .mixedOrders=true)(hlen:(zcu l.toArray sch).length=l.length)
 (hs:Region.noSelect l.toArray=true) (hO:zhY .any l.toArray (zcu l.toArray sch) (Array.replicate l.length false)=true)
 (hAB:∀x,A x->B x) (hTA:∀x,T x->A x) (hT:T w.drew) (h:z7V P .any l.toArray (NoPz Q) (zcu l.toArray sch) A B T a):(Code.region id l.toArray true).wp P Q a w:=by
 refine Code.wp_mono NoPz.imp (wp_region_any hm ?_)
 have hsh:ShutL .any l.toArray (Array.replicate l.length false):=⟨by simp,fun i o ho hL=>by
  simp only[Z7,Array.getElem?_replicate] at hL
  split at hL<;>simp at hL⟩
 have:=z9h (md:=.any) hs (fun _ _ _ _ _ h=>h) (zcu l.toArray sch) (Array.replicate l.length false) A B T a (fun x hx=>by
  simp only[zcu,List.mem_filterMap,Z4] at hx
  obtain⟨y,_,o,ho,rfl⟩:=hx
  exact ho) hsh hO hAB hTA h w.drew hT
 rw[hlen] at this
 have h2:=zd4 _ _ _ _ this
 simpa using h2
end
end
section
inductive SchT where
 |nil
 |op (k m:Nat) (rest:SchT)
 |alt (a b:SchT)
variable{a:Act}{w:World}{B:World->Prop}
def SchT.heads:SchT->List Nat
 | .nil=> []
 | .op k _ _=> [k]
 | .alt a b=>a.heads++b.heads
def SchT.nexts:SchT->List Nat
 | .nil=> []
 | .op k m r=>if m=2 then [k] else r.nexts
 | .alt a b=>a.nexts++b.nexts
def SchT.depth:SchT->Nat
 | .nil=>0
 | .op _ _ r=>r.depth+1
 | .alt a _=>a.depth
section
variable {P:Program} {ops:Array Oper} {Q:Exit->Act->World->Prop} {md:Region.Mode}
def zel(P:Program)(md:Region.Mode)(ops:Array Oper)(Q:Exit->Act->World->Prop):SchT->(World->Prop)->(World->Prop)->(World->Prop)->Act->Prop
 | .nil,A,B,T,a=>∀w,T w->Q .normal a w
 | .op k m rest,A,B,T,a=>∃o,ops[k]? =some o/\
   (if Region.wanted o (yielded ops a.tmps)=true then
     (if m=0∨m=3 then ∃v,(∀w,(if m=0 then A w else B w)->(execOp a.eval o).run P w= .ok (.value v) w)/\zel P md ops Q rest A B T (a.put o.dst v)
     else ∀w,T w->o.wp P a w (fun a' w'=>∃A' B' T':World->Prop,T' w'/\(∀x,T' x->A' x)/\(∀x,A' x->B' x)/\(∀x,B' x->B x)/\(m=2∨ ∀x,A' x->A x)/\zel P md ops Q rest A' B' T' a') Q)
   else zel P md ops Q rest A B T (a.put o.dst undef))
 | .alt x y,A,B,T,a=>zel P md ops Q x A B T a/\zel P md ops Q y A B T a
def z4z(md:Region.Mode)(ops:Array Oper):Bool->SchT->Array Bool->Bool
 |top,.nil,L=>top&&decide (Region.ready md ops L= [])
 |top,.op k m rest,L=>(if top=true/\(m=0∨m=3) then(Region.ready md ops L).contains k&&Region.free md ops L k&& !(rest.nexts.contains k)&&(m==3||rest.nexts.all fun z=>(zAb md ops ops.size [z]).contains k) else(decide (m=1∨m=2))&&(if top=true then decide (Region.ready md ops L= [k]) else(Region.ready md ops L).contains k))&&z4z md ops true rest (L.setIfInBounds k true)
 |top,.alt a b,L=>(!top||decide (∀i∈Region.ready md ops L,i∈a.heads++b.heads))&&decide (a.depth=b.depth)&&z4z md ops false a L&&z4z md ops false b L
def zgH(zs:List Nat)(A B:World->Prop)(L:Array Bool)(w:World):Prop:=if ∃z∈zs,L.getD z false=true then B w else A w
theorem zuT{zs:List Nat}{A:World->Prop}(hAB:∀x,A x->B x){L:Array Bool}(h:zgH zs A B L w):B w:=by
 unfold zgH at h;split at h
 · exact h
 · exact hAB _ h
theorem zuS{zs:List Nat}{A:World->Prop}(hAB:∀x,A x->B x){L:Array Bool}(h:A w):zgH zs A B L w:=by
 unfold zgH;split
 · exact hAB _ h
 · exact h
theorem zli{L:Array Bool}{k z:Nat}(h:z≠k):(L.setIfInBounds k true).getD z false=L.getD z false:=by
 simp only[Z7,ZZ]
 rw[if_neg (fun e=>h e.symm)]
theorem zx6{zs:List Nat}{k m:Nat}{rest:SchT}{L:Array Bool}{A T:World->Prop}{o:Oper}{n:Nat}(ho:ops[k]? =some o)(hk:k<L.size)(hm:m=1∨m=2)(hz:m=2->k∈zs)(hz1:m≠2->∀z∈rest.nexts,z∈zs)
 (hAB:∀x,A x->B x) (hTA:∀x,T x->A x) (h:zel P md ops Q (.op k m rest) A B T a)  (hw:T w)
 (ih:∀(A' B' T':World->Prop) (a':Act),(∀x,A' x->B' x)->(∀x,T' x->A' x)->zel P md ops Q rest A' B' T' a'->∀w,T' w->z7C P md ops Q (zgH rest.nexts A' B') n (L.setIfInBounds k true) a' w):
 wpOp P ops Q k (fun a' w'=>zgH zs A B (L.setIfInBounds k true) w'/\z7C P md ops Q (zgH zs A B) n (L.setIfInBounds k true) a' w') a w:=by
 obtain⟨o2,ho2,h⟩:=h
 rw[ho] at ho2;cases ho2
 have hm':¬(m=0∨m=3):=by omega
 have fin:∀(A' B' T':World->Prop) (a':Act) (w':World),T' w'->(∀x,T' x->A' x)->(∀x,A' x->B' x)->(∀x,B' x->B x)->(m=2∨ ∀x,A' x->A x)->zel P md ops Q rest A' B' T' a'->
  zgH zs A B (L.setIfInBounds k true) w'/\z7C P md ops Q (zgH zs A B) n (L.setIfInBounds k true) a' w':=fun A' B' T' a' w' t1 t2 t3 t4 t5 t6=>by
  have hrest:=ih A' B' T' a' t3 t2 t6 w' t1
  have hp:∀(L':Array Bool) (x:World),L'.getD k false=true->zgH rest.nexts A' B' L' x->zgH zs A B L' x:=fun L' x hL hx=>by
   by_cases hm2:m=2
   · unfold zgH
     rw[if_pos ⟨k,hz hm2,hL⟩]
     exact t4 _ (zuT t3 hx)
   · have t5':∀x,A' x->A x:=by rcases t5 with e|e;exact absurd e hm2;exact e
     unfold zgH
     split
     · exact t4 _ (zuT t3 hx)
     · rename_i hno
       unfold zgH at hx
       rw[if_neg (fun⟨z,h1,h2⟩=>hno ⟨z,hz1 hm2 z h1,h2⟩)] at hx
       exact t5' _ hx
  exact⟨hp _ _ (z7N hk) (zuS t3 (t2 _ t1)),z9i (fun L'=>L'.getD k false=true) (fun L' j hL=>z9x hL) hp n _ a' w' (z7N hk) hrest⟩
 unfold wpOp
 simp only[ho]
 split
 · rename_i hwt
   rw[if_pos hwt,if_neg hm'] at h
   exact .inl (Oper.wp_mono (fun a' w' ⟨A',B',T',h1,h2,h3,h4,h5,h6⟩=>fin A' B' T' a' w' h1 h2 h3 h4 h5 h6) (h w hw))
 · rename_i hwt
   rw[if_neg hwt] at h
   exact fin A B T _ w hw hTA hAB (fun _ h=>h) (.inr fun _ h=>h) h
theorem z7W(hs:Region.noSelect ops=true)(hQ:∀c a d v w,Q (.panic c) (Act.put a d v) w->Q (.panic c) a w):∀(s:SchT) (L:Array Bool) (A B T:World->Prop) (a:Act),ShutL md ops L->(∀x,A x->B x)->(∀x,T x->A x)->zel P md ops Q s A B T a->∀w,T w->
 (z4z md ops true s L=true->z7C P md ops Q (zgH s.nexts A B) s.depth L a w)/\
 (z4z md ops false s L=true->∀(zs:List Nat) (n:Nat),(∀z∈s.nexts,z∈zs)->s.depth=n+1->∀i∈s.heads,wpOp P ops Q i (fun a' w'=>zgH zs A B (L.setIfInBounds i true) w'/\z7C P md ops Q (zgH zs A B) n (L.setIfInBounds i true) a' w') a w)
 | .nil,L,A,B,T,a,hsh,hAB,hTA,h,w,hw=>⟨fun hO=>⟨by simpa[z4z] using hO,h w hw⟩,fun hO=>by simp[z4z] at hO⟩
 | .op k m rest,L,A,B,T,a,hsh,hAB,hTA,h,w,hw=>by
   obtain⟨o,h0,h'⟩:=h
   have hk:k<L.size:=by rw[hsh.1];exact(ZO.1 h0).1
   have eff:∀(zs:List Nat) (n:Nat),(m=1∨m=2)->(∀z∈(SchT.op k m rest).nexts,z∈zs)->rest.depth=n->k∈Region.ready md ops L->z4z md ops true rest (L.setIfInBounds k true)=true->
    wpOp P ops Q k (fun a' w'=>zgH zs A B (L.setIfInBounds k true) w'/\z7C P md ops Q (zgH zs A B) n (L.setIfInBounds k true) a' w') a w:=fun zs n hm hz hd hr hO=>by
    refine zx6 h0 hk hm (fun e=>hz k (by simp[SchT.nexts,e])) (fun e z hzz=>hz z (by simp[SchT.nexts,e,hzz])) hAB hTA ⟨o,h0,h'⟩ hw ?_
    intro A' B' T' a' k1 k2 k3 w' k4
    subst hd
    exact(z7W hs hQ rest _ A' B' T' a' (hsh.set hr) k1 k2 k3 w' k4).1 hO
   constructor
   · intro hO
     simp only[z4z,Z6] at hO
     obtain⟨hO1,hO2⟩:=hO
     by_cases hm:m=0∨m=3
     · rw[if_pos ⟨trivial,hm⟩] at hO1
       simp only[Z6,Yb] at hO1
       obtain⟨⟨⟨hr,hf⟩,hzk⟩,hso⟩:=hO1
       have hm2:m≠2:=by rcases hm with e|e<;>omega
       have hr':k∈Region.ready md ops L:=by simpa using hr
       have key:∃v,YieldsIf P ops (fun w=>if m=0 then A w else B w) o v a/\zel P md ops Q rest A B T (a.put o.dst v):=by
        rw[if_pos hm] at h'
        split at h'
        · rename_i hwt
          obtain⟨v,h1,h2⟩:=h'
          exact⟨v,.inl ⟨hwt,h1⟩,h2⟩
        · rename_i hwt
          exact⟨undef,.inr ⟨by simpa using hwt,rfl⟩,h'⟩
       obtain⟨v,hy,hK⟩:=key
       have hnz:(SchT.op k m rest).nexts=rest.nexts:=by simp[SchT.nexts,hm2]
       rw[hnz]
       refine zdZ (C:=fun w=>if m=0 then A w else B w) h0 (Region.noSelect_spec hs) (fun c a w h=>hQ c a _ _ w h) (fun L' w'=> ?_) (fun L' w' hsh' hun hS=> ?_) rest.depth L a w hsh (Region.free_spec h0 hf) hr' hy (zuS hAB (hTA _ hw))
        ((z7W hs hQ rest _ A B T _ (hsh.set hr') hAB hTA hK w hw).1 hO2)
       · have:(∃z∈rest.nexts,(L'.setIfInBounds k true).getD z false=true)↔ ∃z∈rest.nexts,L'.getD z false=true:=by
          constructor
          · rintro⟨z,h1,h2⟩
            have hne:z≠k:=fun e=>by rw[←e] at hzk;simp[h1] at hzk
            exact⟨z,h1,by rwa [zli hne] at h2⟩
          · rintro⟨z,h1,h2⟩
            exact⟨z,h1,z9x h2⟩
         simp only[zgH,this]
       · by_cases hm0:m=0
         · rw[if_pos hm0]
           subst hm0
           have hso:(rest.nexts.all fun z=>(zAb md ops ops.size [z]).contains k)=true:=by simpa using hso
           unfold zgH at hS
           split at hS
           · rename_i hlz
             obtain⟨z,hz1,hz2⟩:=hlz
             have h3:=Zn.1 hso z hz1
             have:=zdX hsh' ops.size [z] (fun i hi=>by simp at hi;subst hi;exact hz2) k (by simpa using h3)
             rw[zuk hun] at this
             cases this
           · exact hS
         · rw[if_neg hm0]
           exact zuT hAB hS
     · rw[if_neg (fun hh=>hm hh.2)] at hO1
       simp only[Z6,decide_eq_true_eq,if_true] at hO1
       obtain⟨hm1,hr⟩:=hO1
       have hr':k∈Region.ready md ops L:=by rw[hr];simp
       refine⟨fun h1=>(by rw[h1] at hr;cases hr),fun i hi=> ?_⟩
       rw[hr] at hi
       obtain rfl:i=k:=by simpa using hi
       exact eff _ _ hm1 (fun z hz=>hz) rfl hr' hO2
   · intro hO zs n hz hd i hi
     simp only[z4z,Z6] at hO
     obtain⟨hO1,hO2⟩:=hO
     rw[if_neg (fun hh=>by cases hh.1)] at hO1
     simp only[Z6,decide_eq_true_eq,ZR,if_false] at hO1
     obtain⟨hm1,hr⟩:=hO1
     obtain rfl:i=k:=by simpa[SchT.heads] using hi
     exact eff zs n hm1 hz (by simpa[SchT.depth] using hd) (by simpa using hr) hO2
 | .alt x y,L,A,B,T,a,hsh,hAB,hTA,h,w,hw=>by
   obtain⟨hx,hy⟩:=h
   have sx:=z7W hs hQ x L A B T a hsh hAB hTA hx w hw
   have sy:=z7W hs hQ y L A B T a hsh hAB hTA hy w hw
   have both:z4z md ops false x L=true->z4z md ops false y L=true->x.depth=y.depth->∀(zs:List Nat) (n:Nat),(∀z∈(SchT.alt x y).nexts,z∈zs)->x.depth=n+1->∀i∈x.heads++y.heads,wpOp P ops Q i (fun a' w'=>zgH zs A B (L.setIfInBounds i true) w'/\z7C P md ops Q (zgH zs A B) n (L.setIfInBounds i true) a' w') a w:=fun o1 o2 hd zs n hz hn i hi=>by
    rcases Ze.1 hi with hi|hi
    · exact sx.2 o1 zs n (fun z h=>hz z (by simp[SchT.nexts,h])) hn i hi
    · exact sy.2 o2 zs n (fun z h=>hz z (by simp[SchT.nexts,h])) (by omega) i hi
   constructor
   · intro hO
     simp only[z4z,Z6,decide_eq_true_eq,Xe,Xf] at hO
     obtain⟨⟨⟨h1,h2⟩,h3⟩,h4⟩:=hO
     have hdep:∀(s:SchT),z4z md ops false s L=true->∃n,s.depth=n+1/\ ∃i∈s.heads,i∈Region.ready md ops L:=by
      intro s
      induction s with
      |nil=>intro hh;simp[z4z] at hh
      |op k m r _=>
       intro hh
       simp only[z4z,Z6] at hh
       have hh1:=hh.1
       rw[if_neg (fun hh=>by cases hh.1)] at hh1
       simp only[Z6,ZR,if_false] at hh1
       exact⟨r.depth,rfl,k,by simp[SchT.heads],by simpa using hh1.2⟩
      |alt p q ihp ihq=>
       intro hh
       simp only[z4z,Z6] at hh
       obtain⟨n,e1,i,e2,e3⟩:=ihp hh.1.2
       exact⟨n,e1,i,by simp[SchT.heads,e2],e3⟩
     obtain⟨n,hn,j,hj,hjr⟩:=hdep x h3
     show z7C P md ops Q _ x.depth L a w
     rw[hn]
     refine⟨fun he=>(by rw[he] at hjr;cases hjr),fun i hi=>both h3 h4 h2 _ n (fun z hz=>hz) hn i (h1 i hi)⟩
   · intro hO zs n hz hd i hi
     simp only[z4z,Z6,decide_eq_true_eq] at hO
     obtain⟨⟨⟨_,h2⟩,h3⟩,h4⟩:=hO
     exact both h3 h4 h2 zs n hz hd i hi
theorem zin{id:Nat}{l:List Oper}(s:SchT)(A B T:World->Prop)(hm:P.follows .mixedOrders=true)(hlen:s.depth=l.length)
 (hs:Region.noSelect l.toArray=true) (hO:z4z .any l.toArray true s (Array.replicate l.length false)=true)
 (hAB:∀x,A x->B x) (hTA:∀x,T x->A x) (hT:T w.drew) (h:zel P .any l.toArray (NoPz Q) s A B T a):(Code.region id l.toArray true).wp P Q a w:=by
 refine Code.wp_mono NoPz.imp (wp_region_any hm ?_)
 have hsh:ShutL .any l.toArray (Array.replicate l.length false):=⟨by simp,fun i o ho hL=>by
  simp only[Z7,Array.getElem?_replicate] at hL
  split at hL<;>simp at hL⟩
 have:=(z7W (md:=.any) hs (fun _ _ _ _ _ h=>h) s (Array.replicate l.length false) A B T a hsh hAB hTA h w.drew hT).1 hO
 rw[hlen] at this
 have h2:=zd4 _ _ _ _ this
 simpa using h2
end
end
section
def zb8(P:Program)(C:z0e)(wio:FuncId->Nat->Bool)(fr:Fr)(o:Oper):Option Fr:=
 match o.op with
 | .call {callee:=.value c,args,..}=>(match zbW fr c with
   |some (f,cs)=>(match zh7 fr (wio f) (args.toList.map (opE fr)++cs.map fun t=>.one (.t none t)) 0 with|some (_,_,none)=>zcZ C wio fr f (args.toList.map (opE fr)++cs.map fun t=>.one (.t none t)) o.dst|_=>none)
   |none=>none)
 |op=>(match za3 P noM fr op with
  |some e=>putF fr o.dst e
  |none=>if zig o then zlt P fr o else none)
def zDv(w x:World):Prop:=∀b,b<w.heap.size->x.heap[b]? =w.heap[b]?
theorem zv0{P:Program}{I:World->(Nat->z0a)->Prop}{C:z0e}{wio:FuncId->Nat->Bool}{w:World}{K:Nat->z0a}{R G:Nat->Value}{fr fr':Fr}{a:Act}{o:Oper}{next:Act->World->Prop}{Q:Exit->Act->World->Prop}
 (hI:EnvS I) (hC:z7e P I C) (h:FRep w K R G fr a) (hIw:I w K) (hf:zb8 P C wio fr o=some fr') (hn:∀a' w' K' R',FRep w' K' R' G fr' a'->Step w K w' K'->zDv w w'->next a' w'):o.wp P a w next Q:=by
 unfold zb8 at hf
 split at hf
 · rename_i c args ats hop
   split at hf
   · rename_i f cs hc
     split at hf
     · rename_i ts deps hargs
       obtain⟨vs,q1,q2,q3⟩:=zdU (P:=P) h hop hc
       exact zns hI hC h hIw q1 q2 q3 hf fun a' w' K' R' h1 h2 h3=>hn a' w' K' R' h1 h2 (fun b hb=>(h3 _ _ _ hargs b hb (z8U _)).2)
     · cases hf
   · cases hf
 · split at hf
   · rename_i e he
     obtain⟨v,h1,h2⟩:=zaI h he
     unfold Oper.wp
     rw[h2 w (Stay.refl w K noM)]
     exact hn _ w K R (h.putF h1 hf) (Step.refl _ _) fun _ _=>rfl
   · split at hf
     · rename_i hc
       obtain⟨r,w',h1,h2,h3⟩:=zeO h hf
       unfold Oper.wp
       rw[h1]
       rcases h2 with⟨v,rfl,K',R',e1,e2⟩|⟨rfl,hd,K',R',e1,e2⟩
       · exact hn _ w' K' R' e1 e2 (h3 hc)
       · simp only[Oper.upon,hd]
         exact hn _ w' K' R' e1 e2 (h3 hc)
     · cases hf
def wrF(P:Program)(C:z0e)(wio:FuncId->Nat->Bool)(M:Nat->Bool)(fr:Fr)(o:Oper):Option Fr:=
 match o.op with
 | .call {callee:=.value c,args,..}=>(match zbW fr c with
   |none=>none
   |some (f,cs)=>(match zh7 fr (wio f) (args.toList.map (opE fr)++cs.map fun t=>.one (.t none t)) 0 with
    |some (_,_,none)=>zcZ C wio fr f (args.toList.map (opE fr)++cs.map fun t=>.one (.t none t)) o.dst
    |some (_,_,some (_,id))=>if M id then zcZ C wio fr f (args.toList.map (opE fr)++cs.map fun t=>.one (.t none t)) o.dst else none
    |none=>none))
 | .buildSlice t n parts=>(match o.dst with
   |some d=>if M d=false/\z6l P fr t n parts.toList d=true then z6d P fr t n parts.toList d else none
   |none=>none)
 | .makeSlice t l c=>(match o.dst,rdV (opE fr l),rdV (opE fr c) with
   |some d,some (.int _ l'),some (.int _ c')=>if M d=false then z7R P fr t l' c' d else none
   |_,_,_=>none)
 | .call {callee:=.builtin .append,args,argTypes}=>(match o.dst,args.toList,argTypes.toList with
   |some d,[s,x],[st,xt]=>if M d=true/\(zju (opE fr s)).all M=true/\zjw fr d s x=true then zgP P fr d st xt s x else none
   |_,_,_=>none)
 |_=>none
theorem zAw{P:Program}{I:World->(Nat->z0a)->Prop}{C:z0e}{wio:FuncId->Nat->Bool}{M:Nat->Bool}{w:World}{K:Nat->z0a}{R G:Nat->Value}{fr fr':Fr}{a:Act}{o:Oper}{next:Act->World->Prop}{Q:Exit->Act->World->Prop}
 (hI:EnvS I) (hC:z7e P I C) (h:FRep w K R G fr a) (hIw:I w K) (hf:wrF P C wio M fr o=some fr') (hn:∀a' w' K' R',FRep w' K' R' G fr' a'->Step w K w' K'->(∀x,Stay w' x K' M->Stay w x K M)->next a' w'):o.wp P a w next Q:=by
 unfold wrF at hf
 split at hf
 · rename_i c args ats hop
   split at hf
   · cases hf
   rename_i f cs hc
   obtain⟨vs,q1,q2,q3⟩:=zdU (P:=P) h hop hc
   have fin:∀ts deps io,zh7 fr (wio f) (args.toList.map (opE fr)++cs.map fun t=>.one (.t none t)) 0=some (ts,deps,io)->(∀i id,io=some (i,id)->M id=true)->zcZ C wio fr f (args.toList.map (opE fr)++cs.map fun t=>.one (.t none t)) o.dst=some fr'->o.wp P a w next Q:=fun ts deps io hargs hM hcall=>
    zns hI hC h hIw q1 q2 q3 hcall fun a' w' K' R' h1 h2 h3=>hn a' w' K' R' h1 h2 fun x hx b hb hcb=>by
     have hno:¬zbP io (K b):=by
      rintro⟨i,id,s,e1,e2⟩
      rcases hcb with e|⟨j,q,e,hj⟩
      · rw[e] at e2;cases e2
      · rw[e] at e2
        have:j=id:=by simpa using(List.cons.inj e2).1
        subst this
        have:=hM i j e1
        rw[hj] at this;cases this
     obtain⟨p1,p2⟩:=h3 _ _ _ hargs b hb hno
     rw[hx b (Zx hb h2.size) (by
      rcases p1 with e|e
      · exact .inl e
      · rcases hcb with e2|⟨j,q,e2,hj⟩
        · exact .inl (e.trans e2)
        · exact .inr ⟨j,q,e.trans e2,hj⟩)]
     exact p2
   split at hf
   · rename_i ts deps hargs
     exact fin _ _ _ hargs (fun i id e=>by cases e) hf
   · rename_i ts deps i id hargs
     split at hf
     · rename_i hc
       exact fin _ _ _ hargs (fun i' id' e=>by cases e;simpa using hc) hf
     · cases hf
   · cases hf
 · rename_i t n parts hop
   split at hf
   · rename_i d hd
     split at hf
     · rename_i hc
       obtain⟨v,w',h1,⟨K',R',h2,h3,h4⟩,h5⟩:=zak h hf
       have hrun:(execOp a.eval o).run P w= .ok (.value v) w':=by
        simp only[execOp,hop]
        have:parts.map (fun(x:Nat×Operand)=>(x.1,a.eval x.2))=(parts.toList.map fun(i,x)=>(i,a.eval x)).toArray:=by
         apply Yp;simp
        rw[this]
        simp only[Zc,h1,Z2,Zg]
       unfold Oper.wp
       rw[hrun]
       have h2':FRep w' K' R' G fr' (a.put o.dst v):=by rw[hd];exact h2
       exact hn _ w' K' R' h2' h3 fun x hx b hb hcb=>by
        rw[hx b (Zx hb h3.size) (h4 hc.2 M hc.1 b hb hcb)]
        exact h5 b hb
     · cases hf
   · cases hf
 · rename_i t l c hop
   split at hf
   · rename_i d k l' k' c' hd hl hc'
     split at hf
     · rename_i hc
       obtain⟨e1,-⟩:=z1o (h.opE l) hl
       obtain⟨e2,-⟩:=z1o (h.opE c) hc'
       obtain⟨v,w',h1,⟨K',R',h2,h3,h4⟩,h5⟩:=zbd (k:=k) (k':=k') h hf
       have hrun:(execOp a.eval o).run P w= .ok (.value v) w':=by
        simp only[execOp,hop,e1,e2,Zc,h1,Z2,Zg]
       unfold Oper.wp
       rw[hrun]
       have h2':FRep w' K' R' G fr' (a.put o.dst v):=by rw[hd];exact h2
       exact hn _ w' K' R' h2' h3 fun x hx b hb hcb=>by
        rw[hx b (Zx hb h3.size) (h4 rfl M hc b hb hcb)]
        exact h5 b hb
     · cases hf
   · cases hf
 · rename_i args ats hop
   split at hf
   · rename_i d s x st xt hd ha ht
     split at hf
     · rename_i hc
       obtain⟨c1,c2,c3⟩:=hc
       obtain rfl:args= #[s,x]:=by apply Yp;simpa using ha
       obtain rfl:ats= #[st,xt]:=by apply Yp;simpa using ht
       obtain⟨v,w',h1,⟨K',R',h2,h3,h4⟩,h5⟩:=zii (ty:=o.type) h hf
       have hrun:(execOp a.eval o).run P w= .ok (.value v) w':=by
        simp only[execOp,hop,resolve,Zc,Zg,Z2,invoke,builtin]
        simp[h1]
       unfold Oper.wp
       rw[hrun]
       have h2':FRep w' K' R' G fr' (a.put o.dst v):=by rw[hd];exact h2
       have hb0:∀i∈zju (opE fr s),M i=true:=fun i hi=>Zn.1 c2 i hi
       exact hn _ w' K' R' h2' h3 fun y hy b hb hcb=>by
        rw[hy b (Zx hb h3.size) (h4 c3 M c1 hb0 b hb hcb)]
        refine h5 b hb ?_
        rcases hcb with e|⟨i,q,e,hi⟩
        · exact .inl e
        · refine .inr ⟨i,q,e,?_⟩
          by_cases hm:(zju (opE fr s)).contains i=true
          · have:=hb0 i (by simpa using hm)
            rw[hi] at this;cases this
          · simpa using hm
     · cases hf
   · cases hf
 · cases hf
def zvs(fr:Fr):Option (List Nat)->Fr
 |none=>fr
 |some l=>zzK fr l
theorem zoO{w:World}{G:Nat->Value}{a:Act}{l:Option (List Nat)}{K:Nat->z0a}{R:Nat->Value}{fr:Fr}(h:FRep w K R G fr a):∃K',FRep w K' R G (zvs fr l) a/\Step w K w K':=by
 cases l with
 |none=>exact⟨K,h,Step.refl _ _⟩
 |some l=>exact zje h
def Fro(w:World)(K:Nat->z0a)(x:World):Prop:=∀b,b<w.heap.size->K b= []->x.heap[b]? =w.heap[b]?
theorem Fro.later{w w':World}{K K':Nat->z0a}(s:Step w K w' K'){x:World}(h:Fro w' K' x):Fro w K x:=fun b hb e=>by
 obtain⟨a1,a2⟩:=s.old b hb (.inl e)
 rw[h b (Zx hb s.size) (a1.trans e),a2]
def clsA(same:Bool)(w:World)(K:Nat->z0a)(M:Nat->Bool)(x:World):Prop:=if same then zDv w x else Stay w x K M
theorem clsA.fro{same:Bool}{w:World}{K:Nat->z0a}{M:Nat->Bool}{x:World}(h:clsA same w K M x):Fro w K x:=fun b hb e=>by
 unfold clsA at h
 split at h
 · exact h b hb
 · exact h b hb (.inl e)
theorem clsA.stay{same:Bool}{w:World}{K:Nat->z0a}{M:Nat->Bool}{x:World}(h:clsA same w K M x):Stay w x K M:=fun b hb e=>by
 unfold clsA at h
 split at h
 · exact h b hb
 · exact h b hb e
theorem clsA.self(same:Bool)(w:World)(K:Nat->z0a)(M:Nat->Bool):clsA same w K M w:=by
 unfold clsA
 split
 · exact fun _ _=>rfl
 · exact Stay.refl _ _ _
def zaf(P:Program)(C:z0e)(wio:FuncId->Nat->Bool)(same:Bool)(M:Nat->Bool)(ops:Array Oper):List (Nat×Oper×Nat)->Fr->Option Fr
 | [],fr=>some fr
 |(k,o,m)::rest,fr=>match z6F ops fr o with
  |none=>none
  |some false=>(match putF fr o.dst (.one (.k undef)) with|some fr'=>zaf P C wio same M ops rest fr'|none=>none)
  |some true=>
   if m=0∨m=3 then(match za3 P (if m=0 then M else zDu) fr o.op with
    |some e=>(match putF fr o.dst e with|some fr'=>zaf P C wio same M ops rest fr'|none=>none)
    |none=>none)
   else(match(if m=2 then opF P C wio fr o else if same then zb8 P C wio fr o else wrF P C wio M fr o) with|some fr'=>zaf P C wio same M ops rest fr'|none=>none)
theorem z7S{P:Program}{I:World->(Nat->z0a)->Prop}{C:z0e}{wio:FuncId->Nat->Bool}{same:Bool}{M:Nat->Bool}{ops:Array Oper}{Q:Exit->Act->World->Prop}(hI:EnvS I)(hC:z7e P I C):∀ {l:List (Nat×Oper×Nat)} {w:World} {K:Nat->z0a} {R G:Nat->Value} {fr fr':Fr} {a:Act},FRep w K R G fr a->I w K->zaf P C wio same M ops l fr=some fr'->
 (∀a' w' K' R',FRep w' K' R' G fr' a'->Step w K w' K'->Q .normal a' w')->z7V P .any ops (NoPz Q) l (clsA same w K M) (Fro w K) (fun x=>x=w) a
 | [],w,K,R,G,fr,fr',a,h,hIw,hf,hn=>by
   cases hf
   intro x hx
   subst hx;exact hn a x K R h (Step.refl _ _)
 |(k,o,m)::rest,w,K,R,G,fr,fr',a,h,hIw,hf,hn=>by
  simp only[zaf] at hf
  simp only[z7V]
  split at hf
  · cases hf
  · rename_i hg
    rw[if_neg (by rw[z8W h hg];simp)]
    split at hf
    · rename_i fr1 h1
      exact z7S hI hC (h.putF (v:=undef) (e:=.one (.k undef)) rfl h1) hIw hf hn
    · cases hf
  · rename_i hg
    rw[if_pos (z8W h hg)]
    split at hf
    · rename_i hm
      rw[if_pos hm]
      split at hf
      · rename_i e he
        split at hf
        · rename_i fr1 h1
          obtain⟨v,r1,r2⟩:=zaI h he
          refine⟨v,fun x hx=>r2 x ?_,z7S hI hC (h.putF r1 h1) hIw hf hn⟩
          by_cases hm0:m=0
          · rw[if_pos hm0] at hx⊢;exact hx.stay
          · rw[if_neg hm0] at hx⊢
            intro b hb hc
            rcases hc with hc|⟨i,s,_,hc⟩
            · exact hx b hb hc
            · cases hc
        · cases hf
      · cases hf
    · rename_i hm
      rw[if_neg hm]
      intro x hx
      subst hx
      split at hf
      · rename_i fr1 h1
        by_cases hm2:m=2
        · rw[if_pos hm2] at h1
          exact zz8 hI hC h hIw h1 fun a' w' K' R' hr hs=>⟨clsA same w' K' M,Fro w' K',fun y=>y=w',rfl,fun y hy=>by subst hy;exact clsA.self _ _ _ _,fun y hy=>hy.fro,fun y hy=>hy.later hs,.inl hm2,z7S hI hC hr (hI.step hIw hs) hf fun a2 w2 K2 R2 hr2 hs2=>hn a2 w2 K2 R2 hr2 (hs.trans hs2)⟩
        · rw[if_neg hm2] at h1
          cases same with
          |true=>
           rw[if_pos rfl] at h1
           refine zv0 hI hC h hIw h1 fun a' w' K' R' hr hs hsame=>⟨clsA true w' K' M,Fro w' K',fun y=>y=w',rfl,fun y hy=>by subst hy;exact clsA.self _ _ _ _,fun y hy=>hy.fro,fun y hy=>hy.later hs,.inr fun y hy=> ?_,z7S hI hC hr (hI.step hIw hs) hf fun a2 w2 K2 R2 hr2 hs2=>hn a2 w2 K2 R2 hr2 (hs.trans hs2)⟩
           intro b hb
           have:zDv w' y:=hy
           rw[this b (Zx hb hs.size)]
           exact hsame b hb
          |false=>
           rw[if_neg (by simp)] at h1
           exact zAw hI hC h hIw h1 fun a' w' K' R' hr hs hstay=>⟨clsA false w' K' M,Fro w' K',fun y=>y=w',rfl,fun y hy=>by subst hy;exact clsA.self _ _ _ _,fun y hy=>hy.fro,fun y hy=>hy.later hs,.inr fun y hy=>hstay y hy,z7S hI hC hr (hI.step hIw hs) hf fun a2 w2 K2 R2 hr2 hs2=>hn a2 w2 K2 R2 hr2 (hs.trans hs2)⟩
      · cases hf
def zb3(f g:Fr):Prop:=f.nt=g.nt/\(∀i∈f.tm.map (·.1)++g.tm.map (·.1),z2J f.tm i=z2J g.tm i)/\(∀i∈f.ob.map (·.1)++g.ob.map (·.1),z2f f.ob i=z2f g.ob i)
theorem zj5:∀ {l:List (Nat×E)} {i:Nat},i∉l.map (·.1)->z2J l i= .one .dead
 | [],i,_=>rfl
 |(j,x)::l,i,h=>by
  simp only[Zs,Zu,not_or] at h
  simp only[z2J]
  rw[if_neg (fun e=>h.1 e.symm)]
  exact zj5 h.2
theorem zj3:∀ {l:List (Nat×T)} {i:Nat},i∉l.map (·.1)->z2f l i=none
 | [],i,_=>rfl
 |(j,x)::l,i,h=>by
  simp only[Zs,Zu,not_or] at h
  simp only[z2f]
  rw[if_neg (fun e=>h.1 e.symm)]
  exact zj3 h.2
theorem FRep.same{f g:Fr}(h:zb3 f g){w:World}{K:Nat->z0a}{R G:Nat->Value}{a:Act}(hr:FRep w K R G g a):FRep w K R G f a:=by
 obtain⟨h1,h2,h3⟩:=h
 have e2:∀i,z2J f.tm i=z2J g.tm i:=fun i=>by
  by_cases hi:i∈f.tm.map (·.1)++g.tm.map (·.1)
  · exact h2 i hi
  · simp only[Ze,not_or] at hi
    rw[zj5 hi.1,zj5 hi.2]
 have e3:∀i,z2f f.ob i=z2f g.ob i:=fun i=>by
  by_cases hi:i∈f.ob.map (·.1)++g.ob.map (·.1)
  · exact h3 i hi
  · simp only[Ze,not_or] at hi
    rw[zj3 hi.1,zj3 hi.2]
 have hA:∀x u,ARep w K R g.ob x u->ARep w K R f.ob x u:=fun x u hx=>by
  cases x with
  |dead=>trivial
  |k v=>exact hx
  |t dep x=>exact⟨hx.1,fun i e=>by rw[e3];exact hx.2 i e⟩
  |h i q=>obtain⟨n1,t,n2,n3⟩:=hx;exact⟨n1,t,by rw[e3];exact n2,n3⟩
  |a i q off=>obtain⟨hv,g',n1,n4,n5,t,n2,n3⟩:=hx;exact⟨hv,g',n1,n4,n5,t,by rw[e3];exact n2,n3⟩
  |tf n cs=>exact hx
  |ea dep cs off=>obtain⟨g',o,F,k1,k2,k3,k4,k5,k6⟩:=hx;exact⟨g',o,F,k1,k2,k3,k4,k5,fun i e=>by rw[e3];exact k6 i e⟩
 refine⟨fun i=> ?_,fun id t ht=>hr.ob id t (by rw[←e3];exact ht),by rw[h1];exact hr.nt,hr.df⟩
 rw[e2 i]
 exact(hr.tm i).mono hA
def zBC(k:Nat)(x:E):List (Nat×E)->List (Nat×E)
 | []=> [(k,x)]
 |(j,y)::r=>if k<j then(k,x)::(j,y)::r else if k=j then(k,x)::r else(j,y)::zBC k x r
def zBB(k:Nat)(x:T):List (Nat×T)->List (Nat×T)
 | []=> [(k,x)]
 |(j,y)::r=>if k<j then(k,x)::(j,y)::r else if k=j then(k,x)::r else(j,y)::zBB k x r
def zBg:List (Nat×E)->List (Nat×E)
 | []=> []
 |(k,x)::r=>zBC k x (zBg r)
def zBf:List (Nat×T)->List (Nat×T)
 | []=> []
 |(k,x)::r=>zBB k x (zBf r)
def zy3(fr:Fr):Fr:= {fr with tm:=zBg fr.tm,ob:=zBf fr.ob}
theorem zoN(k:Nat)(x:E)(i:Nat):∀l:List (Nat×E),z2J (zBC k x l) i=if k=i then x else z2J l i
 | []=>rfl
 |(j,y)::r=>by
  simp only[zBC]
  by_cases h1:k<j
  · rw[if_pos h1];rfl
  · rw[if_neg h1]
    by_cases h2:k=j
    · rw[if_pos h2];subst h2
      simp only[z2J]
      by_cases h3:k=i
      · rw[if_pos h3,if_pos h3]
      · rw[if_neg h3,if_neg h3,if_neg h3]
    · rw[if_neg h2]
      simp only[z2J,zoN k x i r]
      by_cases h3:k=i
      · subst h3
        rw[if_neg (fun e=>h2 e.symm),if_pos rfl,if_pos rfl]
      · rw[if_neg h3,if_neg h3]
theorem zoJ(k:Nat)(x:T)(i:Nat):∀l:List (Nat×T),z2f (zBB k x l) i=if k=i then some x else z2f l i
 | []=>rfl
 |(j,y)::r=>by
  simp only[zBB]
  by_cases h1:k<j
  · rw[if_pos h1];rfl
  · rw[if_neg h1]
    by_cases h2:k=j
    · rw[if_pos h2];subst h2
      simp only[z2f]
      by_cases h3:k=i
      · rw[if_pos h3,if_pos h3]
      · rw[if_neg h3,if_neg h3,if_neg h3]
    · rw[if_neg h2]
      simp only[z2f,zoJ k x i r]
      by_cases h3:k=i
      · subst h3
        rw[if_neg (fun e=>h2 e.symm),if_pos rfl,if_pos rfl]
      · rw[if_neg h3,if_neg h3]
theorem zoL(i:Nat):∀l:List (Nat×E),z2J (zBg l) i=z2J l i
 | []=>rfl
 |(k,x)::r=>by simp only[zBg,zoN,zoL i r,z2J]
theorem zoI(i:Nat):∀l:List (Nat×T),z2f (zBf l) i=z2f l i
 | []=>rfl
 |(k,x)::r=>by simp only[zBf,zoJ,zoI i r,z2f]
theorem FRep.nrm{fr:Fr}{w:World}{K:Nat->z0a}{R G:Nat->Value}{a:Act}(h:FRep w K R G fr a):FRep w K R G (zy3 fr) a:=
 FRep.same (f:=zy3 fr) (g:=fr) ⟨rfl,fun i _=>zoL i _,fun i _=>zoI i _⟩ h
def eqV:Value->Value->Bool
 | .bool a,.bool b=>a==b
 | .int k n,.int l m=>decide (k=l)&&decide (n=m)
 | .string a,.string b=>decide (a=b)
 | .pointer none,.pointer none=>true
 | .slice none a b,.slice none c d=>Nat.beq a c&&Nat.beq b d
 | .map none,.map none=>true
 | .nilFunc,.nilFunc=>true
 | .nilIface,.nilIface=>true
 |_,_=>false
theorem zoT{v u:Value}(h:eqV v u=true):v=u:=by
 unfold eqV at h
 split at h<;>first|(cases h;done)|rfl|(simp only[Z6,decide_eq_true_eq,beq_iff_eq] at h;first|(obtain⟨rfl,rfl⟩:=h;rfl)|(subst h;rfl))|skip
 simp only[Z6] at h
 rw[Y0 h.1,Y0 h.2]
def zBJ:List (Value×Value)->List (Value×Value)->Bool
 | [],[]=>true
 |(a,b)::r,(c,d)::s=>eqV a c&&eqV b d&&zBJ r s
 |_,_=>false
theorem zne:∀ {a b:List (Value×Value)},zBJ a b=true->a=b
 | [],[],_=>rfl
 |(a,b)::r,(c,d)::s,h=>by
  simp only[zBJ,Z6] at h
  rw[zoT h.1.1,zoT h.1.2,zne h.2]
mutual
def eqT:T->T->Bool
 | .sc v,.sc u=>eqV v u
 | .dead,.dead=>true
 | .agg a,.agg b=>znf a b
 | .tup a,.tup b=>znf a b
 | .sl n a,.sl m b=>Nat.beq n m&&znf a b
 | .os s n a,.os t m b=>Nat.beq s t&&Nat.beq n m&&znf a b
 | .vr a,.vr b=>znf a b
 | .vo n a,.vo m b=>Nat.beq n m&&znf a b
 | .pr a,.pr b=>znf a b
 | .mp k a,.mp l b=>decide (k=l)&&zBJ a b
 | .mr k a,.mr l b=>decide (k=l)&&zBJ a b
 | .cl f a,.cl g b=>decide (f=g)&&znf a b
 |_,_=>false
def znf:List T->List T->Bool
 | [],[]=>true
 |a::r,b::s=>eqT a b&&znf r s
 |_,_=>false
end
mutual
theorem zuC:∀ {a b:T},eqT a b=true->a=b
 | .sc v,b,h=>by cases b<;>simp only[eqT] at h<;>first|(cases h;done)|rw[zoT h]
 | .dead,b,h=>by cases b<;>simp only[eqT] at h<;>first|(cases h;done)|rfl
 | .agg a,b,h=>by cases b<;>simp only[eqT] at h<;>first|(cases h;done)|rw[z8k h]
 | .tup a,b,h=>by cases b<;>simp only[eqT] at h<;>first|(cases h;done)|rw[z8k h]
 | .sl n a,b,h=>by cases b<;>simp only[eqT,Z6] at h<;>first|(cases h;done)|rw[Y0 h.1,z8k h.2]
 | .os s n a,b,h=>by cases b<;>simp only[eqT,Z6] at h<;>first|(cases h;done)|rw[Y0 h.1.1,Y0 h.1.2,z8k h.2]
 | .vr a,b,h=>by cases b<;>simp only[eqT] at h<;>first|(cases h;done)|rw[z8k h]
 | .vo n a,b,h=>by cases b<;>simp only[eqT,Z6] at h<;>first|(cases h;done)|rw[Y0 h.1,z8k h.2]
 | .pr a,b,h=>by cases b<;>simp only[eqT] at h<;>first|(cases h;done)|rw[z8k h]
 | .mp k a,b,h=>by cases b<;>simp only[eqT,Z6,decide_eq_true_eq] at h<;>first|(cases h;done)|rw[h.1,zne h.2]
 | .mr k a,b,h=>by cases b<;>simp only[eqT,Z6,decide_eq_true_eq] at h<;>first|(cases h;done)|rw[h.1,zne h.2]
 | .mt _ _ _,b,h=>by cases b<;>simp only[eqT] at h<;>cases h
 | .ms _ _ _,b,h=>by cases b<;>simp only[eqT] at h<;>cases h
 | .cl f a,b,h=>by cases b<;>simp only[eqT,Z6,decide_eq_true_eq] at h<;>first|(cases h;done)|rw[h.1,z8k h.2]
theorem z8k:∀ {a b:List T},znf a b=true->a=b
 | [],[],_=>rfl
 |a::r,b::s,h=>by
  simp only[znf,Z6] at h
  rw[zuC h.1,z8k h.2]
 | [],_::_,h=>by simp[znf] at h
 |_::_,[],h=>by simp[znf] at h
end
def eqA:A->A->Bool
 | .dead,.dead=>true
 | .k a,.k b=>eqV a b
 | .t d x,.t e y=>decide (d=e)&&eqT x y
 | .h i p,.h j q=>decide (i=j)&&decide (p=q)
 | .a i p o,.a j q o'=>decide (i=j)&&decide (p=q)&&decide (o=o')
 | .ea d x o,.ea e y o'=>decide (d=e)&&znf x y&&decide (o=o')
 | .tf n x,.tf m y=>decide (n=m)&&znf x y
 |_,_=>false
theorem zyb{a b:A}(h:eqA a b=true):a=b:=by
 cases a<;>cases b<;>simp only[eqA,Z6,decide_eq_true_eq] at h<;>first|(cases h;done)|rfl|(rw[zoT h];done)|(rw[h.1,zuC h.2];done)|(rw[h.1,h.2];done)|(rw[h.1.1,h.1.2,h.2];done)|(rw[h.1.1,z8k h.1.2,h.2];done)|(rw[h.1,z8k h.2];done)
def zDn:List A->List A->Bool
 | [],[]=>true
 |a::r,b::s=>eqA a b&&zDn r s
 |_,_=>false
theorem zuE:∀ {a b:List A},zDn a b=true->a=b
 | [],[],_=>rfl
 |a::r,b::s,h=>by
  simp only[zDn,Z6] at h
  rw[zyb h.1,zuE h.2]
def eqE:E->E->Bool
 | .one a,.one b=>eqA a b
 | .ag a,.ag b=>zDn a b
 |_,_=>false
theorem zBK{a b:E}(h:eqE a b=true):a=b:=by
 cases a<;>cases b<;>simp only[eqE] at h<;>first|(cases h;done)|(rw[zyb h];done)|(rw[zuE h];done)
def zDl:List (Nat×E)->List (Nat×E)->Bool
 | [],[]=>true
 |(i,a)::r,(j,b)::s=>Nat.beq i j&&eqE a b&&zDl r s
 |_,_=>false
theorem zuB:∀ {a b:List (Nat×E)},zDl a b=true->a=b
 | [],[],_=>rfl
 |(i,a)::r,(j,b)::s,h=>by
  simp only[zDl,Z6] at h
  rw[Y0 h.1.1,zBK h.1.2,zuB h.2]
def zDm:List (Nat×T)->List (Nat×T)->Bool
 | [],[]=>true
 |(i,a)::r,(j,b)::s=>Nat.beq i j&&eqT a b&&zDm r s
 |_,_=>false
theorem zuD:∀ {a b:List (Nat×T)},zDm a b=true->a=b
 | [],[],_=>rfl
 |(i,a)::r,(j,b)::s,h=>by
  simp only[zDm,Z6] at h
  rw[Y0 h.1.1,zuC h.1.2,zuD h.2]
def zw2(f g:Fr):Bool:=Nat.beq f.nt g.nt&&zDl f.tm g.tm&&zDm f.ob g.ob
theorem zw1{f g:Fr}(h:zw2 f g=true):zb3 f g:=by
 simp only[zw2,Z6] at h
 have e1:=Y0 h.1.1
 have e2:=zuB h.1.2
 have e3:=zuD h.2
 exact⟨e1,fun i _=>by rw[e2],fun i _=>by rw[e3]⟩
open Classical in
noncomputable def zsG(x y:Fr):Option Fr:=if zw2 x y=true then some x else if zb3 x y then some x else none
theorem zdD{x y z:Fr}(h:zsG x y=some z):x=z/\zb3 x y:=by
 unfold zsG at h
 split at h
 · rename_i hb;cases h;exact⟨rfl,zw1 hb⟩
 · split at h
   · rename_i hs;cases h;exact⟨rfl,hs⟩
   · cases h
theorem zez{x y:Fr}(h:zb3 x y):zsG x y=some x:=by
 unfold zsG
 by_cases hb:zw2 x y=true
 · rw[if_pos hb]
 · rw[if_neg hb,if_pos h]
open Classical in
noncomputable def z6I(P:Program)(C:z0e)(wio:FuncId->Nat->Bool)(same:Bool)(M:Nat->Bool)(ops:Array Oper):SchT->Fr->Option Fr
 | .nil,fr=>some fr
 | .op k m rest,fr=>match ops[k]? with
   |none=>none
   |some o=>match z6F ops fr o with
    |none=>none
    |some false=>(match putF fr o.dst (.one (.k undef)) with|some fr'=>z6I P C wio same M ops rest (zy3 fr')|none=>none)
    |some true=>
     if m=0∨m=3 then(match za3 P (if m=0 then M else zDu) fr o.op with
      |some e=>(match putF fr o.dst e with|some fr'=>z6I P C wio same M ops rest (zy3 fr')|none=>none)
      |none=>none)
     else(match(if m=2 then opF P C wio fr o else if same then zb8 P C wio fr o else wrF P C wio M fr o) with|some fr'=>z6I P C wio same M ops rest (zy3 fr')|none=>none)
 | .alt a b,fr=>match z6I P C wio same M ops a fr,z6I P C wio same M ops b fr with
   |some x,some y=>zsG x y
   |_,_=>none
theorem z6k{P:Program}{I:World->(Nat->z0a)->Prop}{C:z0e}{wio:FuncId->Nat->Bool}{same:Bool}{M:Nat->Bool}{ops:Array Oper}{Q:Exit->Act->World->Prop}(hI:EnvS I)(hC:z7e P I C):∀ {l:SchT} {w:World} {K:Nat->z0a} {R G:Nat->Value} {fr fr':Fr} {a:Act},FRep w K R G fr a->I w K->z6I P C wio same M ops l fr=some fr'->
 (∀a' w' K' R',FRep w' K' R' G fr' a'->Step w K w' K'->Q .normal a' w')->zel P .any ops (NoPz Q) l (clsA same w K M) (Fro w K) (fun x=>x=w) a
 | .nil,w,K,R,G,fr,fr',a,h,hIw,hf,hn=>by
   simp only[z6I,Z9] at hf
   subst hf
   intro x hx
   subst hx;exact hn a x K R h (Step.refl _ _)
 | .alt x y,w,K,R,G,fr,fr',a,h,hIw,hf,hn=>by
   simp only[z6I] at hf
   split at hf
   · rename_i f1 f2 h1 h2
     obtain⟨rfl,hs⟩:=zdD hf
     exact⟨z6k hI hC h hIw h1 hn,z6k hI hC h hIw h2 fun a' w' K' R' hr hst=>hn a' w' K' R' (hr.same hs) hst⟩
   · cases hf
 | .op k m rest,w,K,R,G,fr,fr',a,h,hIw,hf,hn=>by
   simp only[z6I] at hf
   split at hf
   · cases hf
   rename_i o ho
   refine⟨o,ho,?_⟩
   split at hf
   · cases hf
   · rename_i hg
     rw[if_neg (by rw[z8W h hg];simp)]
     split at hf
     · rename_i fr1 h1
       exact z6k hI hC (h.putF (v:=undef) (e:=.one (.k undef)) rfl h1).nrm hIw hf hn
     · cases hf
   · rename_i hg
     rw[if_pos (z8W h hg)]
     split at hf
     · rename_i hm
       rw[if_pos hm]
       split at hf
       · rename_i e he
         split at hf
         · rename_i fr1 h1
           obtain⟨v,r1,r2⟩:=zaI h he
           refine⟨v,fun x hx=>r2 x ?_,z6k hI hC (h.putF r1 h1).nrm hIw hf hn⟩
           by_cases hm0:m=0
           · rw[if_pos hm0] at hx⊢;exact hx.stay
           · rw[if_neg hm0] at hx⊢
             intro b hb hc
             rcases hc with hc|⟨i,s,_,hc⟩
             · exact hx b hb hc
             · cases hc
         · cases hf
       · cases hf
     · rename_i hm
       rw[if_neg hm]
       intro x hx
       subst hx
       split at hf
       · rename_i fr1 h1
         by_cases hm2:m=2
         · rw[if_pos hm2] at h1
           exact zz8 hI hC h hIw h1 fun a' w' K' R' hr hs=>⟨clsA same w' K' M,Fro w' K',fun y=>y=w',rfl,fun y hy=>by subst hy;exact clsA.self _ _ _ _,fun y hy=>hy.fro,fun y hy=>hy.later hs,.inl hm2,z6k hI hC hr.nrm (hI.step hIw hs) hf fun a2 w2 K2 R2 hr2 hs2=>hn a2 w2 K2 R2 hr2 (hs.trans hs2)⟩
         · rw[if_neg hm2] at h1
           cases same with
           |true=>
            rw[if_pos rfl] at h1
            refine zv0 hI hC h hIw h1 fun a' w' K' R' hr hs hsame=>⟨clsA true w' K' M,Fro w' K',fun y=>y=w',rfl,fun y hy=>by subst hy;exact clsA.self _ _ _ _,fun y hy=>hy.fro,fun y hy=>hy.later hs,.inr fun y hy=> ?_,z6k hI hC hr.nrm (hI.step hIw hs) hf fun a2 w2 K2 R2 hr2 hs2=>hn a2 w2 K2 R2 hr2 (hs.trans hs2)⟩
            intro b hb
            have:zDv w' y:=hy
            rw[this b (Zx hb hs.size)]
            exact hsame b hb
           |false=>
            rw[if_neg (by simp)] at h1
            exact zAw hI hC h hIw h1 fun a' w' K' R' hr hs hstay=>⟨clsA false w' K' M,Fro w' K',fun y=>y=w',rfl,fun y hy=>by subst hy;exact clsA.self _ _ _ _,fun y hy=>hy.fro,fun y hy=>hy.later hs,.inr fun y hy=>hstay y hy,z6k hI hC hr.nrm (hI.step hIw hs) hf fun a2 w2 K2 R2 hr2 hs2=>hn a2 w2 K2 R2 hr2 (hs.trans hs2)⟩
       · cases hf
end
section
inductive X where
 |n
 |x (id:Nat)
 |r
def znS:X->Exit
 | .n=>.normal
 | .x id=>.exit id
 | .r=>.ret
structure Cfg where
 wio:FuncId->Nat->Bool
 live:Nat->Option (List Nat)
 dr:Nat->Option (List (Nat×Nat))
 wr:Nat->List Nat:=fun _=> []
 fz:Nat->Option (List Nat):=fun _=>none
 dt:Nat->Option SchT:=fun _=>none
variable{a:Act}{P:Program}{w:World}
def zbg:Code->Nat
 | .region id _ _=>id
 | .seq a _=>zbg a
 | .cond _ a _=>zbg a
 | .block _ c=>zbg c
 | .loop c=>zbg c
 | .scope c=>zbg c
 |_=>0
def onE:E->List Nat
 | .one x=>(onA x).toList
 | .ag xs=>xs.filterMap onA
def ids:List (Nat×E)->List Nat
 | []=> []
 |(_,e)::r=>onE e++ids r
def zh4(ob:List (Nat×T)):List Nat->List (Nat×T)
 | []=> []
 |i::r=>match z2f ob i with|some t=>z6h (zh4 ob r) i t|none=>zh4 ob r
def zh3(tm:List (Nat×E)):List Nat->List (Nat×E)
 | []=> []
 |i::r=>(i,z2J tm i)::zh3 tm r
def z9D(n:Nat):List (Nat×E)->List (Nat×E)
 | []=> []
 |(i,e)::r=>if n<=i then(i,e)::z9D n r else z9D n r
def zqP(l:List Nat)(n:Nat):Nat:=if l.contains 999999 then 1000000000 else n
def z9d(keep:Option (List Nat))(fr:Fr):Fr:=
 match keep with
 |none=>fr
 |some l=> {fr with tm:=zh3 fr.tm l++z9D (zqP l fr.nt) fr.tm,ob:=zh4 fr.ob (ids (zh3 fr.tm l++z9D (zqP l fr.nt) fr.tm))}
theorem z6Z(ob:List (Nat×T)):∀(l:List Nat) (i:Nat),z2f (zh4 ob l) i=if i∈l then z2f ob i else none
 | [],i=>by simp[zh4,z2f]
 |j::r,i=>by
  simp only[zh4]
  split
  · rename_i t ht
    rw[z0A,z6Z ob r i]
    by_cases e:j=i
    · subst e;simp[ht]
    · simp only[if_neg e,Zu,Ne.symm e,false_or]
  · rename_i hn
    rw[z6Z ob r i]
    by_cases e:i=j
    · subst e;simp[hn]
    · simp[e]
theorem zn6(l m:List (Nat×E))(i:Nat):((∃e,(i,e)∈l)/\z2J (l++m) i=z2J l i)∨z2J (l++m) i=z2J m i:=by
 induction l with
 |nil=>exact .inr rfl
 |cons a r ih=>
  obtain⟨j,x⟩:=a
  simp only[ZU,z2J]
  by_cases h:j=i
  · subst h;left;exact⟨⟨x,by simp⟩,by simp⟩
  · simp only[if_neg h]
    rcases ih with⟨⟨e,he⟩,h2⟩|h2
    · left;exact⟨⟨e,by simp[he]⟩,h2⟩
    · right;exact h2
theorem zlf(tm:List (Nat×E)):∀(l:List Nat) (i:Nat),(∃e,(i,e)∈zh3 tm l)->z2J (zh3 tm l) i=z2J tm i
 | [],i,h=>by obtain⟨e,he⟩:=h;cases he
 |j::r,i,h=>by
  simp only[zh3,z2J]
  by_cases e:j=i
  · subst e;simp
  · rw[if_neg e]
    refine zlf tm r i ?_
    obtain⟨x,hx⟩:=h
    simp only[zh3] at hx
    rcases Zu.1 hx with hx|hx
    · cases hx;exact absurd rfl e
    · exact⟨x,hx⟩
theorem zdK(n:Nat):∀(tm:List (Nat×E)) (i:Nat),z2J (z9D n tm) i=z2J tm i∨z2J (z9D n tm) i= .one .dead
 | [],i=>.inl rfl
 |(j,x)::r,i=>by
  simp only[z9D]
  by_cases e:j=i
  · subst e
    split
    · left;simp[z2J]
    · rename_i hn
      right
      have:∀l:List (Nat×E),z2J (z9D n l) j= .one .dead:=by
       intro l
       induction l with
       |nil=>rfl
       |cons b r ih=>
        obtain⟨k,y⟩:=b
        simp only[z9D]
        split
        · simp only[z2J];rw[if_neg (by omega)];exact ih
        · exact ih
      exact this r
  · split
    · simp only[z2J,if_neg e];exact zdK n r i
    · simp only[z2J,if_neg e];exact zdK n r i
theorem zoM:∀ {tm:List (Nat×E)} {i:Nat},z2J tm i= .one .dead∨(i,z2J tm i)∈tm
 | [],i=>.inl rfl
 |(j,x)::r,i=>by
  simp only[z2J]
  by_cases e:j=i
  · subst e;right;simp
  · rw[if_neg e]
    rcases zoM (tm:=r) (i:=i) with h|h
    · exact .inl h
    · exact .inr (by simp[h])
theorem zud:∀ {tm:List (Nat×E)} {i:Nat} {e:E},(i,e)∈tm->∀j∈onE e,j∈ids tm
 |(k,x)::r,i,e,h,j,hj=>by
  simp only[ids,Ze]
  rcases Zu.1 h with h|h
  · cases h;exact .inl hj
  · exact .inr (zud h j hj)
theorem FRep.canon{K:Nat->z0a}{R G:Nat->Value}{fr:Fr}(h:FRep w K R G fr a)(keep:Option (List Nat)):FRep w K R G (z9d keep fr) a:=by
 unfold z9d
 split
 · exact h
 rename_i l
 let tm':=zh3 fr.tm l++z9D (zqP l fr.nt) fr.tm
 have hget:∀i,z2J tm' i=z2J fr.tm i∨z2J tm' i= .one .dead:=fun i=>by
  rcases zn6 (zh3 fr.tm l) (z9D (zqP l fr.nt) fr.tm) i with⟨he,e⟩|e
  · left;rw[show z2J tm' i=_ from e];exact zlf fr.tm l i he
  · rw[show z2J tm' i=_ from e];exact zdK (zqP l fr.nt) fr.tm i
 have hsub:∀i t,z2f (zh4 fr.ob (ids tm')) i=some t->z2f fr.ob i=some t:=fun i t ht=>by
  rw[z6Z] at ht
  split at ht
  · exact ht
  · cases ht
 have hA:∀x u,(∀j,onA x=some j->j∈ids tm')->ARep w K R fr.ob x u->ARep w K R (zh4 fr.ob (ids tm')) x u:=fun x u hx hr=>by
  cases x with
  |dead=>trivial
  |k v=>exact hr
  |t dep x=>exact⟨hr.1,fun i e=>by subst e;rw[z6Z,if_pos (hx i rfl)];exact hr.2 i rfl⟩
  |h i q=>obtain⟨n1,t,n2,n3⟩:=hr;exact⟨n1,t,by rw[z6Z,if_pos (hx i rfl)];exact n2,n3⟩
  |a i q off=>obtain⟨hv,g,n1,n4,n5,t,n2,n3⟩:=hr;exact⟨hv,g,n1,n4,n5,t,by rw[z6Z,if_pos (hx i rfl)];exact n2,n3⟩
  |tf n cs=>exact hr
  |ea dep cs off=>obtain⟨g,o,F,e1,e2,e3,e4,e5,e6⟩:=hr;exact⟨g,o,F,e1,e2,e3,e4,e5,fun i e=>by subst e;rw[z6Z,if_pos (hx i rfl)];exact e6 i rfl⟩
 refine⟨fun i=> ?_,fun id t ht=>h.ob id t (hsub id t ht),h.nt,h.df⟩
 show ERep w K R (zh4 fr.ob (ids tm')) (z2J tm' i) _
 rcases zoM (tm:=tm') (i:=i) with hd|hm
 · rw[hd];trivial
 · rcases hget i with e|e
   · have hr:=h.tm i
     rw[←e] at hr
     have hon:∀j∈onE (z2J tm' i),j∈ids tm':=zud hm
     revert hr hon
     generalize z2J tm' i=ee
     intro hr hon
     cases ee with
     |one x=>exact hA x _ (fun j hj=>hon j (by simp[onE,hj])) hr
     |ag xs=>
      obtain⟨arr,e1,e2,e3⟩:=hr
      exact⟨arr,e1,e2,fun j x hx=>hA x _ (fun k hk=>hon k (by simp only[onE,List.mem_filterMap];exact⟨x,ZM hx,hk⟩)) (e3 j x hx)⟩
   · rw[e];trivial
def zcK(body:Fr->Option (X×Fr))(cn:Fr->Fr):Nat->Fr->Option (X×Fr)
 |0,_=>none
 |n+1,fr=>match body (cn fr) with
  |some (.n,fr')=>zcK body cn n fr'
  |some (x,fr')=>some (x,fr')
  |none=>none
def z6P(P:Program):List Oper->Fr->Option Fr
 | [],fr=>some fr
 |o::l,fr=>match o.op,o.dst with
  | .assign _,some d=>(match zCU P fr o.type d with|some fr'=>z6P P l fr'|none=>none)
  |_,_=>z6P P l fr
theorem zdW{P:Program}{w:World}{G:Nat->Value}{a:Act}:∀ {l:List Oper} {K:Nat->z0a} {R:Nat->Value} {fr fr':Fr},FRep w K R G fr a->z6P P l fr=some fr'->∃K' R',FRep w K' R' G fr' a/\Step w K w K'
 | [],K,R,fr,fr',h,hf=>by cases hf;exact⟨K,R,h,Step.refl _ _⟩
 |o::l,K,R,fr,fr',h,hf=>by
  simp only[z6P] at hf
  split at hf
  · split at hf
    · rename_i fr1 h1
      obtain⟨K1,R1,a1,a2,_,_⟩:=zve h h1
      obtain⟨K2,R2,b1,b2⟩:=zdW (l:=l) a1 hf
      exact⟨K2,R2,b1,a2.trans b2⟩
    · cases hf
  · exact zdW (l:=l) h hf
noncomputable def z8E(P:Program)(C:z0e)(cf:Cfg)(id:Nat)(ops:Array Oper)(fr:Fr):Option Fr:=
 match cf.dt id with
 |some t=>z6I P C cf.wio (cf.wr id).isEmpty (cf.wr id).contains ops t fr
 |none=>(match cf.dr id with
  |some sch=>zaf P C cf.wio (cf.wr id).isEmpty (cf.wr id).contains ops (zcu ops sch) fr
  |none=>none)
noncomputable def z2p(P:Program)(C:z0e)(cf:Cfg)(LF:Nat):Code->Fr->Option (X×Fr)
 | .skip,fr=>some (.n,fr)
 | .label _,fr=>some (.n,fr)
 | .region id ops draw,fr=>
   if draw then(match z8E P C cf id ops (zvs fr (cf.fz id)) with
    |some fr1=>(match z6P P ops.toList fr1 with|some fr2=>some (.n,fr2)|none=>none)
    |none=>none)
   else(match zeo P C cf.wio ops ops.toList (zvs fr (cf.fz id)) with|some fr'=>some (.n,fr')|none=>none)
 | .seq a b,fr=>(match z2p P C cf LF a fr with
   |some (.n,fr')=>z2p P C cf LF b fr'
   |r=>r)
 | .cond c x y,fr=>(match rdV (opE fr c) with
   |some (.bool true)=>z2p P C cf LF x fr
   |some (.bool false)=>z2p P C cf LF y fr
   |_=>none)
 | .block id c,fr=>(match z2p P C cf LF c fr with
   |some (.x i,fr')=>if i=id then some (.n,fr') else some (.x i,fr')
   |r=>r)
 | .scope c,fr=>z2p P C cf LF c fr
 | .loop c,fr=>zcK (fun fr=>z2p P C cf LF c fr) (z9d (cf.live (zbg c))) LF fr
 | .exit id,fr=>some (.x id,fr)
 | .ret,fr=>some (.r,fr)
 |_,_=>none
def zsO(ops:Array Oper)(sch:List (Nat×Nat)):Bool:=
 decide ((zcu ops sch).length=ops.toList.length)&&Region.noSelect ops&&zhY .any ops (zcu ops sch) (Array.replicate ops.toList.length false)
def zbI(ops:Array Oper)(t:SchT):Bool:=
 decide (t.depth=ops.toList.length)&&Region.noSelect ops&&z4z .any ops true t (Array.replicate ops.toList.length false)
def okC(cf:Cfg):Code->Bool
 | .region id ops draw=> !draw||(match cf.dt id with|some t=>zbI ops t|none=>(match cf.dr id with|some sch=>zsO ops sch|none=>true))
 | .seq a b=>okC cf a&&okC cf b
 | .cond _ x y=>okC cf x&&okC cf y
 | .block _ c=>okC cf c
 | .loop c=>okC cf c
 | .scope c=>okC cf c
 |_=>true
theorem zb6{p:Nat->Prop}:∀ {n:Nat},p n->∃m,p m/\ ∀k,p k->m<=k:=by
 intro n
 induction n using Nat.strongRecOn with
 |_ n ih=>
  intro h
  by_cases hc:∃k,k<n/\p k
  · obtain⟨k,hk,hp⟩:=hc
    exact ih k hk hp
  · exact⟨n,h,fun k hp=>Nat.le_of_not_lt fun hk=>hc ⟨k,hk,hp⟩⟩
theorem zjL{c:Code}{Q:Exit->Act->World->Prop}(J:Nat->Act->World->Prop)(round:∀n a w,J n a w->c.wp P (Exit.then (fun a' w'=>∃m,m<n/\J m a' w') Q) a w){n:Nat}(h:J n a w):(Code.loop c).wp P Q a w:=by
 classical
 let L:Act->World->Nat->Prop:=fun a w m=>J m a w/\ ∀k,J k a w->m<=k
 have hL:∀a w,(∃n,J n a w)->∃m,L a w m:=fun a w ⟨n,hn⟩=>zb6 hn
 refine wp_loop (fun a w=>∃n,J n a w) (fun a w=>if h:∃m,L a w m then h.choose else 0) ⟨n,h⟩ fun a w hI=> ?_
 have hI2:=hL a w hI
 obtain⟨hj,hmin⟩:=hI2.choose_spec
 refine Code.wp_mono (fun e a' w' hq=> ?_) (round _ a w hj)
 cases e with
 |normal=>
  obtain⟨m,hm,hJ⟩:=hq
  refine⟨⟨m,hJ⟩,?_⟩
  have hI':=hL a' w' ⟨m,hJ⟩
  rw[dif_pos hI',dif_pos hI2]
  exact X2 (hI'.choose_spec.2 m hJ) hm
 |exit id=>exact hq
 |goto l=>exact hq
 |ret=>exact hq
 |panic ch=>exact hq
 |outgrown=>exact hq
theorem z9z{I:World->(Nat->z0a)->Prop}{C:z0e}{cf:Cfg}{LF:Nat}(hI:EnvS I)(hC:z7e P I C)(hm:P.follows .mixedOrders=true):∀(c:Code) {w:World} {K:Nat->z0a} {R G:Nat->Value} {fr fr':Fr} {x:X} {a:Act} {Q:Exit->Act->World->Prop},okC cf c=true->FRep w K R G fr a->I w K->
 z2p P C cf LF c fr=some (x,fr')->(∀a' w' K' R',FRep w' K' R' G fr' a'->Step w K w' K'->Q (znS x) a' w')->c.wp P Q a w:=by
 intro c
 induction c with
 |skip=>intro w K R G fr fr' x a Q ho h hIw hf hq;cases hf;exact wp_skip (hq a w K R h (Step.refl _ _))
 |label l=>intro w K R G fr fr' x a Q ho h hIw hf hq;cases hf;exact wp_label (hq a w K R h (Step.refl _ _))
 |exit id=>intro w K R G fr fr' x a Q ho h hIw hf hq;cases hf;exact wp_exit (hq a w K R h (Step.refl _ _))
 |ret=>intro w K R G fr fr' x a Q ho h hIw hf hq;cases hf;exact wp_ret (hq a w K R h (Step.refl _ _))
 |goto l=>intro w K R G fr fr' x a Q ho h hIw hf hq;cases hf
 |scope c ih=>
  intro w K R G fr fr' x a Q ho h hIw hf hq
  simp only[okC] at ho
  simp only[z2p] at hf
  refine wp_scope_straight (ih ho h hIw hf fun a' w' K' R' hr hs=> ?_)
  have:=hq a' w' K' R' hr hs
  cases x<;>exact this
 |refuse s=>intro w K R G fr fr' x a Q ho h hIw hf hq;cases hf
 |rangeFunc=>intro w K R G fr fr' x a Q ho h hIw hf hq;cases hf
 |region id ops draw=>
  intro w K R G fr fr' x a Q ho h hIw hf hq
  simp only[z2p] at hf
  split at hf
  · rename_i hd
    subst hd
    split at hf
    · rename_i fr1 h1
      split at hf
      · rename_i fr2 h2
        cases hf
        obtain⟨Kz,hz,hsz⟩:=zoO (l:=cf.fz id) h
        have hd2:FRep w.drew Kz R G (zvs fr (cf.fz id)) a:=hz.keep ⟨fun b hb e=>⟨e,rfl⟩,fun b hb _=>⟨rfl,rfl⟩,Z5 _⟩
        have hId:I w.drew Kz:=hI.keep (hI.step hIw hsz) (Z5 _) fun b hb e=>⟨e,rfl⟩
        have hfin:∀a' w' K' R',FRep w' K' R' G fr1 a'->Step w.drew Kz w' K'->Q .normal a' w':=fun a' w' K' R' hr hs=>by
         obtain⟨K2,R2,e1,e2⟩:=zdW hr h2
         have hs0:Step w Kz w' K':=⟨hs.os,hs.tape,hs.output,hs.size,hs.old,hs.sz⟩
         exact hq a' w' K2 R2 e1 ((hsz.trans hs0).trans e2)
        rw[show Code.region id ops true=Code.region id ops.toList.toArray true by rw[Yy]]
        unfold z8E at h1
        split at h1
        · rename_i t ht
          simp only[okC,ht,zbI,Xe,Xf,Z6,decide_eq_true_eq] at ho
          obtain⟨⟨o1,o2⟩,o3⟩:=ho
          refine zin t (clsA (cf.wr id).isEmpty w.drew Kz (cf.wr id).contains) (Fro w.drew Kz) (fun y=>y=w.drew) hm o1 (by rw[Yy];exact o2) (by rw[Yy];exact o3) (fun y hy=>hy.fro) (fun y hy=>by subst hy;exact clsA.self _ _ _ _) rfl ?_
          rw[Yy]
          exact z6k hI hC hd2 hId h1 hfin
        · rename_i ht
          split at h1
          · rename_i sch hsch
            simp only[okC,ht,hsch,zsO,Xe,Xf,Z6,decide_eq_true_eq] at ho
            obtain⟨⟨o1,o2⟩,o3⟩:=ho
            refine zek sch (clsA (cf.wr id).isEmpty w.drew Kz (cf.wr id).contains) (Fro w.drew Kz) (fun y=>y=w.drew) hm (by rw[Yy];exact o1) (by rw[Yy];exact o2) (by rw[Yy];exact o3) (fun y hy=>hy.fro) (fun y hy=>by subst hy;exact clsA.self _ _ _ _) rfl ?_
            rw[Yy]
            exact z7S hI hC hd2 hId h1 hfin
          · cases h1
      · cases hf
    · cases hf
  · rename_i hd
    have hd':draw=false:=by simpa using hd
    subst hd'
    split at hf
    · rename_i fr1 h1
      cases hf
      obtain⟨Kz,hz,hsz⟩:=zoO (l:=cf.fz id) h
      exact wp_region_list (zhV hI hC hz (hI.step hIw hsz) h1 fun a' w' K' R' hr hs=>hq a' w' K' R' hr (hsz.trans hs))
    · cases hf
 |seq c1 c2 ih1 ih2=>
  intro w K R G fr fr' x a Q ho h hIw hf hq
  simp only[okC,Z6] at ho
  simp only[z2p] at hf
  refine wp_seq ?_
  split at hf
  · rename_i fr1 h1
    exact ih1 ho.1 h hIw h1 fun a1 w1 K1 R1 hr hs=>ih2 ho.2 hr (hI.step hIw hs) hf fun a2 w2 K2 R2 hr2 hs2=>hq a2 w2 K2 R2 hr2 (hs.trans hs2)
  · rename_i hne
    cases x with
    |n=>exact absurd hf (hne _)
    |x id=>exact ih1 ho.1 h hIw hf fun a1 w1 K1 R1 hr hs=>hq a1 w1 K1 R1 hr hs
    |r=>exact ih1 ho.1 h hIw hf fun a1 w1 K1 R1 hr hs=>hq a1 w1 K1 R1 hr hs
 |cond c x1 y1 ih1 ih2=>
  intro w K R G fr fr' x a Q ho h hIw hf hq
  simp only[okC,Z6] at ho
  simp only[z2p] at hf
  split at hf
  · rename_i hc
    obtain⟨e1,-⟩:=z1o (h.opE c) hc
    exact wp_cond_true e1 (ih1 ho.1 h hIw hf hq)
  · rename_i hc
    obtain⟨e1,-⟩:=z1o (h.opE c) hc
    exact wp_cond_false e1 (ih2 ho.2 h hIw hf hq)
  · cases hf
 |block id c ih=>
  intro w K R G fr fr' x a Q ho h hIw hf hq
  simp only[okC] at ho
  simp only[z2p] at hf
  refine wp_block ?_
  split at hf
  · rename_i i fr1 h1
    split at hf
    · rename_i hi
      cases hf
      exact ih ho h hIw h1 fun a1 w1 K1 R1 hr hs=>by
       simp only[znS,Exit.inBlock,if_pos hi];exact hq a1 w1 K1 R1 hr hs
    · rename_i hi
      cases hf
      exact ih ho h hIw h1 fun a1 w1 K1 R1 hr hs=>by
       simp only[znS,Exit.inBlock,if_neg hi];exact hq a1 w1 K1 R1 hr hs
  · rename_i hne
    cases x with
    |n=>exact ih ho h hIw hf fun a1 w1 K1 R1 hr hs=>hq a1 w1 K1 R1 hr hs
    |x i=>exact absurd hf (hne _ _)
    |r=>exact ih ho h hIw hf fun a1 w1 K1 R1 hr hs=>hq a1 w1 K1 R1 hr hs
 |loop c ih=>
  intro w K R G fr fr' x a Q ho h hIw hf hq
  simp only[okC] at ho
  simp only[z2p] at hf
  refine zjL (fun n a1 w1=>∃fr1 K1 R1,FRep w1 K1 R1 G fr1 a1/\Step w K w1 K1/\zcK (fun fr=>z2p P C cf LF c fr) (z9d (cf.live (zbg c))) n fr1=some (x,fr')) (fun n a1 w1 hJ=> ?_) ⟨fr,K,R,h,Step.refl _ _,hf⟩
  obtain⟨fr1,K1,R1,h1,hs1,hi⟩:=hJ
  cases n with
  |zero=>cases hi
  |succ n=>
   simp only[zcK] at hi
   split at hi
   · rename_i fr2 h2
     exact ih ho (h1.canon _) (hI.step hIw hs1) h2 fun a2 w2 K2 R2 hr hs=>⟨n,XA n,fr2,K2,R2,hr,hs1.trans hs,hi⟩
   · rename_i x2 fr2 hne h2
     cases hi
     cases x with
     |n=>exact absurd rfl (hne)
     |x i=>exact ih ho (h1.canon _) (hI.step hIw hs1) h2 fun a2 w2 K2 R2 hr hs=>hq a2 w2 K2 R2 hr (hs1.trans hs)
     |r=>exact ih ho (h1.canon _) (hI.step hIw hs1) h2 fun a2 w2 K2 R2 hr hs=>hq a2 w2 K2 R2 hr (hs1.trans hs)
   · cases hi
end
section
variable{K:Nat->z0a}{w:World}
def z8Z(i:Nat):T->E
 | .vr _=>.one (.a i [] 0)
 | .os _ _ _=>.one (.h i [])
 | .vo off _=>.one (.a i [] off)
 | .pr cs=>.one (.ea none cs 0)
 |t=>.one (.t none t)
def z7u(nt:Nat):List T->Nat->List (Nat×E)
 | [],_=> []
 |t::ts,i=>if z6i t then(i,z8Z i t)::(nt+1000+i,z8Z i t)::z7u nt ts (i+1) else(i,z8Z i t)::z7u nt ts (i+1)
def zB8:T->T
 | .vo _ cs=>.vr cs
 |t=>t
def z6N:List T->Nat->List (Nat×T)
 | [],_=> []
 |t::ts,i=>if z6i t then(i,zB8 t)::z6N ts (i+1) else z6N ts (i+1)
theorem zdQ:∀(ts:List T) (i j:Nat) (t:T),z2f (z6N ts i) j=some t->i<=j/\ ∃t0,t=zB8 t0/\ts[j-i]? =some t0/\z6i t0=true
 | [],i,j,t,h=>by cases h
 |t0::ts,i,j,t,h=>by
  simp only[z6N] at h
  split at h
  · rename_i hio
    simp only[z2f] at h
    split at h
    · rename_i e
      cases h
      subst e
      exact⟨Z5 _,t0,rfl,by simp,hio⟩
    · obtain⟨h1,t1,h0,h2,h3⟩:=zdQ ts (i+1) j t h
      exact⟨by omega,t1,h0,by rw[show j-i=(j-(i+1))+1 by omega,ZT];exact h2,h3⟩
  · obtain⟨h1,t1,h0,h2,h3⟩:=zdQ ts (i+1) j t h
    exact⟨by omega,t1,h0,by rw[show j-i=(j-(i+1))+1 by omega,ZT];exact h2,h3⟩
theorem zls:∀(ts:List T) (i j:Nat) (t:T),ts[j]? =some t->z6i t=true->z2f (z6N ts i) (i+j)=some (zB8 t)
 | [],i,j,t,h,_=>by simp at h
 |t0::ts,i,0,t,h,hio=>by
  simp at h;subst h
  simp[z6N,hio,z2f]
 |t0::ts,i,j+1,t,h,hio=>by
  have ih:=zls ts (i+1) j t (by simpa using h) hio
  rw[show i+1+j=i+(j+1) by omega] at ih
  simp only[z6N]
  split
  · simp only[z2f];rw[if_neg (by omega)];exact ih
  · exact ih
theorem zid(nt:Nat):∀(ts:List T) (i k:Nat),z2J (z7u nt ts i) k= .one .dead∨ ∃j t,ts[j]? =some t/\z2J (z7u nt ts i) k=z8Z (i+j) t/\(k=i+j∨(z6i t=true/\k=nt+1000+(i+j)))
 | [],i,k=>.inl rfl
 |t::ts,i,k=>by
  have rest:z2J (z7u nt ts (i+1)) k= .one .dead∨ ∃j t',(t::ts)[j]? =some t'/\z2J (z7u nt ts (i+1)) k=z8Z (i+j) t'/\(k=i+j∨(z6i t'=true/\k=nt+1000+(i+j))):=by
   rcases zid nt ts (i+1) k with h|⟨j,t',h1,h2,h3⟩
   · exact .inl h
   · refine .inr ⟨j+1,t',by simpa using h1,by rw[h2];congr 1;omega,?_⟩
     rcases h3 with h3|⟨h3,h4⟩
     · left;omega
     · right;exact⟨h3,by omega⟩
  simp only[z7u]
  split
  · rename_i hio
    simp only[z2J]
    split
    · rename_i e;exact .inr ⟨0,t,rfl,rfl,.inl e.symm⟩
    · split
      · rename_i e;exact .inr ⟨0,t,rfl,rfl,.inr ⟨hio,e.symm⟩⟩
      · exact rest
  · simp only[z2J]
    split
    · rename_i e;exact .inr ⟨0,t,rfl,rfl,.inl e.symm⟩
    · exact rest
def z6H(nt:Nat)(args:List T):Fr:=⟨nt,z7u nt args 0,z6N args 0⟩
def zxm:Option T->Value->Value
 |some (.vo _ _),.pointer (some a)=>.pointer (some ⟨a.block,0,none⟩)
 |_,v=>v
theorem zgD{args:List T}{vals:Array Value}{nt:Nat}(hs:vals.size=args.length)(hr:∀i t,args[i]? =some t->zil w K i (vals.getD i undef) t)(hn:args.length<=nt):
 FRep w K (fun i=>zxm (args[i]?) (vals.getD i undef)) (fun i=>vals.getD (i-(nt+1000)) undef) (z6H nt args) {tmps:=vals++Array.replicate (nt-vals.size) undef,defers:= []}:=by
 refine⟨fun k=> ?_,fun id t ht=> ?_,by simp[z6H];omega,rfl⟩
 · show ERep w K _ (z6N args 0) (z2J (z7u nt args 0) k) _
   rcases zid nt args 0 k with h|⟨j,t,h1,h2,h3⟩
   · rw[h];trivial
   · rw[h2,Zp]
     have hlt:=(Z8.1 h1).1
     have hreg:z9I {tmps:=vals++Array.replicate (nt-vals.size) undef,defers:= []} (fun i=>vals.getD (i-(nt+1000)) undef) k=vals.getD j undef:=by
      rcases h3 with e|⟨_,e⟩
      · have hk:k=j:=by omega
        subst hk
        rw[z9I,if_pos (by simp;omega)]
        simp only[Z7,X8]
        rw[if_pos (by omega)]
      · rw[z9I,if_neg (by simp;omega),e,show nt+1000+(0+j)-(nt+1000)=j by omega]
     rw[hreg]
     have hr':=hr j t h1
     unfold zil at hr'
     have hob:z6i t=true->z2f (z6N args 0) j=some (zB8 t):=fun hio=>by
      have:=zls args 0 j t h1 hio
      rwa [Zp] at this
     cases t with
     |vr cs=>
      have hob':=hob rfl
      simp only[z6i,if_true] at hr'
      generalize hv:vals.getD j undef=v at hr'
      have hvv:v=vals.getD j undef:=hv.symm
      cases hr' with
      |vr c g cs arr e fz F hfz hc0 hK hg hl hF hh=>exact⟨_,g,rfl,by simp[hv,h1,zxm,z6O],rfl,_,hob',rfl⟩
     |os sz n cs=>exact⟨by simp[h1,zxm,nav],_,hob rfl,rfl⟩
     |vo off cs=>
      have hob':=hob rfl
      simp only[z6i,if_true] at hr'
      generalize hv:vals.getD j undef=v at hr'
      cases hr' with
      |vo c g off cs h2=>exact⟨.pointer (some ⟨g,0,none⟩),g,by simp[hv,h1,zxm,nav],rfl,rfl,_,hob',rfl⟩
     |pr cs=>
      simp only[z6i,ZR,if_false] at hr'
      generalize hv:vals.getD j undef=v at hr'
      cases hr' with
      |pr c g o cs F hK hg hF hh=>exact⟨g,o,F,rfl,hK,hg,hF,hh,fun _ e=>by cases e⟩
     |sc v=>exact⟨hr',fun _ e=>by cases e⟩
     |dead=>exact⟨hr',fun _ e=>by cases e⟩
     |agg cs=>exact⟨hr',fun _ e=>by cases e⟩
     |tup cs=>exact⟨hr',fun _ e=>by cases e⟩
     |mp kk es=>exact⟨hr',fun _ e=>by cases e⟩
     |mr kk es=>exact⟨hr',fun _ e=>by cases e⟩
     |mt=>exact⟨hr',fun _ e=>by cases e⟩
     |ms=>exact⟨hr',fun _ e=>by cases e⟩
     |cl f cs=>exact⟨hr',fun _ e=>by cases e⟩
     |sl n cs=>exact⟨hr',fun _ e=>by cases e⟩
 · obtain⟨h1,t0,h0,h2,h3⟩:=zdQ args 0 id t ht
   have h2':args[id]? =some t0:=by simpa using h2
   have:=hr id t0 h2'
   unfold zil at this
   rw[h3] at this
   simp only[if_true] at this
   rw[h2',h0]
   cases t0 with
   |vo off cs=>
    generalize hv:vals.getD id undef=v at this
    cases this with
    |vo c g off cs h2=>exact h2
   |_=>exact this
def zAT(P:Program)(fr:Fr):ResultVar->Option E
 | .tmp t=>if t<fr.nt then some (z2J fr.tm t) else none
 | .cell ad ty=>if ad<fr.nt then zqt P noM fr ty (z2J fr.tm ad) else none
def zst(P:Program)(fr:Fr):List ResultVar->Option (List E)
 | []=>some []
 |r::rs=>match zAT P fr r,zst P fr rs with|some e,some es=>some (e::es)|_,_=>none
def zAk:ResultVar->Array Value->Sem Value
 | .tmp t,tmps=>pure (tmps.getD t undef)
 | .cell a t,tmps=>do loadVar t (←asAddr (tmps.getD a undef))
theorem zw8{P:Program}{R G:Nat->Value}{fr:Fr}{a:Act}{r:ResultVar}{e:E}(h:FRep w K R G fr a)(hr:zAT P fr r=some e):∃v,ERep w K R fr.ob e v/\(zAk r a.tmps).run P w= .ok v w:=by
 have hreg:∀t,t<fr.nt->ERep w K R fr.ob (z2J fr.tm t) (a.tmps.getD t undef):=fun t ht=>by
  have:=h.tm t
  rwa [z9I,if_pos (by rw[h.nt];exact ht)] at this
 cases r with
 |tmp t=>
  simp only[zAT] at hr
  split at hr
  · rename_i ht
    cases hr
    exact⟨_,hreg t ht,by simp[zAk]⟩
  · cases hr
 |cell ad ty=>
  simp only[zAT] at hr
  split at hr
  · rename_i ht
    obtain⟨v,h1,h2⟩:=zoq h (hreg ad ht) hr
    refine⟨v,h1,?_⟩
    have h3:=h2 w (Stay.refl w K noM)
    have hp:∃ad',a.tmps.getD ad undef= .pointer (some ad'):=by
     have hx:=hreg ad ht
     unfold zqt at hr
     split at hr
     · cases hr
     · split at hr
       · rename_i id p off hg
         rw[hg] at hx
         obtain⟨hv,g,_,_,n5,_⟩:=hx
         exact⟨_,n5⟩
       · rename_i dep cs off hg
         rw[hg] at hx
         obtain⟨g,o,F,n5,_⟩:=hx
         exact⟨_,n5⟩
       · cases hr
    obtain⟨ad',hp⟩:=hp
    rw[hp] at h3
    simp only[zAk,hp,asAddr,Zc,Zg,Z2]
    simpa[Instr.loadAt,Instr.sureAddr] using h3
  · cases hr
theorem zkP{P:Program}{w:World}{K:Nat->z0a}{R G:Nat->Value}{fr:Fr}{a:Act}(h:FRep w K R G fr a):∀ {rs:List ResultVar} {es:List E},zst P fr rs=some es->
 ∃vs:List Value,vs.length=es.length/\es.length=rs.length/\(∀j e,es[j]? =some e->ERep w K R fr.ob e (vs.getD j undef))/\(rs.mapM (fun r=>zAk r a.tmps)).run P w= .ok vs w
 | [],es,hr=>by cases hr;exact⟨[],rfl,rfl,fun j e hj=>by simp at hj,by simp⟩
 |r::rs,es,hr=>by
  simp only[zst] at hr
  split at hr
  · rename_i e es' h1 h2
    cases hr
    obtain⟨v,a1,a2⟩:=zw8 h h1
    obtain⟨vs,b1,b0,b2,b3⟩:=zkP h h2
    refine⟨v::vs,by simp[b1],by simp[b0],fun j e hj=> ?_,?_⟩
    · match j,hj with
      |0,hj=>simp at hj;subst hj;simpa using a1
      |j+1,hj=>simpa using b2 j e (by simpa using hj)
    · rw[List.mapM_cons]
      simp only[Zc,a2,b3,Z2,Zg]
  · cases hr
def zkD:E->T
 | .one _=>.dead
 | .ag xs=>.agg (xs.map fun _=>.dead)
def zb7:List E->List A
 | []=> []
 | .one x::es=>x::zb7 es
 | .ag xs::es=>xs++zb7 es
def zed:Nat->Nat->List E->List (List Nat×Nat)
 |_,_,[]=> []
 |j,base,.one x::es=>([j],base)::zed (j+1) (base+1) es
 |j,base,.ag xs::es=>(List.range xs.length).map (fun i=>([j,i],base+i))++zed (j+1) (base+xs.length) es
theorem zbH{w:World}{K:Nat->z0a}{R:Nat->Value}{ob:List (Nat×T)}:∀ {es:List E} {us:List Value} {j0 base:Nat},us.length=es.length->(∀j e,es[j]? =some e->ERep w K R ob e (us.getD j undef))->
 ∃vs:List Value,vs.length=(zb7 es).length/\(∀k x,(zb7 es)[k]? =some x->ARep w K R ob x (vs.getD k undef))/\
  ∀q r,(q,r)∈zed j0 base es->∃k,k<vs.length/\r=base+k/\ ∃j q',q=(j0+j)::q'/\j<es.length/\nav w (us.getD j undef) q'=some (vs.getD k undef)
 | [],us,j0,base,hl,hr=>⟨[],rfl,fun k x hk=>by simp[zb7] at hk,fun q r hm=>by cases hm⟩
 | .one x::es,us,j0,base,hl,hr=>by
   match us,hl with
   |u::us,hl=>
    obtain⟨vs,a1,a2,a3⟩:=zbH (es:=es) (us:=us) (j0:=j0+1) (base:=base+1) (by simpa using hl) (fun j e hj=>by simpa using hr (j+1) e (by simpa using hj))
    refine⟨u::vs,by simp[zb7,a1],fun k y hk=> ?_,fun q r hm=> ?_⟩
    · match k,hk with
      |0,hk=>simp[zb7] at hk;subst hk;exact(hr 0 (.one x) rfl:ERep w K R ob (.one x) u)
      |k+1,hk=>simpa using a2 k y (by simpa[zb7] using hk)
    · simp only[zed] at hm
      rcases Zu.1 hm with hm|hm
      · cases hm
        exact⟨0,by simp,by simp,0,[],by simp,by simp,by simp[nav]⟩
      · obtain⟨k,k1,k2,j,q',k3,k4,k5⟩:=a3 q r hm
        exact⟨k+1,by simpa using k1,by omega,j+1,q',by rw[k3];congr 1;omega,by simpa using k4,by simpa using k5⟩
 | .ag xs::es,us,j0,base,hl,hr=>by
   match us,hl with
   |u::us,hl=>
    obtain⟨arr,b1,b2,b3⟩:=hr 0 (.ag xs) rfl
    obtain⟨vs,a1,a2,a3⟩:=zbH (es:=es) (us:=us) (j0:=j0+1) (base:=base+xs.length) (by simpa using hl) (fun j e hj=>by simpa using hr (j+1) e (by simpa using hj))
    have hal:arr.toList.length=xs.length:=by simpa using b2
    refine⟨arr.toList++vs,by simp[zb7,a1,b2],fun k y hk=> ?_,fun q r hm=> ?_⟩
    · simp only[zb7] at hk
      by_cases hlt:k<xs.length
      · rw[ZL hlt] at hk
        have:=b3 k y hk
        have e1:(arr.toList++vs).getD k undef=arr.getD k undef:=by
         simp only[YX,ZL (show k<arr.toList.length by omega),Zv,Z7]
        rw[e1];exact this
      · rw[Y5 (by omega)] at hk
        have:=a2 _ y hk
        have e1:(arr.toList++vs).getD k undef=vs.getD (k-xs.length) undef:=by
         simp only[YX,Y5 (show arr.toList.length<=k by omega),hal]
        rw[e1];exact this
    · simp only[zed,Ze,Zm,Zk] at hm
      rcases hm with⟨i,hi,he⟩|hm
      · cases he
        have hia:i<arr.size:=by omega
        refine⟨i,by simp;omega,rfl,0,[i],by simp,by simp,?_⟩
        have e1:(arr.toList++vs).getD i undef=arr.getD i undef:=by
         simp only[YX,ZL (show i<arr.toList.length by omega),Zv,Z7]
        rw[e1]
        have hu:(u::us).getD 0 undef= .agg arr:=by simpa using b1
        rw[hu]
        simp[nav,zep,Z7,hia]
      · obtain⟨k,k1,k2,j,q',k3,k4,k5⟩:=a3 q r hm
        refine⟨xs.length+k,by simp;omega,by omega,j+1,q',by rw[k3];congr 1;omega,by simpa using k4,?_⟩
        have e1:(arr.toList++vs).getD (xs.length+k) undef=vs.getD k undef:=by
         simp only[YX,Y5 (show arr.toList.length<=xs.length+k by omega),hal]
         congr 2;omega
        rw[e1];simpa using k5
end
section
variable{a:Act}{cf:Cfg}{fr:Fr}{fn:Func}{args outs:List T}{G R:Nat->Value}{K:Nat->z0a}{P:Program}{r:T}{w:World}
def zBa(fr:Fr)(g:Nat):T:=
 match z2J fr.tm g with
 | .one (.h e [])=>(match z2f fr.ob e with|some t=>t|none=>.dead)
 | .one (.a e [] 0)=>(match z2f fr.ob e with|some (.vr cs)=>.vr cs|_=>.dead)
 |_=>.dead
def zB9(fr:Fr)(g:Nat):T:=
 match z2J fr.tm g with
 | .one (.a e [] off)=>(match z2f fr.ob e with|some (.vr cs)=>.vo off cs|_=>.dead)
 |_=>.dead
def zDh:T->Bool
 | .vo _ _=>true
 |_=>false
theorem TRep.vr_val{c:z0a}{v:Value}{cs:List T}{g:Nat}(h:TRep w K c v (.vr cs))(hb:z6O v=some g):v= .pointer (some ⟨g,0,none⟩):=by
 cases h with
 |vr c g' cs arr e fz F hfz hc0 hK hg hl hF hh=>
  simp only[z6O,Z9] at hb
  rw[hb]
def zql(fr:Fr)(g:Nat):Option Nat:=
 match z2J fr.tm g with
 | .one (.h e [])=>some e
 | .one (.a e [] _)=>some e
 |_=>none
def zkZ(fr:Fr)(nt:Nat):List T->Nat->List T
 | [],_=> []
 |t::ts,i=>(if zDh t then zB9 fr (nt+1000+i) else if z6i t then zBa fr (nt+1000+i) else .dead)::zkZ fr nt ts (i+1)
theorem zkY(fr:Fr)(nt:Nat):∀(ts:List T) (i j:Nat) (t:T),ts[j]? =some t->z6i t=true->(zkZ fr nt ts i)[j]? =some (if zDh t then zB9 fr (nt+1000+(i+j)) else zBa fr (nt+1000+(i+j)))
 | [],i,j,t,h,_=>by simp at h
 |t0::ts,i,0,t,h,hio=>by simp at h;subst h;simp[zkZ,hio]
 |t0::ts,i,j+1,t,h,hio=>by
  simp only[zkZ,ZT]
  rw[zkY fr nt ts (i+1) j t (by simpa using h) hio]
  rw[show i+1+j=i+(j+1) by omega]
def ziX:List T->Nat->Option Nat
 | [],_=>none
 |t::ts,i=>if z6i t then some i else ziX ts (i+1)
theorem zov:∀(ts:List T) (i j:Nat) (t:T),(ts.filter z6i).length<=1->ts[j]? =some t->z6i t=true->ziX ts i=some (i+j)
 | [],i,j,t,_,h,_=>by simp at h
 |t0::ts,i,0,t,_,h,hio=>by simp at h;subst h;simp[ziX,hio]
 |t0::ts,i,j+1,t,hl,h,hio=>by
  have h':ts[j]? =some t:=by simpa using h
  by_cases h0:z6i t0=true
  · exfalso
    have hm:t∈ts.filter z6i:=by simp[ZM h',hio]
    have:=YT hm
    simp only[X0,h0,if_true,Zr] at hl
    omega
  · have h0':z6i t0=false:=by simpa using h0
    simp only[ziX,h0',ZR,if_false]
    rw[zov ts (i+1) j t (by simpa[X0,h0'] using hl) h' hio]
    congr 1;omega
def zsK(fr:Fr)(nt:Nat)(args:List T):Option Nat:=match ziX args 0 with|some i=>zql fr (nt+1000+i)|none=>none
def zAX(fr:Fr)(nt:Nat)(args:List T):Fr:=
 match ziX args 0 with
 |none=>fr
 |some i=>match z2J fr.tm (nt+1000+i) with
  | .one (.a e (j::p) 0)=>(zdu fr e (j::p) (fr.nt+7)).getD fr
  |_=>fr
def zoR(P:Program)(fn:Func)(args:List T)(fr:Fr):Option (T×List T):=
 match zst P fr fn.results.toList with
 |none=>none
 |some es=>
  if(zb7 es).length<=900/\fr.nt=fn.ntmps then
   match plugL true {fr with tm:=z6J (kill fr.nt) (putR fr.tm (fr.nt+1) (zb7 es)),ob:=z6h fr.ob fr.nt (.tup (es.map zkD))} fr.nt (zed 0 (fr.nt+1) es) with
   |none=>none
   |some fr2=>
    if zsK fr2 fn.ntmps args=some fr.nt then none else
    match z2f fr2.ob fr.nt with
    |some (.tup ts)=>
     if es.length=1 then(match ts with| [t]=>some (t,zkZ fr2 fn.ntmps args 0)|_=>none)
     else some (.tup ts,zkZ fr2 fn.ntmps args 0)
    |_=>none
  else none
def zcS(P:Program)(fn:Func)(args:List T)(fr:Fr):Option (T×List T):=zoR P fn args (zAX fr fn.ntmps args)
def zze(cf:Cfg)(o:Option (T×List T)):Option (T×List T):=match cf.fz 999998 with|none=>o|some _=>o.map fun x=>(z1P x.1,x.2)
def dz:z0a->z0a
 |0::_=> []
 |c=>c
theorem zsQ{o:Option (T×List T)}(h:zze cf o=some (r,outs)):∃r0,o=some (r0,outs)/\(r=r0∨r=z1P r0):=by
 unfold zze at h
 split at h
 · exact⟨r,h,.inl rfl⟩
 · rw[Z4] at h
   obtain⟨⟨r0,outs0⟩,h1,h2⟩:=h
   cases h2
   exact⟨r0,h1,.inr rfl⟩
noncomputable def zkL(P:Program)(C:z0e)(cf:Cfg)(LF:Nat)(fn:Func)(args:List T):Option (T×List T):=
 if args.length<=fn.ntmps/\(args.filter z6i).length<=1 then
  match fn.body with
  |none=>none
  |some c=>match z2p P C cf LF c (z6H fn.ntmps args) with
   |some (.n,fr)=>zze cf (zcS P fn args fr)
   |some (.r,fr)=>zze cf (zcS P fn args fr)
   |_=>none
 else none
theorem zsb{ob:List (Nat×T)}{e:E}{u:Value}(h:ERep w K R ob e u)(c:z0a):TRep w K c u (zkD e):=by
 cases e with
 |one x=>exact .dead c u
 |ag xs=>
  obtain⟨arr,rfl,h2,h3⟩:=h
  refine .agg c arr _ (fun j=>arr.getD j undef) (by simpa using h2) (fun j hj=>z5z _ _ (by simp at hj;omega)) (fun j t ht=> ?_)
  simp only[Zd,Z4] at ht
  obtain⟨y,hy,rfl⟩:=ht
  exact .dead _ _
theorem zq8(fn:Func)(tmps:Array Value):results fn tmps=(do let vs←fn.results.mapM (fun r=>zAk r tmps);pure (if h:vs.size=1 then vs[0] else .tuple vs)):=by
 unfold results
 congr 1
 congr 1
 funext r
 cases r<;>rfl
def zvu(N:Nat)(e0:Option (Nat×Nat))(one:Bool):z0a->z0a
 | []=> []
 |h::s=>if h=N+2 then(if one then(match s with|0::s'=>0::s'|_=> [1]) else 0::s)
  else match e0 with|some (e,i)=>if h=e+2 then(i+2)::s else [1]|none=> [1]
theorem zoQ(h:FRep w K R G fr a)(hx:zoR P fn args fr=some (r,outs))(h1:(args.filter z6i).length<=1):
 ∃v K',(results fn a.tmps).run P w= .ok v w/\TRep w K' [0] v r/\(∀i t,args[i]? =some t->z6i t=true->∃t',outs[i]? =some t'/\TRep w K' (col i) (G (fn.ntmps+1000+i)) t')/\Step w K w K':=by
 unfold zoR at hx
 split at hx
 case h_1=>cases hx
 case h_2 es hes=>
 split at hx
 case isFalse=>cases hx
 case isTrue hc=>
 obtain⟨hfl,hnt⟩:=hc
 split at hx
 case h_1=>cases hx
 case h_2 fr2 hpl=>
 split at hx
 · cases hx
 rename_i hne
 obtain⟨us,u1,u0,u2,u3⟩:=zkP h hes
 obtain⟨vs,v1,v2,v3⟩:=zbH (j0:=0) (base:=fr.nt+1) u1 u2
 have hp:=h.putR (base:=fr.nt+1) (xs:=zb7 es) (us:=fun j=>vs.getD j undef) (by omega) v2
 have hrep:TRep w K (col fr.nt) (.tuple us.toArray) (.tup (es.map zkD)):=by
  refine .tup _ us.toArray _ (fun j=>us.getD j undef) (by simp[u1]) (fun j hj=> ?_) (fun j t ht=> ?_)
  · have:j<us.length:=by simp at hj;omega
    simp[List.getD,this]
  · simp only[Zd,Z4] at ht
    obtain⟨e,he,rfl⟩:=ht
    exact zsb (u2 j e he) _
 have hq:=hp.replace (d:=fr.nt) (w':=w) (K':=K) (v:=.tuple us.toArray) (t:=.tup (es.map zkD)) ⟨fun b hb e=>⟨e,rfl⟩,fun b hb _=>⟨rfl,rfl⟩,Z5 _⟩ hrep
 have hregs:∀k,k<vs.length->z9I a (gv G (fr.nt+1) (fun j=>vs.getD j undef) (zb7 es).length) (fr.nt+1+k)=vs.getD k undef:=fun k hk=>by
  rw[z9I,if_neg (by rw[h.nt];omega)]
  simp only[gv]
  rw[if_pos (by omega)]
  congr 1;omega
 obtain⟨K2,R2,q1,q2,q3,q4,_⟩:=hq.plugL (l:=zed 0 (fr.nt+1) es) (fun q r' hm=>by
  obtain⟨k,k1,rfl,j,q',rfl,k4,k5⟩:=v3 q r' hm
  refine⟨?_,by omega⟩
  rw[hregs k k1]
  have hju:j<us.length:=by omega
  simp only[z9P,if_true,Zp,nav,zep]
  have:us.toArray[j]? =some (us.getD j undef):=by simp[List.getD,hju]
  rw[this]
  exact k5) hpl
 have hRN:R2 fr.nt= .tuple us.toArray:=by
  rw[q4 fr.nt (fun q r' hm=>by obtain⟨k,k1,rfl,_⟩:=v3 q r' hm;omega)]
  simp[z9P]
 have hres:(results fn a.tmps).run P w= .ok (if us.length=1 then us.getD 0 undef else .tuple us.toArray) w:=by
  rw[zq8]
  have:(fn.results.mapM (fun r=>zAk r a.tmps)).run P w= .ok us.toArray w:=by
   rw[Array.mapM_eq_mapM_toList]
   simp only[map_eq_pure_bind,Zc,u3,Z2,Zg]
  simp only[Zc,this,Z2,Zg]
  congr 1
  by_cases e:us.length=1
  · match us,e with
    | [u],_=>simp
  · rw[dif_neg (by simpa using e),if_neg e]
 let io:Option (Nat×Nat):=match ziX args 0 with|some i=>(match zql fr2 (fn.ntmps+1000+i) with|some e=>some (e,i)|none=>none)|none=>none
 have hio:∀e i,io=some (e,i)->e≠fr.nt:=fun e i he=>by
  intro heq
  apply hne
  simp only[io] at he
  split at he
  · rename_i i' hi'
    split at he
    · rename_i e' he'
      cases he
      simp only[zsK,hi']
      rw[he',heq]
    · cases he
  · cases he
 let one:Bool:=decide (es.length=1)
 let K3:Nat->z0a:=fun b=>zvu fr.nt io one (K2 b)
 have hK3:∀b,K2 b= []->K3 b= []:=fun b e=>by show zvu fr.nt io one (K2 b)= [];rw[e];rfl
 have hstep:Step w K2 w K3:=⟨rfl,rfl,rfl,Z5 _,fun b hb hc=>⟨by
  show zvu fr.nt io one (K2 b)=K2 b
  rcases hc with e|e
  · rw[e];rfl
  · rw[e]
    simp only[zvu]
    rw[if_neg (by omega)]
    cases io with
    |none=>rfl
    |some x=>
     obtain⟨e',i⟩:=x
     simp only
     rw[if_neg (by omega)],rfl⟩,.same rfl⟩
 have houts:outs=zkZ fr2 fn.ntmps args 0->∀i t,args[i]? =some t->z6i t=true->∃t',outs[i]? =some t'/\TRep w K3 (col i) (G (fn.ntmps+1000+i)) t':=fun ho i t ht hit=>by
  refine⟨if zDh t then zB9 fr2 (fn.ntmps+1000+i) else zBa fr2 (fn.ntmps+1000+i),by rw[ho,zkY fr2 fn.ntmps args 0 i t ht hit,Zp],?_⟩
  have hidx:=zov args 0 i t h1 ht hit
  rw[Zp] at hidx
  have hg:=q1.tm (fn.ntmps+1000+i)
  have hgv:z9I a (gv G (fr.nt+1) (fun j=>vs.getD j undef) (zb7 es).length) (fn.ntmps+1000+i)=G (fn.ntmps+1000+i):=by
   rw[z9I,if_neg (by rw[h.nt];omega)]
   simp only[gv]
   rw[if_neg (by omega)]
  rw[hgv] at hg
  have hmv0:∀e tt,io=some (e,i)->z2f fr2.ob e=some tt->TRep w K3 (col i) (R2 e) tt:=fun e tt he hob=>by
   have hr:=q1.ob e tt hob
   have hen:=hio e i he
   refine hr.move (fun b s hb hcc hKb=>⟨?_,rfl⟩) (fun b hb e0=>⟨hK3 b e0,rfl⟩) (by simp[col]) (Z5 _)
   show zvu fr.nt io one (K2 b)=_
   rw[hKb,he]
   simp[zvu,col,hen]
  have hmv:∀e tt,io=some (e,i)->z2f fr2.ob e=some tt->R2 e=G (fn.ntmps+1000+i)->TRep w K3 (col i) (G (fn.ntmps+1000+i)) tt:=fun e tt he hob hR=>hR▸hmv0 e tt he hob
  split
  · unfold zB9
    split
    · rename_i e off hge
      have hie:io=some (e,i):=by simp only[io,hidx,zql,hge]
      split
      · rename_i cs hob
        rw[hge] at hg
        obtain⟨hv,g,n1,n4,n5,_⟩:=hg
        simp only[nav,Z9] at n1
        have hr:=hmv0 e _ hie hob
        rw[n1] at hr
        rw[hr.vr_val n4] at hr
        rw[n5]
        exact .vo _ g off cs hr
      · exact .dead _ _
    · exact .dead _ _
  unfold zBa
  split
  · rename_i e hge
    have hie:io=some (e,i):=by simp only[io,hidx,zql,hge]
    split
    · rename_i tt hob
      rw[hge] at hg
      obtain⟨n1,_⟩:=hg
      simp only[nav,Z9] at n1
      exact hmv e tt hie hob n1
    · exact .dead _ _
  · rename_i e hge
    have hie:io=some (e,i):=by simp only[io,hidx,zql,hge]
    split
    · rename_i cs hob
      rw[hge] at hg
      obtain⟨hv,g,n1,n4,n5,_⟩:=hg
      simp only[nav,Z9] at n1
      refine hmv e _ hie hob ?_
      have hr:=q1.ob e _ hob
      rw[n5,n1]
      rw[n1] at hr
      cases hr with
      |vr c g' cs arr e' fz F hfz hc0 hK hg' hl hF hh=>
       simp only[z6O,Z9] at n4
       rw[n4]
    · exact .dead _ _
  · exact .dead _ _
 refine⟨_,K3,hres,?_⟩
 split at hx
 case h_2=>cases hx
 case h_1 ts hob=>
 have htup:=q1.ob fr.nt _ hob
 rw[hRN] at htup
 split at hx
 · rename_i hone
   split at hx
   · rename_i t
     cases hx
     refine⟨?_,houts rfl,q2.trans hstep⟩
     rw[if_pos (by omega)]
     obtain⟨v',k1,k2⟩:=htup.kid (j:=0) (t':=r) (z1D _) rfl
     have hv':v'=us.getD 0 undef:=by
      simp only[zep] at k1
      have:0<us.length:=by omega
      simp[List.getD,this] at k1⊢
      exact k1.symm
     rw[←hv']
     refine k2.move (fun b s hb hcc hKb=>⟨?_,rfl⟩) (fun b hb e0=>⟨hK3 b e0,rfl⟩) (by simp[col]) (Z5 _)
     show zvu fr.nt io one (K2 b)=_
     rw[hKb]
     simp[zvu,col,one,hone]
   · cases hx
 · rename_i hone
   cases hx
   refine⟨?_,houts rfl,q2.trans hstep⟩
   rw[if_neg (by omega)]
   refine htup.move (fun b s hb hcc hKb=>⟨?_,rfl⟩) (fun b hb e0=>⟨hK3 b e0,rfl⟩) (by simp[col]) (Z5 _)
   show zvu fr.nt io one (K2 b)=_
   rw[hKb]
   simp[zvu,col,one,hone]
theorem znd(h:FRep w K R G fr a)(hx:zcS P fn args fr=some (r,outs))(h1:(args.filter z6i).length<=1):
 ∃v K',(results fn a.tmps).run P w= .ok v w/\TRep w K' [0] v r/\(∀i t,args[i]? =some t->z6i t=true->∃t',outs[i]? =some t'/\TRep w K' (col i) (G (fn.ntmps+1000+i)) t')/\Step w K w K':=by
 unfold zcS at hx
 have keep:zAX fr fn.ntmps args=fr∨ ∃e p fr1,zdu fr e p (fr.nt+7)=some fr1/\zAX fr fn.ntmps args=fr1:=by
  unfold zAX
  split
  · exact .inl rfl
  · split
    · rename_i e j p _
      cases ht:zdu fr e (j::p) (fr.nt+7) with
      |none=>exact .inl rfl
      |some f=>exact .inr ⟨_,_,f,ht,rfl⟩
    · exact .inl rfl
 rcases keep with e|⟨e,p,fr1,e1,e2⟩
 · rw[e] at hx;exact zoQ h hx h1
 · rw[e2] at hx
   obtain⟨vp,t,-,-,h2⟩:=h.take e1
   obtain⟨v,K',r1,r2,r3,r4⟩:=zoQ h2 hx h1
   exact⟨v,K',r1,r2,r3,(zex e p _).trans r4⟩
theorem zAS{I:World->(Nat->z0a)->Prop}{C:z0e}{LF:Nat}{f:FuncId}{c:Code}(hI:EnvS I)(hC:z7e P I C)(hm:P.follows .mixedOrders=true)(hfn:P.funcs[f]? =some fn)(hb:fn.body=some c)(hname:fn.name≠ "runtime.NumGoroutine")
 (hok:okC cf c=true) (hr:zkL P C cf LF fn args=some (r,outs)):CallOk P I f args r outs:=by
 unfold zkL at hr
 split at hr
 case isFalse=>cases hr
 case isTrue hc=>
 rw[hb] at hr
 simp only at hr
 refine⟨fun vals w=>by simp[callFunc,program,Sem.run,hfn,hname,hb],fun w K vals hs ha hIw=> ?_⟩
 have hent:=zgD (nt:=fn.ntmps) hs ha hc.1
 have main:∀x fr,(x= .n∨x= .r)->z2p P C cf LF c (z6H fn.ntmps args)=some (x,fr)->zze cf (zcS P fn args fr)=some (r,outs)->
  Calls P f vals w fun e w'=>∃v K',e= .returned v/\TRep w' K' [0] v r/\(∀i t,args[i]? =some t->z6i t=true->∃t',outs[i]? =some t'/\TRep w' K' (col i) (vals.getD i undef) t')/\Step w K w' K':=fun x fr hx hcode hexit=>by
  refine calls_of_wp hfn hb (z9z hI hC hm c hok hent hIw hcode fun a' w' K' R' h' hst=> ?_)
  obtain⟨r0,hex0,hr0⟩:=zsQ hexit
  obtain⟨v,K1,e1,e20,e30,e40⟩:=znd h' hex0 hc.2
  obtain⟨K2,e2,e3,e4⟩:∃K2,TRep w' K2 [0] v r/\(∀i t,args[i]? =some t->z6i t=true->∃t',outs[i]? =some t'/\TRep w' K2 (col i) (vals.getD (fn.ntmps+1000+i-(fn.ntmps+1000)) undef) t')/\Step w' K' w' K2:=by
   rcases hr0 with e|e
   · rw[e];exact⟨K1,e20,e30,e40⟩
   · rw[e]
     refine⟨fun b=>dz (K1 b),e20.freeze (fun b s hb hcc hK=>⟨by show dz (K1 b)= [];rw[hK];rfl,rfl⟩) (fun b hb hK=>⟨by show dz (K1 b)= [];rw[hK];rfl,rfl⟩) (Z5 _) [0],fun i t hi hio=> ?_,e40.trans ⟨rfl,rfl,rfl,Z5 _,fun b hb hcc=>⟨by
      show dz (K1 b)=K1 b
      rcases hcc with q|q<;>rw[q]<;>rfl,rfl⟩,.same rfl⟩⟩
     obtain⟨t',f1,f2⟩:=e30 i t hi hio
     exact⟨t',f1,f2.move (fun b s hb hcc hK=>⟨by show dz (K1 b)=col i++s;rw[hK];rfl,rfl⟩) (fun b hb hK=>⟨by show dz (K1 b)= [];rw[hK];rfl,rfl⟩) YU (Z5 _)⟩
  have hpost:a'.defers= []/\ ∃v,(results fn a'.tmps).run P w'= .ok v w'/\ ∃v' K',Ending.returned v= .returned v'/\TRep w' K' [0] v' r/\(∀i t,args[i]? =some t->z6i t=true->∃t',outs[i]? =some t'/\TRep w' K' (col i) (vals.getD i undef) t')/\Step w K w' K':=
   ⟨h'.df,v,e1,v,K2,rfl,e2,fun i t hi hio=>by
     obtain⟨t',f1,f2⟩:=e3 i t hi hio
     rw[show fn.ntmps+1000+i-(fn.ntmps+1000)=i by omega] at f2
     exact⟨t',f1,f2⟩,hst.trans e4⟩
  rcases hx with rfl|rfl
  · exact hpost
  · exact hpost
 split at hr
 · rename_i fr hcode
   exact main .n fr (.inl rfl) hcode hr
 · rename_i fr hcode
   exact main .r fr (.inr rfl) hcode hr
 · cases hr
end
section
def wpC(P:Program)(C:z0e)(cf:Cfg)(LF:Nat)(c:Code)(fr:Fr)(Q:X->Fr->Prop):Prop:=∃x fr',z2p P C cf LF c fr=some (x,fr')/\Q x fr'
def zsv(P:Program)(C:z0e)(wio:FuncId->Nat->Bool)(ops:Array Oper):List Oper->Fr->(Fr->Prop)->Prop
 | [],fr,Q=>Q fr
 |o::rest,fr,Q=>∃b,z6F ops fr o=some b/\(b=true->∃fr',opF P C wio fr o=some fr'/\zsv P C wio ops rest fr' Q)/\(b=false->∃fr',putF fr o.dst (.one (.k undef))=some fr'/\zsv P C wio ops rest fr' Q)
theorem zco{P:Program}{C:z0e}{wio:FuncId->Nat->Bool}{ops:Array Oper}{Q:Fr->Prop}:∀ {l:List Oper} {fr:Fr},zsv P C wio ops l fr Q->∃fr',zeo P C wio ops l fr=some fr'/\Q fr'
 | [],fr,h=>⟨fr,rfl,h⟩
 |o::rest,fr,⟨b,hb,h1,h2⟩=>by
  cases b with
  |true=>
   obtain⟨fr',e,h⟩:=h1 rfl
   obtain⟨x,e2,h⟩:=zco h
   exact⟨x,by simp only[zeo,hb,e,e2],h⟩
  |false=>
   obtain⟨fr',e,h⟩:=h2 rfl
   obtain⟨x,e2,h⟩:=zco h
   exact⟨x,by simp only[zeo,hb,e,e2],h⟩
variable {P:Program} {C:z0e} {cf:Cfg} {LF:Nat} {fr:Fr} {Q:X->Fr->Prop}
theorem zvA(h:Q .n fr):wpC P C cf LF .skip fr Q:=⟨_,_,rfl,h⟩
theorem zrr{i}(h:Q .n fr):wpC P C cf LF (.label i) fr Q:=⟨_,_,rfl,h⟩
theorem zvB{i}(h:Q (.x i) fr):wpC P C cf LF (.exit i) fr Q:=⟨_,_,rfl,h⟩
theorem zyo(h:Q .r fr):wpC P C cf LF .ret fr Q:=⟨_,_,rfl,h⟩
def zkt(Q1:Fr->Prop)(Q:X->Fr->Prop):X->Fr->Prop
 | .n,fr=>Q1 fr
 | .x i,fr=>Q (.x i) fr
 | .r,fr=>Q .r fr
theorem zyn{a b:Code}(h:wpC P C cf LF a fr (zkt (fun fr'=>wpC P C cf LF b fr' Q) Q)):wpC P C cf LF (.seq a b) fr Q:=by
 obtain⟨x,fr1,e,h⟩:=h
 cases x with
 |n=>
  obtain⟨y,fr2,e2,h⟩:=h
  exact⟨y,fr2,by simp only[z2p,e,e2],h⟩
 |x i=>exact⟨_,_,by simp only[z2p,e],h⟩
 |r=>exact⟨_,_,by simp only[z2p,e],h⟩
def z8A(id:Nat)(Q:X->Fr->Prop):X->Fr->Prop
 | .n,fr=>Q .n fr
 | .x i,fr=>if i=id then Q .n fr else Q (.x i) fr
 | .r,fr=>Q .r fr
theorem zrt{id:Nat}{c:Code}(h:wpC P C cf LF c fr (z8A id Q)):wpC P C cf LF (.block id c) fr Q:=by
 obtain⟨x,fr1,e,h⟩:=h
 cases x with
 |n=>exact⟨_,_,by simp only[z2p,e],h⟩
 |x i=>
  simp only[z8A] at h
  by_cases hi:i=id
  · rw[if_pos hi] at h
    exact⟨.n,fr1,by simp only[z2p,e,if_pos hi],h⟩
  · rw[if_neg hi] at h
    exact⟨.x i,fr1,by simp only[z2p,e,if_neg hi],h⟩
 |r=>exact⟨_,_,by simp only[z2p,e],h⟩
structure Hid(p:Prop):Prop where
 out:p
variable{ops:Array Oper}{b draw:Bool}{F1 fr1:Fr}{cn:Fr->Fr}{Q1:Fr->Prop}{fn:Func}{wio:FuncId->Nat->Bool}{kn:List (Nat×Fr)}{sch:List (Nat×Nat)}{es:List (Nat×Nat×Nat×Nat)}{M:List Nat}{l:List Oper}{args outs:List T}{k m:Nat}{H:Nat->Fr}{I:Nat->Fr->Prop}{o:Oper}{g:Option (Option Nat×Bool)}{Q2:Prop}{a rest t:SchT}{r:T}
def zyw(o:Option Bool)(Q1 Q2:Prop):Prop:=match o with|some b=>(b=true->Q1)/\(b=false->Q2)|none=>False
theorem z7n{Q1:Prop}:zyw (some b) Q1 Q2=((b=true->Q1)/\(b=false->Q2)):=rfl
theorem zrx{o:Option Bool}{Q1:Prop}(h:zyw o Q1 Q2):∃b,o=some b/\(b=true->Q1)/\(b=false->Q2):=by
 cases o with
 |none=>exact absurd h id
 |some b=>exact⟨b,rfl,h⟩
def zAe(o:Option Value)(Q1 Q2:Prop):Prop:=match o with|some (.bool b)=>(b=true->Q1)/\(b=false->Q2)|_=>False
theorem z9S{Q1:Prop}:zAe (some (.bool b)) Q1 Q2=((b=true->Q1)/\(b=false->Q2)):=rfl
theorem zyv{o:Option Value}{Q1:Prop}(h:zAe o Q1 Q2):∃b,o=some (.bool b)/\(b=true->Q1)/\(b=false->Q2):=by
 unfold zAe at h
 split at h
 · exact⟨_,rfl,h⟩
 · exact absurd h id
def zgS(o:Option Fr)(Q:Fr->Prop):Prop:=match o with|some fr=>Q fr|none=>False
theorem zlQ{fr:Fr}{Q:Fr->Prop}:zgS (some fr) Q=Q fr:=rfl
theorem zam{o:Option Fr}{Q:Fr->Prop}(h:zgS o Q):∃fr,o=some fr/\Q fr:=by
 cases o with
 |none=>exact absurd h id
 |some fr=>exact⟨fr,rfl,h⟩
theorem zpo{id:Nat}(hd:draw=false)(hz:cf.fz id=none)(h:∀Q':Fr->Prop,Hid (∀fr',Q .n fr'->Q' fr')->zgS (zeo P C cf.wio ops ops.toList fr) Q'):wpC P C cf LF (.region id ops draw) fr Q:=by
 obtain⟨fr',e,h⟩:=zam (h (Q .n) ⟨fun _ h=>h⟩)
 subst hd
 exact⟨.n,fr',by simp[z2p,hz,zvs,e],h⟩
theorem zyp{id:Nat}{l:List Nat}(hz:cf.fz id=some l)(hf:zzK fr l=fr1)(h:wpC P C {cf with fz:=fun _=>none} LF (.region id ops draw) fr1 Q):wpC P C cf LF (.region id ops draw) fr Q:=by
 obtain⟨x,fr',e,h⟩:=h
 refine⟨x,fr',?_,h⟩
 simp only[z2p,zvs] at e
 simp only[z2p,hz,zvs,hf]
 exact e
def zEE(P:Program)(C:z0e)(wio:FuncId->Nat->Bool)(M:List Nat)(ops:Array Oper)(sch:List (Nat×Nat))(fr:Fr):Option Fr:=match zaf P C wio M.isEmpty M.contains ops (zcu ops sch) fr with|some fr1=>z6P P ops.toList fr1|none=>none
theorem zm3{id:Nat}(hd:draw=false)(hz:cf.fz id=none)(h:zsv P C cf.wio ops ops.toList fr (Q .n)):wpC P C cf LF (.region id ops draw) fr Q:=by
 obtain⟨fr',e,h⟩:=zco h
 subst hd
 exact⟨.n,fr',by simp[z2p,hz,zvs,e],h⟩
def z0y(P:Program)(C:z0e)(wio:FuncId->Nat->Bool)(same:Bool)(M:Nat->Bool)(fr:Fr)(o:Oper)(m:Nat):Option Fr:=
 if m=0∨m=3 then(match za3 P (if m=0 then M else zDu) fr o.op with|some e=>putF fr o.dst e|none=>none)
 else if m=2 then opF P C wio fr o else if same then zb8 P C wio fr o else wrF P C wio M fr o
def z9a(P:Program)(C:z0e)(wio:FuncId->Nat->Bool)(M:List Nat)(ops:Array Oper):List (Nat×Nat)->Fr->(Fr->Prop)->Prop
 | [],fr,Q=>Q fr
 |(k,m)::rest,fr,Q=>∃o,ops[k]? =some o/\ ∃b,z6F ops fr o=some b/\(b=true->∃fr',z0y P C wio M.isEmpty M.contains fr o m=some fr'/\z9a P C wio M ops rest fr' Q)/\(b=false->∃fr',putF fr o.dst (.one (.k undef))=some fr'/\z9a P C wio M ops rest fr' Q)
theorem zdR{P:Program}{C:z0e}{wio:FuncId->Nat->Bool}{M:List Nat}{ops:Array Oper}{Q:Fr->Prop}:∀ {l:List (Nat×Nat)} {fr:Fr},z9a P C wio M ops l fr Q->∃fr',zaf P C wio M.isEmpty M.contains ops (zcu ops l) fr=some fr'/\Q fr'
 | [],fr,h=>⟨fr,rfl,h⟩
 |(k,m)::rest,fr,⟨o,ho,b,hb,h1,h2⟩=>by
  have hp:zcu ops ((k,m)::rest)=(k,o,m)::zcu ops rest:=by simp[zcu,ho]
  rw[hp]
  cases b with
  |true=>
   obtain⟨fr',e,h⟩:=h1 rfl
   obtain⟨x,e2,h⟩:=zdR h
   refine⟨x,?_,h⟩
   simp only[zaf,hb]
   unfold z0y at e
   by_cases hm:m=0∨m=3
   · rw[if_pos hm] at e⊢
     split at e
     · rename_i e' he'
       simp only[he',e,e2]
     · cases e
   · rw[if_neg hm] at e⊢
     simp only[e,e2]
  |false=>
   obtain⟨fr',e,h⟩:=h2 rfl
   obtain⟨x,e2,h⟩:=zdR h
   exact⟨x,by simp only[zaf,hb,e,e2],h⟩
theorem zrs{id:Nat}(hd:draw=true)(hs:cf.dr id=some sch)(hz:cf.fz id=none)(h:z9a P C cf.wio (cf.wr id) ops sch fr (fun fr1=>zgS (z6P P ops.toList fr1) (Q .n)))(ht:cf.dt id=none:=by rfl):wpC P C cf LF (.region id ops draw) fr Q:=by
 obtain⟨fr1,e1,h⟩:=zdR h
 obtain⟨fr2,e2,h⟩:=zam h
 subst hd
 exact⟨.n,fr2,by simp only[z2p,if_true,z8E,ht,hs,hz,zvs,e1,e2],h⟩
theorem zuH{Q:X->Fr->Prop}(h:∀Q':Fr->Prop,Hid (∀fr',Q .n fr'->Q' fr')->zgS (z6P P l fr) Q'):z9a P C wio M ops [] fr (fun fr1=>zgS (z6P P l fr1) (Q .n)):=h _ ⟨fun _ h=>h⟩
theorem zx7{l:List (Nat×Nat)}{Q:Fr->Prop}(ho:ops[k]? =some o)(hg:o.guard=none)(h:∀Q':Fr->Prop,Hid (∀fr',z9a P C wio M ops l fr' Q->Q' fr')->zgS (z0y P C wio M.isEmpty M.contains fr o m) Q'):z9a P C wio M ops ((k,m)::l) fr Q:=by
 obtain⟨fr',e,h⟩:=zam (h _ ⟨fun _ h=>h⟩)
 exact⟨o,ho,true,by simp[z6F,hg],fun _=>⟨fr',e,h⟩,fun h=>by cases h⟩
theorem znh{l:List (Nat×Nat)}{Q:Fr->Prop}(ho:ops[k]? =some o)(h:∀Q1 Q2:Prop,Hid ((∀Q':Fr->Prop,Hid (∀fr',z9a P C wio M ops l fr' Q->Q' fr')->zgS (z0y P C wio M.isEmpty M.contains fr o m) Q')->Q1)->Hid ((∀Q':Fr->Prop,Hid (∀fr',z9a P C wio M ops l fr' Q->Q' fr')->zgS (putF fr o.dst (.one (.k undef))) Q')->Q2)->zyw (z6F ops fr o) Q1 Q2):z9a P C wio M ops ((k,m)::l) fr Q:=by
 obtain⟨b,hb,h1,h2⟩:=zrx (h _ _ ⟨id⟩ ⟨id⟩)
 refine⟨o,ho,b,hb,fun e=> ?_,fun e=> ?_⟩
 · obtain⟨fr',e,h⟩:=zam (h1 e _ ⟨fun _ h=>h⟩)
   exact⟨fr',e,h⟩
 · obtain⟨fr',e,h⟩:=zam (h2 e _ ⟨fun _ h=>h⟩)
   exact⟨fr',e,h⟩
theorem zyS{Q:Fr->Prop}(hg:o.guard=none)(h:∀Q':Fr->Prop,Hid (∀fr',zsv P C wio ops l fr' Q->Q' fr')->zgS (opF P C wio fr o) Q'):zsv P C wio ops (o::l) fr Q:=by
 obtain⟨fr',e,h⟩:=zam (h _ ⟨fun _ h=>h⟩)
 exact⟨true,by simp[z6F,hg],fun _=>⟨fr',e,h⟩,fun h=>by cases h⟩
theorem zqa{Q:Fr->Prop}(h:∀Q1 Q2:Prop,Hid ((∀Q':Fr->Prop,Hid (∀fr',zsv P C wio ops l fr' Q->Q' fr')->zgS (opF P C wio fr o) Q')->Q1)->Hid ((∀Q':Fr->Prop,Hid (∀fr',zsv P C wio ops l fr' Q->Q' fr')->zgS (putF fr o.dst (.one (.k undef))) Q')->Q2)->zyw (z6F ops fr o) Q1 Q2):zsv P C wio ops (o::l) fr Q:=by
 obtain⟨b,hb,h1,h2⟩:=zrx (h _ _ ⟨id⟩ ⟨id⟩)
 refine⟨b,hb,fun e=> ?_,fun e=> ?_⟩
 · obtain⟨fr',e,h⟩:=zam (h1 e _ ⟨fun _ h=>h⟩)
   exact⟨fr',e,h⟩
 · obtain⟨fr',e,h⟩:=zam (h2 e _ ⟨fun _ h=>h⟩)
   exact⟨fr',e,h⟩
theorem zAx{c:Operand}{x y:Code}(h:∀Q1 Q2:Prop,Hid (wpC P C cf LF x fr Q->Q1)->Hid (wpC P C cf LF y fr Q->Q2)->zAe (rdV (opE fr c)) Q1 Q2):wpC P C cf LF (.cond c x y) fr Q:=by
 obtain⟨b,h,h1,h2⟩:=zyv (h _ _ ⟨id⟩ ⟨id⟩)
 cases b with
 |true=>
  obtain⟨x,fr1,e,h'⟩:=h1 rfl
  exact⟨x,fr1,by simp only[z2p,h,e],h'⟩
 |false=>
  obtain⟨x,fr1,e,h'⟩:=h2 rfl
  exact⟨x,fr1,by simp only[z2p,h,e],h'⟩
theorem z0d(h:Q1 fr):zkt Q1 Q .n fr:=h
theorem z7x{i}(h:Q (.x i) fr):zkt Q1 Q (.x i) fr:=h
theorem z5O(h:Q .r fr):zkt Q1 Q .r fr:=h
theorem z4X{id}(h:Q .n fr):z8A id Q .n fr:=h
theorem zrb{id}(h:Q .n fr):z8A id Q (.x id) fr:=by simp[z8A,h]
theorem zgK{id i}(hi:(i==id)=false)(h:Q (.x i) fr):z8A id Q (.x i) fr:=by
 have:i≠id:=by simpa using hi
 simp[z8A,this,h]
theorem z7l{id}(h:Q .r fr):z8A id Q .r fr:=h
theorem zDc{a b:Int}(h:b<=a):(a<b)=False:=by simp;omega
theorem zDg{a b:Int}(h:b<a):(a<=b)=False:=by simp;omega
theorem zDb{a b:Nat}(h:b<=a):(a<b)=False:=by simp;omega
theorem zDf{a b:Nat}(h:b<a):(a<=b)=False:=by simp;omega
def zzq(I:Nat->Fr->Prop)(cn:Fr->Fr)(m:Nat)(Q:X->Fr->Prop):X->Fr->Prop
 | .n,fr=>∃k,k<m/\I k (cn fr)
 | .x i,fr=>Q (.x i) fr
 | .r,fr=>Q .r fr
def zsz(I:Nat->Prop)(H:Nat->Fr)(cn:Fr->Fr)(n k:Nat)(Q:X->Fr->Prop):X->Fr->Prop
 | .n,fr=>k<n/\I (k+1)/\cn fr=H (k+1)
 | .x i,fr=>Q (.x i) fr
 | .r,fr=>Q .r fr
def zzO(P:Program)(fn:Func)(args:List T)(r:T)(outs:List T):X->Fr->Prop
 | .n,fr=>zcS P fn args fr=some (r,outs)
 | .r,fr=>zcS P fn args fr=some (r,outs)
 | .x _,_=>False
theorem zzo{i:Nat}(h:Q (.x i) fr):zzq I cn m Q (.x i) fr:=h
theorem zzp(h:Q .r fr):zzq I cn m Q .r fr:=h
theorem zwb{I:Nat->Prop}{n i:Nat}(h:Q (.x i) fr):zsz I H cn n k Q (.x i) fr:=h
theorem zwc{I:Nat->Prop}{n:Nat}(h:Q .r fr):zsz I H cn n k Q .r fr:=h
def zuA(P:Program)(fn:Func)(args:List T)(r:T)(outs:List T):X->Fr->Prop
 | .n,fr=>(zcS P fn args fr).map (fun x=>(z1P x.1,x.2))=some (r,outs)
 | .r,fr=>(zcS P fn args fr).map (fun x=>(z1P x.1,x.2))=some (r,outs)
 | .x _,_=>False
theorem zew{c:Code}(hb:fn.body=some c)(ha:args.length<=fn.ntmps/\(args.filter z6i).length<=1)(hz:(cf.fz 999998).isSome=true)(h:wpC P C cf LF c (z6H fn.ntmps args) (zuA P fn args r outs)):zkL P C cf LF fn args=some (r,outs):=by
 obtain⟨x,fr',e,h⟩:=h
 obtain⟨l,hl⟩:=ZX.1 hz
 unfold zkL zze
 rw[if_pos ha,hb]
 simp only[e,hl]
 cases x with
 |n=>exact h
 |x i=>exact absurd h id
 |r=>exact h
theorem zso{c:Code}(hb:fn.body=some c)(ha:args.length<=fn.ntmps/\(args.filter z6i).length<=1)(h:wpC P C cf LF c (z6H fn.ntmps args) (zzO P fn args r outs))(hz:cf.fz 999998=none:=by rfl):zkL P C cf LF fn args=some (r,outs):=by
 obtain⟨x,fr',e,h⟩:=h
 unfold zkL zze
 rw[if_pos ha,hb]
 simp only[e,hz]
 cases x with
 |n=>exact h
 |x i=>exact absurd h id
 |r=>exact h
def zcG:Code->Nat
 | .skip=>0
 | .region _ _ _=>1
 | .seq _ _=>2
 | .cond _ _ _=>3
 | .block _ _=>4
 | .loop _=>5
 | .exit _=>6
 | .ret=>7
 | .label _=>8
 | .scope _=>10
 |_=>9
def zgU:Code->Code
 | .seq a _=>a
 |c=>c
def zb2:Code->Code
 | .seq _ b=>b
 |c=>c
def cdA:Code->Code
 | .cond _ x _=>x
 |c=>c
def cdB:Code->Code
 | .cond _ _ y=>y
 |c=>c
def cdO:Code->Option Operand
 | .cond o _ _=>some o
 |_=>none
def blC:Code->Code
 | .block _ c=>c
 |c=>c
def blI:Code->Nat
 | .block i _=>i
 |_=>0
def lpC:Code->Code
 | .loop c=>c
 |c=>c
def spC:Code->Code
 | .scope c=>c
 |c=>c
def exI:Code->Nat
 | .exit i=>i
 |_=>0
def rgI:Code->Nat
 | .region i _ _=>i
 |_=>0
def rgD:Code->Bool
 | .region _ _ d=>d
 |_=>false
def rgO:Code->Array Oper
 | .region _ ops _=>ops
 |_=> #[]
def rgN:Code->Option Nat
 | .region i _ _=>some i
 |_=>none
def rgL(c:Code):Option (List Oper):=match c with| .region _ ops _=>some ops.toList|_=>none
section
variable {c:Code}
theorem z6v(hk:zcG c=0)(h:Q .n fr):wpC P C cf LF c fr Q:=by
 cases c<;>first|exact zvA h|cases hk
theorem zsC(hk:zcG c=8)(h:Q .n fr):wpC P C cf LF c fr Q:=by
 cases c<;>first|exact zrr h|cases hk
theorem z9C(hk:zcG c=6)(h:Q (.x (exI c)) fr):wpC P C cf LF c fr Q:=by
 cases c<;>first|exact zvB h|cases hk
theorem za4(hk:zcG c=7)(h:Q .r fr):wpC P C cf LF c fr Q:=by
 cases c<;>first|exact zyo h|cases hk
theorem zAV(hk:zcG c=2)(h:wpC P C cf LF (zgU c) fr (zkt (fun fr'=>wpC P C cf LF (zb2 c) fr' Q) Q)):wpC P C cf LF c fr Q:=by
 cases c<;>first|exact zyn h|cases hk
theorem zsE(hk:zcG c=4)(h:wpC P C cf LF (blC c) fr (z8A (blI c) Q)):wpC P C cf LF c fr Q:=by
 cases c<;>first|exact zrt h|cases hk
theorem zDZ{o:Operand}(ho:cdO c=some o)(h:∀Q1 Q2:Prop,Hid (wpC P C cf LF (cdA c) fr Q->Q1)->Hid (wpC P C cf LF (cdB c) fr Q->Q2)->zAe (rdV (opE fr o)) Q1 Q2):wpC P C cf LF c fr Q:=by
 cases c<;>first|(cases ho;exact zAx h)|cases ho
theorem ziE(hl:rgL c=some l)(hd:rgD c=false)(hz:cf.fz (rgI c)=none)(h:∀Q':Fr->Prop,Hid (∀fr',Q .n fr'->Q' fr')->zgS (zeo P C cf.wio l.toArray l fr) Q'):wpC P C cf LF c fr Q:=by
 cases c with
 |region i ops d=>
  cases hl
  exact zpo hd hz (by simpa using h)
 |_=>cases hl
theorem zsD{l:List Nat}(hk:zcG c=1)(hz:cf.fz (rgI c)=some l)(hf:zzK fr l=fr1)(h:wpC P C {cf with fz:=fun _=>none} LF c fr1 Q):wpC P C cf LF c fr Q:=by
 cases c<;>first|exact zyp hz hf h|cases hk
theorem z6U{i:Nat}(hi:rgN c=some i)(hd:rgD c=true)(hs:cf.dr i=some sch)(hz:cf.fz i=none)(h:z9a P C cf.wio (cf.wr i) (rgO c) sch fr (fun fr1=>zgS (z6P P (rgO c).toList fr1) (Q .n)))(ht:cf.dt i=none:=by rfl):wpC P C cf LF c fr Q:=by
 cases c with
 |region j ops d=>
  cases hi
  exact zrs hd hs hz h ht
 |_=>cases hi
def zBe:List Oper->Nat->Option Oper
 | [],_=>none
 |o::_,0=>some o
 |_::l,k+1=>zBe l k
theorem zzd(l:List Oper):∀(k:Nat) (o:Oper),zBe l k=some o->l[k]? =some o:=by
 induction l with
 |nil=>intro k o h;cases k<;>cases h
 |cons a l ih=>
  intro k o h
  cases k with
  |zero=>simpa[zBe] using h
  |succ k=>simpa using ih k o (by simpa[zBe] using h)
def zhZ(c:Code)(k:Nat):Option Oper:=match c with| .region _ ops _=>zBe ops.toList k|_=>none
theorem zdF{c:Code}(h:zhZ c k=some o):(rgO c)[k]? =some o:=by
 cases c with
 |region i ops d=>rw[←Zv];exact zzd _ _ _ h
 |_=>cases h
theorem z2Z{Q:X->Fr->Prop}(hl:rgL c=some l)(h:∀Q':Fr->Prop,Hid (∀fr',Q .n fr'->Q' fr')->zgS (z6P P l fr) Q'):z9a P C wio M ops [] fr (fun fr1=>zgS (z6P P (rgO c).toList fr1) (Q .n)):=by
 have e:(rgO c).toList=l:=by
  cases c with
  |region i ops d=>cases hl;rfl
  |_=>cases hl
 rw[e]
 exact zuH h
def zF7:Option Oper->Option Nat
 |some o=>o.dst
 |none=>none
def zya(c:Code)(o:Oper):Option (Option (Option Nat×Bool)):=match o.guard with|none=>some none|some (j,want)=>(match zF7 (zhZ c j) with|some t=>some (some (some t,want))|none=>none)
def zui(g:Option (Option Nat×Bool))(fr:Fr):Option Bool:=
 match g with
 |none=>some true
 |some (none,_)=>some false
 |some (some t,want)=>if t<fr.nt then(match zeX (z2J fr.tm t) with|some b=>some (b==some want)|none=>none) else none
theorem zoH(hg:zya c o=some g)(fr:Fr):z6F (rgO c) fr o=zui g fr:=by
 unfold zya at hg
 unfold z6F zui
 split at hg
 · rename_i h;cases hg;simp[h]
 · rename_i j want h
   split at hg
   · rename_i t ht
     cases hg
     have e:((rgO c)[j]?).bind (·.dst)=some t:=by
      unfold zF7 at ht
      split at ht
      · rename_i o' ho'
        rw[zdF ho'];exact ht
      · cases ht
     simp only[h,e]
     all_goals rfl
   · cases hg
theorem z3T{l:List (Nat×Nat)}{Q:Fr->Prop}(ho:zhZ c k=some o)(hg:o.guard=none)(h:∀Q':Fr->Prop,Hid (∀fr',z9a P C wio M (rgO c) l fr' Q->Q' fr')->zgS (z0y P C wio M.isEmpty M.contains fr o m) Q'):z9a P C wio M (rgO c) ((k,m)::l) fr Q:=zx7 (zdF ho) hg h
theorem z5C{l:List (Nat×Nat)}{Q:Fr->Prop}(ho:zhZ c k=some o)(hg:zya c o=some g)(h:∀Q1 Q2:Prop,Hid ((∀Q':Fr->Prop,Hid (∀fr',z9a P C wio M (rgO c) l fr' Q->Q' fr')->zgS (z0y P C wio M.isEmpty M.contains fr o m) Q')->Q1)->Hid ((∀Q':Fr->Prop,Hid (∀fr',z9a P C wio M (rgO c) l fr' Q->Q' fr')->zgS (putF fr o.dst (.one (.k undef))) Q')->Q2)->zyw (zui g fr) Q1 Q2):z9a P C wio M (rgO c) ((k,m)::l) fr Q:=
 znh (zdF ho) (by simpa only[zoH hg] using h)
def zmD(P:Program)(C:z0e)(wio:FuncId->Nat->Bool)(c:Code)(k:Nat)(fr:Fr)(Q:Fr->Prop):Prop:=zsv P C wio (rgO c) ((rgO c).toList.drop k) fr Q
theorem zsB(hk:zcG c=1)(hd:rgD c=false)(hz:cf.fz (rgI c)=none)(h:zmD P C cf.wio c 0 fr (Q .n)):wpC P C cf LF c fr Q:=by
 cases c<;>first|exact zm3 hd hz h|cases hk
theorem ziB{Q:Fr->Prop}(hk:(rgO c).size<=k)(h:Q fr):zmD P C wio c k fr Q:=by
 unfold zmD
 rw[List.drop_eq_nil_of_le (by simpa using hk)]
 exact h
theorem zkQ(ho:zhZ c k=some o):(rgO c).toList.drop k=o::(rgO c).toList.drop (k+1):=by
 have h1:(rgO c).toList[k]? =some o:=by rw[Zv];exact zdF ho
 obtain⟨h2,h3⟩:=Z8.1 h1
 rw[Yd h2,h3]
theorem zfS{Q:Fr->Prop}(ho:zhZ c k=some o)(hg:o.guard=none)(h:∀Q':Fr->Prop,Hid (∀fr',zmD P C wio c (k+1) fr' Q->Q' fr')->zgS (opF P C wio fr o) Q'):zmD P C wio c k fr Q:=by
 unfold zmD at h⊢
 rw[zkQ ho]
 exact zyS hg h
theorem zqb{Q:Fr->Prop}(ho:zhZ c k=some o)(hg:zya c o=some g)(h:∀Q1 Q2:Prop,Hid ((∀Q':Fr->Prop,Hid (∀fr',zmD P C wio c (k+1) fr' Q->Q' fr')->zgS (opF P C wio fr o) Q')->Q1)->Hid ((∀Q':Fr->Prop,Hid (∀fr',zmD P C wio c (k+1) fr' Q->Q' fr')->zgS (putF fr o.dst (.one (.k undef))) Q')->Q2)->zyw (zui g fr) Q1 Q2):zmD P C wio c k fr Q:=by
 unfold zmD at h⊢
 rw[zkQ ho]
 exact zqa (by simpa only[zoH hg] using h)
theorem zyU(hk:zcG c=10)(h:wpC P C cf LF (spC c) fr Q):wpC P C cf LF c fr Q:=by
 cases c with
 |scope c=>unfold wpC at h⊢;simpa only[z2p,spC] using h
 |_=>cases hk
def z7a(P:Program)(C:z0e)(cf:Cfg)(c:Code)(i:Nat)(t:SchT)(fr:Fr)(Q:Fr->Prop):Prop:=∃fr',z6I P C cf.wio (cf.wr i).isEmpty (cf.wr i).contains (rgO c) t fr=some fr'/\Q fr'
theorem zkV{i:Nat}(hi:rgN c=some i)(hd:rgD c=true)(ht:cf.dt i=some t)(hz:cf.fz i=none)(h:z7a P C cf c i t fr (fun fr1=>∃fr2,z6P P (rgO c).toList fr1=some fr2/\Q .n fr2)):wpC P C cf LF c fr Q:=by
 cases c with
 |region j ops d=>
  cases hi
  simp only[rgD] at hd
  subst hd
  obtain⟨fr1,e1,fr2,e2,h⟩:=h
  simp only[rgO] at e1 e2
  exact⟨.n,fr2,by simp only[z2p,if_true,z8E,ht,hz,zvs,e1,e2],h⟩
 |_=>cases hi
theorem zfC{i:Nat}{Q:Fr->Prop}(h:Q fr):z7a P C cf c i .nil fr Q:=⟨fr,by simp only[z6I],h⟩
theorem zks{fr2:Fr}{Q:X->Fr->Prop}(hl:rgL c=some l)(ha:z6P P l fr=some fr2)(h:Q .n fr2):∃fr2,z6P P (rgO c).toList fr=some fr2/\Q .n fr2:=by
 cases c with
 |region j ops d=>cases hl;exact⟨fr2,ha,h⟩
 |_=>cases hl
def z0v(P:Program)(C:z0e)(wio:FuncId->Nat->Bool)(same:Bool)(M:Nat->Bool)(fr:Fr)(o:Oper)(m:Nat):Option Fr:=match z0y P C wio same M fr o m with|some f=>some (zy3 f)|none=>none
theorem zdx{i:Nat}{fr':Fr}(ho:zhZ c k=some o)(hgd:z6F (rgO c) fr o=some true)(hs:z0v P C cf.wio (cf.wr i).isEmpty (cf.wr i).contains fr o m=some fr1)(e:z6I P C cf.wio (cf.wr i).isEmpty (cf.wr i).contains (rgO c) rest fr1=some fr'):z6I P C cf.wio (cf.wr i).isEmpty (cf.wr i).contains (rgO c) (.op k m rest) fr=some fr':=by
 unfold z0v at hs
 split at hs
 case h_2=>cases hs
 case h_1 f hz=>
 cases hs
 simp only[z6I,zdF ho,hgd]
 unfold z0y at hz
 split at hz
 · rename_i hm
   rw[if_pos hm]
   split at hz
   · rename_i e1 he
     try rw[he]
     simp only[hz]
     exact e
   · cases hz
 · rename_i hm
   rw[if_neg hm]
   rw[hz]
   exact e
theorem zds{i:Nat}{Q:Fr->Prop}(ho:zhZ c k=some o)(hg:o.guard=none)(hs:z0v P C cf.wio (cf.wr i).isEmpty (cf.wr i).contains fr o m=some fr1)(h:z7a P C cf c i rest fr1 Q):z7a P C cf c i (.op k m rest) fr Q:=by
 obtain⟨fr',e,h⟩:=h
 exact⟨fr',zdx ho (by unfold z6F;rw[hg]) hs e,h⟩
theorem zDI{i:Nat}{Q:Fr->Prop}(ho:zhZ c k=some o)(hg:zya c o=some g)(hv:zui g fr=some true)(hs:z0v P C cf.wio (cf.wr i).isEmpty (cf.wr i).contains fr o m=some fr1)(h:z7a P C cf c i rest fr1 Q):z7a P C cf c i (.op k m rest) fr Q:=by
 obtain⟨fr',e,h⟩:=h
 exact⟨fr',zdx ho (by rw[zoH hg];exact hv) hs e,h⟩
def nrmO?:Option Fr->Option Fr
 |some f=>some (zy3 f)
 |none=>none
theorem zDJ{i:Nat}{Q:Fr->Prop}(ho:zhZ c k=some o)(hg:zya c o=some g)(hv:zui g fr=some false)(hs:nrmO? (putF fr o.dst (.one (.k undef)))=some fr1)(h:z7a P C cf c i rest fr1 Q):z7a P C cf c i (.op k m rest) fr Q:=by
 obtain⟨fr',e,h⟩:=h
 have hgd:z6F (rgO c) fr o=some false:=by rw[zoH hg];exact hv
 unfold nrmO? at hs
 split at hs
 · rename_i f hf
   cases hs
   exact⟨fr',by simp only[z6I,zdF ho,hgd,hf];exact e,h⟩
 · cases hs
def lkp(s:Nat):List (Nat×Fr)->Option Fr
 | []=>none
 |(j,f)::r=>if s=j then some f else lkp s r
def zD7(s k:Nat):List (Nat×Nat×Nat×Nat)->Option (Nat×Nat)
 | []=>none
 |(a,b,m,z)::r=>if Nat.beq a s&&Nat.beq b k then some (m,z) else zD7 s k r
def zzZ(es:List (Nat×Nat×Nat×Nat))(z:Nat):SchT->Nat->Bool
 | .nil,s=>Nat.beq s z
 | .op k m r,s=>match zD7 s k es with|some (m',s')=>Nat.beq m m'&&zzZ es z r s'|none=>false
 | .alt a b,s=>zzZ es z a s&&zzZ es z b s
theorem zoi{s k m z:Nat}:∀ {es:List (Nat×Nat×Nat×Nat)},zD7 s k es=some (m,z)->(s,k,m,z)∈es
 |(a,b,m',z')::r,h=>by
  simp only[zD7] at h
  split at h
  · rename_i hb
    simp only[Z6] at hb
    obtain rfl:=Y0 hb.1
    obtain rfl:=Y0 hb.2
    cases h
    simp
  · exact Zl _ (zoi h)
def zx9(P:Program)(C:z0e)(cf:Cfg)(c:Code)(i:Nat):List (Nat×Nat×Nat×Nat)->List (Nat×Fr)->(List (Nat×Fr)->Prop)->Prop
 | [],kn,Q=>Q kn
 |(s,k,m,s')::es,kn,Q=>∃F o F1,lkp s kn=some F/\zhZ c k=some o/\o.guard=none/\z0v P C cf.wio (cf.wr i).isEmpty (cf.wr i).contains F o m=some F1/\((lkp s' kn=some F1/\zx9 P C cf c i es kn Q)∨(lkp s' kn=none/\zx9 P C cf c i es ((s',F1)::kn) Q))
theorem z1r{i s s':Nat}{Q:List (Nat×Fr)->Prop}{F:Fr}(hk:lkp s kn=some F)(ho:zhZ c k=some o)(hg:o.guard=none)(hl:lkp s' kn=none)(hs:z0v P C cf.wio (cf.wr i).isEmpty (cf.wr i).contains F o m=some F1)(h:zx9 P C cf c i es ((s',F1)::kn) Q):zx9 P C cf c i ((s,k,m,s')::es) kn Q:=⟨F,o,F1,hk,ho,hg,hs,.inr ⟨hl,h⟩⟩
theorem z1q{i s s':Nat}{Q:List (Nat×Fr)->Prop}{F:Fr}(hk:lkp s kn=some F)(ho:zhZ c k=some o)(hg:o.guard=none)(hl:lkp s' kn=some F1)(hs:z0v P C cf.wio (cf.wr i).isEmpty (cf.wr i).contains F o m=some F1)(h:zx9 P C cf c i es kn Q):zx9 P C cf c i ((s,k,m,s')::es) kn Q:=⟨F,o,F1,hk,ho,hg,hs,.inl ⟨hl,h⟩⟩
theorem zyc{i z:Nat}{Q:Fr->Prop}{G:Fr}(hk:lkp z kn=some G)(h:Q G):zx9 P C cf c i [] kn (fun kn=>∃G,lkp z kn=some G/\Q G):=⟨G,hk,h⟩
theorem znl{i:Nat}{Q:List (Nat×Fr)->Prop}:∀ {es:List (Nat×Nat×Nat×Nat)} {kn:List (Nat×Fr)},zx9 P C cf c i es kn Q->∃kn',Q kn'/\(∀s F,lkp s kn=some F->lkp s kn'=some F)/\
 ∀s k m s',(s,k,m,s')∈es->∃F o F1,lkp s kn'=some F/\zhZ c k=some o/\o.guard=none/\z0v P C cf.wio (cf.wr i).isEmpty (cf.wr i).contains F o m=some F1/\lkp s' kn'=some F1
 | [],kn,h=>⟨kn,h,fun _ _ e=>e,fun _ _ _ _ h=>by cases h⟩
 |(s,k,m,s')::es,kn,⟨F,o,F1,h1,h2,h3,h4,h5⟩=>by
  have:∃kn',Q kn'/\(∀s F,lkp s kn=some F->lkp s kn'=some F)/\lkp s' kn'=some F1/\
   ∀s k m s',(s,k,m,s')∈es->∃F o F1,lkp s kn'=some F/\zhZ c k=some o/\o.guard=none/\z0v P C cf.wio (cf.wr i).isEmpty (cf.wr i).contains F o m=some F1/\lkp s' kn'=some F1:=by
   rcases h5 with⟨hl,hd⟩|⟨hl,hd⟩
   · obtain⟨kn',a1,a2,a3⟩:=znl hd
     exact⟨kn',a1,a2,a2 _ _ hl,a3⟩
   · obtain⟨kn',a1,a2,a3⟩:=znl hd
     refine⟨kn',a1,fun s F e=>a2 s F ?_,a2 _ _ (by simp[lkp]),a3⟩
     simp only[lkp]
     rw[if_neg (fun e'=>by rw[e',hl] at e;cases e)]
     exact e
  obtain⟨kn',a1,a2,a3,a4⟩:=this
  refine⟨kn',a1,a2,fun s1 k1 m1 s1' hm=> ?_⟩
  rcases Zu.1 hm with e|e
  · cases e
    exact⟨F,o,F1,a2 _ _ h1,h2,h3,h4,a3⟩
  · exact a4 _ _ _ _ e
theorem zeQ{i z:Nat}{es:List (Nat×Nat×Nat×Nat)}{kn:List (Nat×Fr)}(he:∀s k m s',(s,k,m,s')∈es->∃F o F1,lkp s kn=some F/\zhZ c k=some o/\o.guard=none/\z0v P C cf.wio (cf.wr i).isEmpty (cf.wr i).contains F o m=some F1/\lkp s' kn=some F1):
 ∀ {t:SchT} {s:Nat} {F G:Fr},zzZ es z t s=true->lkp s kn=some F->lkp z kn=some G->z6I P C cf.wio (cf.wr i).isEmpty (cf.wr i).contains (rgO c) t F=some G
 | .nil,s,F,G,h,hF,hG=>by
   obtain rfl:=Y0 h
   rw[hF] at hG;cases hG
   simp only[z6I]
 | .op k m r,s,F,G,h,hF,hG=>by
   simp only[zzZ] at h
   split at h
   · rename_i m' s' hn
     simp only[Z6] at h
     obtain⟨hm,h⟩:=h
     obtain rfl:=Y0 hm
     obtain⟨F',o,F1,b1,b2,b3,b4,b5⟩:=he _ _ _ _ (zoi hn)
     rw[hF] at b1;cases b1
     exact zdx b2 (by unfold z6F;rw[b3]) b4 (zeQ he h b5 hG)
   · cases h
 | .alt a b,s,F,G,h,hF,hG=>by
   simp only[zzZ,Z6] at h
   simp only[z6I,zeQ he h.1 hF hG,zeQ he h.2 hF hG]
   exact zez ⟨rfl,fun _ _=>rfl,fun _ _=>rfl⟩
theorem zxP{i:Nat}{Q:Fr->Prop}(es:List (Nat×Nat×Nat×Nat))(z:Nat)(hc:zzZ es z t 0=true)(h:zx9 P C cf c i es [(0,fr)] (fun kn=>∃G,lkp z kn=some G/\Q G)):z7a P C cf c i t fr Q:=by
 obtain⟨kn,⟨G,hG,hQ⟩,h2,h3⟩:=znl h
 exact⟨G,zeQ h3 hc (h2 0 fr (by simp[lkp])) hG,hQ⟩
theorem zAE{i:Nat}{b:SchT}{f:Fr}{Q:Fr->Prop}(h1:z7a P C cf c i a fr (fun x=>x=f))(h2:z7a P C cf c i b fr (fun y=>zb3 f y))(h:Q f):z7a P C cf c i (.alt a b) fr Q:=by
 obtain⟨x,e1,rfl⟩:=h1
 obtain⟨y,e2,hs⟩:=h2
 exact⟨x,by simp only[z6I,e1,e2];exact zez hs,h⟩
theorem zfD{i:Nat}{b:SchT}{Q:Fr->Prop}(h:z7a P C cf c i a fr (fun x=>z7a P C cf c i b fr (fun y=>zb3 x y)/\Q x)):z7a P C cf c i (.alt a b) fr Q:=by
 obtain⟨x,e1,h1,h2⟩:=h
 exact zAE ⟨x,e1,rfl⟩ h1 h2
theorem z3D{id i:Nat}(hi:i=id)(h:Q .n fr):z8A id Q (.x i) fr:=by
 subst hi;exact zrb h
end
attribute [irreducible] wpC zkt z8A zsv zmD z9a zzq zsz zgS zyw zAe
end
section
variable{c:Cfg}{fn:Func}{f:FuncId}{cf:FuncId->Option Cfg}{args:List T}{d:Nat}{P:Program}{o:T×List T}
def LFm:Nat:=18446744073709551616
noncomputable def z4J(P:Program)(X:z0e->z0e)(cf:FuncId->Option Cfg):Nat->z0e
 |0=>fun f args=>match cf f with|some _=>none|none=>X (fun _ _=>none) f args
 |n+1=>fun f args=>match cf f with
  |some c=>(match P.funcs[f]? with|some fn=>zkL P (z4J P X cf n) c LFm fn args|none=>none)
  |none=>X (z4J P X cf n) f args
def zdG(P:Program)(f:FuncId)(c:Cfg):Bool:=
 match P.funcs[f]? with
 |none=>false
 |some fn=>match fn.body with
  |none=>false
  |some b=>(fn.name != "runtime.NumGoroutine")&&okC c b
theorem zbL{P:Program}{I:World->(Nat->z0a)->Prop}{X:z0e->z0e}{cf:FuncId->Option Cfg}(hI:EnvS I)(hX:∀C,z7e P I C->z7e P I (X C))(hm:P.follows .mixedOrders=true)(hf:∀f c,cf f=some c->zdG P f c=true):∀n,z7e P I (z4J P X cf n)
 |0=>fun f args r outs h=>by
  simp only[z4J] at h
  split at h
  · cases h
  · exact hX _ (fun _ _ _ _ h=>by cases h) f args r outs h
 |n+1=>fun f args r outs h=>by
  simp only[z4J] at h
  split at h
  · rename_i c hc
    split at h
    · rename_i fn hfn
      have hok:=hf f c hc
      unfold zdG at hok
      rw[hfn] at hok
      simp only at hok
      split at hok
      · cases hok
      · rename_i b hb
        simp only[Z6,bne_iff_ne,ne_eq] at hok
        exact zAS hI (zbL hI hX hm hf n) hm hfn hb hok.1 hok.2 h
    · cases h
  · exact hX _ (zbL hI hX hm hf n) f args r outs h
theorem zlc{X:z0e->z0e}{n:Nat}(hc:cf f=some c)(hfn:P.funcs[f]? =some fn)(h:zkL P (z4J P X cf n) c LFm fn args=some o):z4J P X cf (n+1) f args=some o:=by
 simp only[z4J,hc,hfn,h]
def From(P:Program)(X:z0e->z0e)(cf:FuncId->Option Cfg)(d:Nat)(f:FuncId)(args:List T)(o:T×List T):Prop:=∀n,d<=n->z4J P X cf n f args=some o
theorem From.run{X:z0e->z0e}(hc:cf f=some c)(hfn:P.funcs[f]? =some fn)(h:∀n,d<=n->zkL P (z4J P X cf n) c LFm fn args=some o):From P X cf (d+1) f args o:=fun n hn=>by
 match n,hn with
 |m+1,hm=>exact zlc hc hfn (h m (by omega))
theorem From.mono{X:z0e->z0e}{e:Nat}(h:From P X cf d f args o)(he:d<=e):From P X cf e f args o:=fun n hn=>h n (by omega)
theorem From.ok{I:World->(Nat->z0a)->Prop}{X:z0e->z0e}{r:T}{outs:List T}(hI:EnvS I)(hX:∀C,z7e P I C->z7e P I (X C))(hm:P.follows .mixedOrders=true)(hf:∀f c,cf f=some c->zdG P f c=true)(h:From P X cf d f args (r,outs)):CallOk P I f args r outs:=
 zbL hI hX hm hf d f args r outs (h d (Z5 d))
end
section
variable{c:Cfg}{fr fr':Fr}{fn:Func}{f:FuncId}{wio:FuncId->Nat->Bool}{args:List T}{LF:Nat}{p q:Nat->Prop}{o:T×List T}
noncomputable def Lim(P:Program)(X:z0e->z0e)(cf:FuncId->Option Cfg):z0e:=fun f args=>
 @dite _ (∃o d,From P X cf d f args o) (Classical.propDecidable _) (fun h=>some h.choose) (fun _=>none)
section
variable {P:Program} {Xc:z0e->z0e} {cf:FuncId->Option Cfg}
theorem zos{d:Nat}(h:From P Xc cf d f args o):Lim P Xc cf f args=some o:=by
 have he:∃o d,From P Xc cf d f args o:=⟨o,d,h⟩
 unfold Lim
 rw[dif_pos he]
 obtain⟨e,h2⟩:=he.choose_spec
 have a1:=h (d+e) (by omega)
 have a2:=h2 (d+e) (by omega)
 rw[a1] at a2
 exact a2.symm
theorem zy2(h:Lim P Xc cf f args=some o):∃d,From P Xc cf d f args o:=by
 unfold Lim at h
 split at h
 · rename_i he
   cases h
   exact he.choose_spec
 · cases h
def Ev(p:Nat->Prop):Prop:=∃n,∀m,n<=m->p m
theorem Ev.pure(h:∀m,p m):Ev p:=⟨0,fun m _=>h m⟩
theorem Ev.both{r:Nat->Prop}(h1:Ev p)(h2:Ev q)(h:∀m,p m->q m->r m):Ev r:=by
 obtain⟨a,h1⟩:=h1
 obtain⟨b,h2⟩:=h2
 exact⟨a+b,fun m hm=>h m (h1 m (by omega)) (h2 m (by omega))⟩
theorem Ev.imp(h1:Ev p)(h:∀m,p m->q m):Ev q:=by
 obtain⟨a,h1⟩:=h1
 exact⟨a,fun m hm=>h m (h1 m hm)⟩
theorem zcY{args:List E}{dst:Option Nat}(h:zcZ (Lim P Xc cf) wio fr f args dst=some fr'):Ev fun m=>zcZ (z4J P Xc cf m) wio fr f args dst=some fr':=by
 unfold zcZ at h⊢
 split at h
 · cases h
 · rename_i ts deps io ha
   split at h
   · cases h
   · rename_i r outs hc
     obtain⟨d,hd⟩:=zy2 hc
     refine⟨d,fun m hm=> ?_⟩
     show(match z4J P Xc cf m f ts with|none=>none|some (r,outs)=>_)=_
     rw[hd m hm]
     exact h
theorem zmL{o:Oper}(h:opF P (Lim P Xc cf) wio fr o=some fr'):Ev fun m=>opF P (z4J P Xc cf m) wio fr o=some fr':=by
 unfold opF at h⊢
 split at h
 · exact .pure fun _=>h
 · split at h
   · exact zcY h
   · cases h
 · exact .pure fun _=>h
 · exact .pure fun _=>h
 · exact .pure fun _=>h
theorem zlE{o:Oper}(h:zb8 P (Lim P Xc cf) wio fr o=some fr'):Ev fun m=>zb8 P (z4J P Xc cf m) wio fr o=some fr':=by
 unfold zb8 at h⊢
 split at h
 · split at h
   · split at h
     · exact zcY h
     · cases h
   · cases h
 · exact .pure fun _=>h
theorem zrq{M:Nat->Bool}{o:Oper}(h:wrF P (Lim P Xc cf) wio M fr o=some fr'):Ev fun m=>wrF P (z4J P Xc cf m) wio M fr o=some fr':=by
 unfold wrF at h⊢
 split at h
 · split at h
   · cases h
   · split at h
     · exact zcY h
     · split at h
       · rename_i hM
         simp only[hM,if_true]
         exact zcY h
       · cases h
     · cases h
 · exact .pure fun _=>h
 · exact .pure fun _=>h
 · exact .pure fun _=>h
 · cases h
theorem ziD{wio:FuncId->Nat->Bool}{ops:Array Oper}:∀ {l:List Oper} {fr fr':Fr},zeo P (Lim P Xc cf) wio ops l fr=some fr'->Ev fun m=>zeo P (z4J P Xc cf m) wio ops l fr=some fr'
 | [],fr,fr',h=>.pure fun _=>h
 |o::rest,fr,fr',h=>by
  simp only[zeo] at h⊢
  split at h
  · cases h
  · split at h
    · rename_i fr1 h1
      exact(zmL h1).both (ziD h) fun m a1 a2=>by rw[a1];exact a2
    · cases h
  · split at h
    · rename_i fr1 h1
      exact(ziD h)
    · cases h
theorem zcU{wio:FuncId->Nat->Bool}{same:Bool}{M:Nat->Bool}{ops:Array Oper}:∀ {l:List (Nat×Oper×Nat)} {fr fr':Fr},zaf P (Lim P Xc cf) wio same M ops l fr=some fr'->Ev fun m=>zaf P (z4J P Xc cf m) wio same M ops l fr=some fr'
 | [],fr,fr',h=>.pure fun _=>h
 |(k,o,mk)::rest,fr,fr',h=>by
  simp only[zaf] at h⊢
  split at h
  · cases h
  · split at h
    · exact zcU h
    · cases h
  · split at h
    · rename_i hm
      simp only[if_pos hm]
      split at h
      · split at h
        · exact zcU h
        · cases h
      · cases h
    · rename_i hm
      simp only[if_neg hm]
      split at h
      · rename_i fr1 h1
        have h2:Ev fun m=>(if mk=2 then opF P (z4J P Xc cf m) wio fr o else if same=true then zb8 P (z4J P Xc cf m) wio fr o else wrF P (z4J P Xc cf m) wio M fr o)=some fr1:=by
         by_cases e:mk=2
         · simp only[if_pos e] at h1⊢;exact zmL h1
         · simp only[if_neg e] at h1⊢
           by_cases e2:same=true
           · simp only[if_pos e2] at h1⊢;exact zlE h1
           · simp only[if_neg e2] at h1⊢;exact zrq h1
        exact h2.both (zcU h) fun m a1 a2=>by rw[a1];exact a2
      · cases h
theorem z9b{wio:FuncId->Nat->Bool}{same:Bool}{M:Nat->Bool}{ops:Array Oper}:∀ {l:SchT} {fr fr':Fr},z6I P (Lim P Xc cf) wio same M ops l fr=some fr'->Ev fun m=>z6I P (z4J P Xc cf m) wio same M ops l fr=some fr'
 | .nil,fr,fr',h=>.pure fun _=>h
 | .alt x y,fr,fr',h=>by
   simp only[z6I] at h⊢
   split at h
   · rename_i f1 f2 h1 h2
     obtain⟨rfl,hs⟩:=zdD h
     exact(z9b h1).both (z9b h2) fun m a1 a2=>by rw[a1,a2];exact zez hs
   · cases h
 | .op k mk rest,fr,fr',h=>by
   simp only[z6I] at h⊢
   split at h
   · cases h
   rename_i o ho
   try simp only[ho]
   split at h
   · cases h
   · split at h
     · exact z9b h
     · cases h
   · split at h
     · rename_i hm
       simp only[if_pos hm]
       split at h
       · split at h
         · exact z9b h
         · cases h
       · cases h
     · rename_i hm
       simp only[if_neg hm]
       split at h
       · rename_i fr1 h1
         have h2:Ev fun m=>(if mk=2 then opF P (z4J P Xc cf m) wio fr o else if same=true then zb8 P (z4J P Xc cf m) wio fr o else wrF P (z4J P Xc cf m) wio M fr o)=some fr1:=by
          by_cases e:mk=2
          · simp only[if_pos e] at h1⊢;exact zmL h1
          · simp only[if_neg e] at h1⊢
            by_cases e2:same=true
            · simp only[if_pos e2] at h1⊢;exact zlE h1
            · simp only[if_neg e2] at h1⊢;exact zrq h1
         exact h2.both (z9b h) fun m a1 a2=>by rw[a1];exact a2
       · cases h
theorem zni{id:Nat}{ops:Array Oper}(h:z8E P (Lim P Xc cf) c id ops fr=some fr'):Ev fun m=>z8E P (z4J P Xc cf m) c id ops fr=some fr':=by
 unfold z8E at h⊢
 split at h
 · exact z9b h
 · split at h
   · exact zcU h
   · cases h
theorem zlg{B:z0e->Fr->Option (X×Fr)}{cn:Fr->Fr}(hB:∀fr o,B (Lim P Xc cf) fr=some o->Ev fun m=>B (z4J P Xc cf m) fr=some o):∀ {n:Nat} {fr:Fr} {o:X×Fr},zcK (B (Lim P Xc cf)) cn n fr=some o->Ev fun m=>zcK (B (z4J P Xc cf m)) cn n fr=some o
 |0,fr,o,h=>by cases h
 |n+1,fr,o,h=>by
  simp only[zcK] at h⊢
  split at h
  · rename_i fr1 h1
    exact(hB _ _ h1).both (zlg hB h) fun m a1 a2=>by rw[a1];exact a2
  · rename_i x fr1 hne h1
    refine(hB _ _ h1).imp fun m a1=> ?_
    rw[a1]
    cases x with
    |n=>exact absurd rfl hne
    |x i=>exact h
    |r=>exact h
  · cases h
theorem zgF:∀(b:Code) {fr:Fr} {o:X×Fr},z2p P (Lim P Xc cf) c LF b fr=some o->Ev fun m=>z2p P (z4J P Xc cf m) c LF b fr=some o:=by
 intro b
 induction b with
 |skip=>intro fr o h;exact .pure fun _=>h
 |label l=>intro fr o h;exact .pure fun _=>h
 |exit id=>intro fr o h;exact .pure fun _=>h
 |ret=>intro fr o h;exact .pure fun _=>h
 |goto l=>intro fr o h;cases h
 |scope c ih=>intro fr o h;simp only[z2p] at h⊢;exact ih h
 |refuse s=>intro fr o h;cases h
 |rangeFunc=>intro fr o h;cases h
 |region id ops draw=>
  intro fr o h
  simp only[z2p] at h⊢
  split at h
  · rename_i hd
    simp only[hd,if_true]
    split at h
    · rename_i fr1 h1
      exact(zni h1).imp fun m a1=>by rw[a1];exact h
    · cases h
  · rename_i hd
    simp only[hd,ZR,if_false]
    split at h
    · rename_i fr1 h1
      exact(ziD h1).imp fun m a1=>by rw[a1];exact h
    · cases h
 |seq a b ih1 ih2=>
  intro fr o h
  simp only[z2p] at h⊢
  split at h
  · rename_i fr1 h1
    exact(ih1 h1).both (ih2 h) fun m a1 a2=>by rw[a1];exact a2
  · rename_i hne
    refine(ih1 h).imp fun m a1=> ?_
    rw[a1]
    obtain⟨x,fr1⟩:=o
    cases x with
    |n=>exact absurd h (hne _)
    |x i=>rfl
    |r=>rfl
 |cond c x y ih1 ih2=>
  intro fr o h
  simp only[z2p] at h⊢
  split at h
  · exact ih1 h
  · exact ih2 h
  · cases h
 |block id c ih=>
  intro fr o h
  simp only[z2p] at h⊢
  split at h
  · rename_i i fr1 h1
    exact(ih h1).imp fun m a1=>by rw[a1];exact h
  · rename_i hne
    refine(ih h).imp fun m a1=> ?_
    rw[a1]
    obtain⟨x,fr1⟩:=o
    cases x with
    |n=>rfl
    |x i=>exact absurd h (hne _ _)
    |r=>rfl
 |loop b ih=>
  intro fr o h
  simp only[z2p] at h⊢
  exact zlg (B:=fun C fr=>z2p P C c LF b fr) (fun fr o h=>ih h) h
theorem zw3(h:zkL P (Lim P Xc cf) c LF fn args=some o):Ev fun m=>zkL P (z4J P Xc cf m) c LF fn args=some o:=by
 unfold zkL at h⊢
 split at h
 · rename_i hc
   simp only[if_pos hc]
   split at h
   · cases h
   · rename_i b hb
     split at h
     · rename_i fr h1
       exact(zgF _ h1).imp fun m a1=>by rw[a1];exact h
     · rename_i fr h1
       exact(zgF _ h1).imp fun m a1=>by rw[a1];exact h
     · cases h
 · cases h
theorem zzs(hc:cf f=some c)(hfn:P.funcs[f]? =some fn)(h:zkL P (Lim P Xc cf) c LFm fn args=some o):Lim P Xc cf f args=some o:=by
 obtain⟨d,hd⟩:=zw3 h
 exact zos (d:=d+1) (From.run hc hfn hd)
theorem zg9(hc:cf f=none)(h:∀C,Xc C f args=some o):Lim P Xc cf f args=some o:=
 zos (d:=0) fun n _=>by
  cases n with
  |zero=>simp only[z4J,hc,h]
  |succ n=>simp only[z4J,hc,h]
theorem zwy(hc:cf f=none)(h:Ev fun m=>Xc (z4J P Xc cf m) f args=some o):Lim P Xc cf f args=some o:=by
 obtain⟨d,hd⟩:=h
 refine zos (d:=d+1) fun n hn=> ?_
 match n,hn with
 |n+1,hn=>simp only[z4J,hc];exact hd n (by omega)
theorem zBv{I:World->(Nat->z0a)->Prop}{r:T}{outs:List T}(hI:EnvS I)(hX:∀C,z7e P I C->z7e P I (Xc C))(hm:P.follows .mixedOrders=true)(hf:∀f c,cf f=some c->zdG P f c=true)(h:Lim P Xc cf f args=some (r,outs)):CallOk P I f args r outs:=by
 obtain⟨d,hd⟩:=zy2 h
 exact From.ok hI hX hm hf hd
end
end
section
def z1p(P:Program)(t:TypeId)(f:Nat):Option (Nat×Nat×Bool):=
 match z2w P t with
 |some ⟨.struct fields,_,_,_⟩=>match fields[f]? with
  |none=>none
  |some fd=>match z2w P fd.type with
   |none=>none
   |some ti=>some (fd.offset,ti.size,z5V ti.u)
 |_=>none
def ziu(P:Program)(t:TypeId):Option (List T):=
 match z2w P t with
 |some ⟨.struct fields,_,_,some zs⟩=>if zs.all zcW=true/\(fields.toList.all fun f=>(z2w P f.type).isSome)=true then some zs else none
 |_=>none
theorem zjh(P:Program)(t:TypeId)(e:E)(f:Nat):z8X P t e f=match z1p P t f with
 |some (off,size,_)=>if size=0 then none else match e with
  | .one (.a id p o)=>some (.one (.a id p (o+off)))
  | .one (.ea dep cs o)=>some (.one (.ea dep cs (o+off)))
  |_=>none
 |none=>none:=by
 unfold z8X z1p
 cases z2w P t with
 |none=>rfl
 |some i=>
  obtain⟨u,s,b,z⟩:=i
  cases u with
  |struct fields=>
   simp only
   cases fields[f]? with
   |none=>rfl
   |some fd=>
    simp only
    cases z2w P fd.type with
    |none=>rfl
    |some ti=>rfl
  |_=>rfl
theorem zuz(P:Program)(fr:Fr)(t:TypeId)(e:E)(f:Nat):zlr P fr t e f=match z1p P t f with
 |some (off,size,agg)=>zqj fr agg size off e
 |none=>none:=by
 unfold zlr z1p
 cases z2w P t with
 |none=>rfl
 |some i=>
  obtain⟨u,s,b,z⟩:=i
  cases u with
  |struct fields=>
   simp only
   cases fields[f]? with
   |none=>rfl
   |some fd=>
    simp only
    cases z2w P fd.type with
    |none=>rfl
    |some ti=>rfl
  |_=>rfl
theorem z1s{P:Program}{t:TypeId}{zs:List T}(h:ziu P t=some zs)(fr:Fr)(parts:List (Nat×Operand)):zlI P fr t parts=match zer fr (z1p P t) (zs.map (A.t none)) parts with
 |some xs=>some (.ag xs)
 |none=>none:=by
 unfold ziu at h
 split at h
 · rename_i fields s b zs' ht
   split at h
   · rename_i hc
     cases h
     unfold zlI
     rw[ht]
     simp only
     rw[if_pos hc]
     have:(fun i=>match fields[i]? with|some f=>(match z2w P f.type with|some ti=>some (f.offset,ti.size,z5V ti.u)|none=>none)|none=>none)=z1p P t:=by
      funext i
      unfold z1p
      rw[ht]
      simp only
      cases fields[i]? with
      |none=>rfl
      |some f=>
       simp only
       cases z2w P f.type with
       |none=>rfl
       |some ti=>rfl
     exact congrArg (fun g=>match zer fr g (zs.map (A.t none)) parts with|some xs=>some (E.ag xs)|none=>none) this
   · cases h
 · cases h
abbrev hE(id:Nat):E:=.one (.h id [])
abbrev aE(id:Nat):E:=.one (.a id [] 0)
theorem zih:∀l:List UInt8,zbi (l.map fun b=>.sc (.int .u8 b.toNat))=some l
 | []=>rfl
 |b::l=>by simp[zbi,zih l]
theorem zm1(b:UInt8):IntKind.u8.wrap (b.toNat:Int)=b.toNat:=by
 have:=b.toNat_lt
 rw[YI];omega
@[simp] theorem range_1:List.range 1= [0]:=rfl
@[simp] theorem range_2:List.range 2= [0,1]:=rfl
@[simp] theorem range_3:List.range 3= [0,1,2]:=rfl
@[simp] theorem range_4:List.range 4= [0,1,2,3]:=rfl
@[simp] theorem range_5:List.range 5= [0,1,2,3,4]:=rfl
@[simp] theorem range_6:List.range 6= [0,1,2,3,4,5]:=rfl
@[simp] theorem range_7:List.range 7= [0,1,2,3,4,5,6]:=rfl
@[simp] theorem range_8:List.range 8= [0,1,2,3,4,5,6,7]:=rfl
@[simp] theorem range_9:List.range 9= [0,1,2,3,4,5,6,7,8]:=rfl
@[simp] theorem range_10:List.range 10= [0,1,2,3,4,5,6,7,8,9]:=rfl
@[simp] theorem range_11:List.range 11= [0,1,2,3,4,5,6,7,8,9,10]:=rfl
@[simp] theorem range_12:List.range 12= [0,1,2,3,4,5,6,7,8,9,10,11]:=rfl
@[simp] theorem zrl(t:T):∀n,zb0 n [t]=List.replicate n t
  |0=>rfl
  |n+1=>by simp[zb0,zrl t n,List.replicate_succ]
@[simp] theorem zz7{α:Type}(g:α->Value):∀l:List α,zgV (l.map fun x=>T.sc (g x))=false
  | []=>rfl
  |x::l=>by simp[zgV,opn,zz7 g l]
@[simp] theorem bits_u64:IntKind.u64.bits=64:=rfl
@[simp] theorem bits_i64:IntKind.i64.bits=64:=rfl
@[simp] theorem int_beq(a b:Int):(a==b)=decide (a=b):=rfl
@[simp] theorem int_bne(a b:Int):(a !=b)= !decide (a=b):=rfl
@[simp] theorem wrap_0:IntKind.i64.wrap 0=0:=by decide
@[simp] theorem wrap_1:IntKind.i64.wrap 1=1:=by decide
@[simp] theorem wrap_2:IntKind.i64.wrap 2=2:=by decide
@[simp] theorem wrap_3:IntKind.i64.wrap 3=3:=by decide
@[simp] theorem wrap_m1:IntKind.i64.wrap (-1)= -1:=by decide
end
section
variable{s:ByteArray}{cn:Fr->Fr}{h:Int}{i m n:Nat}{α β ν ρ σ:Type}{xs ys:List α}{x:Option α}{r v:α}{H:σ->Fr}{g:α->List β}{f:α->Option β}{o:σ⊕ρ}
def z0k{σ ρ:Type}(b:σ->Option (σ⊕ρ)):Nat->σ->Option ρ
 |0,_=>none
 |n+1,s=>match b s with
  |none=>none
  |some (.inl s')=>z0k b n s'
  |some (.inr r)=>some r
def z0c{σ ρ:Type}(s:σ):Option (σ⊕ρ):=some (.inl s)
def z0i{σ ρ:Type}(x:Option ρ):Option (σ⊕ρ):=x.map .inr
def chk{α:Type}(p:Prop)[Decidable p](x:Option α):Option α:=if p then x else none
def atI{α:Type}(xs:List α)(i:Int):Option α:=if 0<=i then xs[i.toNat]? else none
def znt(s:ByteArray)(i:Int):Option Int:=if 0<=i then(s[i.toNat]?).map fun b=>(b.toNat:Int) else none
def z6w{α:Type}(xs:List α)(l h:Int):Option (List α):=if 0<=l/\l<=h/\h<=xs.length then some ((xs.drop l.toNat).take (h.toNat-l.toNat)) else none
def zod(s:ByteArray)(l h:Int):Option ByteArray:=if 0<=l/\l<=h/\h<=s.size then some (s.extract l.toNat h.toNat) else none
def z1B(bytes n:Nat):Prop:=n*bytes<=140737488355328/\n<=4611686018427387904
instance(b n:Nat):Decidable (z1B b n):=by unfold z1B;exact inferInstance
def z0X(bytes l:Int):Prop:=0<=l/\l<=140737488355328/\bytes*l<=140737488355328
instance(b n:Int):Decidable (z0X b n):=by unfold z0X;exact inferInstance
def z9O(a b:ByteArray):Prop:=((a.size:Int)+b.size)<=9223372036854775807
instance(a b:ByteArray):Decidable (z9O a b):=by unfold z9O;exact inferInstance
def z1z(l:List Int):ByteArray:=⟨(l.map fun z=>UInt8.ofNat z.toNat).toArray⟩
def zBA(s:ByteArray):List Int:=s.data.toList.map fun b=>(b.toNat:Int)
def z8i{κ ν:Type}[DecidableEq κ](k:κ):List (κ×ν)->Option ν
 | []=>none
 |(a,v)::r=>if a=k then some v else z8i k r
def z8p{κ ν:Type}[DecidableEq κ](k:κ)(v:ν):List (κ×ν)->List (κ×ν)
 | []=> [(k,v)]
 |(a,u)::r=>if a=k then(k,v)::r else(a,u)::z8p k v r
def z2X(k:IntKind)(a b:Int):Int:=k.wrap (BitVec.ofInt k.bits a&&&BitVec.ofInt k.bits b).toNat
def orI(k:IntKind)(a b:Int):Int:=k.wrap (BitVec.ofInt k.bits a|||BitVec.ofInt k.bits b).toNat
def zGr(k:IntKind)(a b:Int):Int:=k.wrap (BitVec.ofInt k.bits a^^^BitVec.ofInt k.bits b).toNat
def zgR(k:IntKind)(a b:Int):Int:=k.wrap (BitVec.ofInt k.bits a&&& ~~~ BitVec.ofInt k.bits b).toNat
theorem zs9:∃f:IntKind->Int->Int->Int,∀k a b,f k a b=k.wrap (a*2^(min b.toNat k.bits)):=⟨_,fun _ _ _=>rfl⟩
noncomputable def zmx:IntKind->Int->Int->Int:=Classical.choose zs9
theorem zsa(k:IntKind)(a b:Int):zmx k a b=k.wrap (a*2^(min b.toNat k.bits)):=Classical.choose_spec zs9 k a b
def z0w(k:IntKind)(a b:Int):Int:=a.fdiv (2^(min b.toNat k.bits))
def zD6(k:IntKind)(a b:Int):Int:=k.wrap (a.tdiv b)
def zAM(a b:ByteArray):Bool:=Go.Op.bytesLess a.toList b.toList
theorem z8z{p:Prop}[Decidable p](h:chk p x=some r):p/\x=some r:=by
 unfold chk at h;split at h
 · exact⟨by assumption,h⟩
 · cases h
theorem z1t{r:β}(h:x.bind f=some r):∃v,x=some v/\f v=some r:=by
 cases x with
 |none=>cases h
 |some v=>exact⟨v,rfl,h⟩
theorem z3K{x:Option ρ}(h:z0i x=some o):∃r,x=some r/\o= .inr r:=by
 unfold z0i at h
 cases x with
 |none=>cases h
 |some v=>cases h;exact⟨v,rfl,rfl⟩
theorem z4j{s:σ}(h:z0c s=some o):o= .inl s:=by cases h;rfl
theorem zaY{i:Int}(h:atI xs i=some v):0<=i/\i<xs.length/\i.toNat+1<=xs.length/\xs[i.toNat]? =some v/\ ∀hh:i.toNat<xs.length,xs[i.toNat]'hh=v:=by
 unfold atI at h
 split at h
 · have:=(Z8.1 h).1
   exact⟨by assumption,by omega,this,h,fun _=>(Z8.1 h).2⟩
 · cases h
theorem zra{i v:Int}(h:znt s i=some v):0<=i/\i<s.size/\ ∃b,s[i.toNat]? =some b/\v=(b.toNat:Int)/\ ∀hh:i.toNat<s.size,((s[i.toNat]'hh).toNat:Int)=v:=by
 unfold znt at h
 split at h
 · simp only[Z4] at h
   obtain⟨b,hb,rfl⟩:=h
   have:i.toNat<s.size:=by
    rcases Yw i.toNat s.size with h'|h'
    · exact h'
    · rw[getElem?_neg s i.toNat (by omega)] at hb;cases hb
   exact⟨by assumption,by omega,b,hb,rfl,fun hh=>by rw[getElem?_pos s i.toNat hh] at hb;cases hb;rfl⟩
 · cases h
theorem z8G{i:Int}{r:β}(h:(atI xs i).bind f=some r):∃v,(0<=i/\i<xs.length/\i.toNat+1<=xs.length/\xs[i.toNat]? =some v/\ ∀hh:i.toNat<xs.length,xs[i.toNat]'hh=v)/\f v=some r:=by
 obtain⟨v,h1,h2⟩:=z1t h
 exact⟨v,zaY h1,h2⟩
theorem zxn{r:β}(h:(atI xs (i:Int)).bind f=some r):∃v,(i<xs.length/\i+1<=xs.length/\xs[i]? =some v/\ ∀hh:i<xs.length,xs[i]'hh=v)/\f v=some r:=by
 obtain⟨v,h1,h2⟩:=z1t h
 obtain⟨a,b,c,d,e⟩:=zaY h1
 simp only[Z3] at c d e
 exact⟨v,⟨by omega,c,d,e⟩,h2⟩
theorem zlD{b:Nat}(h:chk (z1B b n) x=some r):(n*b<=140737488355328/\n<=4611686018427387904)/\x=some r:=z8z h
theorem zEU(h:chk (z1B 1 n) x=some r):(n<=140737488355328/\n<=4611686018427387904)/\x=some r:=by
 obtain⟨⟨a,b⟩,h⟩:=z8z h
 exact⟨⟨by omega,b⟩,h⟩
theorem zEk{b l:Int}(h:chk (z0X b l) x=some r):(0<=l/\l<=140737488355328/\b*l<=140737488355328/\max l 0=l)/\x=some r:=by
 obtain⟨⟨a,b,c⟩,h⟩:=z8z h
 exact⟨⟨a,b,c,by omega⟩,h⟩
theorem z5q{l:Int}(e:z6w xs l h=some ys):0<=l/\l<=h/\h<=xs.length/\ys=(xs.drop l.toNat).take (h.toNat-l.toNat)/\ys.length=h.toNat-l.toNat:=by
 unfold z6w at e
 split at e
 · cases e
   refine⟨by omega,by omega,by omega,rfl,?_⟩
   simp;omega
 · cases e
theorem zmF{t:ByteArray}{l:Int}(e:zod s l h=some t):0<=l/\l<=h/\h<=s.size/\t=s.extract l.toNat h.toNat:=by
 unfold zod at e
 split at e
 · cases e;exact⟨by omega,by omega,by omega,rfl⟩
 · cases e
theorem z2c{σ ρ:Type}{b:σ->Option (σ⊕ρ)}(I:σ->Prop)(m:σ->Nat)(Post:ρ->Prop)(step:∀s,I s->(∃s',b s=some (.inl s')/\I s'/\m s'<m s)∨(∃r,b s=some (.inr r)/\Post r)):
 ∀(n:Nat) (s:σ),I s->m s<n->∃r,z0k b n s=some r/\Post r
 |0,s,_,h=>by omega
 |n+1,s,hI,hm=>by
  rcases step s hI with⟨s',e,hI',hm'⟩|⟨r,e,hr⟩
  · obtain⟨r,h1,h2⟩:=z2c I m Post step n s' hI' (by omega)
    exact⟨r,by simp only[z0k,e];exact h1,h2⟩
  · exact⟨r,by simp only[z0k,e],hr⟩
theorem ziO{b:σ->Option (σ⊕ρ)}{r:ρ}(I:σ->Prop)(m:σ->Nat){s:σ}(hI:I s)(hm:m s<n)(step:∀s,I s->(∃s',b s=z0c s'/\I s'/\m s'<m s)∨b s=z0i (some r)):z0k b n s=some r:=by
 obtain⟨r',h1,h2⟩:=z2c I m (·=r) (fun s hs=>(step s hs).imp id fun h=>⟨r,h,rfl⟩) n s hI hm
 rw[h1,h2]
theorem z7H{P:Program}{C:z0e}{cf:Cfg}{LF:Nat}{c:Code}{fr:Fr}{Q:X->Fr->Prop}{o:Operand}(ho:cdO c=some o)(hv:rdV (opE fr o)=some (.bool true))(h:wpC P C cf LF (cdA c) fr Q):wpC P C cf LF c fr Q:=
 zDZ ho fun Q1 Q2 h1 h2=>by rw[hv,z9S];exact⟨fun _=>h1.out h,fun e=>by cases e⟩
theorem z9J{P:Program}{C:z0e}{cf:Cfg}{LF:Nat}{c:Code}{fr:Fr}{Q:X->Fr->Prop}{o:Operand}(ho:cdO c=some o)(hv:rdV (opE fr o)=some (.bool false))(h:wpC P C cf LF (cdB c) fr Q):wpC P C cf LF c fr Q:=
 zDZ ho fun Q1 Q2 h1 h2=>by rw[hv,z9S];exact⟨(fun e=>by cases e),fun _=>h2.out h⟩
def zcn{σ ρ:Type}(H:σ->Fr)(cn:Fr->Fr)(o:σ⊕ρ)(Q:X->Fr->Prop):X->Fr->Prop
 | .n,fr=>∃s',o= .inl s'/\cn fr=H s'
 | .x i,fr=>(∃r,o= .inr r)/\Q (.x i) fr
 | .r,fr=>(∃r,o= .inr r)/\Q .r fr
theorem z5j{Q:X->Fr->Prop}{fr:Fr}{s:σ}(ho:o= .inl s)(h:cn fr=H s):zcn H cn o Q .n fr:=⟨s,ho,h⟩
theorem z6t{Q:X->Fr->Prop}{fr:Fr}{r:ρ}(ho:o= .inr r)(h:Q (.x i) fr):zcn H cn o Q (.x i) fr:=⟨⟨r,ho⟩,h⟩
theorem zcm{Q:X->Fr->Prop}{fr:Fr}{r:ρ}(ho:o= .inr r)(h:Q .r fr):zcn H cn o Q .r fr:=⟨⟨r,ho⟩,h⟩
theorem zi5{σ ρ:Type}{B:Fr->Option (X×Fr)}{cn:Fr->Fr}{body:σ->Option (σ⊕ρ)}{H:σ->Fr}{r:ρ}{Q:X->Fr->Prop}
 (round:∀s o,body s=some o->(∀r',o= .inr r'->r'=r)->∃x fr',B (H s)=some (x,fr')/\zcn H cn o Q x fr'):
 ∀(n:Nat) (s:σ) (fr:Fr),z0k body n s=some r->cn fr=H s->∃x fr',zcK B cn n fr=some (x,fr')/\Q x fr'
 |0,s,fr,h,_=>by cases h
 |n+1,s,fr,h,h0=>by
  simp only[z0k] at h
  split at h
  · cases h
  · rename_i s' e
    obtain⟨x,fr',e1,e2⟩:=round s _ e (fun r' h'=>by cases h')
    cases x with
    |n=>
     obtain⟨s2,e3,e4⟩:=e2
     cases e3
     obtain⟨x2,fr2,e5,e6⟩:=zi5 round n s' fr' h e4
     exact⟨x2,fr2,by simp only[zcK,h0,e1];exact e5,e6⟩
    |x i=>obtain⟨⟨r',e3⟩,_⟩:=e2;cases e3
    |r=>obtain⟨⟨r',e3⟩,_⟩:=e2;cases e3
  · rename_i r0 e
    cases h
    obtain⟨x,fr',e1,e2⟩:=round s _ e (fun r' h'=>by cases h';rfl)
    cases x with
    |n=>obtain⟨s2,e3,_⟩:=e2;cases e3
    |x i=>exact⟨_,_,by simp only[zcK,h0,e1],e2.2⟩
    |r=>exact⟨_,_,by simp only[zcK,h0,e1],e2.2⟩
theorem z8a{P:Program}{C:z0e}{cf:Cfg}{LF:Nat}{c:Code}{fr:Fr}{Q:X->Fr->Prop}{lv:List Nat}{body:σ->Option (σ⊕ρ)}{s0:σ}{r:ρ}(h:z0k body LF s0=some r)(H:σ->Fr)(hk:zcG c=5)(hv:cf.live (zbg (lpC c))=some lv)
 (h0:z9d (some lv) fr=H s0) (round:∀s o,body s=some o->(∀r',o= .inr r'->r'=r)->wpC P C cf LF (lpC c) (H s) (zcn H (z9d (some lv)) o Q)):wpC P C cf LF c fr Q:=by
 cases c with
 |loop b=>
  obtain⟨x,fr',e1,e2⟩:=zi5 (B:=fun fr=>z2p P C cf LF b fr) (cn:=z9d (some lv)) (H:=H) (body:=body) (r:=r) (Q:=Q) (fun s o h1 h2=>by have:=round s o h1 h2;unfold wpC at this;exact this) LF s0 fr h h0
  unfold wpC
  refine⟨x,fr',?_,e2⟩
  simp only[z2p]
  simp only[lpC] at hv
  rw[hv]
  exact e1
 |_=>cases hk
theorem zqL(k:IntKind)(a b:Int):z6L .add k a b=some (.int k (k.wrap (a+b))):=rfl
theorem zqA(k:IntKind)(a b:Int):z6L .sub k a b=some (.int k (k.wrap (a-b))):=rfl
theorem zqE(k:IntKind)(a b:Int):z6L .mul k a b=some (.int k (k.wrap (a*b))):=rfl
theorem zqC(k:IntKind)(a b:Int):z6L .quo k a b=if b=0 then none else some (.int k (zD6 k a b)):=rfl
theorem zqB(k:IntKind)(a b:Int):z6L .rem k a b=if b=0 then none else some (.int k (a.tmod b)):=rfl
theorem zqK(k:IntKind)(a b:Int):z6L .and k a b=some (.int k (z2X k a b)):=Eq.trans rfl rfl
theorem zua(k:IntKind)(a b:Int):z6L .or k a b=some (.int k (orI k a b)):=Eq.trans rfl rfl
theorem zqz(k:IntKind)(a b:Int):z6L .xor k a b=some (.int k (zGr k a b)):=Eq.trans rfl rfl
theorem ziY(k:IntKind)(a b:Int):z6L .andNot k a b=some (.int k (zgR k a b)):=Eq.trans rfl rfl
theorem zqJ(k:IntKind)(a b:Int):z6L .eql k a b=some (.bool (decide (a=b))):=rfl
theorem zqD(k:IntKind)(a b:Int):z6L .neq k a b=some (.bool (!decide (a=b))):=rfl
theorem zqF(k:IntKind)(a b:Int):z6L .lss k a b=some (.bool (decide (a<b))):=rfl
theorem zqG(k:IntKind)(a b:Int):z6L .leq k a b=some (.bool (decide (a<=b))):=rfl
theorem zqH(k:IntKind)(a b:Int):z6L .gtr k a b=some (.bool (decide (b<a))):=rfl
theorem zqI(k:IntKind)(a b:Int):z6L .geq k a b=some (.bool (decide (b<=a))):=rfl
theorem zhL{a b:ByteArray}:a.toList=b.toList↔a=b:=by
 constructor
 · intro h
   have h1:a.data.toList=b.data.toList:=by simpa[ByteArray.toList_eq] using h
   obtain⟨⟨x⟩⟩:=a
   obtain⟨⟨y⟩⟩:=b
   simp at h1
   rw[h1]
 · intro h;rw[h]
theorem zq0(a b:ByteArray):zbb .eql a b=some (.bool (decide (a=b))):=by
 simp only[zbb]
 congr 2
 rw[Yf];simp[zhL]
theorem zpX(a b:ByteArray):zbb .neq a b=some (.bool (!decide (a=b))):=by
 simp only[zbb]
 congr 3
 rw[Yf];simp[zhL]
theorem zpY(a b:ByteArray):zbb .lss a b=some (.bool (zAM a b)):=rfl
theorem zpZ(a b:ByteArray):zbb .geq a b=some (.bool (!zAM a b)):=rfl
theorem zq1(a b:ByteArray):zbb .add a b=if z9O a b then some (.string (a++b)) else none:=by
 have hm:IntKind.i64.max=9223372036854775807:=by decide
 show(if((a.size+b.size:Nat):Int)>IntKind.i64.max then none else some (Value.string (a++b)))=_
 rw[hm]
 by_cases h:z9O a b
 · rw[if_pos h]
   unfold z9O at h
   rw[if_neg (by omega)]
 · rw[if_neg h]
   unfold z9O at h
   rw[if_pos (by omega)]
theorem zxk(op:BinOp)(u:Option TyI)(k k':IntKind)(a b:Int):zAs op u (.int k a) (.int k' b)=match op with
 | .shl=>if b<0 then none else some (.int k (zmx k a b))
 | .shr=>if b<0 then none else some (.int k (z0w k a b))
 |_=>if k=k' then z6L op k a b else none:=by
 cases op
 case shl=>simp only[zsa];rfl
 all_goals rfl
theorem zxj(op:BinOp)(u:Option TyI)(a b:ByteArray):zAs op u (.string a) (.string b)=zbb op a b:=rfl
theorem zv7(op:BinOp)(u:Option TyI)(a b:Bool):zAs op u (.bool a) (.bool b)=match u with
 |some ⟨.bool,_,_,_⟩=>(match op with| .eql=>some (.bool (a==b))| .neq=>some (.bool (!(a==b)))|_=>none)
 |_=>none:=rfl
theorem zp5:∀l:List Int,zbi (l.map fun z=>.sc (.int .u8 z))=some (l.map fun z=>UInt8.ofNat z.toNat)
 | []=>rfl
 |z::l=>by simp[zbi,zp5 l]
theorem zeJ{α β:Type}{g:α->List β}{m:Nat}(hg:∀x,(g x).length=m):∀xs:List α,(xs.flatMap g).length=xs.length*m
 | []=>by simp
 |x::xs=>by
  have:=zeJ hg xs
  simp only[Ya,Za,hg,this,Zr,Yi,Nat.one_mul]
  omega
theorem zgw{α β:Type}{g:α->List β}{m:Nat}(hg:∀x,(g x).length=m):∀(xs:List α) (i:Nat),(xs.flatMap g).drop (i*m)=(xs.drop i).flatMap g
 |xs,0=>by simp
 | [],i+1=>by simp
 |x::xs,i+1=>by
  have:=zgw hg xs i
  rw[Ya,List.drop_succ_cons,←this,List.drop_append,List.drop_eq_nil_of_le (by rw[hg,Yi];omega),Y4,hg]
  congr 1
  rw[Yi];omega
theorem zlm{α β:Type}{g:α->List β}{m:Nat}(hg:∀x,(g x).length=m):∀(xs:List α) (i:Nat),(xs.flatMap g).take (i*m)=(xs.take i).flatMap g
 |xs,0=>by simp
 | [],i+1=>by simp
 |x::xs,i+1=>by
  have:=zlm hg xs i
  rw[Ya,Xm,Ya,←this,List.take_append,Yq (by rw[hg,Yi];omega),hg]
  congr 2
  rw[Yi];omega
theorem zac(hg:∀x,(g x).length=m)(h:xs[i]? =some v):
 i*m+m<=xs.length*m/\((xs.flatMap g).drop (i*m)).take m=g v/\(∀j,j<m->(xs.flatMap g)[i*m+j]? =(g v)[j]?)/\ ∀j c,(g v)[j]? =some c->∀hh:i*m+j<(xs.flatMap g).length,(xs.flatMap g)[i*m+j]'hh=c:=by
 obtain⟨hi,hv⟩:=Z8.1 h
 have hd:xs.drop i=v::xs.drop (i+1):=by rw[←hv];exact Yd hi
 have h2:((xs.flatMap g).drop (i*m))=g v++(xs.drop (i+1)).flatMap g:=by rw[zgw hg,hd,Ya]
 have key:∀j,j<m->(xs.flatMap g)[i*m+j]? =(g v)[j]? :=fun j hj=>by
  rw[←Yo,h2,ZL (by rw[hg];exact hj)]
 refine⟨?_,?_,key,fun j c hc hh=> ?_⟩
 · calc i*m+m=(i+1)*m:=by rw[Yi,Nat.one_mul]
    _<=_:=Yc _ hi
 · rw[h2,List.take_append_of_le_length (by rw[hg];exact Z5 _),Yq (by rw[hg];exact Z5 _)]
 · have hj:j<m:=by rw[←hg v];exact(Z8.1 hc).1
   have:=key j hj
   rw[hc,Z1 hh] at this
   exact YD this
theorem zdC{g:α->β}{l:Int}(e:z6w xs l h=some ys):((xs.map g).drop l.toNat).take (h.toNat-l.toNat)=ys.map g:=by
 obtain⟨_,_,_,e2,_⟩:=z5q e
 rw[e2,List.map_take,List.map_drop]
theorem zmH(hg:∀x,(g x).length=m){l:Int}(e:z6w xs l h=some ys):((xs.flatMap g).drop (l.toNat*m)).take ((h.toNat-l.toNat)*m)=ys.flatMap g:=by
 obtain⟨_,_,_,e2,_⟩:=z5q e
 rw[e2,zgw hg,zlm hg]
theorem zdB{l:Int}(e:z6w xs l h=some ys)(f:α->T):T.sl (h.toNat-l.toNat) (ys.map f)=T.sl ys.length (ys.map f):=by
 obtain⟨_,_,_,_,e2⟩:=z5q e
 rw[e2]
theorem zqh{l:Int}(e:z6w xs l h=some ys)(f:α->List T):T.sl (h.toNat-l.toNat) (ys.flatMap f)=T.sl ys.length (ys.flatMap f):=by
 obtain⟨_,_,_,_,e2⟩:=z5q e
 rw[e2]
theorem zct{l:Int}(a:0<=l)(b:l<=h):0<=h/\l<=(h.toNat:Int):=by omega
theorem zg1:∀a b:List T,zgV (a++b)=(zgV a||zgV b)
 | [],b=>by simp[zgV]
 |t::a,b=>by simp[zgV,zg1 a b,Bool.or_assoc]
theorem zog{α:Type}(g:α->T):∀l:List α,zgV (l.map g)=l.any fun x=>opn (g x)
 | []=>rfl
 |x::l=>by simp[zgV,zog g l]
theorem zl1{α:Type}(g:α->List T):∀l:List α,zgV (l.flatMap g)=l.any fun x=>zgV (g x)
 | []=>rfl
 |x::l=>by simp[zg1,zl1 g l]
theorem zad{κ ν:Type}[DecidableEq κ]{ke:κ->Value}{ve:ν->Value}(h:∀a b,z5U (ke a) (ke b)=decide (a=b))(k:κ):∀m:List (κ×ν),z6o (ke k) (m.map fun p=>(ke p.1,ve p.2))=(z8i k m).map ve
 | []=>rfl
 |(a,v)::m=>by
  simp only[Zs,z6o,z8i,h,zad h k m]
  by_cases e:a=k<;>simp[e]
theorem zea{κ ν:Type}[DecidableEq κ]{ke:κ->Value}{ve:ν->Value}(h:∀a b,z5U (ke a) (ke b)=decide (a=b))(k:κ)(v:ν):∀m:List (κ×ν),zhQ (ke k) (ve v) (m.map fun p=>(ke p.1,ve p.2))=(z8p k v m).map fun p=>(ke p.1,ve p.2)
 | []=>rfl
 |(a,u)::m=>by
  simp only[Zs,zhQ,z8p,h,zea h k v m]
  by_cases e:a=k<;>simp[e]
theorem zu3(a b:Int×Int):z5U (.agg #[.int .i64 a.1,.int .i64 a.2]) (.agg #[.int .i64 b.1,.int .i64 b.2])=decide (a=b):=by
 obtain⟨a1,a2⟩:=a
 obtain⟨b1,b2⟩:=b
 simp[z5U,zof]
theorem zwV(k:ByteArray)(kd:IntKind)(m:List (ByteArray×Int)):z6o (.string k) (m.map fun p=>(Value.string p.1,Value.int kd p.2))=(z8i k m).map (Value.int kd):=zad (ke:=Value.string) (ve:=Value.int kd) (fun _ _=>rfl) k m
theorem zwW(k:ByteArray)(m:List (ByteArray×Bool)):z6o (.string k) (m.map fun p=>(Value.string p.1,Value.bool p.2))=(z8i k m).map Value.bool:=zad (ke:=Value.string) (ve:=Value.bool) (fun _ _=>rfl) k m
theorem zx0(k:Int)(kk kd:IntKind)(m:List (Int×Int)):z6o (.int kk k) (m.map fun p=>(Value.int kk p.1,Value.int kd p.2))=(z8i k m).map (Value.int kd):=zad (ke:=Value.int kk) (ve:=Value.int kd) (fun _ _=>rfl) k m
theorem zx1(k:Int)(kk:IntKind)(m:List (Int×Bool)):z6o (.int kk k) (m.map fun p=>(Value.int kk p.1,Value.bool p.2))=(z8i k m).map Value.bool:=zad (ke:=Value.int kk) (ve:=Value.bool) (fun _ _=>rfl) k m
theorem zyG(k:ByteArray)(kd:IntKind)(v:Int)(m:List (ByteArray×Int)):zhQ (.string k) (.int kd v) (m.map fun p=>(Value.string p.1,Value.int kd p.2))=(z8p k v m).map fun p=>(Value.string p.1,Value.int kd p.2):=zea (ke:=Value.string) (ve:=Value.int kd) (fun _ _=>rfl) k v m
theorem zyH(k:ByteArray)(v:Bool)(m:List (ByteArray×Bool)):zhQ (.string k) (.bool v) (m.map fun p=>(Value.string p.1,Value.bool p.2))=(z8p k v m).map fun p=>(Value.string p.1,Value.bool p.2):=zea (ke:=Value.string) (ve:=Value.bool) (fun _ _=>rfl) k v m
theorem zyL(k:Int)(kk kd:IntKind)(v:Int)(m:List (Int×Int)):zhQ (.int kk k) (.int kd v) (m.map fun p=>(Value.int kk p.1,Value.int kd p.2))=(z8p k v m).map fun p=>(Value.int kk p.1,Value.int kd p.2):=zea (ke:=Value.int kk) (ve:=Value.int kd) (fun _ _=>rfl) k v m
theorem zyM(k:Int)(kk:IntKind)(v:Bool)(m:List (Int×Bool)):zhQ (.int kk k) (.bool v) (m.map fun p=>(Value.int kk p.1,Value.bool p.2))=(z8p k v m).map fun p=>(Value.int kk p.1,Value.bool p.2):=zea (ke:=Value.int kk) (ve:=Value.bool) (fun _ _=>rfl) k v m
theorem zwZ(k:Int)(kk:IntKind)(m:List (Int×ByteArray)):z6o (.int kk k) (m.map fun p=>(Value.int kk p.1,Value.string p.2))=(z8i k m).map Value.string:=zad (ke:=Value.int kk) (ve:=Value.string) (fun _ _=>rfl) k m
theorem zyK(k:Int)(kk:IntKind)(v:ByteArray)(m:List (Int×ByteArray)):zhQ (.int kk k) (.string v) (m.map fun p=>(Value.int kk p.1,Value.string p.2))=(z8p k v m).map fun p=>(Value.int kk p.1,Value.string p.2):=zea (ke:=Value.int kk) (ve:=Value.string) (fun _ _=>rfl) k v m
theorem zwX(x y:Int)(kd:IntKind)(m:List ((Int×Int)×Int)):z6o (.agg #[.int .i64 x,.int .i64 y]) (m.map fun p=>(Value.agg #[.int .i64 p.1.1,.int .i64 p.1.2],Value.int kd p.2))=(z8i (x,y) m).map (Value.int kd):=zad (ke:=fun p:Int×Int=>Value.agg #[.int .i64 p.1,.int .i64 p.2]) (ve:=Value.int kd) (zu3) (x,y) m
theorem zyI(x y:Int)(kd:IntKind)(v:Int)(m:List ((Int×Int)×Int)):zhQ (.agg #[.int .i64 x,.int .i64 y]) (.int kd v) (m.map fun p=>(Value.agg #[.int .i64 p.1.1,.int .i64 p.1.2],Value.int kd p.2))=(z8p (x,y) v m).map fun p=>(Value.agg #[.int .i64 p.1.1,.int .i64 p.1.2],Value.int kd p.2):=zea (ke:=fun p:Int×Int=>Value.agg #[.int .i64 p.1,.int .i64 p.2]) (ve:=Value.int kd) (zu3) (x,y) v m
theorem zwY(k:List Int)(kd:IntKind)(m:List (List Int×Int)):z6o (agI k) (m.map fun p=>(agI p.1,Value.int kd p.2))=(z8i k m).map (Value.int kd):=zad (ke:=agI) (ve:=Value.int kd) zdI k m
theorem zyJ(k:List Int)(kd:IntKind)(v:Int)(m:List (List Int×Int)):zhQ (agI k) (.int kd v) (m.map fun p=>(agI p.1,Value.int kd p.2))=(z8p k v m).map fun p=>(agI p.1,Value.int kd p.2):=zea (ke:=agI) (ve:=Value.int kd) zdI k v m
def zqQ{κ ν:Type}[DecidableEq κ](k:κ):List (κ×ν)->Option (κ×ν)
 | []=>none
 |(a,v)::m=>if a=k then some (a,v) else zqQ k m
theorem zgq{κ ν:Type}[DecidableEq κ](k:κ):∀m:List (κ×ν),(zqQ k m).map (·.2)=z8i k m
 | []=>rfl
 |(a,v)::m=>by
  simp only[zqQ,z8i]
  split
  · rfl
  · exact zgq k m
theorem zuj{κ:Type}[DecidableEq κ](k:κ)(m:List (κ×ν)):(zqQ k m).isSome=(z8i k m).isSome:=by rw[←zgq,Option.isSome_map]
theorem znb{α:Type}(k:ByteArray)(g:ByteArray×α->T):∀m:List (ByteArray×α),z9N (.string k) (m.map fun p=>Value.string p.1) (m.map g)=(zqQ k m).map g
 | []=>rfl
 |(a,v)::m=>by
  simp only[Zs,z9N,zqQ,z5U,znb k g m]
  by_cases h:a=k<;>simp[h]
theorem zuw{α:Type}(k:Int)(kk:IntKind)(g:Int×α->T):∀m:List (Int×α),z9N (.int kk k) (m.map fun p=>Value.int kk p.1) (m.map g)=(zqQ k m).map g
 | []=>rfl
 |(a,v)::m=>by
  simp only[Zs,z9N,zqQ,z5U,zuw k kk g m]
  by_cases h:a=k<;>simp[h]
theorem zsd{α:Type}(k:ByteArray)(v:α)(g:ByteArray×α->T):∀m:List (ByteArray×α),z9H (.string k) (g (k,v)) (m.map fun p=>Value.string p.1) (m.map g)=((z8p k v m).map (fun p=>Value.string p.1),(z8p k v m).map g)
 | []=>rfl
 |(a,u)::m=>by
  simp only[Zs,z9H,z8p,z5U,zsd k v g m]
  by_cases h:a=k<;>simp[h]
theorem zsf(k:Value)(t:T):z9H k t [] []=([k],[t]):=rfl
theorem zvY(k v:Value):zhQ k v []= [(k,v)]:=rfl
theorem zvZ{κ:Type}[DecidableEq κ](k:κ)(v:ν):z8p k v []= [(k,v)]:=rfl
theorem zwO(kd:IntKind)(z:Int)(o:Option Int):(o.map (Value.int kd)).getD (.int kd z)= .int kd (o.getD z):=by cases o<;>rfl
theorem zul(z:Bool)(o:Option Bool):(o.map Value.bool).getD (.bool z)= .bool (o.getD z):=by cases o<;>rfl
@[simp] theorem oneNil:(Value.slice none 0 0).oneCell'=true:=rfl
@[simp] theorem bszL(a:Array UInt8):ByteArray.size ⟨a⟩=a.size:=rfl
@[simp] theorem bempty:(⟨#[]⟩:ByteArray)=ByteArray.empty:=rfl
@[simp] theorem voG0(p l:List T):(p++l)[p.length]? =l[0]? :=by rw[List.getElem?_append_right (Nat.le_refl _),Nat.sub_self]
@[simp] theorem voG(p l:List T)(j:Nat):(p++l)[p.length+j]? =l[j]? :=by rw[List.getElem?_append_right (by omega),Nat.add_sub_cancel_left]
@[simp] theorem voSet0(p l:List T)(x:T):(p++l).set p.length x=p++l.set 0 x:=by rw[List.set_append_right _ _ (Nat.le_refl _),Nat.sub_self]
@[simp] theorem voSet(p l:List T)(j:Nat)(x:T):(p++l).set (p.length+j) x=p++l.set j x:=by rw[List.set_append_right _ _ (by omega),Nat.add_sub_cancel_left]
section
variable {P:Program} {C:z0e} {cf:Cfg} {LF:Nat} {c:Code} {fr fr1:Fr} {Q:X->Fr->Prop}
theorem zr{l:List Oper}(hl:rgL c=some l)(hd:rgD c=false)(hz:cf.fz (rgI c)=none)(hf:zeo P C cf.wio l.toArray l fr=some fr1)(h:Q .n fr1):wpC P C cf LF c fr Q:=
 ziE hl hd hz fun Q' hQ=>by rw[hf,zlQ];exact hQ.out _ h
theorem zq(hk:zcG c=2)(h:wpC P C cf LF (zgU c) fr (zkt (fun fr'=>wpC P C cf LF (zb2 c) fr' Q) Q)):wpC P C cf LF c fr Q:=zAV hk h
theorem zb(hk:zcG c=4)(h:wpC P C cf LF (blC c) fr (z8A (blI c) Q)):wpC P C cf LF c fr Q:=zsE hk h
end
@[simp] theorem voLe(a j k n:Nat):(a+j+k<=a+n)=(j+k<=n):=by simp only[eq_iff_iff];omega
section
variable {P:Program} {C:z0e} {cf:Cfg} {LF:Nat} {c:Code} {fr fr1:Fr} {Q:X->Fr->Prop} {l:List Oper}
theorem zs(h:Q .n fr1)(hl:rgL c=some l:=by rfl)(hd:rgD c=false:=by rfl)(hz:cf.fz (rgI c)=none:=by rfl)(hf:zeo P C cf.wio l.toArray l fr=some fr1:=by simp;rfl):wpC P C cf LF c fr Q:=zr hl hd hz hf h
theorem zp(h:wpC P C cf LF (zgU c) fr (zkt (fun fr'=>wpC P C cf LF (zb2 c) fr' Q) Q))(hk:zcG c=2:=by rfl):wpC P C cf LF c fr Q:=zq hk h
end
end
end Go.Proofs.YtianakjpgmmflaaGreatDoor
