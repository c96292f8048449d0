/- Proved here: a part of the proof of the law at hand, in one text: no condition. -/
import Derived.Test.YtiobkcdgggbljaaGreatDoorMMI1
import Derived.MapKept
import Derived.WideKeyRuns
import Derived.Laws.StructEq
import Derived.OrdersHeld
import Derived.Tactics
import Derived.Still
import Derived.Deep.Quiet
import Derived.Scope
set_option linter.unusedVariables false
set_option linter.unusedSimpArgs false
set_option linter.unusedSectionVars false
set_option maxRecDepth 100000
namespace Go.Proofs.YtiobkcdgggbljaaGreatDoor
section
mutual
def opn:T->Bool
 | .sc _=>false
 | .dead=>false
 | .agg cs=>zhH cs
 | .tup cs=>zhH cs
 | .sl n cs=> !(n==0&&cs.isEmpty)
 | .os _ _ cs=>zhH cs
 | .vr cs=>zhH cs
 | .vo _ cs=>zhH cs
 | .pr _=>true
 | .mp _ _=>false
 | .mr _ _=>true
 | .mt _ _ _=>true
 | .ms _ _ _=>true
 | .cl _ cs=>zhH cs
def zhH:List T->Bool
 | []=>false
 |t::ts=>opn t||zhH ts
end
theorem zbC:∀ {cs:List T} {t:T} {j:Nat},zhH cs=false->cs[j]? =some t->opn t=false
 | [],t,j,h,hj=>by simp at hj
 |c::cs,t,0,h,hj=>by
  simp only[zhH,X6] at h
  simp at hj;subst hj;exact h.1
 |c::cs,t,j+1,h,hj=>by
  simp only[zhH,X6] at h
  exact zbC h.2 (by simpa using hj)
theorem TRep.moveC{w w':World}{K K':Nat->z0a}{c:z0a}{v:Value}{t:T}(h:TRep w K c v t):opn t=false->∀ {c':z0a},
 (∀b s,b<w.heap.size->c≠ []->K b=c++s->K' b=c'++s/\w'.heap[b]? =w.heap[b]?)->(c= []↔c'= [])->w.heap.size<=w'.heap.size->TRep w' K' c' v t:=by
 induction h with
 |sc c v h=>intro _ c' _ _ _;exact .sc c' v h
 |dead c v=>intro _ c' _ _ _;exact .dead c' v
 |agg c vs cs F hl hF h ih=>
  intro ho c' h1 h3 h4
  refine .agg c' vs cs F hl hF (fun j t ht=>ih j t ht (zbC ho ht) ?_ ?_ h4)
  · intro b s hb hc hK
    by_cases hc0:c= []
    · subst hc0;exact absurd rfl hc
    · have hc0':c'≠ []:=fun e=>hc0 (h3.2 e)
      rw[z7x hc0] at hK
      rw[z7x hc0']
      have:=h1 b (j::s) hb hc0 (by simpa using hK)
      exact⟨by simpa using this.1,this.2⟩
  · cases c with
    |nil=>have:=h3.1 rfl;subst this;simp[ext]
    |cons a c=>cases c' with
     |nil=>have:=h3.2 rfl;cases this
     |cons a' c'=>simp[ext]
 |tup c vs cs F hl hF h ih=>
  intro ho c' h1 h3 h4
  refine .tup c' vs cs F hl hF (fun j t ht=>ih j t ht (zbC ho ht) ?_ ?_ h4)
  · intro b s hb hc hK
    by_cases hc0:c= []
    · subst hc0;exact absurd rfl hc
    · have hc0':c'≠ []:=fun e=>hc0 (h3.2 e)
      rw[z7x hc0] at hK
      rw[z7x hc0']
      have:=h1 b (j::s) hb hc0 (by simpa using hK)
      exact⟨by simpa using this.1,this.2⟩
  · cases c with
    |nil=>have:=h3.1 rfl;subst this;simp[ext]
    |cons a c=>cases c' with
     |nil=>have:=h3.2 rfl;cases this
     |cons a' c'=>simp[ext]
 |emp c a cap hc=>intro _ c' _ _ _;exact .emp c' a cap hc
 |fro c g o n cap cs F hK hg hn hc hF h ih=>
  intro ho c' h1 h3 h4
  simp only[opn,Bool.not_eq_false',Z6,beq_iff_eq,List.isEmpty_iff] at ho
  obtain⟨rfl,rfl⟩:=ho
  exact .emp c' _ cap hc
 |nil c sz=>intro _ c' _ _ _;exact .nil c' sz
 |own c g n cap size cs arr e fz F hfz hc0 hK hg hs hl hz hn hc hF h ih=>
  intro ho c' h1 h3 h4
  have hc0':c'≠ []:=fun e=>hc0 (h3.2 e)
  obtain⟨k1,k2⟩:=h1 g [] (z1d hg) hc0 (by simpa using hK)
  refine .own c' g n cap size cs arr e fz F hfz hc0' (by simpa using k1) (by rw[k2];exact hg) hs hl hz hn hc hF (fun j t ht=>ih j t ht (zbC ho ht) ?_ (by simp) h4)
  intro b s hb _ hK
  have:=h1 b (j::s) hb hc0 (by simpa using hK)
  exact⟨by simpa using this.1,this.2⟩
 |vr c g cs arr e fz F hfz hc0 hK hg hl hF h ih=>
  intro ho c' h1 h3 h4
  have hc0':c'≠ []:=fun e=>hc0 (h3.2 e)
  obtain⟨k1,k2⟩:=h1 g [] (z1d hg) hc0 (by simpa using hK)
  refine .vr c' g cs arr e fz F hfz hc0' (by simpa using k1) (by rw[k2];exact hg) hl hF (fun j t ht=>ih j t ht (zbC ho ht) ?_ (by simp) h4)
  intro b s hb _ hK
  have:=h1 b (j::s) hb hc0 (by simpa using hK)
  exact⟨by simpa using this.1,this.2⟩
 |vo c g off cs h ih=>intro ho c' h1 h3 h4;exact .vo c' g off cs (ih ho h1 h3 h4)
 |pr=>intro ho;cases ho
 |mr=>intro ho;cases ho
 |mt=>intro ho;cases ho
 |ms=>intro ho;cases ho
 |mp c g kk es ents clock hc0 hK hg hh=>
  intro ho c' h1 h3 h4
  obtain⟨k1,k2⟩:=h1 g [] (z1d hg) hc0 (by simpa using hK)
  exact .mp c' g kk es ents clock (fun e=>hc0 (h3.2 e)) (by simpa using k1) (by rw[k2];exact hg) hh
 |cl c f vs cs F hl hF h ih=>
  intro ho c' h1 h3 h4
  exact .cl c' f vs cs F hl hF (fun j t ht=>ih j t ht (zbC ho ht) (fun _ _ _ hc=>absurd rfl hc) X1 h4)
def z7q:T->Bool
 | .vr _=>true
 | .os _ _ _=>true
 | .vo _ _=>true
 |_=>false
def ziX(w:World)(K:Nat->z0a)(i:Nat)(v:Value)(t:T):Prop:=TRep w K (if z7q t then col i else []) v t
structure EnvS(I:World->(Nat->z0a)->Prop):Prop where
 keep:∀ {w K w' K'},I w K->w.heap.size<=w'.heap.size->(∀b,b<w.heap.size->K b= []->K' b= []/\w'.heap[b]? =w.heap[b]?)->I w' K'
theorem EnvS.step{I:World->(Nat->z0a)->Prop}(h:EnvS I){w w':World}{K K':Nat->z0a}(hi:I w K)(s:Step w K w' K'):I w' K':=
 h.keep hi s.size fun b hb e=>by
  obtain⟨a1,a2⟩:=s.old b hb (.inl e)
  exact⟨a1.trans e,a2⟩
theorem EnvS.none:EnvS (fun _ _=>True):=⟨fun _ _ _=>trivial⟩
structure CallOk(P:Program)(I:World->(Nat->z0a)->Prop)(f:FuncId)(args:List T)(res:T)(outs:List T):Prop where
 enter:∀(vals:Array Value) (w:World),(callFunc f vals).run P w= .ok (.enter f vals) w
 calls:∀(w:World) (K:Nat->z0a) (vals:Array Value),vals.size=args.length->(∀i t,args[i]? =some t->ziX w K i (vals.getD i undef) t)->I w K->
  Calls P f vals w fun e w'=>∃v K',e= .returned v/\TRep w' K' [0] v res/\(∀i t,args[i]? =some t->z7q t=true->∃t',outs[i]? =some t'/\TRep w' K' (col i) (vals.getD i undef) t')/\Step w K w' K'
variable{a:Act}{fr:Fr}{cs:List T}{g:Nat}{G R:Nat->Value}{K K' K0:Nat->z0a}{t:T}{u v:Value}{w w':World}{c:z0a}
abbrev z0g:=FuncId->List T->Option (T×List T)
def z8E(P:Program)(I:World->(Nat->z0a)->Prop)(C:z0g):Prop:=∀f args r outs,C f args=some (r,outs)->CallOk P I f args r outs
def zod:T->T
 | .os _ n cs=>.sl n cs
 | .vr _=>.dead
 | .vo _ _=>.dead
 |x=>x
abbrev zpR:=List (Nat×List Nat)
def zBq(fr:Fr):A->Option (T×zpR)
 | .k v=>some (zeX false v,[])
 | .t none x=>some (zod x,[])
 | .t (some i) x=>some (zod x,[(i,[])])
 | .tf n cs=>some (.sl n cs,[])
 | .ea none cs 0=>some (.pr cs,[])
 | .ea (some i) cs 0=>some (.pr cs,[(i,[])])
 | .h id p=>match z2i fr.ob id with
   |none=>none
   |some root=>match sub root p with
    |some t=>if zaV t then some (t,[]) else some (z1Z t,[(id,p)])
    |none=>none
 |_=>none
def zwb(fr:Fr):List A->Option (List T×zpR)
 | []=>some ([],[])
 |x::xs=>match zBq fr x,zwb fr xs with
  |some (t,d),some (ts,ds)=>if z7q t then none else some (t::ts,d++ds)
  |_,_=>none
def zEN(fr:Fr)(io:Bool):E->Option (T×zpR×Option Nat)
 | .ag xs=>(match zwb fr xs with|some (ts,d)=>some (.agg ts,d,none)|none=>none)
 | .one (.a id [] off)=>(match z2i fr.ob id with|some (.vr cs)=>if off=0 then some (.vr cs,[],some id) else none|some (.os _ _ cs)=>if io then some (.vo off cs,[],some id) else none|_=>none)
 | .one (.h id [])=>
   if io then(match z2i fr.ob id with|some (.os sz n cs)=>some (.os sz n cs,[],some id)|_=>none)
   else(match zBq fr (.h id []) with|some (t,d)=>if z7q t then none else some (t,d,none)|none=>none)
 | .one x=>(match zBq fr x with|some (t,d)=>if z7q t then none else some (t,d,none)|none=>none)
def z5D(deps:zpR)(h:Nat)(q:List Nat):Bool:=deps.any fun x=>decide (h=x.1+2)&&(z5W x.2 q).isSome
def zvX(deps:zpR)(io:Option (Nat×Nat)):z0a->z0a
 | []=> []
 |h::q=>if z5D deps h q then [] else match io with
  |some (i,id)=>if h=id+2 then(i+2)::q else [1]
  |none=> [1]
theorem TRep.top(h:TRep w K [] v t):TRep w K [] v (zod t):=by
 cases h with
 |sc _ _ h=>exact .sc _ _ h
 |dead=>exact .dead _ _
 |agg c vs cs F hl hF h=>exact .agg _ vs cs F hl hF h
 |tup c vs cs F hl hF h=>exact .tup _ vs cs F hl hF h
 |emp c a cap hc=>exact .emp _ a cap hc
 |fro c g o n cap cs F hK hg hn hc hF h=>exact .fro _ g o n cap cs F hK hg hn hc hF h
 |nil=>exact .emp _ none 0 (by decide)
 |own _ _ _ _ _ _ _ _ _ _ _ hc0=>exact absurd rfl hc0
 |vr _ _ _ _ _ _ _ _ hc0=>exact absurd rfl hc0
 |vo _ _ _ _ h=>exact absurd rfl h.vr_ne
 |pr _ g o cs F hK hg hF h=>exact .pr _ g o cs F hK hg hF h
 |mr _ g kk es ents clock hK hg hh=>exact .mr _ g kk es ents clock hK hg hh
 |mp _ _ _ _ _ _ hc0=>exact absurd rfl hc0
 |mt _ _ _ _ _ _ _ _ hc0=>exact absurd rfl hc0
 |ms _ g kk ks cs ents clock F hK hg hh h=>exact .ms _ g kk ks cs ents clock F hK hg hh h
 |cl _ f vs cs F hl hF h=>exact .cl _ f vs cs F hl hF h
theorem zeB(w:World)(K:Nat->z0a)(own:Bool)(v:Value):TRep w K [] v (zeX own v):=by
 unfold zeX
 split
 · rename_i vs
   refine .agg _ vs _ (fun j=>vs.getD j undef) (by simp) (fun j hj=>z6h _ _ (by simpa using hj)) (fun j t hj=> ?_)
   simp only[Zd,Z5,Zx] at hj
   obtain⟨v,hv,rfl⟩:=hj
   have:vs.getD j undef=v:=by simp[Zb,hv]
   rw[this]
   exact z7L _ _ _ _ _
 · exact z7L _ _ _ _ _
theorem zpL{x:A}{deps:zpR}(h:FRep w K R G fr a)(hx:ARep w K R fr.ob x u)(ha:zBq fr x=some (t,deps))
 (h0:∀b,K b= []->K0 b= []) (hd:∀b hh q,K b=hh::q->z5D deps hh q=true->K0 b= []):TRep w K0 [] u t:=by
 unfold zBq at ha
 split at ha
 · cases ha
   obtain rfl:u=_:=hx
   exact zeB _ _ _ _
 · cases ha
   exact(TRep.fz hx.1 (fun b _ e=>⟨h0 b e,rfl⟩) (Z8 _)).top
 · rename_i i x
   cases ha
   refine(TRep.fz hx.1 (fun b _ e=>⟨?_,rfl⟩) (Z8 _)).top
   simp only[frz] at e
   split at e
   · rename_i hh
     cases hk:K b with
     |nil=>exact h0 b hk
     |cons a s=>
      rw[hk] at hh;simp at hh;subst hh
      exact hd b _ s hk (by simp[z5D,z5W])
   · exact h0 b e
 · cases ha
   exact TRep.fz hx.2 (fun b _ e=>⟨h0 b e,rfl⟩) (Z8 _)
 · rename_i cs
   cases ha
   obtain⟨g,o,F,h1,h2,h3,h4,h5,h6⟩:=hx
   rw[h1]
   exact .pr [] g o _ F (h0 _ h2) h3 h4 (fun j t ht=>TRep.fz (h5 j t ht) (fun b _ e=>⟨h0 b e,rfl⟩) (Z8 _))
 · rename_i i cs
   cases ha
   have hz:∀b,frz K (some i) b= []->K0 b= []:=fun b e=>by
    simp only[frz] at e
    split at e
    · rename_i hh
      cases hk:K b with
      |nil=>exact h0 b hk
      |cons a s=>
       rw[hk] at hh;simp at hh;subst hh
       exact hd b _ s hk (by simp[z5D,z5W])
    · exact h0 b e
   obtain⟨g,o,F,h1,h2,h3,h4,h5,h6⟩:=hx
   rw[h1]
   exact .pr [] g o _ F (hz _ h2) h3 h4 (fun j t ht=>TRep.fz (h5 j t ht) (fun b _ e=>⟨hz b e,rfl⟩) (Z8 _))
 · rename_i id p
   split at ha
   case h_1=>cases ha
   case h_2 root hroot=>
   split at ha
   · rename_i t' hsub
     obtain⟨n1,_⟩:=hx
     obtain⟨v',m1,hrep⟩:=(h.ob id root hroot).sub (z1F id) hsub
     rw[n1] at m1;cases m1
     split at ha
     · rename_i hp
       cases ha
       exact TRep.fz (hrep.free hp []) (fun b _ e=>⟨h0 b e,rfl⟩) (Z8 _)
     · cases ha
       refine hrep.freeze (fun b s hb hc hK=>⟨?_,rfl⟩) (fun b _ e=>⟨h0 b e,rfl⟩) (Z8 _) []
       exact hd b (id+2) (p++s) (by simpa[col] using hK) (by simp[z5D,z6S])
   · cases ha
 · cases ha
theorem z6s(d1 d2:zpR)(h:Nat)(q:List Nat):z5D (d1++d2) h q=(z5D d1 h q||z5D d2 h q):=by simp[z5D]
theorem zml{w:World}{K K0:Nat->z0a}{R G:Nat->Value}{fr:Fr}{a:Act}(h:FRep w K R G fr a)(h0:∀b,K b= []->K0 b= []):∀ {xs:List A} {F:Nat->Value} {ts:List T} {deps:zpR},(∀j x,xs[j]? =some x->ARep w K R fr.ob x (F j))->
 zwb fr xs=some (ts,deps)->(∀b hh q,K b=hh::q->z5D deps hh q=true->K0 b= [])->ts.length=xs.length/\ ∀j t,ts[j]? =some t->TRep w K0 [] (F j) t
 | [],F,ts,deps,hx,ha,hd=>by
   cases ha
   exact⟨rfl,fun j t ht=>by simp at ht⟩
 |x::xs,F,ts,deps,hx,ha,hd=>by
  simp only[zwb] at ha
  split at ha
  · rename_i t d ts' ds h1 h2
    split at ha
    · cases ha
    · cases ha
      obtain⟨r1,r2⟩:=zml h h0 (xs:=xs) (F:=fun j=>F (j+1)) (fun j y hy=>hx (j+1) y (by simpa using hy)) h2 (fun b hh q e e2=>hd b hh q e (by rw[z6s,e2,Bool.or_true]))
      refine⟨by simp[r1],fun j t' ht=> ?_⟩
      match j,ht with
      |0,ht=>
       simp at ht;subst ht
       exact zpL h (hx 0 x rfl) h1 h0 (fun b hh q e e2=>hd b hh q e (by rw[z6s,e2,Bool.true_or]))
      |j+1,ht=>exact r2 j t' (by simpa using ht)
  · cases ha
def zwi(fr:Fr)(R:Nat->Value)(id:Nat)(t:T)(u:Value):Prop:=
 (z2i fr.ob id=some t/\u=R id/\ ∀off cs,t≠ .vo off cs)∨ ∃sz n cs off g,z2i fr.ob id=some (.os sz n cs)/\t= .vo off cs/\z7y (R id)=some g/\u= .pointer (some ⟨g,off,none⟩)
theorem zpK{e:E}{deps:zpR}{io:Option Nat}{fl:Bool}(h:FRep w K R G fr a)(he:ERep w K R fr.ob e u)(ha:zEN fr fl e=some (t,deps,io))
 (h0:∀b,K b= []->K0 b= []) (hd:∀b hh q,K b=hh::q->z5D deps hh q=true->K0 b= []):
 (io=none/\z7q t=false/\TRep w K0 [] u t)∨ ∃id,io=some id/\z7q t=true/\deps= []/\zwi fr R id t u:=by
 have byval:∀x,e= .one x->(match zBq fr x with|some (t,d)=>if z7q t then none else some (t,d,none)|none=>none)=some (t,deps,io)->(io=none/\z7q t=false/\TRep w K0 [] u t):=fun x hxe hh=>by
  subst hxe
  split at hh
  · rename_i t' d' h1
    split at hh
    · cases hh
    · rename_i hio
      cases hh
      exact⟨rfl,by simpa using hio,zpL h he h1 h0 hd⟩
  · cases hh
 unfold zEN at ha
 split at ha
 · rename_i xs
   split at ha
   · rename_i ts d h1
     cases ha
     obtain⟨arr,rfl,e2,e3⟩:=he
     obtain⟨r1,r2⟩:=zml h h0 (F:=fun j=>arr.getD j undef) e3 h1 hd
     exact .inl ⟨rfl,rfl,.agg _ arr ts (fun j=>arr.getD j undef) (by omega) (fun j hj=>z6h _ _ (by omega)) r2⟩
   · cases ha
 · rename_i id off
   split at ha
   · rename_i cs hob
     split at ha
     case isFalse=>cases ha
     case isTrue h0=>
     subst h0
     cases ha
     obtain⟨hv,g,n1,n4,n5,t0,n2,n3⟩:=he
     simp only[nav,Z9] at n1
     refine .inr ⟨id,rfl,rfl,rfl,.inl ⟨hob,?_,fun _ _ e=>by cases e⟩⟩
     have hr:=h.ob id _ hob
     rw[n5,n1]
     rw[n1] at hr
     cases hr with
     |vr c g' cs arr e fz F hfz hc0 hK hg hl hF hh=>
      simp only[z7y,Z9] at n4
      rw[n4]
   · rename_i sz n cs hob
     split at ha
     case isFalse=>cases ha
     case isTrue=>
     cases ha
     obtain⟨hv,g,n1,n4,n5,t0,n2,n3⟩:=he
     simp only[nav,Z9] at n1
     exact .inr ⟨id,rfl,rfl,rfl,.inr ⟨sz,n,cs,off,g,hob,rfl,by rw[n1];exact n4,n5⟩⟩
   · cases ha
 · rename_i id
   split at ha
   · split at ha
     · rename_i sz n cs hob
       cases ha
       obtain⟨n1,_⟩:=he
       simp only[nav,Z9] at n1
       exact .inr ⟨id,rfl,rfl,rfl,.inl ⟨hob,n1.symm,fun _ _ e=>by cases e⟩⟩
     · cases ha
   · exact .inl (byval _ rfl ha)
 · exact .inl (byval _ rfl ha)
def zhV(fr:Fr)(io:Nat->Bool):List E->Nat->Option (List T×zpR×Option (Nat×Nat))
 | [],_=>some ([],[],none)
 |x::xs,i=>match zEN fr (io i) x,zhV fr io xs (i+1) with
  |some (t,d,none),some (ts,ds,o)=>some (t::ts,d++ds,o)
  |some (t,d,some id),some (ts,ds,none)=>some (t::ts,d++ds,some (i,id))
  |_,_=>none
theorem TRep.toVo{sz n:Nat}(h:TRep w K c v (.os sz n cs))(hb:z7y v=some g)(off:Nat):TRep w K c (.pointer (some ⟨g,off,none⟩)) (.vo off cs):=by
 cases h with
 |nil=>cases hb
 |own c g' n cap size cs arr e fz F hfz hc0 hK hg hs hl hz hn hc hF h=>
  simp only[z7y,Z9] at hb
  subst hb
  exact .vo _ _ _ _ (.vr c g' cs arr e fz F hfz hc0 hK hg (by rw[hl,hs];exact Yk _ hn) hF h)
theorem TRep.ofVo{c':z0a}{sz n off o':Nat}{cs':List T}(h:TRep w K c v (.os sz n cs))(hb:z7y v=some g)(hz:SzK w w')(hu:u= .pointer (some ⟨g,off,none⟩))(h':TRep w' K' c' u (.vo o' cs'))(hl':cs'.length=cs.length):TRep w' K' c' v (.os sz n cs'):=by
 cases h with
 |nil=>cases hb
 |own c g' n cap size cs arr e fz F hfz hc0 hK hg hs hl hz0 hn hc hF h=>
  simp only[z7y,Z9] at hb
  subst hb
  cases h' with
  |vo _ g2 _ _ h2=>
   simp only[Value.pointer.injEq,Z9,Addr.mk.injEq] at hu
   obtain⟨rfl,_,_⟩:=hu
   cases h2 with
   |vr _ _ _ arr2 e2 fz2 F2 hfz2 hc2 hK2 hg2 hl2 hF2 hh2=>
    obtain⟨a3,e3,f3,q1,q2⟩:=hz _ _ _ _ hg
    rw[hg2] at q1
    cases q1
    exact .own c' _ n cap sz cs' arr2 e2 fz2 F2 hfz2 hc2 hK2 hg2 (by rw[q2,hs]) (by rw[hl',hl]) hz0 hn hc hF2 hh2
def zaE(d:Nat):A->A
 | .h i q=>if i=d/\q≠ [] then .dead else .h i q
 | .a i q off=>if i=d/\q≠ [] then .dead else .a i q off
 | .t (some i) x=>if i=d then .dead else .t (some i) x
 | .ea (some i) cs off=>if i=d then .dead else .ea (some i) cs off
 |x=>x
theorem FRep.renew(h:FRep w K R G fr a){d:Nat}{t':T}(k:Keep w w' K K' (But d))(ht:TRep w' K' (col d) (R d) t'):
 FRep w' K' R G {fr with tm:=z7u (zaE d) fr.tm,ob:=z6T fr.ob d t'} a:=by
 have hR:∀i,i≠d->R i=R i/\z2i (z6T fr.ob d t') i=z2i fr.ob i:=fun i hi=>⟨rfl,by rw[z0A,if_neg (fun e=>hi e.symm)]⟩
 refine⟨fun i=> ?_,fun id t ht'=> ?_,h.nt,h.df⟩
 · show ERep w' K' R (z6T fr.ob d t') (z3g (z7u (zaE d) fr.tm) i) _
   rw[z6w _ rfl]
   refine(h.tm i).map _ fun x u hx=> ?_
   by_cases hxd:onA x=some d
   · cases x with
     |dead=>trivial
     |k v=>cases hxd
     |t dep x=>simp only[onA] at hxd;subst hxd;simp only[zaE,if_true];trivial
     |h i q=>
      simp only[onA,Z9] at hxd;subst hxd
      by_cases hq:q= []
      · subst hq
        obtain⟨n1,_⟩:=hx
        simp only[zaE]
        rw[if_neg (by simp)]
        exact⟨n1,t',by simp[z0A],rfl⟩
      · rw[show zaE i (.h i q)= .dead by simp[zaE,hq]];trivial
     |a i q off=>
      simp only[onA,Z9] at hxd;subst hxd
      by_cases hq:q= []
      · subst hq
        obtain⟨hv,g,n1,n4,n5,_⟩:=hx
        simp only[zaE]
        rw[if_neg (by simp)]
        exact⟨hv,g,n1,n4,n5,t',by simp[z0A],rfl⟩
      · rw[show zaE i (.a i q off)= .dead by simp[zaE,hq]];trivial
     |ea dep cs off=>simp only[onA] at hxd;subst hxd;simp only[zaE,if_true];trivial
     |tf=>cases hxd
   · have:zaE d x=x:=by
      cases x with
      |dead=>rfl
      |k v=>rfl
      |t dep x=>cases dep with
       |none=>rfl
       |some i=>simp only[zaE];rw[if_neg (fun e=>hxd (by simp[onA,e]))]
      |h i q=>simp only[zaE];rw[if_neg (fun e=>hxd (by simp[onA,e.1]))]
      |a i q off=>simp only[zaE];rw[if_neg (fun e=>hxd (by simp[onA,e.1]))]
      |tf=>rfl
      |ea dep cs off=>cases dep with
       |none=>rfl
       |some i=>simp only[zaE];rw[if_neg (fun e=>hxd (by simp[onA,e]))]
     rw[this]
     exact hx.but h.ob k hR hxd
 · rw[z0A] at ht'
   split at ht'
   · rename_i e
     subst e
     cases ht'
     exact ht
   · rename_i hne
     have hne':id≠d:=fun e=>hne e.symm
     exact(h.ob id t ht').keep k fun s _=>⟨id,s,rfl,hne'⟩
end
section
variable{fr fr':Fr}{id:Nat}{R:Nat->Value}{K:Nat->z0a}{w:World}
def zhc(fr:Fr):zpR->Option Fr
 | []=>some fr
 |(id,p)::l=>match z6O fr id p with|some fr'=>zhc fr' l|none=>none
theorem zrs{p:List Nat}(hs:z6O fr id p=some fr'):fr'.nt=fr.nt/\ ∀i,i≠id->z2i fr'.ob i=z2i fr.ob i:=by
 unfold z6O at hs
 split at hs
 · cases hs
 · split at hs
   · cases hs
   · split at hs
     · cases hs
     · cases hs
       exact⟨rfl,fun i hi=>by rw[z0A,if_neg (fun e=>hi e.symm)]⟩
theorem zhb{w:World}{R G:Nat->Value}{a:Act}:∀ {deps:zpR} {K:Nat->z0a} {fr fr1:Fr},FRep w K R G fr a->zhc fr deps=some fr1->
 ∃K1,FRep w K1 R G fr1 a/\Step w K w K1/\(∀b,K b= []->K1 b= [])/\(∀b h q,K b=h::q->z5D deps h q=true->K1 b= [])/\(∀b h q,K b=h::q->K1 b= []∨K1 b=K b)/\(∀b h q,K b=h::q->(∀x∈deps,h≠x.1+2)->K1 b=K b)/\
  (∀i,(∀x∈deps,x.1≠i)->z2i fr1.ob i=z2i fr.ob i)/\fr1.nt=fr.nt
 | [],K,fr,fr1,h,hf=>by
   cases hf
   exact⟨K,h,Step.refl _ _,fun _ e=>e,fun b hh q e hd=>by simp[z5D] at hd,fun _ _ _ _=>.inr rfl,fun _ _ _ _ _=>rfl,fun _ _=>rfl,rfl⟩
 |(id,p)::l,K,fr,fr1,h,hf=>by
  simp only[zhc] at hf
  split at hf
  · rename_i fr2 h2
    obtain⟨a1,_⟩:=h.freeze h2
    obtain⟨n1,n2⟩:=zrs h2
    obtain⟨K1,b1,b2,b3,b4,b5,b6,b7,b8⟩:=zhb (deps:=l) a1 hf
    have hz:∀b,fzK id p (K b)= []∨fzK id p (K b)=K b:=fun b=>by
     cases hk:K b with
     |nil=>left;rfl
     |cons hh q=>simp only[fzK];split<;>simp
    refine⟨K1,b1,(zbK id p).trans b2,fun b e=>b3 b (by show fzK id p (K b)= [];rw[e];rfl),fun b hh q e hd=> ?_,fun b hh q e=> ?_,fun b hh q e hd=> ?_,fun i hi=> ?_,b8.trans n1⟩
    · rcases hz b with e1|e1
      · exact b3 b e1
      · rw[show z5D ((id,p)::l) hh q=(decide (hh=id+2)&&(z5W p q).isSome||z5D l hh q) from rfl,Y1] at hd
        rcases hd with hd|hd
        · exfalso
          rw[e] at e1
          simp only[fzK] at e1
          simp only[Z6,decide_eq_true_eq] at hd
          rw[if_pos hd] at e1
          cases e1
        · exact b4 b hh q (e1.trans e) hd
    · rcases hz b with e1|e1
      · exact .inl (b3 b e1)
      · rcases b5 b hh q (e1.trans e) with e2|e2
        · exact .inl e2
        · exact .inr (e2.trans e1)
    · have e1:fzK id p (K b)=K b:=by
       rw[e];simp only[fzK]
       rw[if_neg (fun hc=>hd (id,p) (by simp) hc.1)]
      rw[b6 b hh q (e1.trans e) (fun x hx=>hd x (by simp[hx])),e1]
    · rw[b7 i (fun x hx=>hi x (by simp[hx])),n2 i (fun e=>hi (id,p) (by simp) e.symm)]
  · cases hf
theorem zhB{w:World}{K K0:Nat->z0a}{R G:Nat->Value}{fr:Fr}{a:Act}(h:FRep w K R G fr a){io:Nat->Bool}(h0:∀b,K b= []->K0 b= []):∀ {args:List E} {vs:List Value} {i0:Nat} {ts:List T} {deps:zpR} {o:Option (Nat×Nat)},zhV fr io args i0=some (ts,deps,o)->
 vs.length=args.length->(∀(j:Nat) (e:E) (v:Value),args[j]? =some e->vs[j]? =some v->ERep w K R fr.ob e v)->(∀b hh q,K b=hh::q->z5D deps hh q=true->K0 b= [])->
 ts.length=args.length/\(∀j t,ts[j]? =some t->∃x,vs[j]? =some x/\((z7q t=false/\TRep w K0 [] x t)∨(z7q t=true/\ ∃id,o=some (i0+j,id)/\zwi fr R id t x)))/\
  (∀i id,o=some (i,id)->∃j t,i=i0+j/\ts[j]? =some t/\z7q t=true)
 | [],vs,i0,ts,deps,o,ha,hl,hv,hd=>by
   cases ha
   exact⟨rfl,fun j t ht=>by simp at ht,fun i id e=>by cases e⟩
 |x::xs,[],i0,ts,deps,o,ha,hl,hv,hd=>by simp at hl
 |x::xs,u::us,i0,ts,deps,o,ha,hl,hv,hd=>by
  have hl':us.length=xs.length:=by simpa using hl
  have hv':∀(j:Nat) (e:E) (v:Value),xs[j]? =some e->us[j]? =some v->ERep w K R fr.ob e v:=fun j e v h1 h2=>hv (j+1) e v (by simpa using h1) (by simpa using h2)
  have hx:ERep w K R fr.ob x u:=hv 0 x u rfl rfl
  simp only[zhV] at ha
  split at ha
  · rename_i t d ts' ds o' h1 h2
    cases ha
    obtain⟨r1,r2,r3⟩:=zhB h h0 h2 hl' hv' (fun b hh q e e2=>hd b hh q e (by rw[z6s,e2,Bool.or_true]))
    refine⟨by simp[r1],fun j t' ht=> ?_,fun i id e=> ?_⟩
    · match j,ht with
      |0,ht=>
       simp at ht;subst ht
       rcases zpK h hx h1 h0 (fun b hh q e e2=>hd b hh q e (by rw[z6s,e2,Bool.true_or])) with⟨-,e2,e3⟩|⟨id,e1,_⟩
       · exact⟨u,rfl,.inl ⟨e2,e3⟩⟩
       · cases e1
      |j+1,ht=>
       obtain⟨y,y1,y2⟩:=r2 j t' (by simpa using ht)
       refine⟨y,by simpa using y1,?_⟩
       rcases y2 with y2|⟨y2,id,y3,y4⟩
       · exact .inl y2
       · exact .inr ⟨y2,id,by rw[y3];congr 2;omega,y4⟩
    · obtain⟨j,t',j1,j2,j3⟩:=r3 i id e
      exact⟨j+1,t',by omega,by simpa using j2,j3⟩
  · rename_i t d id ts' ds h1 h2
    cases ha
    obtain⟨r1,r2,r3⟩:=zhB h h0 h2 hl' hv' (fun b hh q e e2=>hd b hh q e (by rw[z6s,e2,Bool.or_true]))
    rcases zpK h hx h1 h0 (fun b hh q e e2=>hd b hh q e (by rw[z6s,e2,Bool.true_or])) with⟨e1,_⟩|⟨id',e1,e2,e3,e4⟩
    · cases e1
    · cases e1
      refine⟨by simp[r1],fun j t' ht=> ?_,fun i id2 e=> ?_⟩
      · match j,ht with
        |0,ht=>
         simp at ht;subst ht
         exact⟨u,rfl,.inr ⟨e2,id,rfl,e4⟩⟩
        |j+1,ht=>
         obtain⟨y,y1,y2⟩:=r2 j t' (by simpa using ht)
         refine⟨y,by simpa using y1,?_⟩
         rcases y2 with y2|⟨y2,id,y3,y4⟩
         · exact .inl y2
         · cases y3
      · cases e
        exact⟨0,t,by omega,rfl,e2⟩
  · cases ha
def clB(r:T)(outs:List T)(io:Option (Nat×Nat)):Bool:=opn r||(match io with|some (i,_)=>(match outs[i]? with|some t=>opn t|none=>false)|none=>false)
def zmk(o:Option T):T->T
 | .vo _ cs'=>(match o with|some (.os sz n cs)=>if cs'.length=cs.length then .os sz n cs' else .dead|_=>.dead)
 | .vr cs'=>(match o with|some (.os _ _ _)=>.dead|_=>.vr cs')
 | .pr cs'=>(match o with|some (.os _ _ _)=>.dead|_=>.pr cs')
 |t=>t
theorem zw6{w':World}{K':Nat->z0a}{c c':z0a}{t t':T}{u:Value}(hh:zwi fr R id t u)(hob:∀t,z2i fr.ob id=some t->TRep w K c (R id) t)(hz:SzK w w')(h':TRep w' K' c' u t'):TRep w' K' c' (R id) (zmk (z2i fr.ob id) t'):=by
 rcases hh with⟨z1,z2,z3⟩|⟨sz,n,cs,off,g,z1,z2,z3,z4⟩
 · rw[z2] at h'
   have hr:=hob t z1
   rw[z1]
   cases t' with
   |vo o' cs'=>
    simp only[zmk]
    split
    · rename_i sz n cs he
      cases he
      exfalso
      generalize R id=v at h' hr
      cases h' with
      |vo=>cases hr
    · exact .dead _ _
   |vr cs'=>
    simp only[zmk]
    split
    · exact .dead _ _
    · exact h'
   |pr cs'=>
    simp only[zmk]
    split
    · exact .dead _ _
    · exact h'
   |_=>exact h'
 · rw[z1]
   have hr:=hob _ z1
   subst z4
   cases h' with
   |dead=>exact .dead _ _
   |sc _ _ hb=>cases hb
   |vr=>exact .dead _ _
   |pr=>exact .dead _ _
   |vo _ _ _ cs' h2=>
    simp only[zmk]
    split
    · rename_i hl
      exact hr.ofVo z3 hz rfl (.vo _ g off cs' h2) hl
    · exact .dead _ _
def ioF(fr:Fr)(deps:zpR)(outs:List T):Option (Nat×Nat)->Option Fr
 |none=>some fr
 |some (i,id)=>if deps.any (fun x=>decide (x.1=id)) then none else match outs[i]? with
  |some t'=>some {fr with tm:=z7u (zaE id) fr.tm,ob:=z6T fr.ob id (zmk (z2i fr.ob id) t')}
  |none=>none
def zEq(d:Nat):T->A
 | .vr _=>.a d [] 0
 |_=>.h d []
def zF6(fr:Fr)(dst:Option Nat)(r:T)(io:Option (Nat×Nat)):Option Fr:=
 match dst with
 |none=>some fr
 |some d=>if d<fr.nt/\(io.map (·.2))≠some d then
   (if zaV r then some {fr with tm:=z8G fr.tm d (.one (.t none r))} else some {fr with tm:=z8G (z7u (kill d) fr.tm) d (.one (zEq d r)),ob:=z6T fr.ob d r})
  else none
def zdD(C:z0g)(wio:FuncId->Nat->Bool)(fr:Fr)(f:FuncId)(args:List E)(dst:Option Nat):Option Fr:=
 match zhV fr (wio f) args 0 with
 |none=>none
 |some (ts,deps,io)=>match C f ts with
  |none=>none
  |some (r,outs)=>match(if deps.isEmpty||(!clB r outs io&& !wio 777777 f) then some fr else zhc fr deps) with
   |none=>none
   |some fr1=>match ioF fr1 deps outs io with
    |none=>none
    |some fr2=>zF6 fr2 dst r io
def zBz(d:Nat)(io:Option (Nat×Nat)):z0a->z0a
 | []=> []
 |0::s=>(d+2)::s
 |1::_=> [1]
 |(j+2)::s=>match io with|some (i,id)=>if j=i then(id+2)::s else [1]|none=> [1]
def zcy(io:Option (Nat×Nat))(c:z0a):Prop:=∃i id s,io=some (i,id)/\c=(id+2)::s
theorem z9T(c:z0a):¬zcy none c:=fun⟨_,_,_,e,_⟩=>by cases e
theorem znS{P:Program}{I:World->(Nat->z0a)->Prop}{C:z0g}{wio:FuncId->Nat->Bool}{G:Nat->Value}{a:Act}{o:Oper}{f:FuncId}{args:List E}{vs:List Value}{next:Act->World->Prop}{Q:Exit->Act->World->Prop}
 (hI:EnvS I) (hC:z8E P I C) (h:FRep w K R G fr a) (hIw:I w K) (hrun0:(callFunc f vs.toArray).run P w= .ok (.enter f vs.toArray) w->(execOp a.eval o).run P w= .ok (.enter f vs.toArray) w) (hvl:vs.length=args.length) (hvr:∀(j:Nat) (e:E) (v:Value),args[j]? =some e->vs[j]? =some v->ERep w K R fr.ob e v) (hf:zdD C wio fr f args o.dst=some fr')
 (hn:∀a' w' K' R',FRep w' K' R' G fr' a'->Step w K w' K'->(∀ts deps io,zhV fr (wio f) args 0=some (ts,deps,io)->∀b,b<w.heap.size->¬zcy io (K b)->(K' b= []∨K' b=K b)/\w'.heap[b]? =w.heap[b]?)->next a' w'):o.wp P a w next Q:=by
 unfold zdD at hf
 split at hf
 case h_1=>cases hf
 case h_2 ts deps io hargs=>
 split at hf
 case h_1=>cases hf
 case h_2 r outs hcf=>
 split at hf
 case h_1=>cases hf
 case h_2 fr1 hfz=>
 split at hf
 case h_1=>cases hf
 case h_2 fr2 hio=>
 have hok:=hC f ts r outs hcf
 let vals:Array Value:=vs.toArray
 have hrun:(execOp a.eval o).run P w= .ok (.enter f vals) w:=hrun0 (hok.enter vals w)
 unfold Oper.wp
 rw[hrun]
 simp only[Oper.upon]
 obtain⟨Kx,dx,x1,x2,x3,x4,x5,x6,x7,x8,x9,x10⟩:∃Kx dx,FRep w Kx R G fr1 a/\Step w K w Kx/\(∀b,K b= []->Kx b= [])/\(∀b hh q,K b=hh::q->z5D deps hh q=true->Kx b= []∨(Kx b=hh::q/\z5D dx hh q=true))/\(dx= []∨clB r outs io=false)/\
  (∀i,(∀x∈deps,x.1≠i)->z2i fr1.ob i=z2i fr.ob i)/\fr1.nt=fr.nt/\(∀b hh q,K b=hh::q->(∀x∈deps,hh≠x.1+2)->Kx b=K b)/\(∀x∈dx,x∈deps)/\(∀b,Kx b= []∨Kx b=K b):=by
  split at hfz
  · rename_i hc
    cases hfz
    rw[Y1] at hc
    rcases hc with hc|hc
    · have:deps= []:=by simpa using hc
      subst this
      exact⟨K,[],h,Step.refl _ _,fun _ e=>e,fun b hh q e hd=>by simp[z5D] at hd,.inl rfl,fun _ _=>rfl,rfl,fun _ _ _ _ _=>rfl,fun _ h=>h,fun _=>.inr rfl⟩
    · exact⟨K,deps,h,Step.refl _ _,fun _ e=>e,fun b hh q e hd=>.inr ⟨e,hd⟩,.inr (by rw[Z6] at hc;simpa using hc.1),fun _ _=>rfl,rfl,fun _ _ _ _ _=>rfl,fun _ h=>h,fun _=>.inr rfl⟩
  · obtain⟨K1,b1,b2,b3,b4,b5,b6,b7,b8⟩:=zhb h hfz
    have hz:∀b,K1 b= []∨K1 b=K b:=fun b=>by
     cases hk:K b with
     |nil=>exact .inl (b3 b hk)
     |cons hh q=>
      rw[←hk]
      exact b5 b hh q hk
    exact⟨K1,[],b1,b2,b3,fun b hh q e hd=>.inl (b4 b hh q e hd),.inl rfl,b7,b8,b6,fun _ h=>(by cases h),hz⟩
 let K0:Nat->z0a:=fun b=>zvX dx io (Kx b)
 have k00:∀b,Kx b= []->K0 b= []:=fun b e=>by show zvX dx io (Kx b)= [];rw[e];rfl
 have k01:∀b,K b= []->K0 b= []:=fun b e=>k00 b (x3 b e)
 have k02:∀b hh q,K b=hh::q->z5D deps hh q=true->K0 b= []:=fun b hh q e hd=>by
  rcases x4 b hh q e hd with e1|⟨e1,e2⟩
  · exact k00 b e1
  · show zvX dx io (Kx b)= []
    rw[e1];simp[zvX,e2]
 obtain⟨g1,g2,g3⟩:=zhB (K0:=K0) h k01 hargs hvl hvr k02
 have hioid:∀i id,io=some (i,id)->(∀x∈deps,x.1≠id)/\(∃t,outs[i]? =some t/\fr2= {fr1 with tm:=z7u (zaE id) fr1.tm,ob:=z6T fr1.ob id (zmk (z2i fr1.ob id) t)}):=fun i id e=>by
  subst e
  simp only[ioF] at hio
  split at hio
  · cases hio
  · rename_i hd
    split at hio
    · rename_i t' ht'
      cases hio
      exact⟨fun x hx e=>hd (Yn.2 ⟨x,hx,by simpa using e⟩),t',ht',rfl⟩
    · cases hio
 have k03:∀b i id s,io=some (i,id)->Kx b=(id+2)::s->K0 b=(i+2)::s:=fun b i id s e e1=>by
  show zvX dx io (Kx b)=_
  rw[e1,e]
  have:z5D dx (id+2) s=false:=by
   cases hb:z5D dx (id+2) s with
   |false=>rfl
   |true=>
    simp only[z5D,Yn,Z6,decide_eq_true_eq] at hb
    obtain⟨x,hx,hh,_⟩:=hb
    exact absurd (show x.1=id by omega) ((hioid i id e).1 x (x9 x hx))
  simp[zvX,this]
 have k04:∀b,¬zcy io (Kx b)->K0 b= []∨K0 b= [1]:=fun b hb=>by
  show zvX dx io (Kx b)= []∨zvX dx io (Kx b)= [1]
  cases hk:Kx b with
  |nil=>left;rfl
  |cons hh q=>
   simp only[zvX]
   split
   · left;rfl
   · cases io with
     |none=>right;rfl
     |some x=>
      obtain⟨i,id⟩:=x
      simp only
      split
      · rename_i e
        exact absurd ⟨i,id,q,rfl,by rw[hk,e]⟩ hb
      · right;rfl
 have k05:dx= []->∀b,¬zcy io (Kx b)->K0 b= []->Kx b= []:=fun hd b hb e=>by
  cases hk:Kx b with
  |nil=>rfl
  |cons hh q=>
   exfalso
   have e':zvX dx io (Kx b)= []:=e
   rw[hk,hd] at e'
   simp only[zvX] at e'
   rw[if_neg (by simp[z5D])] at e'
   cases io with
   |none=>cases e'
   |some x=>
    obtain⟨i,id⟩:=x
    simp only at e'
    split at e'<;>cases e'
 refine(hok.calls w K0 vals (by simp[vals,g1,hvl]) (fun j t ht=> ?_) (hI.keep hIw (Z8 _) fun b hb e=>⟨k01 b e,rfl⟩)).mono ?_
 · obtain⟨x,y1,y2⟩:=g2 j t ht
   have hlt:=(Za.1 y1).1
   have hv:vals.getD j undef=x:=by
    simp[vals,Zb,y1]
   rw[hv]
   unfold ziX
   rcases y2 with⟨z1,z2⟩|⟨z1,id,z2,z3⟩
   · rw[z1];exact z2
   · rw[z1]
     simp only[if_true,Zs] at z2⊢
     have hid:=(hioid _ _ z2).1
     have hmv:∀t2,z2i fr.ob id=some t2->TRep w K0 (col j) (R id) t2:=fun t2 ht2=>by
      have hr:=x1.ob id t2 (by rw[x6 id hid];exact ht2)
      exact hr.move (fun b s hb hc hK=>⟨by simpa[col] using k03 b _ id s z2 (by simpa[col] using hK),rfl⟩) (fun b hb e=>⟨k00 b e,rfl⟩) (by simp[col]) (Z8 _)
     rcases z3 with⟨q1,q2,_⟩|⟨sz,n,cs,off,g,q1,q2,q3,q4⟩
     · rw[q2];exact hmv _ q1
     · rw[q2,q4];exact(hmv _ q1).toVo q3 off
 · rintro e w' ⟨v,K',rfl,hres,hout,hst⟩
   simp only
   let d:Nat:=o.dst.getD 0
   haveI hdec:∀b,Decidable (b<w.heap.size/\ ¬zcy io (Kx b)):=fun b=>Classical.propDecidable _
   let K2:Nat->z0a:=fun b=>if b<w.heap.size/\ ¬zcy io (Kx b) then Kx b else zBz d io (K' b)
   have e1:∀b,b<w.heap.size->¬zcy io (Kx b)->K2 b=Kx b/\K' b=K0 b/\w'.heap[b]? =w.heap[b]? :=fun b hb hn=>by
    obtain⟨q1,q2⟩:=hst.old b hb (k04 b hn)
    refine⟨?_,q1,q2⟩
    show(if b<w.heap.size/\ ¬zcy io (Kx b) then Kx b else zBz d io (K' b))=Kx b
    rw[if_pos ⟨hb,hn⟩]
   have e2:∀b hh s,K' b=hh::s->hh≠1->K2 b=zBz d io (K' b):=fun b hh s he hne=>by
    show(if b<w.heap.size/\ ¬zcy io (Kx b) then Kx b else zBz d io (K' b))=_
    rw[if_neg]
    rintro⟨hb,hn⟩
    obtain⟨_,q1,_⟩:=e1 b hb hn
    rcases k04 b hn with q|q<;>rw[q,he] at q1
    · cases q1
    · cases q1;exact hne rfl
   have e3:dx= []->∀b,K' b= []->K2 b= []:=fun hd b he=>by
    show(if b<w.heap.size/\ ¬zcy io (Kx b) then Kx b else zBz d io (K' b))= []
    split
    · rename_i hc
      obtain⟨_,q1,_⟩:=e1 b hc.1 hc.2
      exact k05 hd b hc.2 (q1▸he)
    · rw[he];rfl
   have hnc:∀b,Kx b= []∨Kx b= [1]->¬zcy io (Kx b):=fun b hb ⟨i,id,s,_,e⟩=>by rcases hb with hb|hb<;>rw[e] at hb<;>simp at hb
   have hstep:Step w Kx w' K2:=⟨hst.os,hst.tape,hst.output,hst.size,fun b hb hc=>⟨(e1 b hb (hnc b hc)).1,(e1 b hb (hnc b hc)).2.2⟩,hst.sz⟩
   have hsame:∀ts' deps' io',zhV fr (wio f) args 0=some (ts',deps',io')->∀b,b<w.heap.size->¬zcy io' (K b)->(K2 b= []∨K2 b=K b)/\w'.heap[b]? =w.heap[b]? :=fun ts' deps' io' he b hb hn=>by
    rw[hargs] at he
    cases he
    have hx:¬zcy io (Kx b):=by
     rcases x10 b with e|e
     · exact hnc b (.inl e)
     · rw[e];exact hn
    obtain⟨q1,_,q3⟩:=e1 b hb hx
    rw[q1]
    exact⟨x10 b,q3⟩
   have hmove:∀(c c':z0a) (u:Value) (t:T),TRep w' K' c u t->c≠ []->c'≠ []->(∀b s,K' b=c++s->K2 b=c'++s)->(dx= []∨opn t=false)->TRep w' K2 c' u t:=fun c c' u t hr hc hc' hk hcl=>by
    rcases hcl with hcl|hcl
    · exact hr.move (fun b s _ _ e=>⟨hk b s e,rfl⟩) (fun b _ e=>⟨e3 hcl b e,rfl⟩) (by simp[hc,hc']) (Z8 _)
    · exact hr.moveC hcl (fun b s _ _ e=>⟨hk b s e,rfl⟩) (by simp[hc,hc']) (Z8 _)
   have hclr:dx= []∨opn r=false:=x5.imp id fun h=>by
    unfold clB at h
    rw[X6] at h
    exact h.1
   have hr1:TRep w' K2 (col d) v r:=hmove [0] (col d) v r hres (by simp) (z1F d) (fun b s e=>by
    have e':K' b=0::s:=by simpa using e
    rw[e2 b 0 s e' (by decide),e'];rfl) hclr
   have hfr2:FRep w' K2 R G fr2 a:=by
    cases io with
    |none=>
     simp only[ioF,Z9] at hio
     subst hio
     have hk:Keep w w' Kx K2 (fun _=>True):=⟨fun b hb e=>⟨(e1 b hb (z9T _)).1.trans e,(e1 b hb (z9T _)).2.2⟩,fun b hb _=>⟨(e1 b hb (z9T _)).1,(e1 b hb (z9T _)).2.2⟩,hst.size⟩
     exact x1.keep hk
    |some x=>
     obtain⟨i,id⟩:=x
     obtain⟨m1,t',m2,m3⟩:=hioid i id rfl
     rw[m3]
     have hnio:∀b i' s,Kx b=(i'+2)::s->i'≠id->¬zcy (some (i,id)) (Kx b):=fun b i' s e hne ⟨_,_,s',e2,e3⟩=>by
      cases e2
      rw[e] at e3;simp at e3;exact hne e3.1
     have hk:Keep w w' Kx K2 (But id):=⟨fun b hb e=>⟨(e1 b hb (hnc b (.inl e))).1.trans e,(e1 b hb (hnc b (.inl e))).2.2⟩,fun b hb ⟨i',s,e,hne⟩=>⟨(e1 b hb (hnio b i' s e hne)).1,(e1 b hb (hnio b i' s e hne)).2.2⟩,hst.size⟩
     refine x1.renew hk ?_
     obtain⟨j,t,j1,j2,j3⟩:=g3 i id rfl
     obtain⟨t2,p1,p2⟩:=hout j t j2 j3
     have hji:i=j:=by omega
     subst hji
     rw[m2] at p1;cases p1
     obtain⟨x,y1,y2⟩:=g2 i t j2
     have hv:vals.getD i undef=x:=by
      simp[vals,Zb,y1]
     rcases y2 with⟨z1,z2⟩|⟨z1,id',z2,z3⟩
     · rw[z1] at j3;cases j3
     · rw[Zs] at z2
       cases z2
       rw[hv] at p2
       have hid:=(hioid _ _ rfl).1
       have z3':zwi fr1 R id t x:=by
        unfold zwi
        rw[x6 id hid]
        exact z3
       refine zw6 (K:=Kx) (c:=col id) z3' (fun t2 ht2=>x1.ob id t2 ht2) hst.sz (hmove (col i) (col id) _ _ p2 (z1F _) (z1F _) (fun b s e=> ?_) (x5.imp _root_.id fun h=> ?_))
       · have e':K' b=(i+2)::s:=by simpa[col] using e
         rw[e2 b (i+2) s e' (by omega),e']
         simp[zBz,col]
       · unfold clB at h
         rw[X6] at h
         simpa[m2] using h.2
   unfold zF6 at hf
   split at hf
   · rename_i hdst
     cases hf
     rw[hdst]
     exact hn a w' K2 R hfr2 (x2.trans hstep) hsame
   · rename_i d' hdst
     have hdd:d=d':=by show o.dst.getD 0=d';rw[hdst];rfl
     split at hf
     case isFalse=>cases hf
     case isTrue hc=>
     rw[hdst]
     split at hf
     · rename_i hp
       cases hf
       refine hn _ w' K2 R (hfr2.put hc.1 ⟨?_,fun _ e=>by cases e⟩) (x2.trans hstep) hsame
       have:=hr1.free hp []
       exact this
     · cases hf
       subst hdd
       have h3:=hfr2.replace (d:=d) (w':=w') (K':=K2) (v:=v) (t:=r) ⟨fun b hb e=>⟨e,rfl⟩,fun b hb _=>⟨rfl,rfl⟩,Z8 _⟩ hr1
       refine hn _ w' K2 _ (h3.put (d:=d) (x:=.one (zEq d r)) (v:=v) hc.1 ?_) (x2.trans hstep) hsame
       have hh:ARep w' K2 (zaI R d v) (z6T fr2.ob d r) (.h d []) v:=⟨by simp[zaI,nav],r,by simp[z0A],rfl⟩
       unfold zEq
       split
       · rename_i cs _
         cases hr1 with
         |vr c g arr2 arr e fz F hfz hc0 hK hg hl hF hh=>exact⟨.pointer (some ⟨g,0,none⟩),g,by simp[zaI,nav],rfl,rfl,.vr cs,by simp[z0A],rfl⟩
       · exact hh
end
section
open Go.MapKept
variable{a:Act}{fr fr':Fr}{ob:List (Nat×T)}{es:List (Value×Value)}{xs ys:List Int}{N:Nat}{M:Nat->Bool}{G R:Nat->Value}{K:Nat->z0a}{kk:Option IntKind}{P:Program}{d:TypeDesc}{e kt t:TypeId}{k u v:Value}{w:World}
def zBD:TypeDesc->Option (Option IntKind)
 | .int .i8=>none
 | .int .i16=>none
 | .int k=>some (some k)
 | .string=>some none
 |_=>none
def zoZ:List Value->List Value->Bool
 | [],[]=>true
 | .int _ x::a,.int _ y::b=>decide (x=y)&&zoZ a b
 |_,_=>false
def zoD(a b:Array Value):Bool:=match a.toList,b.toList with| [.int _ x,.int _ y],[.int _ x',.int _ y']=>decide (x=x'/\y=y')|a,b=>zoZ a b
def z6D:Value->Value->Bool
 | .int _ a,.int _ b=>decide (a=b)
 | .string a,.string b=>decide (a=b)
 | .agg a,.agg b=>zoD a b
 |_,_=>false
def z6X(k:Value):List (Value×Value)->Option Value
 | []=>none
 |(a,v)::r=>if z6D a k then some v else z6X k r
def ziu(k v:Value):List (Value×Value)->List (Value×Value)
 | []=> [(k,v)]
 |(a,u)::r=>if z6D a k then(k,v)::r else(a,u)::ziu k v r
theorem zoY:∀xs ys:List Int,zoZ (xs.map (Value.int .i64)) (ys.map (Value.int .i64))=decide (xs=ys)
 | [],[]=>rfl
 | [],_::_=>rfl
 |_::_,[]=>rfl
 |x::xs,y::ys=>by simp[zoZ,zoY xs ys]
theorem zeq(xs ys:List Int):z6D (agI xs) (agI ys)=decide (xs=ys):=by
 simp only[z6D,agI,zoD]
 split
 · rename_i x y x' y' h1 h2
   match xs,ys,h1,h2 with
   | [_,_],[_,_],h1,h2=>simp at h1 h2;obtain⟨⟨_,rfl⟩,_,rfl⟩:=h1;obtain⟨⟨_,rfl⟩,_,rfl⟩:=h2;simp
 · exact zoY xs ys
def AK(N:Nat)(v:Value):Prop:=∃xs:List Int,xs.length=N/\v=agI xs
theorem zwa{n:Nat}(h:zEk n v=true):AK n v:=by
 unfold zEk at h
 split at h
 · rename_i vs
   rw[Z6,decide_eq_true_eq] at h
   obtain⟨l⟩:=vs
   have key:∀l:List Value,l.all zuW=true->∃xs:List Int,l=xs.map (Value.int .i64):=fun l=>by
    induction l with
    |nil=>intro _;exact⟨[],rfl⟩
    |cons a l ih=>
     intro h
     rw[XI,Z6] at h
     obtain⟨xs,rfl⟩:=ih h.2
     cases a with
     |int k x=>
      cases k with
      |i64=>exact⟨x::xs,rfl⟩
      |_=>cases h.1
     |_=>cases h.1
   obtain⟨xs,rfl⟩:=key l h.2
   exact⟨xs,by simpa using h.1,rfl⟩
 · cases h
theorem zEj(n:Nat)(xs:List Int):zEk n (agI xs)=decide (xs.length=n):=by
 have:∀xs:List Int,(xs.map (Value.int .i64)).all zuW=true:=fun xs=>by simp[zuW]
 simp[zEk,agI,zuW]
def KOk(P:Program)(kt:TypeId)(kk:Option IntKind):Prop:=
 (∃d,P.underlying kt=some d/\zBD d=some kk)∨ ∃N e,(∀v,zcx kk v=true->AK N v)/\P.underlying kt=some (.array N e)/\P.underlying e=some (.int .i64)/\(P.info? e).map (·.size)=some 1
theorem zqQ(h:zxj v=true):AK 2 v:=by
 unfold zxj at h
 split at h
 · rename_i vs
   obtain⟨l⟩:=vs
   simp only at h
   split at h
   · exact⟨[_,_],rfl,rfl⟩
   · cases h
 · cases h
theorem zer(hd:zBD d=some kk)(hv:zcx kk v=true):(∃k a,kk=some k/\d= .int k/\v= .int k a)∨ ∃s,kk=none/\d= .string/\v= .string s:=by
 unfold zBD at hd
 split at hd
 · cases hd
 · cases hd
 · rename_i k hk hk2
   cases hd
   left
   cases k<;>first|exact absurd rfl hk|exact absurd rfl hk2|(cases v<;>simp_all[zcx])
 · cases hd
   right
   cases v<;>simp_all[zcx]
 · cases hd
theorem zbG(hd:zBD d=some kk)(hv:zcx kk v=true):IsKey d v:=by
 rcases zer hd hv with⟨k,a,rfl,rfl,rfl⟩|⟨s,rfl,rfl,rfl⟩
 · rfl
 · trivial
theorem zgR{a b:Value}(hk:KOk P kt kk)(ha:zcx kk a=true)(hb:zcx kk b=true):z6D a b=true↔a=b:=by
 rcases hk with⟨d,_,hd⟩|⟨N,e,hv,-⟩
 · rcases zer hd ha with⟨k,x,h1,h2,rfl⟩|⟨s,h1,h2,rfl⟩<;>rcases zer hd hb with⟨k',y,h3,h4,rfl⟩|⟨s',h3,h4,rfl⟩
   · rw[h1] at h3;cases h3;simp[z6D]
   · rw[h1] at h3;cases h3
   · rw[h1] at h3;cases h3
   · simp[z6D]
 · obtain⟨xs,_,rfl⟩:=hv a ha
   obtain⟨ys,_,rfl⟩:=hv b hb
   rw[zeq,decide_eq_true_eq]
   refine⟨fun h=>by rw[h],fun h=> ?_⟩
   have e:=zeq xs ys
   rw[h,zeq,decide_eq_true rfl] at e
   exact of_decide_eq_true e.symm
theorem zsZ{k:IntKind}(ue:P.underlying e=some (.int k)){cs:Array Value}{i:Nat}(h:cs[i]? =some v):(part e cs i).run P w= .ok v w:=by
 simp[part,isAgg,run_underlying ue,h]
theorem zlg(h:(P.info? e).map (·.size)=some 1):(sizeOf e).run P w= .ok 1 w:=by
 obtain⟨i,h1,h2⟩:=Z5.1 h
 simp[sizeOf,typeInfo,h1,h2]
theorem zFF(n:Nat)(ue:P.underlying e=some (.int .i64))(a b:Int)(w:World):(Op.equalIn (n+1) e (.int .i64 a) (.int .i64 b)).run P w= .ok (a==b) w:=run_equalIn_int w n e .i64 .i64 a b ue
theorem zk7(ue:P.underlying e=some (.int .i64)){m:Nat}(h:m<xs.length):(part e (xs.map (Value.int .i64)).toArray (m*1)).run P w= .ok (.int .i64 xs[m]) w:=zsZ ue (by simp[h])
theorem zB4(n:Nat)(u2:P.underlying kt=some (.array N e))(ue:P.underlying e=some (.int .i64))(hs:(P.info? e).map (·.size)=some 1)(hx:xs.length=N)(hy:ys.length=N):(Op.equalIn (n+2) kt (agI xs) (agI ys)).run P w= .ok (decide (xs=ys)) w:=by
 unfold Op.equalIn agI
 simp only[Zc,run_underlying u2,Z3,zlg hs]
 simp only[XR,Std.Legacy.Range.size,YR,Nat.add_one_sub_one,Nat.div_one]
 generalize hf:(fun(i:Nat) (__s:Option Bool×Unit)=>do
  let a←part e (List.map (Value.int IntKind.i64) xs).toArray (i*1)
  let b←part e (List.map (Value.int IntKind.i64) ys).toArray (i*1)
  let c←Op.equalIn (n+1) e a b
  if(!c)=true then pure (ForInStep.done (some false,())) else pure (ForInStep.yield (none,())))=f
 have key:∀k m,m+k=N->(forIn (List.range' m k) ((none,()):Option Bool×Unit) f).run P w= .ok (if xs.drop m=ys.drop m then(none,()) else(some false,())) w:=fun k=>by
  induction k with
  |zero=>
   intro m hm
   rw[List.drop_of_length_le (by omega),List.drop_of_length_le (by omega)]
   simp
  |succ k ih=>
   intro m hm
   have h1:m<xs.length:=by omega
   have h2:m<ys.length:=by omega
   have hst:(f m (none,())).run P w= .ok (if xs[m]=ys[m] then ForInStep.yield (none,()) else ForInStep.done (some false,())) w:=by
    subst hf
    simp only[Zc,zk7 ue h1,zk7 ue h2,Z3,zFF n ue]
    by_cases h:xs[m]=ys[m]<;>simp[h]
   rw[List.range'_succ,List.forIn_cons,Yl h1,Yl h2]
   simp only[Zc,hst,Z3,Xx]
   by_cases h:xs[m]=ys[m]
   · simp only[h,if_true,true_and]
     exact ih (m+1) (by omega)
   · simp only[h,if_false,false_and,Zk]
 rw[key N 0 (by omega)]
 by_cases h:xs=ys<;>simp[h]
theorem zrG(n:Nat)(u2:P.underlying kt=some (.array N e))(ue:P.underlying e=some (.int .i64))(hs:(P.info? e).map (·.size)=some 1)(em:Bool)(hx:xs.length=N):(Instr.checkKey em (n+2) kt (agI xs)).run P w= .ok () w:=by
 unfold Instr.checkKey agI
 simp only[Zc,run_underlying u2,Z3]
 simp only[XR,Std.Legacy.Range.size,YR,Nat.add_one_sub_one,Nat.div_one]
 have hc:∀x:Int,(Instr.checkKey em (n+1) e (.int .i64 x)).run P w= .ok () w:=fun x=>by simp[Instr.checkKey,run_underlying ue]
 generalize hf:(fun(i:Nat) (__s:PUnit)=>do
  let s←sizeOf e
  let a←part e (List.map (Value.int IntKind.i64) xs).toArray (i*s)
  Instr.checkKey em (n+1) e a
  pure (ForInStep.yield PUnit.unit))=f
 have key:∀k m,m+k=N->(forIn (List.range' m k) PUnit.unit f).run P w= .ok PUnit.unit w:=fun k=>by
  induction k with
  |zero=>intro m hm;simp
  |succ k ih=>
   intro m hm
   have h1:m<xs.length:=by omega
   rw[List.range'_succ,List.forIn_cons]
   have:=ih (m+1) (by omega)
   subst hf
   simp only[Zc,zlg hs,zk7 ue h1,Z3,hc,Zk,this]
 rw[key N 0 (by omega)]
 simp
theorem zsY:∀xs:List Int,((xs.map (Value.int .i64)).zip (xs.map (Value.int .i64))).all (fun(x,y)=>Instr.sameBits 9999 x y)=true:=fun xs=>by
 induction xs with
 |nil=>rfl
 |cons x xs ih=>simp only[Zt,List.zip_cons_cons,XI,ih,XY];simp[Instr.sameBits]
theorem zwO(xs:List Int):(Instr.keyThatStays (agI xs) (agI xs)).run P w= .ok (agI xs) w:=by
 have h:Instr.sameBits (9999+1) (agI xs) (agI xs)=true:=by
  simp only[agI,Instr.sameBits,beq_self_eq_true,YJ]
  exact zsY xs
 unfold Instr.keyThatStays
 rw[if_pos h]
 rfl
theorem zD5(u2:P.underlying kt=some (.array N e))(ue:P.underlying e=some (.int .i64))(hs:(P.info? e).map (·.size)=some 1)(hx:xs.length=N)(hy:ys.length=N):(Op.equal kt (agI xs) (agI ys)).run P w= .ok (decide (xs=ys)) w:=zB4 9998 u2 ue hs hx hy
theorem zau(hk:KOk P kt kk)(hv:zcx kk k=true)(em:Bool):(Instr.checkKey em 10000 kt k).run P w= .ok () w:=by
 rcases hk with⟨d,hu,hd⟩|⟨N,e,ha,u2,ue,hs⟩
 · exact run_checkKey hu (zbG hd hv) em 9999
 · obtain⟨xs,hx,rfl⟩:=ha k hv
   exact zrG 9998 u2 ue hs em hx
theorem zol(hk:KOk P kt kk)(hv:zcx kk k=true):(Instr.keyThatStays k k).run P w= .ok k w:=by
 rcases hk with⟨d,hu,hd⟩|⟨N,e,ha,u2,ue,hs⟩
 · exact run_keyThatStays (zbG hd hv)
 · obtain⟨xs,hx,rfl⟩:=ha k hv
   exact zwO xs
theorem zw7{P:Program}{kt e:TypeId}{N:Nat}(u2:P.underlying kt=some (.array N e))(ue:P.underlying e=some (.int .i64))(hs:(P.info? e).map (·.size)=some 1){k:Value}(hk:AK N k):∀(l:List MapEntry) (i:Nat),(∀x∈l,AK N x.key)->
 ((∀w,(Instr.findAsking kt k l i).run P w= .ok none w)/\ ∀e∈l,z6D e.key k=false)∨ ∃j e,(∀w,(Instr.findAsking kt k l i).run P w= .ok (some (i+j,e.val)) w)/\l[j]? =some e/\e.key=k/\ ∀i<j,∀e',l[i]? =some e'->z6D e'.key k=false
 | [],i,_=>.inl ⟨fun w=>rfl,fun e he=>by cases he⟩
 |x::l,i,h=>by
  obtain⟨xs,h1,rfl⟩:=hk
  obtain⟨ys,h2,hx⟩:=h x (.head _)
  have hstep:∀w,(Instr.findAsking kt (agI xs) (x::l) i).run P w=if xs=ys then .ok (some (i,x.val)) w else(Instr.findAsking kt (agI xs) l (i+1)).run P w:=fun w=>by
   simp only[Instr.findAsking,hx,Zc,zD5 u2 ue hs h1 h2,Z3,decide_eq_true_eq]
   split<;>rfl
  by_cases hc:xs=ys
  · refine .inr ⟨0,x,fun w=>by rw[hstep,if_pos hc];rfl,rfl,?_,fun i' hi=>by omega⟩
    rw[hx,hc]
  · have hne:z6D x.key (agI xs)=false:=by
     rw[hx,zeq,decide_eq_false fun h=>hc h.symm]
    rcases zw7 u2 ue hs (k:=agI xs) ⟨xs,h1,rfl⟩ l (i+1) (fun y hy=>h y (.tail _ hy)) with⟨h1,h2⟩|⟨j,e',h1,h2,h3,h4⟩
    · refine .inl ⟨fun w=>by rw[hstep,if_neg hc];exact h1 w,fun e he=> ?_⟩
      rcases Zv.1 he with rfl|he
      · exact hne
      · exact h2 e he
    · refine .inr ⟨j+1,e',fun w=>by rw[hstep,if_neg hc,h1,show i+1+j=i+(j+1) by omega],by simpa using h2,h3,fun i' hi e'' he=> ?_⟩
      cases i' with
      |zero=>simp at he;subst he;exact hne
      |succ i'=>exact h4 i' (by omega) e'' (by simpa using he)
theorem ziP{k:Value}:∀ {l:List MapEntry},(∀e∈l,z6D e.key k=false)->z6X k (l.map fun e=>(e.key,e.val))=none/\ ∀v,ziu k v (l.map fun e=>(e.key,e.val))=(l.map fun e=>(e.key,e.val))++ [(k,v)]
 | [],_=>⟨rfl,fun _=>rfl⟩
 |e::es,h=>by
  have e2:=h e (.head _)
  obtain⟨h1,h2⟩:=ziP (l:=es) fun x hx=>h x (.tail _ hx)
  exact⟨by simp[z6X,e2,h1],fun v=>by simp[ziu,e2,h2]⟩
theorem ziO{k:Value}(hkk:z6D k k=true):∀ {l:List MapEntry} {j:Nat} {e:MapEntry},l[j]? =some e->e.key=k->(∀i<j,∀e',l[i]? =some e'->z6D e'.key k=false)->z6X k (l.map fun e=>(e.key,e.val))=some e.val/\ ∀v,ziu k v (l.map fun e=>(e.key,e.val))=(l.map fun e=>(e.key,e.val)).set j (k,v)
 | [],j,e,h,_,_=>by simp at h
 |x::es,0,e,h,he,_=>by
  simp at h;subst h;subst he
  exact⟨by simp[z6X,hkk],fun v=>by simp[ziu,hkk]⟩
 |x::es,j+1,e,h,he,hb=>by
  have e2:=hb 0 (by omega) x rfl
  obtain⟨h1,h2⟩:=ziO hkk (l:=es) (j:=j) (by simpa using h) he fun i hi e' h'=>hb (i+1) (by omega) e' (by simpa using h')
  exact⟨by simp[z6X,e2,h1],fun v=>by simp[ziu,e2,h2]⟩
theorem ztE{d:TypeDesc}{kk:Option IntKind}{k:Value}(hke:∀a,zcx kk a=true->(z6D a k=true↔a=k))(hd:zBD d=some kk)(hk:zcx kk k=true):∀(l:List MapEntry) (i:Nat),(∀x∈l,zcx kk x.key=true)->
 (Instr.findNow d k l i=some none/\ ∀e∈l,z6D e.key k=false)∨ ∃j e,Instr.findNow d k l i=some (some (i+j,e.val))/\l[j]? =some e/\e.key=k/\ ∀i<j,∀e',l[i]? =some e'->z6D e'.key k=false
 | [],i,h=>.inl ⟨rfl,fun e he=>by cases he⟩
 |e::es,i,h=>by
  have he:=h e (.head _)
  obtain⟨r,hr,hiff⟩:=sameNow_of_keys (zbG hd hk) (zbG hd he)
  cases r with
  |true=>
   have e1:e.key=k:=(hiff.1 rfl).symm
   exact .inr ⟨0,e,by simp[Instr.findNow,hr],rfl,e1,fun i' hi=>by omega⟩
  |false=>
   have e2:z6D e.key k=false:=by
    rw[←XK];intro q;have:=hiff.2 ((hke _ he).1 q).symm;cases this
   rcases ztE hke hd hk es (i+1) (fun x hx=>h x (.tail _ hx)) with⟨h1,h2⟩|⟨j,e',h1,h2,h3,h4⟩
   · refine .inl ⟨by simp[Instr.findNow,hr,h1],fun x hx=> ?_⟩
     rcases Zv.1 hx with rfl|hx
     · exact e2
     · exact h2 x hx
   · refine .inr ⟨j+1,e',by simp[Instr.findNow,hr,h1];omega,by simpa using h2,h3,fun i' hi e'' h'=> ?_⟩
     cases i' with
     |zero=>simp at h';subst h';exact e2
     |succ i'=>exact h4 i' (by omega) e'' (by simpa using h')
theorem zhi(hk:KOk P kt kk)(hv:zcx kk k=true)(l:List MapEntry)(hl:∀x∈l,zcx kk x.key=true):
 ((∀w,(Instr.findKey kt k l).run P w= .ok none w)/\ ∀e∈l,z6D e.key k=false)∨ ∃j e,(∀w,(Instr.findKey kt k l).run P w= .ok (some (j,e.val)) w)/\l[j]? =some e/\e.key=k/\ ∀i<j,∀e',l[i]? =some e'->z6D e'.key k=false:=by
 have hke:∀a,zcx kk a=true->(z6D a k=true↔a=k):=fun a ha=>zgR hk ha hv
 rcases hk with⟨d,hu,hd⟩|⟨N,e,ha,u2,ue,hs⟩
 · rcases ztE hke hd hv l 0 hl with⟨h1,h2⟩|⟨j,e,h1,h2⟩
   · exact .inl ⟨fun w=>run_findKey hu h1,h2⟩
   · exact .inr ⟨j,e,fun w=>by rw[run_findKey hu h1,Zs],h2⟩
 · have hw:∀w,(Instr.findKey kt k l).run P w=(Instr.findAsking kt k l 0).run P w:=fun w=>run_findKey_eq w (by rw[u2]) k l
   rcases zw7 u2 ue hs (ha k hv) l 0 (fun x hx=>ha _ (hl x hx)) with⟨h1,h2⟩|⟨j,e,h1,h2⟩
   · exact .inl ⟨fun w=>(hw w).trans (h1 w),h2⟩
   · exact .inr ⟨j,e,fun w=>by rw[hw,h1,Zs],h2⟩
theorem zpk(hk:KOk P kt kk)(hv:zcx kk k=true)(l:List MapEntry)(hl:∀x∈l,zcx kk x.key=true):
 ((∀w,(Instr.findKey kt k l).run P w= .ok none w)/\z6X k (l.map fun e=>(e.key,e.val))=none/\ ∀v,ziu k v (l.map fun e=>(e.key,e.val))=(l.map fun e=>(e.key,e.val))++ [(k,v)])∨
 ∃j e,(∀w,(Instr.findKey kt k l).run P w= .ok (some (j,e.val)) w)/\l[j]? =some e/\e.key=k/\z6X k (l.map fun e=>(e.key,e.val))=some e.val/\ ∀v,ziu k v (l.map fun e=>(e.key,e.val))=(l.map fun e=>(e.key,e.val)).set j (k,v):=by
 rcases zhi hk hv l hl with⟨h1,h2⟩|⟨j,e,h1,h2,h3,h4⟩
 · exact .inl ⟨h1,ziP h2⟩
 · exact .inr ⟨j,e,h1,h2,h3,ziO ((zgR hk hv hv).2 rfl) h2 h3 h4⟩
def zCa(fr:Fr):E->Option (Option Nat×Option IntKind×List (Value×Value))
 | .one (.t dep (.mr kk es))=>some (dep,kk,es)
 | .one (.h id p)=>match z2i fr.ob id with
   |none=>none
   |some root=>match sub root p with
    |some (.mp kk es)=>some (some id,kk,es)
    |some (.mr kk es)=>some (none,kk,es)
    |_=>none
 |_=>none
theorem zlq{e:E}{dep:Option Nat}(h:FRep w K R G fr a)(he:ERep w K R fr.ob e u)(hr:zCa fr e=some (dep,kk,es)):
 ∃g ents clock,u= .map (some g)/\frz K dep g= []/\w.heap[g]? =some (.map ents clock)/\zrN kk ents clock es:=by
 unfold zCa at hr
 split at hr
 · cases hr
   have h1:=he.1
   cases h1 with
   |mr _ g _ _ ents clock hK hg hh=>exact⟨g,ents,clock,rfl,hK,hg,hh⟩
 · rename_i id p
   split at hr
   case h_1=>cases hr
   case h_2 root hroot=>
   obtain⟨n1,t,n2,n3⟩:=he
   split at hr
   · rename_i kk' es' hsub
     cases hr
     obtain⟨v,e1,r⟩:=(h.ob id root hroot).sub (z1F id) hsub
     rw[n1] at e1;cases e1
     cases r with
     |mp _ g _ _ ents clock hc0 hK hg hh=>exact⟨g,ents,clock,rfl,by simp[frz,hK,col],hg,hh⟩
   · rename_i kk' es' hsub
     cases hr
     obtain⟨v,e1,r⟩:=(h.ob id root hroot).sub (z1F id) hsub
     rw[n1] at e1;cases e1
     cases r with
     |mr _ g _ _ ents clock hK hg hh=>exact⟨g,ents,clock,rfl,hK,hg,hh⟩
   · cases hr
 · cases hr
def zkf(P:Program)(t:TypeId):Option Value:=match P.info? t with|some i=>i.zero|none=>none
theorem zgp{z:Value}(h:zkf P t=some z)(w:World):(zeroValue t).run P w= .ok z w:=by
 unfold zkf at h
 split at h
 · rename_i i hi
   simp[zeroValue,typeInfo,hi,h,Sem.run]
 · cases h
def zct(P:Program)(t:TypeId):Option (Option IntKind×TypeId):=
 match z3b P t with
 |some ⟨.map kt et,_,_,_⟩=>match z3b P kt with
  |some ⟨.array 2 e,_,_,_⟩=>match z3b P e with
   |some ⟨.int .i64,1,_,_⟩=>some (some .i8,et)
   |_=>none
  |some ⟨.array 7 e,_,_,_⟩=>match z3b P e with
   |some ⟨.int .i64,1,_,_⟩=>some (some .i16,et)
   |_=>none
  |some ki=>match zBD ki.u with
   |some kk=>some (kk,et)
   |none=>none
  |none=>none
 |_=>none
theorem z6m{et:TypeId}(h:zct P t=some (kk,et)):∃kt,P.underlying t=some (.map kt et)/\KOk P kt kk:=by
 unfold zct at h
 split at h
 · rename_i kt et' s b z ht
   split at h
   · rename_i e s1 b1 z1 hki
     split at h
     · rename_i b2 z2 he
       cases h
       obtain⟨h1,j,h2,h3,_⟩:=z3T he
       exact⟨kt,(z3T ht).1,.inr ⟨2,e,fun v hv=>zqQ hv,(z3T hki).1,h1,by rw[h2];exact congrArg some h3⟩⟩
     · cases h
   · rename_i e s1 b1 z1 hki
     split at h
     · rename_i b2 z2 he
       cases h
       obtain⟨h1,j,h2,h3,_⟩:=z3T he
       exact⟨kt,(z3T ht).1,.inr ⟨7,e,fun v hv=>zwa hv,(z3T hki).1,h1,by rw[h2];exact congrArg some h3⟩⟩
     · cases h
   · rename_i ki hne hne2 hki
     split at h
     · rename_i kk' hkk
       cases h
       exact⟨kt,(z3T ht).1,.inl ⟨ki.u,(z3T hki).1,hkk⟩⟩
     · cases h
   · cases h
 · cases h
def zns:List T->Option (List Int)
 | []=>some []
 | .sc (.int .i64 x)::r=>(zns r).map (x:: ·)
 |_=>none
theorem zuY(xs:List Int):zns (xs.map fun x=>.sc (.int .i64 x))=some xs:=by
 induction xs with
 |nil=>rfl
 |cons x xs ih=>simp[zns,ih]
theorem ziK:∀ {cs:List T} {xs:List Int},zns cs=some xs->cs=xs.map fun x=>.sc (.int .i64 x)
 | [],xs,h=>by cases h;rfl
 | .sc (.int .i64 x)::r,xs,h=>by
   simp only[zns,Z5] at h
   obtain⟨ys,h1,rfl⟩:=h
   rw[ziK h1];rfl
def zF8(cs:List T):Option Value:=
 if cs.length=2 then(match cs with| [.sc a,.sc b]=>some (.agg #[a,b])|_=>none) else(zns cs).map agI
def rdK:E->Option Value
 | .ag [x,y]=>(match rdV (.one x),rdV (.one y) with|some a,some b=>some (.agg #[a,b])|_,_=>none)
 | .one (.t none (.agg cs))=>zF8 cs
 |e=>rdV e
theorem zd6{e:E}(h:ERep w K R ob e u)(hr:rdK e=some k):u=k:=by
 unfold rdK at hr
 split at hr
 · rename_i x y
   split at hr
   · rename_i a b ha hb
     cases hr
     obtain⟨arr,rfl,h1,h2⟩:=h
     have e0:ERep w K R ob (.one x) (arr.getD 0 undef):=h2 0 x rfl
     have e1:ERep w K R ob (.one y) (arr.getD 1 undef):=h2 1 y rfl
     have d0:=(z1v e0 ha).1
     have d1:=(z1v e1 hb).1
     obtain⟨l⟩:=arr
     match l,h1 with
     | [p,q],_=>
       have d0:p=a:=d0
       have d1:q=b:=d1
       subst d0 d1
       rfl
   · cases hr
 · rename_i cs0
   have h1:=h.1
   unfold zF8 at hr
   split at hr
   rotate_left
   · rw[Z5] at hr
     obtain⟨xs,hx,rfl⟩:=hr
     have hcs:=ziK hx
     generalize hT:T.agg cs0=t at h1
     cases h1 with
     |agg c vs cs F hl hF hh=>
      cases hT
      subst hcs
      unfold agI
      congr 1
      refine Array.ext (by simpa using hl) fun i i1 i2=> ?_
      have hi:i<xs.length:=by simpa using i2
      have g:=(hh i _ (by simp[hi];rfl)).sc_eq
      have f:=hF i (by simpa using hi)
      rw[YP i1] at f
      rw[YF f,g]
      simp
     |_=>cases hT
   split at hr
   rotate_left
   · cases hr
   rename_i a b _
   cases hr
   generalize hT:T.agg [.sc a,.sc b]=t at h1
   cases h1 with
   |agg c vs cs F hl hF hh=>
    cases hT
    have g0:=(hh 0 _ rfl).sc_eq
    have g1:=(hh 1 _ rfl).sc_eq
    have f0:=hF 0 (by simp)
    have f1:=hF 1 (by simp)
    obtain⟨l⟩:=vs
    match l,hl with
    | [p,q],_=>
      simp at f0 f1
      rw[f0,f1,g0,g1]
   |_=>cases hT
 · exact(z1v h hr).1
def zjo(P:Program)(M:Nat->Bool)(fr:Fr)(t:TypeId)(x key:E)(ok:Bool):Option E:=
 match zct P t with
 |none=>none
 |some (kk,et)=>match zkf P et with
  |none=>none
  |some z=>match zCa fr x with
   |none=>(match rdV x,rdK key with
    |some (.map none),some k=>if zcx kk k=true/\scB z=true then(if ok then some (.one (.t none (.tup [.sc z,.sc (.bool false)]))) else some (scE z)) else none
    |_,_=>none)
   |some (dep,kk',es)=>match rdK key with
    |none=>none
    |some k=>if kk=kk'/\zcx kk k=true/\scB z=true/\zjQ dep M=false then
      (if ok then some (.one (.t none (.tup [.sc ((z6X k es).getD z),.sc (.bool (z6X k es).isSome)]))) else some (scE ((z6X k es).getD z)))
     else none
theorem zlY{k v:Value}:∀ {es:List (Value×Value)},z6X k es=some v->∃x∈es,x.2=v
 | [],h=>by cases h
 |(a,u)::r,h=>by
  simp only[z6X] at h
  split at h
  · cases h;exact⟨_,.head _,rfl⟩
  · obtain⟨x,hx,e⟩:=zlY h
    exact⟨x,.tail _ hx,e⟩
theorem zr0{x key e:E}{ku:Value}{ok:Bool}(h:FRep w K R G fr a)(hx:ERep w K R fr.ob x u)(hkey:ERep w K R fr.ob key ku)(hl:zjo P M fr t x key ok=some e):
 ∃v,ERep w K R fr.ob e v/\ ∀w',Stay w w' K M->(Instr.lookup t u ku ok).run P w'= .ok v w':=by
 unfold zjo at hl
 split at hl
 case h_1=>cases hl
 case h_2 kk et ht=>
 split at hl
 case h_1=>cases hl
 case h_2 z hz=>
 split at hl
 case h_1=>
  split at hl
  case h_2=>cases hl
  case h_1 k hv hk=>
  split at hl
  case isFalse=>cases hl
  case isTrue hc=>
  obtain⟨kt,u1,u3⟩:=z6m ht
  obtain rfl:=zd6 hkey hk
  obtain rfl:=(z1v hx hv).1
  have hfd:∀w',(Instr.findKey kt ku []).run P w'= .ok none w':=by
   rcases zhi u3 hc.1 [] (fun x hx=>by cases hx) with⟨h1,-⟩|⟨j,e',-,h2,-⟩
   · exact h1
   · simp at h2
  have hrun:∀w',(Instr.lookup t (.map none) ku ok).run P w'= .ok (if ok then .tuple #[z,.bool false] else z) w':=fun w'=>by
   simp only[Instr.lookup,Zc,run_underlying u1,Z3,Zk]
   rw[zau u3 hc.1]
   simp only[Z3,hfd,zgp hz,Zc,Zk]
  cases ok with
  |true=>
   simp only[if_true,Z9] at hl
   subst hl
   refine⟨_,⟨?_,fun _ e=>by cases e⟩,fun w' _=>hrun w'⟩
   refine .tup _ _ _ (fun j=>if j=0 then z else .bool false) rfl (fun j hj=> ?_) (fun j t ht=> ?_)
   · match j,hj with
     |0,_=>rfl
     |1,_=>rfl
   · match j,ht with
     |0,ht=>cases ht;exact .sc _ _ hc.2
     |1,ht=>cases ht;exact .sc _ _ rfl
  |false=>
   simp only[ZP,if_false,Z9] at hl
   subst hl
   exact⟨_,z4o hc.2,fun w' _=>by simpa using hrun w'⟩
 case h_2 dep kk' es hrd=>
 split at hl
 case h_1=>cases hl
 case h_2 k hk=>
 split at hl
 case isFalse=>cases hl
 case isTrue hc=>
 obtain⟨rfl,hkb,hzb,hdep⟩:=hc
 obtain⟨kt,u1,u3⟩:=z6m ht
 obtain rfl:=zd6 hkey hk
 obtain⟨g,ents,clock,rfl,hKg,hg,hm1,hm2,hm3,hm4⟩:=zlq h hx hrd
 subst hm1
 have hks:∀x∈ents.toList,zcx kk x.key=true:=fun x hx=>(hm2 (x.key,x.val) (Zh.2 ⟨x,hx,rfl⟩)).1
 have hstay:∀w',Stay w w' K M->w'.heap[g]? =some (.map ents clock):=fun w' hst=>by
  have:=hst.dep hdep (z1d hg) hKg
  rw[this];exact hg
 have hfv:∀v,z6X ku (ents.toList.map fun e=>(e.key,e.val))=some v->scB v=true:=fun v hv=>by
  obtain⟨x,hx,rfl⟩:=zlY hv
  exact(hm2 x hx).2
 have hres:scB ((z6X ku (ents.toList.map fun e=>(e.key,e.val))).getD z)=true:=by
  cases hfd:z6X ku (ents.toList.map fun e=>(e.key,e.val)) with
  |none=>exact hzb
  |some v=>exact hfv v hfd
 have hrun:∀w',Stay w w' K M->(Instr.lookup t (.map (some g)) ku ok).run P w'= .ok (if ok then .tuple #[(z6X ku (ents.toList.map fun e=>(e.key,e.val))).getD z,.bool (z6X ku (ents.toList.map fun e=>(e.key,e.val))).isSome] else(z6X ku (ents.toList.map fun e=>(e.key,e.val))).getD z) w':=fun w' hst=>by
  have hb:=hstay w' hst
  rcases zpk u3 hkb ents.toList hks with⟨h1,h2,-⟩|⟨j,e',h1,h2,h3,h4,-⟩
  · rw[h2]
    simp only[Instr.lookup,Zc,run_underlying u1,Go.MapKept.run_getObj_map hb,Z3,Zk]
    rw[zau u3 hkb]
    simp only[Z3,h1,zgp hz,Zc,Zk]
    rfl
  · rw[h4]
    simp only[Instr.lookup,Zc,run_underlying u1,Go.MapKept.run_getObj_map hb,Z3,Zk]
    rw[zau u3 hkb]
    simp only[Z3,h1,Zc,Zk]
    rfl
 cases ok with
 |true=>
  simp only[if_true,Z9] at hl
  subst hl
  refine⟨_,⟨?_,fun _ e=>by cases e⟩,hrun⟩
  refine .tup _ _ _ (fun j=>if j=0 then(z6X ku (ents.toList.map fun e=>(e.key,e.val))).getD z else .bool (z6X ku (ents.toList.map fun e=>(e.key,e.val))).isSome) rfl (fun j hj=> ?_) (fun j t ht=> ?_)
  · match j,hj with
    |0,_=>rfl
    |1,_=>rfl
  · match j,ht with
    |0,ht=>cases ht;exact .sc _ _ hres
    |1,ht=>cases ht;exact .sc _ _ rfl
 |false=>
  simp only[ZP,if_false,Z9] at hl
  subst hl
  exact⟨_,z4o hres,fun w' hst=>by simpa using hrun w' hst⟩
def zjl(P:Program)(M:Nat->Bool)(fr:Fr)(t:TypeId)(x:E):Option E:=
 match zct P t with
 |none=>none
 |some _=>match zCa fr x with
  |none=>none
  |some (dep,_,es)=>if zjQ dep M=false then some (scE (.int .i64 es.length)) else none
theorem zqZ{x e:E}(h:FRep w K R G fr a)(hx:ERep w K R fr.ob x u)(hl:zjl P M fr t x=some e):
 ∃v,ERep w K R fr.ob e v/\ ∀w',Stay w w' K M->∀ty,(Builtin.len_ #[t] ty #[u]).run P w'= .ok v w':=by
 unfold zjl at hl
 split at hl
 case h_1=>cases hl
 case h_2 q ht=>
 split at hl
 case h_1=>cases hl
 case h_2 dep kk es hrd=>
 split at hl
 case isFalse=>cases hl
 case isTrue hdep=>
 cases hl
 obtain⟨kk',et⟩:=q
 obtain⟨kt,u1,u3⟩:=z6m ht
 obtain⟨g,ents,clock,rfl,hKg,hg,hm1,hm2,hm3,hm4⟩:=zlq h hx hrd
 refine⟨_,z4o rfl,fun w' hst ty=> ?_⟩
 have hb:w'.heap[g]? =some (.map ents clock):=by rw[hst.dep hdep (z1d hg) hKg];exact hg
 have hlen:es.length=ents.size:=by rw[←hm1];simp
 simp[Builtin.len_,Zc,run_underlying u1,Go.MapKept.run_getObj_map hb,Z3,Zk,goInt,hlen]
def zcv(id:Nat):A->A
 | .t (some i) x=>if i=id then .dead else .t (some i) x
 | .ea (some i) cs o=>if i=id then .dead else .ea (some i) cs o
 |x=>x
theorem FRep.mapset{w':World}{id:Nat}{p:List Nat}{root root':T}{es':List (Value×Value)}{g:Nat}{ents ents':Array MapEntry}{clock clock':Nat}
 (h:FRep w K R G fr a) (hroot:z2i fr.ob id=some root) (hbox:sub root p=some (.mp kk es)) (hupd:upd root p (.mp kk es')=some root') (hnav:nav w (R id) p=some (.map (some g)))
 (hg:w.heap[g]? =some (.map ents clock)) (hg':w'.heap[g]? =some (.map ents' clock')) (hh:zrN kk ents' clock' es') (hsz:w'.heap.size=w.heap.size) (hoth:∀b,b≠g->w'.heap[b]? =w.heap[b]?):
 FRep w' K R G {fr with tm:=z7u (zcv id) fr.tm,ob:=z6T fr.ob id root'} a:=by
 have hrt:=h.ob id root hroot
 obtain⟨hv2,hnav2,hrep⟩:=hrt.sub (z1F id) hbox
 rw[hnav] at hnav2;cases hnav2
 have hKg:K g=col id++p:=by cases hrep with|mp _ g _ _ ents clock hc0 hK hg hh=>exact hK
 have hne:∀b i s,K b=(i+2)::s->i≠id->b≠g:=fun b i s e1 e2 e3=>by
  subst e3;rw[hKg] at e1;simp[col] at e1;exact e2 e1.1.symm
 have hne0:∀b,K b= []->b≠g:=fun b e1 e3=>by subst e3;rw[hKg] at e1;simp[col] at e1
 have hfro:∀b,b<w.heap.size->K b= []->K b= []/\w'.heap[b]? =w.heap[b]? :=fun b hb e1=>⟨e1,hoth b (hne0 b e1)⟩
 have hcell:∀gb j,w'.cell? ⟨gb,j,none⟩=w.cell? ⟨gb,j,none⟩:=fun gb j=>by
  by_cases e1:gb=g
  · subst e1;simp[World.cell?,hg,hg']
  · exact z1m (hoth gb e1) j
 have hway:∀i t q,z2i fr.ob i=some t->(sub t q).isSome->nav w' (R i) q=nav w (R i) q:=fun i t q ho hs=>
  z7g (h.ob i t ho) (z1F i) hs fun r j s gb hq hKb hb=>hcell gb j
 have hsub:∀q,(sub root q).isSome->(sub root' q).isSome:=fun q hs=>by
  by_cases hp:p<+:q
  · obtain⟨s,rfl⟩:=hp
    rw[z7a hupd]
    rw[z5J hbox] at hs
    cases s with
    |nil=>simp[sub]
    |cons j s=>simp[sub,zms] at hs
  · exact z5r hupd hp hs
 have hdep:∀i,i≠id->∀b,b<w.heap.size->frz K (some i) b= []->frz K (some i) b= []/\w'.heap[b]? =w.heap[b]? :=fun i hi b hb e1=>by
  refine⟨e1,?_⟩
  simp only[frz] at e1
  split at e1
  · rename_i hh
    obtain⟨s,hs⟩:∃s,K b=(i+2)::s:=by
     cases hk:K b with
     |nil=>rw[hk] at hh;cases hh
     |cons a s=>rw[hk] at hh;simp at hh;subst hh;exact⟨s,rfl⟩
    exact hoth b (hne b i s hs hi)
  · exact(hfro b hb e1).2
 have hobi:∀i,i≠id->z2i (z6T fr.ob id root') i=z2i fr.ob i:=fun i hi=>by rw[z0A,if_neg (fun e=>hi e.symm)]
 refine⟨fun i=> ?_,fun i t ho=> ?_,h.nt,h.df⟩
 · show ERep w' K R (z6T fr.ob id root') (z3g (z7u (zcv id) fr.tm) i) _
   rw[z6w _ rfl]
   refine(h.tm i).map _ fun x u hx=> ?_
   cases x with
   |dead=>trivial
   |k v=>exact hx
   |t dep x=>
    cases dep with
    |none=>exact⟨TRep.fz hx.1 hfro (by omega),fun _ e=>by cases e⟩
    |some i=>
     by_cases hi:i=id
     · simp only[zcv,if_pos hi];trivial
     · simp only[zcv,if_neg hi]
       exact⟨TRep.fz hx.1 (fun b hb e1=>hdep i hi b hb e1) (by omega),fun _ e=>by cases e;rw[hobi i hi];exact hx.2 i rfl⟩
   |h i q=>
    obtain⟨n1,t,n2,n3⟩:=hx
    refine⟨by rw[hway i t q n2 n3];exact n1,?_⟩
    by_cases hi:i=id
    · subst hi
      rw[hroot] at n2;cases n2
      exact⟨root',by simp[z0A],hsub q n3⟩
    · exact⟨t,by rw[hobi i hi];exact n2,n3⟩
   |a i q o=>
    obtain⟨hv,g,n1,n4,n5,t,n2,n3⟩:=hx
    refine⟨hv,g,by rw[hway i t q n2 n3];exact n1,n4,n5,?_⟩
    by_cases hi:i=id
    · subst hi
      rw[hroot] at n2;cases n2
      exact⟨root',by simp[z0A],hsub q n3⟩
    · exact⟨t,by rw[hobi i hi];exact n2,n3⟩
   |tf n cs=>exact⟨hx.1,TRep.fz hx.2 hfro (by omega)⟩
   |ea dep cs o=>
    obtain⟨g,o,F,e1,e2,e3,e4,e5,e6⟩:=hx
    cases dep with
    |none=>exact⟨g,o,F,e1,e2,by omega,fun j hj=>by rw[hcell];exact e4 j hj,fun j t ht=>TRep.fz (e5 j t ht) hfro (by omega),fun _ e=>by cases e⟩
    |some i=>
     by_cases hi:i=id
     · simp only[zcv,if_pos hi];trivial
     · simp only[zcv,if_neg hi]
       exact⟨g,o,F,e1,e2,by omega,fun j hj=>by rw[hcell];exact e4 j hj,fun j t ht=>TRep.fz (e5 j t ht) (fun b hb e1=>hdep i hi b hb e1) (by omega),fun _ e=>by cases e;rw[hobi i hi];exact e6 i rfl⟩
 · rw[z0A] at ho
   split at ho
   · rename_i e1
     subst e1;cases ho
     refine TRep.upd hrt (z1F id) hnav hupd ⟨hfro,fun b hb ⟨s,e1,hs⟩=> ?_,by omega⟩ (.mp _ g kk es' ents' clock' (by simp[col]) hKg hg' hh)
     have hb':b≠g:=fun e2=>by subst e2;rw[hKg] at e1;exact hs (by rw[YW e1];exact List.prefix_rfl)
     exact⟨rfl,hoth b hb'⟩
   · rename_i e1
     refine(h.ob i t ho).keep (D:=But id) ⟨hfro,fun b hb ⟨j,s,e2,hj⟩=>⟨rfl,hoth b (hne b j s e2 hj)⟩,by omega⟩ (fun s _=>⟨i,s,rfl,fun e=>e1 e.symm⟩)
def zjj(P:Program)(fr:Fr)(t:TypeId)(m key val:E):Option Fr:=
 match zct P t with
 |none=>none
 |some (kk,_)=>match m with
  | .one (.h id p)=>match z2i fr.ob id with
    |none=>none
    |some root=>match sub root p with
     |some (.mp kk' es)=>match rdK key,rdV val with
      |some k,some v=>if kk=kk'/\zcx kk k=true then(match upd root p (.mp kk (ziu k v es)) with
        |some root'=>some {fr with tm:=z7u (zcv id) fr.tm,ob:=z6T fr.ob id root'}
        |none=>none) else none
      |_,_=>none
     |_=>none
  |_=>none
theorem zqY{m key val:E}{um uk uv:Value}(h:FRep w K R G fr a)(hm:ERep w K R fr.ob m um)(hk:ERep w K R fr.ob key uk)(hv:ERep w K R fr.ob val uv)(hf:zjj P fr t m key val=some fr'):
 ∃w',(Instr.mapUpdate t um uk uv).run P w= .ok () w'/\FRep w' K R G fr' a/\Step w K w' K/\ ∀b i s,K b=(i+2)::s->(∀id p,m= .one (.h id p)->i≠id)->w'.heap[b]? =w.heap[b]? :=by
 unfold zjj at hf
 split at hf
 case h_1=>cases hf
 case h_2 kk et ht=>
 split at hf
 case h_2=>cases hf
 case h_1 id p=>
 split at hf
 case h_1=>cases hf
 case h_2 root hroot=>
 split at hf
 case h_2=>cases hf
 case h_1 kk' es hsub=>
 split at hf
 case h_2=>cases hf
 case h_1 k v hrk hrv=>
 split at hf
 case isFalse=>cases hf
 case isTrue hc=>
 obtain⟨rfl,hkb⟩:=hc
 split at hf
 case h_2=>cases hf
 case h_1 root' hupd=>
 cases hf
 obtain rfl:=zd6 hk hrk
 obtain⟨rfl,hvb⟩:=z1v hv hrv
 obtain⟨kt,u1,u3⟩:=z6m ht
 obtain⟨n1,t0,n2,n3⟩:=hm
 obtain⟨v0,e1,r⟩:=(h.ob id root hroot).sub (z1F id) hsub
 rw[n1] at e1;cases e1
 obtain⟨g,ents,clock,rfl,hKg,hg,hm1,hm2,hm3,hm4⟩:∃g ents clock,um= .map (some g)/\K g=col id++p/\w.heap[g]? =some (.map ents clock)/\zrN kk ents clock es:=by
  cases r with
  |mp _ g _ _ ents clock hc0 hK hg hh=>exact⟨g,ents,clock,rfl,hK,hg,hh⟩
 have hks:∀x∈ents.toList,zcx kk x.key=true:=fun x hx=>(hm2 (x.key,x.val) (by rw[←hm1];exact Zh.2 ⟨x,hx,rfl⟩)).1
 have main:∃ents' clock',(Instr.mapUpdate t (.map (some g)) uk uv).run P w= .ok () {w with heap:=w.heap.setIfInBounds g (.map ents' clock')}/\zrN kk ents' clock' (ziu uk uv es):=by
  rcases zpk u3 hkb ents.toList hks with⟨h1,h2,h3⟩|⟨j,e',h1,h2,h3,h4,h5⟩
  · refine⟨ents.push {key:=uk,val:=uv,born:=clock},clock+1,?_,?_,?_,?_,?_⟩
    · simp only[Instr.mapUpdate,Zc,run_underlying u1,Go.MapKept.run_getObj_map hg,Z3]
      rw[zau u3 hkb]
      simp only[Z3,h1]
      exact run_setObj_map _ hg
    · rw[←hm1,h3];simp
    · rw[←hm1,h3]
      intro x hx
      rcases Ze.1 hx with hx|hx
      · exact hm2 x (by rw[←hm1];exact hx)
      · simp at hx;subst hx;exact⟨hkb,hvb⟩
    · intro x hx
      simp only[Array.toList_push,Ze,Zi] at hx
      rcases hx with hx|hx
      · have:=hm3 x hx;omega
      · subst hx;exact X9 _
    · simp only[Array.toList_push,ZI,Zt,Yt]
      refine Yj.2 ⟨hm4,by simp,fun b hb c hc e=> ?_⟩
      rw[Zi] at hc
      subst hc
      obtain⟨x,hx,rfl⟩:=Zh.1 hb
      have:=hm3 x hx;omega
  · have hj:ents[j]? =some e':=by simpa using h2
    have hbn:(ents.modify j fun e=> {e with key:=uk,val:=uv}).toList.map (·.born)=ents.toList.map (·.born):=by
     apply W5
     intro i
     simp only[Zd,Zx,Yf]
     by_cases e:j=i
     · subst e;simp[hj]
     · simp[e]
    refine⟨ents.modify j fun e=> {e with key:=uk,val:=uv},clock,?_,?_,?_,?_,?_⟩
    · simp only[Instr.mapUpdate,Zc,run_underlying u1,Go.MapKept.run_getObj_map hg,Z3]
      rw[zau u3 hkb]
      simp only[Z3,h1,hj,ZN,Z4,h3,Zc,zol u3 hkb]
      exact run_setObj_map _ hg
    · rw[←hm1,h5]
      apply W5
      intro i
      simp only[Zd,Zx,Yf,XF]
      by_cases e:j=i
      · subst e
        have:j<ents.size:=(ZY.1 hj).1
        simp[hj,this]
      · simp[e]
    · rw[←hm1,h5]
      intro x hx
      rcases Xb hx with hx|hx
      · exact hm2 x (by rw[←hm1];exact hx)
      · subst hx;exact⟨hkb,hvb⟩
    · intro x hx
      have hb:x.born∈(ents.modify j fun e=> {e with key:=uk,val:=uv}).toList.map (·.born):=Zh.2 ⟨x,hx,rfl⟩
      rw[hbn] at hb
      obtain⟨y,hy,e⟩:=Zh.1 hb
      rw[←e];exact hm3 y hy
    · rw[hbn];exact hm4
 obtain⟨ents',clock',hrun,hmi⟩:=main
 have hs:=heap_set (o':=.map ents' clock') hg
 refine⟨_,hrun,h.mapset hroot hsub hupd n1 hg hs.1 hmi (by simp) (fun b hb=>hs.2 b hb),⟨rfl,rfl,rfl,by simp,fun b hb hc=>⟨rfl,hs.2 b (fun e=> ?_)⟩,fun b arr e fz hb=>⟨arr,e,fz,(hs.2 b (fun e=>by subst e;rw[hg] at hb;cases hb)).trans hb,rfl⟩⟩,fun b i s hb hi=>hs.2 b (fun e=> ?_)⟩
 · subst e;rw[hKg] at hc;rcases hc with hc|hc<;>simp[col] at hc
 · subst e;rw[hKg] at hb;simp[col] at hb;exact hi id p rfl hb.1.symm
def zv6:Option E->Bool
 |none=>true
 |some e=>match rdV e with|some (.int _ _)=>true|_=>false
def zfp(P:Program)(fr:Fr)(t:TypeId)(r:Option E)(d:Nat):Option Fr:=
 match zct P t with
 |none=>none
 |some (kk,_)=>if d<fr.nt/\zv6 r=true then
   some {fr with tm:=z8G (z7u (kill d) fr.tm) d (.one (.h d [])),ob:=z6T fr.ob d (.mp kk [])} else none
theorem znl{r:Option E}{ur:Option Value}{d:Nat}(h:FRep w K R G fr a)(hr:zyz w K R fr.ob r ur)(hf:zfp P fr t r d=some fr'):
 ∃v w',(Instr.makeMap t ur).run P w= .ok v w'/\(∃K' R',FRep w' K' R' G fr' (a.put (some d) v)/\Step w K w' K')/\ ∀b,b<w.heap.size->w'.heap[b]? =w.heap[b]? :=by
 unfold zfp at hf
 split at hf
 case h_1=>cases hf
 case h_2 kk et ht=>
 split at hf
 case isFalse=>cases hf
 case isTrue hc=>
 obtain⟨hd,hc⟩:=hc
 cases hf
 obtain⟨kt,u1,u3⟩:=z6m ht
 have hnew:=NewB.alloc w (.map #[] 0)
 have hrun:(Instr.makeMap t ur).run P w= .ok (.map (some w.heap.size)) {w with heap:=w.heap.push (.map #[] 0)}:=by
  cases ur with
  |none=>simp[Instr.makeMap,newObj,Sem.run]
  |some v=>
   cases r with
   |none=>exact absurd hr id
   |some e=>
    simp only[zv6] at hc
    split at hc
    · rename_i k n he
      obtain⟨rfl,-⟩:=z1v hr he
      have h2:(asInt (.int k n)).run P w= .ok n w:=by simp[asInt,asIntOf]
      simp only[Instr.makeMap,Zc,run_underlying u1,Z3,h2]
      simp[newObj,Sem.run]
    · cases hc
 refine⟨_,_,hrun,?_,fun b hb=>hnew.old hb⟩
 have h2:=h.keep (hnew.keep (c:=col d))
 have h3:=h2.replace (d:=d) (v:=.map (some w.heap.size)) (t:=.mp kk []) ⟨fun b hb e=>⟨e,rfl⟩,fun b hb _=>⟨rfl,rfl⟩,Z8 _⟩ (.mp _ w.heap.size kk [] #[] 0 (z1F d) (by simp) hnew.new ⟨rfl,(fun x hx=>by cases hx),(fun x hx=>by cases hx),List.nodup_nil⟩)
 refine⟨_,_,h3.put (d:=d) (x:=.one (.h d [])) hd ⟨by simp[zaI,nav],.mp kk [],by simp[z0A],rfl⟩,hnew.step⟩
def zEd:E->Option T
 | .one (.k v)=>some (zb8 false v)
 | .one (.t none x)=>some x
 | .one (.ea none cs 0)=>some (.pr cs)
 |_=>none
def zvU(fr:Fr):List Operand->Option (List T)
 | []=>some []
 |x::xs=>match zEd (opE fr x),zvU fr xs with|some t,some ts=>some (t::ts)|_,_=>none
def zEL(fr:Fr)(dep:Nat):E->Option T
 | .one (.a id [] 0)=>if id=dep then(match z2i fr.ob id with|some (.vr cs)=>some (.pr (z6x cs))|_=>none) else none
 |e=>zEd e
def zvV(fr:Fr)(dep:Nat):List Operand->Option (List T)
 | []=>some []
 |x::xs=>match zEL fr dep (opE fr x),zvV fr dep xs with|some t,some ts=>some (t::ts)|_,_=>none
def zm5(fr:Fr):List Operand->Option Nat
 | []=>none
 |x::xs=>match opE fr x with| .one (.a id [] 0)=>some id|_=>zm5 fr xs
def zdf(fr:Fr)(fn:Fn)(first captured:List Operand):Option E:=
 match fn,first with
 | .func f,[]=>(match captured with
   | []=>some (scE (.func (.func f) #[] #[]))
   |_=>match zm5 fr captured with
    |none=>(match zvU fr captured with|some ts=>some (.one (.t none (.cl f ts)))|none=>none)
    |some id=>match zvV fr id captured with|some ts=>some (.one (.t (some id) (.cl f ts)))|none=>none)
 |_,_=>none
theorem zpy{e:E}{t:T}(h:ERep w K R ob e u)(hc:zEd e=some t):TRep w K [] u t:=by
 unfold zEd at hc
 split at hc
 · cases hc
   rename_i v
   obtain rfl:u=v:=h
   exact z7L _ _ _ _ _
 · cases hc;exact h.1
 · cases hc
   obtain⟨g,o,F,h1,h2,h3,h4,h5,h6⟩:=h
   rw[h1]
   exact .pr [] g o _ F h2 h3 h4 h5
 · cases hc
theorem zmc{w:World}{K:Nat->z0a}{R G:Nat->Value}{fr:Fr}{a:Act}(h:FRep w K R G fr a):∀ {xs:List Operand} {ts:List T},zvU fr xs=some ts->ts.length=xs.length/\ ∀(j:Nat) (t:T),ts[j]? =some t->∃x,xs[j]? =some x/\TRep w K [] (a.eval x) t
 | [],ts,hc=>by cases hc;exact⟨rfl,fun j t ht=>by simp at ht⟩
 |x::xs,ts,hc=>by
  simp only[zvU] at hc
  split at hc
  · rename_i t ts' h1 h2
    cases hc
    obtain⟨r1,r2⟩:=zmc h h2
    refine⟨by simp[r1],fun j t' ht=> ?_⟩
    match j,ht with
    |0,ht=>simp at ht;subst ht;exact⟨x,rfl,zpy (h.opE x) h1⟩
    |j+1,ht=>obtain⟨y,y1,y2⟩:=r2 j t' (by simpa using ht);exact⟨y,by simpa using y1,y2⟩
  · cases hc
theorem zyi{e:E}{t:T}{dep:Nat}(h:FRep w K R G fr a)(he:ERep w K R fr.ob e u)(hc:zEL fr dep e=some t):TRep w (frz K (some dep)) [] u t:=by
 have h0:∀b,K b= []->frz K (some dep) b= []:=fun b e=>by simp[frz,e]
 unfold zEL at hc
 split at hc
 · rename_i id
   split at hc
   case isFalse=>cases hc
   case isTrue hid=>
   subst hid
   split at hc
   case h_2=>cases hc
   case h_1 cs hob=>
   cases hc
   obtain⟨hv,g,n1,n4,n5,-⟩:=he
   simp only[nav,Z9] at n1
   have hr:=h.ob id _ hob
   rw[n1] at hr
   rw[n5,z4m]
   cases hr with
   |vr c g' cs arr e fz F hfz hc0 hK hg hl hF hh=>
    simp only[z7y,Z9] at n4
    subst n4
    refine .pr [] g' 0 _ F (by simp[frz,hK,col]) (z1d hg) (fun j hj=>by rw[z4j hg,Zs];exact hF j (by simpa using hj)) (fun j t ht=> ?_)
    simp only[Zd,Z5] at ht
    obtain⟨t0,ht0,rfl⟩:=ht
    exact(hh j t0 ht0).freeze (fun b s hb _ hKb=>⟨by simp[frz,hKb,col],rfl⟩) (fun b _ e=>⟨h0 b e,rfl⟩) (Z8 _) []
 · exact TRep.fz (zpy he hc) (fun b _ e=>⟨h0 b e,rfl⟩) (Z8 _)
theorem zmd{w:World}{K:Nat->z0a}{R G:Nat->Value}{fr:Fr}{a:Act}{dep:Nat}(h:FRep w K R G fr a):∀ {xs:List Operand} {ts:List T},zvV fr dep xs=some ts->ts.length=xs.length/\ ∀(j:Nat) (t:T),ts[j]? =some t->∃x,xs[j]? =some x/\TRep w (frz K (some dep)) [] (a.eval x) t
 | [],ts,hc=>by cases hc;exact⟨rfl,fun j t ht=>by simp at ht⟩
 |x::xs,ts,hc=>by
  simp only[zvV] at hc
  split at hc
  · rename_i t ts' h1 h2
    cases hc
    obtain⟨r1,r2⟩:=zmd h h2
    refine⟨by simp[r1],fun j t' ht=> ?_⟩
    match j,ht with
    |0,ht=>simp at ht;subst ht;exact⟨x,rfl,zyi h (h.opE x) h1⟩
    |j+1,ht=>obtain⟨y,y1,y2⟩:=r2 j t' (by simpa using ht);exact⟨y,by simpa using y1,y2⟩
  · cases hc
theorem zm4{w:World}{K:Nat->z0a}{R G:Nat->Value}{fr:Fr}{a:Act}(h:FRep w K R G fr a):∀ {xs:List Operand} {id:Nat},zm5 fr xs=some id->(z2i fr.ob id).isSome
 | [],id,hc=>by cases hc
 |x::xs,id,hc=>by
  simp only[zm5] at hc
  split at hc
  · rename_i id' he
    cases hc
    have hx:=h.opE x
    rw[he] at hx
    obtain⟨hv,g,_,_,_,t,n2,_⟩:=hx
    rw[n2];rfl
  · exact zm4 h hc
theorem zlI{fn:Fn}{first captured:List Operand}{e:E}(h:FRep w K R G fr a)(hf:zdf fr fn first captured=some e):
 ERep w K R fr.ob e (.func fn (first.map a.eval).toArray (captured.map a.eval).toArray):=by
 unfold zdf at hf
 split at hf
 · rename_i f
   split at hf
   · cases hf;exact z4o rfl
   · split at hf
     · split at hf
       · rename_i ts hts
         cases hf
         obtain⟨r1,r2⟩:=zmc h hts
         refine⟨.cl _ f _ _ (fun j=>(captured.map a.eval).getD j undef) (by simp[r1]) (fun j hj=> ?_) (fun j t ht=> ?_),fun _ e=>by cases e⟩
         · have:j<captured.length:=by omega
           simp[List.getD,this]
         · obtain⟨x,x1,x2⟩:=r2 j t ht
           have:(captured.map a.eval).getD j undef=a.eval x:=by simp[List.getD,x1]
           rw[this];exact x2
       · cases hf
     · rename_i id hid
       split at hf
       · rename_i ts hts
         cases hf
         obtain⟨r1,r2⟩:=zmd h hts
         refine⟨.cl _ f _ _ (fun j=>(captured.map a.eval).getD j undef) (by simp[r1]) (fun j hj=> ?_) (fun j t ht=> ?_),fun i e=>by cases e;exact zm4 h hid⟩
         · have:j<captured.length:=by omega
           simp[List.getD,this]
         · obtain⟨x,x1,x2⟩:=r2 j t ht
           have:(captured.map a.eval).getD j undef=a.eval x:=by simp[List.getD,x1]
           rw[this];exact x2
       · cases hf
 · cases hf
def zcF(fr:Fr)(x:Operand):Option (FuncId×List T):=
 match opE fr x with
 | .one (.t none (.sc (.func (.func f) fs cs)))=>if fs.isEmpty&&cs.isEmpty then some (f,[]) else none
 | .one (.k (.func (.func f) fs cs))=>if fs.isEmpty&&cs.isEmpty then some (f,[]) else none
 | .one (.t none (.cl f ts))=>some (f,ts)
 |_=>none
theorem zmg{x:Operand}{f:FuncId}{ts:List T}(h:FRep w K R G fr a)(hc:zcF fr x=some (f,ts)):
 ∃vs:List Value,a.eval x= .func (.func f) #[] vs.toArray/\vs.length=ts.length/\ ∀(j:Nat) (t:T) (v:Value),ts[j]? =some t->vs[j]? =some v->TRep w K [] v t:=by
 have hx:=h.opE x
 unfold zcF at hc
 split at hc
 · rename_i f' fs cs he
   rw[he] at hx
   split at hc
   · rename_i hb
     cases hc
     simp only[Z6,Xl] at hb
     obtain⟨rfl,rfl⟩:=hb
     have:=hx.1.sc_eq
     exact⟨[],this,rfl,fun j t v ht=>by simp at ht⟩
   · cases hc
 · rename_i f' fs cs he
   rw[he] at hx
   split at hc
   · rename_i hb
     cases hc
     simp only[Z6,Xl] at hb
     obtain⟨rfl,rfl⟩:=hb
     exact⟨[],hx,rfl,fun j t v ht=>by simp at ht⟩
   · cases hc
 · rename_i f' ts' he
   rw[he] at hx
   cases hc
   obtain⟨h1,-⟩:=hx
   generalize a.eval x=u at h1
   cases h1 with
   |cl _ _ vs _ F hl hF hh=>
    refine⟨vs.toList,by simp,by simp[hl],fun j t v ht hv=> ?_⟩
    have hlt:=(Za.1 ht).1
    have e1:=hF j hlt
    rw[Zx,e1] at hv
    cases hv
    exact hh j t ht
 · cases hc
end
section
open Go.MapKept
variable{a:Act}{ents:Array MapEntry}{e key x:E}{fr fr':Fr}{ob:List (Nat×T)}{ks:List Value}{clock d:Nat}{M:Nat->Bool}{G R:Nat->Value}{K:Nat->z0a}{r:Option E}{kk:Option IntKind}{ur:Option Value}{P:Program}{t:TypeId}{ku u uk um uv:Value}{w:World}
def zBS:Option TyI->Bool
 |some ⟨.slice _,_,_,_⟩=>true
 |some ⟨.struct _,_,_,_⟩=>true
 |_=>false
def zxD:A->Option T
 | .t none x=>some x
 | .k v=>some (zb8 false v)
 |_=>none
def zlL:List A->Option (List T)
 | []=>some []
 |x::r=>match zxD x,zlL r with|some t,some ts=>some (t::ts)|_,_=>none
def zxC:E->Option T
 | .one (.t none x)=>some x
 | .one (.k v)=>some (zeX false v)
 | .ag xs=>(match zlL xs with|some ts=>some (.agg ts)|none=>none)
 |_=>none
theorem zuR{x:A}{t:T}(h:ARep w K R ob x u)(hl:zxD x=some t):TRep w K [] u t:=by
 unfold zxD at hl
 split at hl
 · cases hl;exact h.1
 · cases hl
   rename_i v
   obtain rfl:u=v:=h
   exact z7L _ _ _ _ _
 · cases hl
theorem ziH{w:World}{K:Nat->z0a}{R:Nat->Value}{ob:List (Nat×T)}:∀ {xs:List A} {F:Nat->Value} {ts:List T},(∀j x,xs[j]? =some x->ARep w K R ob x (F j))->zlL xs=some ts->ts.length=xs.length/\ ∀(j:Nat) (t:T),ts[j]? =some t->TRep w K [] (F j) t
 | [],F,ts,hx,hl=>by cases hl;exact⟨rfl,fun j t ht=>by simp at ht⟩
 |x::xs,F,ts,hx,hl=>by
  simp only[zlL] at hl
  split at hl
  · rename_i t ts' h1 h2
    cases hl
    obtain⟨r1,r2⟩:=ziH (F:=fun j=>F (j+1)) (fun j y hy=>hx (j+1) y (by simpa using hy)) h2
    refine⟨by simp[r1],fun j t' ht=> ?_⟩
    match j,ht with
    |0,ht=>simp at ht;subst ht;exact zuR (hx 0 x rfl) h1
    |j+1,ht=>exact r2 j t' (by simpa using ht)
  · cases hl
theorem zuQ{t:T}(h:ERep w K R ob e u)(hl:zxC e=some t):TRep w K [] u t:=by
 unfold zxC at hl
 split at hl
 · cases hl;exact h.1
 · cases hl
   rename_i v
   obtain rfl:u=v:=h
   exact zeB _ _ _ _
 · rename_i xs
   split at hl
   · rename_i ts h1
     cases hl
     obtain⟨arr,rfl,e2,e3⟩:=h
     obtain⟨r1,r2⟩:=ziH (F:=fun j=>arr.getD j undef) e3 h1
     exact .agg _ arr ts (fun j=>arr.getD j undef) (by omega) (fun j hj=>z6h _ _ (by omega)) r2
   · cases hl
 · cases hl
def zaG(k:Value):List Value->List T->Option T
 |a::ks,t::cs=>if z6D a k then some t else zaG k ks cs
 |_,_=>none
def zaC(k:Value)(t:T):List Value->List T->List Value×List T
 |a::ks,c::cs=>if z6D a k then(k::ks,t::cs) else(a::(zaC k t ks cs).1,c::(zaC k t ks cs).2)
 |_,_=>([k],[t])
theorem zhh{k:Value}:∀ {l:List MapEntry} {cs:List T},cs.length=l.length->(∀e∈l,z6D e.key k=false)->zaG k (l.map fun e=>e.key) cs=none/\ ∀t,zaC k t (l.map fun e=>e.key) cs=((l.map fun e=>e.key)++ [k],cs++ [t])
 | [],[],_,_=>⟨rfl,fun _=>rfl⟩
 | [],_::_,hl,_=>by simp at hl
 |_::_,[],hl,_=>by simp at hl
 |e::es,c::cs,hl,h=>by
  have e2:=h e (.head _)
  obtain⟨h1,h2⟩:=zhh (l:=es) (cs:=cs) (by simpa using hl) fun x hx=>h x (.tail _ hx)
  exact⟨by simp[zaG,e2,h1],fun v=>by simp[zaC,e2,h2]⟩
theorem zhg{k:Value}(hkk:z6D k k=true):∀ {l:List MapEntry} {cs:List T} {j:Nat} {e:MapEntry},cs.length=l.length->l[j]? =some e->e.key=k->(∀i<j,∀e',l[i]? =some e'->z6D e'.key k=false)->∃c,cs[j]? =some c/\zaG k (l.map fun e=>e.key) cs=some c/\ ∀t,zaC k t (l.map fun e=>e.key) cs=((l.map fun e=>e.key).set j k,cs.set j t)
 | [],_,j,e,_,h,_,_=>by simp at h
 |_::_,[],_,_,hl,_,_,_=>by simp at hl
 |x::es,c::cs,0,e,_,h,he,_=>by
  simp at h;subst h;subst he
  exact⟨c,rfl,by simp[zaG,hkk],fun v=>by simp[zaC,hkk]⟩
 |x::es,c::cs,j+1,e,hl,h,he,hb=>by
  have e2:=hb 0 (by omega) x rfl
  obtain⟨c',h1,h2,h3⟩:=zhg hkk (l:=es) (cs:=cs) (j:=j) (by simpa using hl) (by simpa using h) he fun i hi e' h'=>hb (i+1) (by omega) e' (by simpa using h')
  exact⟨c',by simpa using h1,by simp[zaG,e2,h2],fun v=>by simp[zaC,e2,h3]⟩
theorem zlZ{kt:TypeId}{k:Value}(hk:KOk P kt kk)(hv:zcx kk k=true)(l:List MapEntry)(cs:List T)(hl:∀x∈l,zcx kk x.key=true)(hc:cs.length=l.length):
 ((∀w,(Instr.findKey kt k l).run P w= .ok none w)/\zaG k (l.map fun e=>e.key) cs=none/\ ∀t,zaC k t (l.map fun e=>e.key) cs=((l.map fun e=>e.key)++ [k],cs++ [t]))∨
 ∃(j:Nat) (e:MapEntry) (c:T),(∀w,(Instr.findKey kt k l).run P w= .ok (some (j,e.val)) w)/\l[j]? =some e/\e.key=k/\cs[j]? =some c/\zaG k (l.map fun e=>e.key) cs=some c/\ ∀t,zaC k t (l.map fun e=>e.key) cs=((l.map fun e=>e.key).set j k,cs.set j t):=by
 rcases zhi hk hv l hl with⟨h1,h2⟩|⟨j,e,h1,h2,h3,h4⟩
 · exact .inl ⟨h1,zhh hc h2⟩
 · obtain⟨c,c1,c2,c3⟩:=zhg ((zgR hk hv hv).2 rfl) hc h2 h3 h4
   exact .inr ⟨j,e,c,h1,h2,h3,c1,c2,c3⟩
def zBB(fr:Fr):E->Option (Option Nat×Option Nat×Option IntKind×List Value×List T)
 | .one (.t dep (.ms kk ks cs))=>some (dep,dep,kk,ks,cs)
 | .one (.h id p)=>match z2i fr.ob id with
   |none=>none
   |some root=>match sub root p with
    |some (.mt kk ks cs)=>some (some id,none,kk,ks,cs)
    |some (.ms kk ks cs)=>some (none,none,kk,ks,cs)
    |_=>none
 |_=>none
theorem zlp{dep vd:Option Nat}{cs:List T}(h:FRep w K R G fr a)(he:ERep w K R fr.ob e u)(hr:zBB fr e=some (dep,vd,kk,ks,cs)):
 ∃g ents clock,∃F:Nat->Value,u= .map (some g)/\frz K dep g= []/\w.heap[g]? =some (.map ents clock)/\MapTs kk ents clock ks cs.length F/\ ∀j t,cs[j]? =some t->TRep w (frz K vd) [] (F j) t:=by
 have h0:∀dep b,K b= []->frz K dep b= []:=fun dep b e=>by cases dep<;>simp[frz,e]
 unfold zBB at hr
 split at hr
 · cases hr
   have h1:=he.1
   cases h1 with
   |ms _ g _ _ _ ents clock F hK hg hh h=>exact⟨g,ents,clock,F,rfl,hK,hg,hh,h⟩
 · rename_i id p
   split at hr
   case h_1=>cases hr
   case h_2 root hroot=>
   obtain⟨n1,t,n2,n3⟩:=he
   split at hr
   · rename_i kk' ks' cs' hsub
     cases hr
     obtain⟨v,e1,r⟩:=(h.ob id root hroot).sub (z1F id) hsub
     rw[n1] at e1;cases e1
     cases r with
     |mt _ g _ _ _ ents clock F hc0 hK hg hh hT=>exact⟨g,ents,clock,F,rfl,by simp[frz,hK,col],hg,hh,fun j t ht=>TRep.fz (hT j t ht) (fun b _ e=>⟨h0 _ b e,rfl⟩) (Z8 _)⟩
   · rename_i kk' ks' cs' hsub
     cases hr
     obtain⟨v,e1,r⟩:=(h.ob id root hroot).sub (z1F id) hsub
     rw[n1] at e1;cases e1
     cases r with
     |ms _ g _ _ _ ents clock F hK hg hh hT=>exact⟨g,ents,clock,F,rfl,hK,hg,hh,hT⟩
   · cases hr
 · cases hr
def zfq(P:Program)(M:Nat->Bool)(fr:Fr)(t:TypeId)(x key:E)(ok:Bool):Option E:=
 match zct P t with
 |none=>none
 |some (kk,et)=>match zkf P et with
  |none=>none
  |some z=>match zBB fr x with
   |none=>none
   |some (dep,vd,kk',ks,cs)=>match rdK key with
    |none=>none
    |some k=>if kk=kk'/\zcx kk k=true/\zjQ dep M=false then
      (if ok then some (.one (.t vd (.tup [(zaG k ks cs).getD (zeX false z),.sc (.bool (zaG k ks cs).isSome)]))) else some (.one (.t vd ((zaG k ks cs).getD (zeX false z)))))
     else none
theorem zlF{n:Nat}{F:Nat->Value}(h:MapTs kk ents clock ks n F):n=ents.toList.length:=by
 obtain⟨h1,h2,_⟩:=h
 rw[←h2,←h1];simp
theorem zno{ok:Bool}(h:FRep w K R G fr a)(hx:ERep w K R fr.ob x u)(hkey:ERep w K R fr.ob key ku)(hl:zfq P M fr t x key ok=some e):
 ∃v,ERep w K R fr.ob e v/\ ∀w',Stay w w' K M->(Instr.lookup t u ku ok).run P w'= .ok v w':=by
 unfold zfq at hl
 split at hl
 case h_1=>cases hl
 case h_2 kk et ht=>
 split at hl
 case h_1=>cases hl
 case h_2 z hz=>
 split at hl
 case h_1=>cases hl
 case h_2 dep vd kk' ks cs hrd=>
 split at hl
 case h_1=>cases hl
 case h_2 k hk=>
 split at hl
 case isFalse=>cases hl
 case isTrue hc=>
 obtain⟨rfl,hkb,hdep⟩:=hc
 obtain⟨kt,u1,u3⟩:=z6m ht
 obtain rfl:=zd6 hkey hk
 obtain⟨g,ents,clock,F,rfl,hKg,hg,hm,hT⟩:=zlp h hx hrd
 have hlen:=zlF hm
 obtain⟨hm1,hm2,hm3,hm4,-⟩:=hm
 subst hm1
 have hdok:znK fr.ob vd:=by
  unfold zBB at hrd
  split at hrd
  · cases hrd;exact hx.2
  · split at hrd
    · cases hrd
    · rename_i root hroot
      split at hrd
      · cases hrd;exact fun i e=>by cases e
      · cases hrd;exact fun i e=>by cases e
      · cases hrd
  · cases hrd
 have hks:∀x∈ents.toList,zcx kk x.key=true:=fun x hx=>hm3 x.key (Zh.2 ⟨x,hx,rfl⟩)
 have hstay:∀w',Stay w w' K M->w'.heap[g]? =some (.map ents clock):=fun w' hst=>by
  have:=hst.dep hdep (z1d hg) hKg
  rw[this];exact hg
 obtain⟨v,hv,hrun⟩:∃v,TRep w (frz K vd) [] v ((zaG ku (ents.toList.map fun e=>e.key) cs).getD (zeX false z))/\ ∀w',Stay w w' K M->(Instr.lookup t (.map (some g)) ku ok).run P w'= .ok (if ok then .tuple #[v,.bool (zaG ku (ents.toList.map fun e=>e.key) cs).isSome] else v) w':=by
  rcases zlZ u3 hkb ents.toList cs hks hlen with⟨h1,h2,-⟩|⟨j,e',c,h1,h2,h3,h6,h4,-⟩
  · rw[h2]
    refine⟨z,zeB _ _ _ _,fun w' hst=> ?_⟩
    simp only[Instr.lookup,Zc,run_underlying u1,Go.MapKept.run_getObj_map (hstay w' hst),Z3,Zk]
    rw[zau u3 hkb]
    simp only[Z3,h1,zgp hz,Zc,Zk]
    rfl
  · rw[h4]
    refine⟨e'.val,by rw[hm4 j e' (by simpa using h2)];exact hT j c h6,fun w' hst=> ?_⟩
    simp only[Instr.lookup,Zc,run_underlying u1,Go.MapKept.run_getObj_map (hstay w' hst),Z3,Zk]
    rw[zau u3 hkb]
    simp only[Z3,h1,Zc,Zk]
    rfl
 cases ok with
 |true=>
  simp only[if_true,Z9] at hl
  subst hl
  refine⟨_,⟨?_,hdok⟩,hrun⟩
  refine .tup _ _ _ (fun j=>if j=0 then v else .bool (zaG ku (ents.toList.map fun e=>e.key) cs).isSome) rfl (fun j hj=> ?_) (fun j t ht=> ?_)
  · match j,hj with
    |0,_=>rfl
    |1,_=>rfl
  · match j,ht with
    |0,ht=>cases ht;exact hv
    |1,ht=>cases ht;exact .sc _ _ rfl
 |false=>
  simp only[ZP,if_false,Z9] at hl
  subst hl
  exact⟨_,⟨hv,hdok⟩,fun w' hst=>by simpa using hrun w' hst⟩
def zfn(P:Program)(M:Nat->Bool)(fr:Fr)(t:TypeId)(x:E):Option E:=
 match zct P t with
 |none=>none
 |some _=>match zBB fr x with
  |none=>none
  |some (dep,_,_,ks,_)=>if zjQ dep M=false then some (scE (.int .i64 ks.length)) else none
theorem zni(h:FRep w K R G fr a)(hx:ERep w K R fr.ob x u)(hl:zfn P M fr t x=some e):
 ∃v,ERep w K R fr.ob e v/\ ∀w',Stay w w' K M->∀ty,(Builtin.len_ #[t] ty #[u]).run P w'= .ok v w':=by
 unfold zfn at hl
 split at hl
 case h_1=>cases hl
 case h_2 q ht=>
 split at hl
 case h_1=>cases hl
 case h_2 dep vd kk ks cs hrd=>
 split at hl
 case isFalse=>cases hl
 case isTrue hdep=>
 cases hl
 obtain⟨kk',et⟩:=q
 obtain⟨kt,u1,u3⟩:=z6m ht
 obtain⟨g,ents,clock,F,rfl,hKg,hg,hm,-⟩:=zlp h hx hrd
 refine⟨_,z4o rfl,fun w' hst ty=> ?_⟩
 have hb:w'.heap[g]? =some (.map ents clock):=by rw[hst.dep hdep (z1d hg) hKg];exact hg
 have hlen:ks.length=ents.size:=by rw[←hm.1];simp
 simp[Builtin.len_,Zc,run_underlying u1,Go.MapKept.run_getObj_map hb,Z3,Zk,goInt,hlen]
theorem FRep.mapsetG{w':World}{id:Nat}{p:List Nat}{root root':T}{t0 t1:T}{g:Nat}{ents':Array MapEntry}{clock':Nat}
 (h:FRep w K R G fr a) (hroot:z2i fr.ob id=some root) (hbox:sub root p=some t0) (hkid:∀j,zms t0 j=none) (hupd:upd root p t1=some root') (hnav:nav w (R id) p=some (.map (some g)))
 (hg:w.heap[g]? =some (.map ents clock)) (hg':w'.heap[g]? =some (.map ents' clock')) (hKg:K g=col id++p) (hnew:TRep w' K (col id++p) (.map (some g)) t1) (hsz:w'.heap.size=w.heap.size) (hoth:∀b,b≠g->w'.heap[b]? =w.heap[b]?):
 FRep w' K R G {fr with tm:=z7u (zcv id) fr.tm,ob:=z6T fr.ob id root'} a:=by
 have hrt:=h.ob id root hroot
 have hne:∀b i s,K b=(i+2)::s->i≠id->b≠g:=fun b i s e1 e2 e3=>by
  subst e3;rw[hKg] at e1;simp[col] at e1;exact e2 e1.1.symm
 have hne0:∀b,K b= []->b≠g:=fun b e1 e3=>by subst e3;rw[hKg] at e1;simp[col] at e1
 have hfro:∀b,b<w.heap.size->K b= []->K b= []/\w'.heap[b]? =w.heap[b]? :=fun b hb e1=>⟨e1,hoth b (hne0 b e1)⟩
 have hcell:∀gb j,w'.cell? ⟨gb,j,none⟩=w.cell? ⟨gb,j,none⟩:=fun gb j=>by
  by_cases e1:gb=g
  · subst e1;simp[World.cell?,hg,hg']
  · exact z1m (hoth gb e1) j
 have hway:∀i t q,z2i fr.ob i=some t->(sub t q).isSome->nav w' (R i) q=nav w (R i) q:=fun i t q ho hs=>
  z7g (h.ob i t ho) (z1F i) hs fun r j s gb hq hKb hb=>hcell gb j
 have hsub:∀q,(sub root q).isSome->(sub root' q).isSome:=fun q hs=>by
  by_cases hp:p<+:q
  · obtain⟨s,rfl⟩:=hp
    rw[z7a hupd]
    rw[z5J hbox] at hs
    cases s with
    |nil=>simp[sub]
    |cons j s=>simp[sub,hkid] at hs
  · exact z5r hupd hp hs
 have hdep:∀i,i≠id->∀b,b<w.heap.size->frz K (some i) b= []->frz K (some i) b= []/\w'.heap[b]? =w.heap[b]? :=fun i hi b hb e1=>by
  refine⟨e1,?_⟩
  simp only[frz] at e1
  split at e1
  · rename_i hh
    obtain⟨s,hs⟩:∃s,K b=(i+2)::s:=by
     cases hk:K b with
     |nil=>rw[hk] at hh;cases hh
     |cons a s=>rw[hk] at hh;simp at hh;subst hh;exact⟨s,rfl⟩
    exact hoth b (hne b i s hs hi)
  · exact(hfro b hb e1).2
 have hobi:∀i,i≠id->z2i (z6T fr.ob id root') i=z2i fr.ob i:=fun i hi=>by rw[z0A,if_neg (fun e=>hi e.symm)]
 refine⟨fun i=> ?_,fun i t ho=> ?_,h.nt,h.df⟩
 · show ERep w' K R (z6T fr.ob id root') (z3g (z7u (zcv id) fr.tm) i) _
   rw[z6w _ rfl]
   refine(h.tm i).map _ fun x u hx=> ?_
   cases x with
   |dead=>trivial
   |k v=>exact hx
   |t dep x=>
    cases dep with
    |none=>exact⟨TRep.fz hx.1 hfro (by omega),fun _ e=>by cases e⟩
    |some i=>
     by_cases hi:i=id
     · simp only[zcv,if_pos hi];trivial
     · simp only[zcv,if_neg hi]
       exact⟨TRep.fz hx.1 (fun b hb e1=>hdep i hi b hb e1) (by omega),fun _ e=>by cases e;rw[hobi i hi];exact hx.2 i rfl⟩
   |h i q=>
    obtain⟨n1,t,n2,n3⟩:=hx
    refine⟨by rw[hway i t q n2 n3];exact n1,?_⟩
    by_cases hi:i=id
    · subst hi
      rw[hroot] at n2;cases n2
      exact⟨root',by simp[z0A],hsub q n3⟩
    · exact⟨t,by rw[hobi i hi];exact n2,n3⟩
   |a i q o=>
    obtain⟨hv,g,n1,n4,n5,t,n2,n3⟩:=hx
    refine⟨hv,g,by rw[hway i t q n2 n3];exact n1,n4,n5,?_⟩
    by_cases hi:i=id
    · subst hi
      rw[hroot] at n2;cases n2
      exact⟨root',by simp[z0A],hsub q n3⟩
    · exact⟨t,by rw[hobi i hi];exact n2,n3⟩
   |tf n cs=>exact⟨hx.1,TRep.fz hx.2 hfro (by omega)⟩
   |ea dep cs o=>
    obtain⟨g,o,F,e1,e2,e3,e4,e5,e6⟩:=hx
    cases dep with
    |none=>exact⟨g,o,F,e1,e2,by omega,fun j hj=>by rw[hcell];exact e4 j hj,fun j t ht=>TRep.fz (e5 j t ht) hfro (by omega),fun _ e=>by cases e⟩
    |some i=>
     by_cases hi:i=id
     · simp only[zcv,if_pos hi];trivial
     · simp only[zcv,if_neg hi]
       exact⟨g,o,F,e1,e2,by omega,fun j hj=>by rw[hcell];exact e4 j hj,fun j t ht=>TRep.fz (e5 j t ht) (fun b hb e1=>hdep i hi b hb e1) (by omega),fun _ e=>by cases e;rw[hobi i hi];exact e6 i rfl⟩
 · rw[z0A] at ho
   split at ho
   · rename_i e1
     subst e1;cases ho
     refine TRep.upd hrt (z1F id) hnav hupd ⟨hfro,fun b hb ⟨s,e1,hs⟩=> ?_,by omega⟩ hnew
     have hb':b≠g:=fun e2=>by subst e2;rw[hKg] at e1;exact hs (by rw[YW e1];exact List.prefix_rfl)
     exact⟨rfl,hoth b hb'⟩
   · rename_i e1
     refine(h.ob i t ho).keep (D:=But id) ⟨hfro,fun b hb ⟨j,s,e2,hj⟩=>⟨rfl,hoth b (hne b j s e2 hj)⟩,by omega⟩ (fun s _=>⟨i,s,rfl,fun e=>e1 e.symm⟩)
def zfm(P:Program)(fr:Fr)(t:TypeId)(m key val:E):Option Fr:=
 match zct P t with
 |none=>none
 |some (kk,_)=>match m with
  | .one (.h id p)=>match z2i fr.ob id with
    |none=>none
    |some root=>match sub root p with
     |some (.mt kk' ks cs)=>match rdK key,zxC val with
      |some k,some v=>if kk=kk'/\zcx kk k=true then(match upd root p (.mt kk (zaC k v ks cs).1 (zaC k v ks cs).2) with
        |some root'=>some {fr with tm:=z7u (zcv id) fr.tm,ob:=z6T fr.ob id root'}
        |none=>none) else none
      |_,_=>none
     |_=>none
  |_=>none
theorem znh{m val:E}(h:FRep w K R G fr a)(hm:ERep w K R fr.ob m um)(hk:ERep w K R fr.ob key uk)(hv:ERep w K R fr.ob val uv)(hf:zfm P fr t m key val=some fr'):
 ∃w',(Instr.mapUpdate t um uk uv).run P w= .ok () w'/\FRep w' K R G fr' a/\Step w K w' K/\ ∀b i s,K b=(i+2)::s->(∀id p,m= .one (.h id p)->i≠id)->w'.heap[b]? =w.heap[b]? :=by
 unfold zfm at hf
 split at hf
 case h_1=>cases hf
 case h_2 kk et ht=>
 split at hf
 case h_2=>cases hf
 case h_1 id p=>
 split at hf
 case h_1=>cases hf
 case h_2 root hroot=>
 split at hf
 case h_2=>cases hf
 case h_1 kk' ks cs hsub=>
 split at hf
 case h_2=>cases hf
 case h_1 k v hrk hrv=>
 split at hf
 case isFalse=>cases hf
 case isTrue hc=>
 obtain⟨rfl,hkb⟩:=hc
 split at hf
 case h_2=>cases hf
 case h_1 root' hupd=>
 cases hf
 obtain rfl:=zd6 hk hrk
 have hvr:=zuQ hv hrv
 obtain⟨kt,u1,u3⟩:=z6m ht
 obtain⟨n1,t0,n2,n3⟩:=hm
 obtain⟨v0,e1,r⟩:=(h.ob id root hroot).sub (z1F id) hsub
 rw[n1] at e1;cases e1
 obtain⟨g,ents,clock,F,rfl,hKg,hg,hm,hT⟩:∃g ents clock,∃F:Nat->Value,um= .map (some g)/\K g=col id++p/\w.heap[g]? =some (.map ents clock)/\MapTs kk ents clock ks cs.length F/\ ∀j t,cs[j]? =some t->TRep w K [] (F j) t:=by
  cases r with
  |mt _ g _ _ _ ents clock F hc0 hK hg hh hT=>exact⟨g,ents,clock,F,rfl,hK,hg,hh,hT⟩
 have hlen:=zlF hm
 obtain⟨hm1,hm2,hm3,hm4,hm5,hm6⟩:=hm
 have hks:∀x∈ents.toList,zcx kk x.key=true:=fun x hx=>hm3 x.key (by rw[←hm1];exact Zh.2 ⟨x,hx,rfl⟩)
 have main:∃ents' clock',∃F':Nat->Value,(Instr.mapUpdate t (.map (some g)) uk uv).run P w= .ok () {w with heap:=w.heap.setIfInBounds g (.map ents' clock')}/\MapTs kk ents' clock' (zaC uk v ks cs).1 (zaC uk v ks cs).2.length F'/\ ∀j t,(zaC uk v ks cs).2[j]? =some t->TRep w K [] (F' j) t:=by
  rcases zlZ u3 hkb ents.toList cs hks hlen with⟨h1,h2,h3⟩|⟨j,e',c,h1,h2,h3,h6,h4,h5⟩
  · refine⟨ents.push {key:=uk,val:=uv,born:=clock},clock+1,fun j=>if j=cs.length then uv else F j,?_,?_,?_⟩
    · simp only[Instr.mapUpdate,Zc,run_underlying u1,Go.MapKept.run_getObj_map hg,Z3]
      rw[zau u3 hkb]
      simp only[Z3,h1]
      exact run_setObj_map _ hg
    · rw[←hm1,h3]
      have hps:∀(j:Nat) (e:MapEntry),(ents.push {key:=uk,val:=uv,born:=clock})[j]? =some e->(j<ents.size/\ents[j]? =some e)∨(j=ents.size/\e= {key:=uk,val:=uv,born:=clock}):=fun j e he=>by
       rw[Yp] at he
       split at he
       · rename_i e2;cases he;exact .inr ⟨e2,rfl⟩
       · exact .inl ⟨(ZY.1 he).1,he⟩
      refine⟨by simp,by simp[hlen],fun x hx=> ?_,fun j e he=> ?_,fun j e he=> ?_,fun i j e e' hi hj hb=> ?_⟩
      rotate_left 2
      · rcases hps j e he with⟨_,h⟩|⟨_,h⟩
        · have:=hm5 j e h;omega
        · subst h;exact X9 _
      · rcases hps i e hi with⟨a1,a2⟩|⟨a1,a2⟩<;>rcases hps j e' hj with⟨b1,b2⟩|⟨b1,b2⟩
        · exact hm6 i j e e' a2 b2 hb
        · subst b2;have:=hm5 i e a2;simp only at hb;omega
        · subst a2;have:=hm5 j e' b2;simp only at hb;omega
        · omega
      · rcases Ze.1 hx with hx|hx
        · exact hm3 x (by rw[←hm1];exact hx)
        · simp at hx;subst hx;exact hkb
      · have hle:cs.length=ents.size:=by simpa using hlen
        rw[Yp] at he
        split at he
        · cases he;rename_i e2;simp[hle,e2]
        · have:=(ZY.1 he).1
          show e.val=if j=cs.length then uv else F j
          rw[if_neg (by omega)];exact hm4 j e he
    · rw[←hm1,h3]
      intro j t ht
      rw[List.getElem?_append] at ht
      split at ht
      · rename_i hlt;simp only[if_neg (Nat.ne_of_lt hlt)];exact hT j t ht
      · rename_i hge
        have hj:j-cs.length<1:=by have:=(Za.1 ht).1;simpa using this
        have:j=cs.length:=by omega
        subst this
        simp at ht;subst ht
        simp only[if_true];exact hvr
  · have hj:ents[j]? =some e':=by simpa using h2
    refine⟨ents.modify j fun e=> {e with key:=uk,val:=uv},clock,fun i=>if i=j then uv else F i,?_,?_,?_⟩
    · simp only[Instr.mapUpdate,Zc,run_underlying u1,Go.MapKept.run_getObj_map hg,Z3]
      rw[zau u3 hkb]
      simp only[Z3,h1,hj,ZN,Z4,h3,Zc,zol u3 hkb]
      exact run_setObj_map _ hg
    · rw[←hm1,h5]
      have hmd:∀(i:Nat) (e:MapEntry),(ents.modify j fun e=> {e with key:=uk,val:=uv})[i]? =some e->∃e0,ents[i]? =some e0/\e0.born=e.born:=fun i e he=>by
       rw[Yf] at he
       by_cases e2:j=i
       · subst e2;rw[if_pos rfl,hj] at he;simp at he;subst he;exact⟨e',hj,rfl⟩
       · rw[if_neg e2] at he;exact⟨e,he,rfl⟩
      refine⟨?_,by simp[hlen],fun x hx=> ?_,fun i e he=> ?_,fun i e he=> ?_,fun i i2 e e2 hi hi2 hb=> ?_⟩
      rotate_left 3
      · obtain⟨e0,h1,h2⟩:=hmd i e he
        rw[←h2];exact hm5 i e0 h1
      · obtain⟨e0,h1,h2⟩:=hmd i e hi
        obtain⟨e1,h3,h4⟩:=hmd i2 e2 hi2
        exact hm6 i i2 e0 e1 h1 h3 (by rw[h2,h4,hb])
      · apply W5
        intro i
        simp only[Zd,Zx,Yf,XF]
        by_cases e:j=i
        · subst e
          have:j<ents.size:=(ZY.1 hj).1
          simp[hj,this]
        · simp[e]
      · rcases Xb hx with hx|hx
        · exact hm3 x (by rw[←hm1];exact hx)
        · subst hx;exact hkb
      · rw[Yf] at he
        by_cases e2:j=i
        · subst e2;rw[if_pos rfl,hj] at he;simp at he;subst he;simp
        · rw[if_neg e2] at he
          show e.val=if i=j then uv else F i
          rw[if_neg (fun e3=>e2 (Eq.symm e3))];exact hm4 i e he
    · rw[←hm1,h5]
      intro i t ht
      rw[XF] at ht
      by_cases e2:j=i
      · subst e2;rw[if_pos rfl] at ht;split at ht<;>cases ht;simp only[if_true];exact hvr
      · rw[if_neg e2] at ht;simp only[if_neg (fun e3=>e2 (Eq.symm e3))];exact hT i t ht
 obtain⟨ents',clock',F',hrun,hmi,hT'⟩:=main
 have hs:=heap_set (o':=.map ents' clock') hg
 have hne0:∀b,K b= []->b≠g:=fun b e1 e3=>by subst e3;rw[hKg] at e1;simp[col] at e1
 refine⟨_,hrun,h.mapsetG hroot hsub (fun _=>rfl) hupd n1 hg hs.1 hKg (.mt _ g kk _ _ ents' clock' F' (by simp[col]) hKg hs.1 hmi (fun j t ht=>TRep.fz (hT' j t ht) (fun b _ e=>⟨e,hs.2 b (hne0 b e)⟩) (by simp))) (by simp) (fun b hb=>hs.2 b hb),⟨rfl,rfl,rfl,by simp,fun b hb hc=>⟨rfl,hs.2 b (fun e=> ?_)⟩,fun b arr e fz hb=>⟨arr,e,fz,(hs.2 b (fun e=>by subst e;rw[hg] at hb;cases hb)).trans hb,rfl⟩⟩,fun b i s hb hi=>hs.2 b (fun e=> ?_)⟩
 · subst e;rw[hKg] at hc;rcases hc with hc|hc<;>simp[col] at hc
 · subst e;rw[hKg] at hb;simp[col] at hb;exact hi id p rfl hb.1.symm
def zde(P:Program)(fr:Fr)(t:TypeId)(r:Option E)(d:Nat):Option Fr:=
 match zct P t with
 |none=>none
 |some (kk,_)=>if d<fr.nt/\zv6 r=true then
   some {fr with tm:=z8G (z7u (kill d) fr.tm) d (.one (.h d [])),ob:=z6T fr.ob d (.mt kk [] [])} else none
theorem zlG(h:FRep w K R G fr a)(hr:zyz w K R fr.ob r ur)(hf:zde P fr t r d=some fr'):
 ∃v w',(Instr.makeMap t ur).run P w= .ok v w'/\(∃K' R',FRep w' K' R' G fr' (a.put (some d) v)/\Step w K w' K')/\ ∀b,b<w.heap.size->w'.heap[b]? =w.heap[b]? :=by
 unfold zde at hf
 split at hf
 case h_1=>cases hf
 case h_2 kk et ht=>
 split at hf
 case isFalse=>cases hf
 case isTrue hc=>
 obtain⟨hd,hc⟩:=hc
 cases hf
 obtain⟨kt,u1,u3⟩:=z6m ht
 have hnew:=NewB.alloc w (.map #[] 0)
 have hrun:(Instr.makeMap t ur).run P w= .ok (.map (some w.heap.size)) {w with heap:=w.heap.push (.map #[] 0)}:=by
  cases ur with
  |none=>simp[Instr.makeMap,newObj,Sem.run]
  |some v=>
   cases r with
   |none=>exact absurd hr id
   |some e=>
    simp only[zv6] at hc
    split at hc
    · rename_i k n he
      obtain⟨rfl,-⟩:=z1v hr he
      have h2:(asInt (.int k n)).run P w= .ok n w:=by simp[asInt,asIntOf]
      simp only[Instr.makeMap,Zc,run_underlying u1,Z3,h2]
      simp[newObj,Sem.run]
    · cases hc
 refine⟨_,_,hrun,?_,fun b hb=>hnew.old hb⟩
 have h2:=h.keep (hnew.keep (c:=col d))
 have h3:=h2.replace (d:=d) (v:=.map (some w.heap.size)) (t:=.mt kk [] []) ⟨fun b hb e=>⟨e,rfl⟩,fun b hb _=>⟨rfl,rfl⟩,Z8 _⟩ (.mt _ w.heap.size kk [] [] #[] 0 (fun _=>undef) (z1F d) (by simp) hnew.new ⟨rfl,(rfl:([]:List Value).length=0),(fun x hx=>by cases hx),(fun j e he=>by simp at he),(fun j e he=>by simp at he),(fun i j e e' he=>by simp at he)⟩ (fun j t ht=>by simp at ht))
 refine⟨_,_,h3.put (d:=d) (x:=.one (.h d [])) hd ⟨by simp[zaI,nav],.mt kk [] [],by simp[z0A],rfl⟩,hnew.step⟩
def zfo(P:Program)(fr:Fr)(t:TypeId)(r:Option E)(d:Nat):Option Fr:=
 match zct P t with
 |none=>none
 |some (_,et)=>if zBS (z3b P et)=true then zde P fr t r d else zfp P fr t r d
theorem zlH(h:FRep w K R G fr a)(hr:zyz w K R fr.ob r ur)(hf:zfo P fr t r d=some fr'):
 ∃v w',(Instr.makeMap t ur).run P w= .ok v w'/\(∃K' R',FRep w' K' R' G fr' (a.put (some d) v)/\Step w K w' K')/\ ∀b,b<w.heap.size->w'.heap[b]? =w.heap[b]? :=by
 unfold zfo at hf
 split at hf
 · cases hf
 · split at hf
   · exact zlG h hr hf
   · exact znl h hr hf
def zgM(P:Program)(fr:Fr)(t:TypeId)(m key val:E):Option Fr:=
 match zjj P fr t m key val with|some f=>some f|none=>zfm P fr t m key val
theorem zgL{m val:E}(h:FRep w K R G fr a)(hm:ERep w K R fr.ob m um)(hk:ERep w K R fr.ob key uk)(hv:ERep w K R fr.ob val uv)(hf:zgM P fr t m key val=some fr'):
 ∃w',(Instr.mapUpdate t um uk uv).run P w= .ok () w'/\FRep w' K R G fr' a/\Step w K w' K/\ ∀b i s,K b=(i+2)::s->(∀id p,m= .one (.h id p)->i≠id)->w'.heap[b]? =w.heap[b]? :=by
 unfold zgM at hf
 split at hf
 · rename_i f hf'
   cases hf;exact zqY h hm hk hv hf'
 · exact znh h hm hk hv hf
def zjn(P:Program)(M:Nat->Bool)(fr:Fr)(t:TypeId)(x key:E)(ok:Bool):Option E:=
 match zjo P M fr t x key ok with|some e=>some e|none=>zfq P M fr t x key ok
theorem znp{ok:Bool}(h:FRep w K R G fr a)(hx:ERep w K R fr.ob x u)(hkey:ERep w K R fr.ob key ku)(hl:zjn P M fr t x key ok=some e):
 ∃v,ERep w K R fr.ob e v/\ ∀w',Stay w w' K M->(Instr.lookup t u ku ok).run P w'= .ok v w':=by
 unfold zjn at hl
 split at hl
 · rename_i f hf'
   cases hl;exact zr0 h hx hkey hf'
 · exact zno h hx hkey hl
def zjk(P:Program)(M:Nat->Bool)(fr:Fr)(t:TypeId)(x:E):Option E:=
 match zjl P M fr t x with|some e=>some e|none=>zfn P M fr t x
theorem znj(h:FRep w K R G fr a)(hx:ERep w K R fr.ob x u)(hl:zjk P M fr t x=some e):
 ∃v,ERep w K R fr.ob e v/\ ∀w',Stay w w' K M->∀ty,(Builtin.len_ #[t] ty #[u]).run P w'= .ok v w':=by
 unfold zjk at hl
 split at hl
 · rename_i f hf'
   cases hl;exact zqZ h hx hf'
 · exact zni h hx hl
end
section
variable{a:Act}{e:E}{fr fr':Fr}{G R:Nat->Value}{K:Nat->z0a}{o:Oper}{P:Program}{w:World}
def znk(P:Program)(M:Nat->Bool)(fr:Fr)(c:Call):Option E:=
 match c.callee,c.args.toList,c.argTypes.toList with
 | .builtin .len,[x],[t]=>zjk P M fr t (opE fr x)
 |_,_,_=>none
def zaT(P:Program)(M:Nat->Bool)(fr:Fr)(op:Op):Option E:=
 match op with
 | .build t parts=>ziV P fr t parts.toList
 | .lookup t x i ok=>zjn P M fr t (opE fr x) (opE fr i) ok
 | .makeFunc fn first captured=>zdf fr fn first.toList captured.toList
 | .call c=>(match zaS P M fr (.call c) with|some e=>some e|none=>znk P M fr c)
 |op=>zaS P M fr op
theorem zbA{M:Nat->Bool}(h:FRep w K R G fr a)(hq:zaT P M fr o.op=some e):
 ∃v,ERep w K R fr.ob e v/\ ∀w',Stay w w' K M->(execOp a.eval o).run P w'= .ok (.value v) w':=by
 have lift:∀ {s:Sem Value} {v:Value} {w':World},s.run P w'= .ok v w'->(do pure (Next.value (←s)):Sem Next).run P w'= .ok (.value v) w':=fun {s v w'} hs=>by
  simp only[Zc,hs,Z3,Zk]
 unfold zaT at hq
 split at hq
 · rename_i t parts hop
   obtain⟨v,h1,h2⟩:=zvZ h hq
   refine⟨v,h1,fun w' _=> ?_⟩
   have:parts.map (fun(x:Nat×Operand)=>(x.1,a.eval x.2))=(parts.toList.map fun(i,x)=>(i,a.eval x)).toArray:=by
    apply Yr;simp
   simp only[execOp,hop]
   rw[this]
   simp only[Zc,h2,Z3,Zk]
 · rename_i t x i ok hop
   obtain⟨v,h1,h2⟩:=znp h (h.opE x) (h.opE i) hq
   exact⟨v,h1,fun w' hst=>by simp only[execOp,hop];exact lift (h2 w' hst)⟩
 · rename_i fn first captured hop
   refine⟨_,zlI h hq,fun w' _=> ?_⟩
   have e1:(first.toList.map a.eval).toArray=first.map a.eval:=by apply Yr;simp
   have e2:(captured.toList.map a.eval).toArray=captured.map a.eval:=by apply Yr;simp
   rw[e1,e2]
   simp only[execOp,hop,Instr.makeFunc,Zc,Zk,Z3]
 · rename_i c hop
   split at hq
   · rename_i e' he'
     cases hq
     exact zlr h (by rw[hop];exact he')
   · unfold znk at hq
     split at hq
     · rename_i x t hc hxs hts
       obtain⟨v,h1,h2⟩:=znj h (h.opE x) hq
       refine⟨v,h1,fun w' hst=> ?_⟩
       obtain⟨callee,args,ats⟩:=c
       simp only at hc hxs hts
       subst hc
       obtain rfl:args= #[x]:=by apply Yr;simpa using hxs
       obtain rfl:ats= #[t]:=by apply Yr;simpa using hts
       simp only[execOp,hop,resolve,Zc,Zk,Z3,invoke,builtin]
       simp[h2 w' hst]
     · cases hq
 · exact zlr h hq
def zm3(P:Program)(fr:Fr)(o:Oper):Option Fr:=
 match o.op with
 | .makeMap t r=>(match o.dst with|some d=>zfo P fr t (r.map (opE fr)) d|none=>none)
 | .mapUpdate t m k v=>(match o.dst with|none=>zgM P fr t (opE fr m) (opE fr k) (opE fr v)|some _=>none)
 | .insert t m k v=>(match o.dst with|none=>zgM P fr t (opE fr m) (opE fr k) (opE fr v)|some _=>none)
 |_=>zEJ P fr o
def ziT(o:Oper):Bool:=
 match o.op with
 | .mapUpdate _ _ _ _=>false
 | .insert _ _ _ _=>false
 |_=>znR o
theorem zfx(h:FRep w K R G fr a)(hf:zm3 P fr o=some fr'):
 ∃r w',(execOp a.eval o).run P w= .ok r w'/\((∃v,r= .value v/\ ∃K' R',FRep w' K' R' G fr' (a.put o.dst v)/\Step w K w' K')∨(r= .skip/\o.dst=none/\ ∃K' R',FRep w' K' R' G fr' a/\Step w K w' K'))/\(ziT o=true->∀b,b<w.heap.size->w'.heap[b]? =w.heap[b]?):=by
 have lift:∀ {s:Sem Value} {v:Value} {w'},s.run P w= .ok v w'->(do pure (Next.value (←s)):Sem Next).run P w= .ok (.value v) w':=fun {s v w'} hs=>by
  simp only[Zc,hs,Z3,Zk]
 unfold zm3 at hf
 split at hf
 · rename_i t r hop
   split at hf
   · rename_i d hd
     obtain⟨v,w',h1,h2,h3⟩:=zlH h (zk8 h r) hf
     exact⟨_,w',by simp only[execOp,hop];exact lift h1,.inl ⟨v,rfl,by rw[hd];exact h2⟩,fun _=>h3⟩
   · cases hf
 · rename_i t m k v hop
   split at hf
   · rename_i hd
     obtain⟨w',h1,h2,h3,_⟩:=zgL h (h.opE m) (h.opE k) (h.opE v) hf
     exact⟨.skip,w',by simp only[execOp,hop,Zc,h1,Z3,Zk],.inr ⟨rfl,hd,K,R,h2,h3⟩,fun hc=>by simp[ziT,hop] at hc⟩
   · cases hf
 · rename_i t m k v hop
   split at hf
   · rename_i hd
     obtain⟨w',h1,h2,h3,_⟩:=zgL h (h.opE m) (h.opE k) (h.opE v) hf
     exact⟨.skip,w',by simp only[execOp,hop,Zc,h1,Z3,Zk],.inr ⟨rfl,hd,K,R,h2,h3⟩,fun hc=>by simp[ziT,hop] at hc⟩
   · cases hf
 · rename_i h1 h2 h3
   obtain⟨r,w',e1,e2,e3⟩:=zB6 h hf
   refine⟨r,w',e1,e2,fun hc=>e3 ?_⟩
   unfold ziT at hc
   split at hc
   · cases hc
   · cases hc
   · exact hc
def putF(fr:Fr)(dst:Option Nat)(e:E):Option Fr:=
 match dst with
 |none=>some fr
 |some d=>if d<fr.nt then some {fr with tm:=z8G fr.tm d e} else none
theorem FRep.putF{dst:Option Nat}{v:Value}(h:FRep w K R G fr a)(he:ERep w K R fr.ob e v)(hf:putF fr dst e=some fr'):FRep w K R G fr' (a.put dst v):=by
 unfold Proofs.YtiobkcdgggbljaaGreatDoor.putF at hf
 split at hf
 · cases hf;exact h
 · split at hf
   · rename_i hd
     cases hf;exact h.put hd he
   · cases hf
def zxR(s:Nat)(p:List Nat):List Nat:=if s<100000 then p else p++ [s/100000-1]
def zAY(fr:Fr)(s:Nat):Fr:=match z3g fr.tm (s%100000) with| .one (.h id p)=>(freezeKids fr id (zxR s p)).getD fr| .one (.a id p _)=>(freezeKids fr id (zxR s p)).getD fr|_=>fr
def frz1(fr:Fr)(s:Nat):Fr:=if 1000000000<=s then zAY fr (s-1000000000) else match z3g fr.tm (s%100000) with| .one (.h id p)=>(z6O fr id (zxR s p)).getD fr| .one (.a id p _)=>(z6O fr id (zxR s p)).getD fr| .one (.tf n cs)=> {fr with tm:=z8G fr.tm (s%100000) (.one (.t none (.sl n cs)))}|_=>fr
def zAX(fr:Fr):List Nat->Fr
 | []=>fr
 |s::l=>zAX (frz1 fr s) l
theorem zjK{w:World}{G:Nat->Value}{a:Act}:∀ {l:List Nat} {K:Nat->z0a} {R:Nat->Value} {fr:Fr},FRep w K R G fr a->∃K',FRep w K' R G (zAX fr l) a/\Step w K w K'
 | [],K,R,fr,h=>⟨K,h,Step.refl _ _⟩
 |s::l,K,R,fr,h=>by
  have h1:∃K',FRep w K' R G (frz1 fr s) a/\Step w K w K':=by
   unfold frz1
   split
   · unfold zAY
     split
     · rename_i id p he
       cases hf:freezeKids fr id (zxR (s-1000000000) p) with
       |none=>exact⟨K,h,Step.refl _ _⟩
       |some fr'=>exact h.freezeKids hf
     · rename_i id p off he
       cases hf:freezeKids fr id (zxR (s-1000000000) p) with
       |none=>exact⟨K,h,Step.refl _ _⟩
       |some fr'=>exact h.freezeKids hf
     · exact⟨K,h,Step.refl _ _⟩
   split
   · rename_i id p he
     cases hf:z6O fr id (zxR s p) with
     |none=>exact⟨K,h,Step.refl _ _⟩
     |some fr'=>exact⟨_,(h.freeze hf).1,zbK id _⟩
   · rename_i id p off he
     cases hf:z6O fr id (zxR s p) with
     |none=>exact⟨K,h,Step.refl _ _⟩
     |some fr'=>exact⟨_,(h.freeze hf).1,zbK id _⟩
   · rename_i n cs he
     have h2:=h.tm (s%100000)
     rw[he] at h2
     exact⟨K,h.reput (d:=s%100000) (x:=.one (.t none (.sl n cs))) ⟨h2.2,fun _ e=>by cases e⟩,Step.refl _ _⟩
   · exact⟨K,h,Step.refl _ _⟩
  obtain⟨K1,h2,h3⟩:=h1
  obtain⟨K2,h4,h5⟩:=zjK (l:=l) h2
  exact⟨K2,h4,h3.trans h5⟩
def zis:Operand->Nat
 | .tmp s=>s
 |_=>999999999
def opF(P:Program)(C:z0g)(wio:FuncId->Nat->Bool)(fr:Fr)(o:Oper):Option Fr:=
 match o.op with
 | .assign x=>(match putF fr o.dst (opE fr x) with
   |some fr1=>(match o.dst with|some d=>if wio 777781 d=true then some fr1 else zEi P fr1 o.type d|none=>some fr1)
   |none=>none)
 | .call {callee:=.value c,args,..}=>(match zcF fr c with|some (f,cs)=>zdD C wio fr f (args.toList.map (opE fr)++cs.map fun t=>.one (.t none t)) o.dst|none=>none)
 | .store t ad x=>if wio 777784 (zis x)=true then(match o.dst with|none=>zir P false (frz1 fr (zis x)) t (opE (frz1 fr (zis x)) ad) (opE (frz1 fr (zis x)) x)|some _=>none) else if wio 999999 0=true then(match o.dst with|none=>zir P true fr t (opE fr ad) (opE fr x)|some _=>none) else zm3 P fr o
 | .buildSlice t n parts=>if wio 777780 (o.dst.getD 0)=true then(match o.dst with|some d=>if d<fr.nt then zbR P fr t n parts.toList d else none|none=>none) else if wio 777782 (o.dst.getD 0)=true then(match o.dst with|some d=>z9h P true fr t n parts.toList d|none=>none) else zm3 P fr o
 |op=>(match zaT P noM fr op with
  |some e=>putF fr o.dst e
  |none=>zm3 P fr o)
theorem zeE{c:Operand}{args:Array Operand}{ats:Array TypeId}{f:FuncId}{cs:List T}(h:FRep w K R G fr a)(hop:o.op= .call {callee:=.value c,args:=args,argTypes:=ats})(hc:zcF fr c=some (f,cs)):
 ∃vs:List Value,((callFunc f vs.toArray).run P w= .ok (.enter f vs.toArray) w->(execOp a.eval o).run P w= .ok (.enter f vs.toArray) w)/\vs.length=(args.toList.map (opE fr)++cs.map fun t=>E.one (.t none t)).length/\
  ∀(j:Nat) (e:E) (v:Value),(args.toList.map (opE fr)++cs.map fun t=>E.one (.t none t))[j]? =some e->vs[j]? =some v->ERep w K R fr.ob e v:=by
 obtain⟨us,u1,u2,u3⟩:=zmg h hc
 refine⟨args.toList.map a.eval++us,fun hcall=> ?_,by simp[u2],fun j e v he hv=> ?_⟩
 · have ha:(args.toList.map a.eval++us).toArray=args.map a.eval++us.toArray:=by apply Yr;simp
   rw[ha] at hcall⊢
   simp only[execOp,hop,resolve,u1,Deferred.ofValue,Zc,Zk,Z3,invoke]
   simpa using hcall
 · rcases Yy j args.toList.length with hj|hj
   · rw[ZH (by simpa using hj)] at he hv
     simp only[Zd,Z5] at he hv
     obtain⟨x,hx,rfl⟩:=he
     obtain⟨y,hy,rfl⟩:=hv
     rw[hx] at hy;cases hy
     exact h.opE x
   · rw[Y2 (by simpa using hj)] at he hv
     simp only[Zg,Zd,Z5] at he hv
     obtain⟨t,ht,rfl⟩:=he
     exact⟨u3 _ t v ht hv,fun _ e=>by cases e⟩
theorem zAp{I:World->(Nat->z0a)->Prop}{C:z0g}{wio:FuncId->Nat->Bool}{next:Act->World->Prop}{Q:Exit->Act->World->Prop}
 (hI:EnvS I) (hC:z8E P I C) (h:FRep w K R G fr a) (hIw:I w K) (hf:opF P C wio fr o=some fr') (hn:∀a' w' K' R',FRep w' K' R' G fr' a'->Step w K w' K'->next a' w'):o.wp P a w next Q:=by
 unfold opF at hf
 split at hf
 · rename_i x hop
   split at hf
   case h_2=>cases hf
   case h_1 fr1 h1=>
   have h2:=h.putF (v:=a.eval x) (h.opE x) h1
   have hrun:(execOp a.eval o).run P w= .ok (.value (a.eval x)) w:=by simp[execOp,hop]
   unfold Oper.wp
   rw[hrun]
   simp only[Oper.upon]
   split at hf
   · rename_i d hd
     split at hf
     · cases hf
       exact hn _ w K R h2 (Step.refl _ _)
     · obtain⟨K',R',e1,e2,e3,_⟩:=zw8 h2 hf
       exact hn _ w K' R' e1 e2
   · cases hf
     exact hn _ w K R h2 (Step.refl _ _)
 · rename_i c args ats hop
   split at hf
   · rename_i f cs hc
     obtain⟨vs,q1,q2,q3⟩:=zeE (P:=P) h hop hc
     exact znS hI hC h hIw q1 q2 q3 hf fun a' w' K' R' h1 h2 _=>hn a' w' K' R' h1 h2
   · cases hf
 · rename_i t ad x hop
   have dflt:∀ {fr'},zm3 P fr o=some fr'->(∀a' w' K' R',FRep w' K' R' G fr' a'->Step w K w' K'->next a' w')->o.wp P a w next Q:=fun {fr'} hf hn=>by
    obtain⟨r,w',h1,h2,_⟩:=zfx h hf
    unfold Oper.wp
    rw[h1]
    rcases h2 with⟨v,rfl,K',R',e1,e2⟩|⟨rfl,hd,K',R',e1,e2⟩
    · exact hn _ w' K' R' e1 e2
    · simp only[Oper.upon,hd]
      exact hn _ w' K' R' e1 e2
   split at hf
   · split at hf
     · rename_i hd
       obtain⟨K0,h0,s0⟩:=zjK (l:= [zis x]) h
       simp only[zAX] at h0
       obtain⟨w',h1,⟨K',R',e1,e2⟩,_⟩:=zee h0 (h0.opE ad) (h0.opE x) hf
       unfold Oper.wp
       have hrun:(execOp a.eval o).run P w= .ok .skip w':=by
        simp only[execOp,hop,Zc,h1,Z3,Zk]
       rw[hrun]
       simp only[Oper.upon,hd]
       exact hn _ w' K' R' e1 (s0.trans e2)
     · cases hf
   split at hf
   · split at hf
     · rename_i hd
       obtain⟨w',h1,⟨K',R',e1,e2⟩,_⟩:=zee h (h.opE ad) (h.opE x) hf
       unfold Oper.wp
       have hrun:(execOp a.eval o).run P w= .ok .skip w':=by
        simp only[execOp,hop,Zc,h1,Z3,Zk]
       rw[hrun]
       simp only[Oper.upon,hd]
       exact hn _ w' K' R' e1 e2
     · cases hf
   · exact dflt hf hn
 · rename_i t n parts hop
   split at hf
   · split at hf
     · rename_i d hd
       split at hf
       · rename_i hlt
         obtain⟨v,w',h1,K',R',e1,e2⟩:=zjX h hlt hf
         have:parts.map (fun(x:Nat×Operand)=>(x.1,a.eval x.2))=(parts.toList.map fun(i,x)=>(i,a.eval x)).toArray:=by
          apply Yr;simp
         have hrun:(execOp a.eval o).run P w= .ok (.value v) w':=by
          simp only[execOp,hop]
          rw[this]
          simp only[Zc,h1,Z3,Zk]
         unfold Oper.wp
         rw[hrun]
         simp only[Oper.upon,hd]
         exact hn _ w' K' R' e1 e2
       · cases hf
     · cases hf
   · split at hf
     · split at hf
       · rename_i d hd
         obtain⟨v,w',_,h1,⟨K',R',e1,e2,_⟩,_⟩:=zbf h hf
         have:parts.map (fun(x:Nat×Operand)=>(x.1,a.eval x.2))=(parts.toList.map fun(i,x)=>(i,a.eval x)).toArray:=by
          apply Yr;simp
         have hrun:(execOp a.eval o).run P w= .ok (.value v) w':=by
          simp only[execOp,hop]
          rw[this]
          simp only[Zc,h1,Z3,Zk]
         unfold Oper.wp
         rw[hrun]
         simp only[Oper.upon,hd]
         exact hn _ w' K' R' e1 e2
       · cases hf
     · obtain⟨r,w',h1,h2,_⟩:=zfx h hf
       unfold Oper.wp
       rw[h1]
       rcases h2 with⟨v,rfl,K',R',e1,e2⟩|⟨rfl,hd,K',R',e1,e2⟩
       · exact hn _ w' K' R' e1 e2
       · simp only[Oper.upon,hd]
         exact hn _ w' K' R' e1 e2
 · split at hf
   · rename_i e he
     obtain⟨v,h1,h2⟩:=zbA h he
     unfold Oper.wp
     rw[h2 w (Stay.refl w K noM)]
     exact hn _ w K R (h.putF h1 hf) (Step.refl _ _)
   · obtain⟨r,w',h1,h2,_⟩:=zfx h hf
     unfold Oper.wp
     rw[h1]
     rcases h2 with⟨v,rfl,K',R',e1,e2⟩|⟨rfl,hd,K',R',e1,e2⟩
     · exact hn _ w' K' R' e1 e2
     · simp only[Oper.upon,hd]
       exact hn _ w' K' R' e1 e2
def zfE:E->Option (Option Bool)
 | .one (.k (.bool b))=>some (some b)
 | .one (.k _)=>some none
 | .one (.t _ (.sc (.bool b)))=>some (some b)
 |_=>none
def z7o(ops:Array Oper)(fr:Fr)(o:Oper):Option Bool:=
 match o.guard with
 |none=>some true
 |some (j,want)=>match(ops[j]?).bind (·.dst) with
  |none=>some false
  |some t=>if t<fr.nt then(match zfE (z3g fr.tm t) with|some b=>some (b==some want)|none=>none) else none
theorem z9V{ops:Array Oper}{b:Bool}(h:FRep w K R G fr a)(hg:z7o ops fr o=some b):Region.wanted o (yielded ops a.tmps)=b:=by
 unfold z7o at hg
 unfold Region.wanted
 split at hg
 · rename_i hn
   rw[hn];cases hg;rfl
 · rename_i j want hn
   rw[hn]
   simp only
   split at hg
   · rename_i hd
     cases hg
     simp[yielded,hd]
   · rename_i t hd
     split at hg
     · rename_i ht
       split at hg
       · rename_i y hy
         cases hg
         have hreg:=h.tm t
         rw[zaD,if_pos (by rw[h.nt];exact ht)] at hreg
         have htmp:a.tmps[t]? =some (a.tmps.getD t undef):=z6h _ _ (by rw[h.nt];exact ht)
         have hyy:yielded ops a.tmps j=y:=by
          simp only[yielded,hd,Z0,htmp]
          generalize a.tmps.getD t undef=u at hreg
          unfold zfE at hy
          split at hy
          · rename_i b' he
            cases hy
            rw[he] at hreg
            obtain rfl:u= .bool b':=hreg
            rfl
          · rename_i v hnb he
            cases hy
            rw[he] at hreg
            obtain rfl:u=v:=hreg
            cases u<;>first|rfl|(exfalso;exact hnb _ rfl)
          · rename_i dep b' he
            cases hy
            rw[he] at hreg
            have:=hreg.1.sc_eq
            subst this;rfl
          · cases hy
         rw[hyy]
       · cases hg
     · cases hg
def zf5(P:Program)(C:z0g)(wio:FuncId->Nat->Bool)(ops:Array Oper):List Oper->Fr->Option Fr
 | [],fr=>some fr
 |o::rest,fr=>match z7o ops fr o with
  |none=>none
  |some true=>(match opF P C wio fr o with|some fr'=>zf5 P C wio ops rest fr'|none=>none)
  |some false=>(match putF fr o.dst (.one (.k undef)) with|some fr'=>zf5 P C wio ops rest fr'|none=>none)
theorem ziz{P:Program}{I:World->(Nat->z0a)->Prop}{C:z0g}{wio:FuncId->Nat->Bool}{ops:Array Oper}{Q:Exit->Act->World->Prop}(hI:EnvS I)(hC:z8E P I C):∀ {l:List Oper} {w:World} {K:Nat->z0a} {R G:Nat->Value} {fr fr':Fr} {a:Act},FRep w K R G fr a->I w K->zf5 P C wio ops l fr=some fr'->
 (∀a' w' K' R',FRep w' K' R' G fr' a'->Step w K w' K'->Q .normal a' w')->wpList P ops Q l a w
 | [],w,K,R,G,fr,fr',a,h,hIw,hf,hn=>by
   cases hf
   exact wpList_nil (hn a w K R h (Step.refl _ _))
 |o::rest,w,K,R,G,fr,fr',a,h,hIw,hf,hn=>by
  simp only[zf5] at hf
  split at hf
  · cases hf
  · rename_i hg
    split at hf
    · rename_i fr1 h1
      refine wpList_step fun Kk hK=> ?_
      rw[z9V h hg]
      simp only[if_true]
      exact zAp hI hC h hIw h1 fun a' w' K' R' hr hs=>hK a' w' (ziz hI hC hr (hI.step hIw hs) hf fun a2 w2 K2 R2 hr2 hs2=>hn a2 w2 K2 R2 hr2 (hs.trans hs2))
    · cases hf
  · rename_i hg
    split at hf
    · rename_i fr1 h1
      refine wpList_step fun Kk hK=> ?_
      rw[z9V h hg]
      simp only[ZP,if_false]
      exact hK _ _ (ziz hI hC (h.putF (v:=undef) (e:=.one (.k undef)) rfl h1) hIw hf hn)
    · cases hf
end
section
variable{j k:Nat}{z:Option Nat}{w:World}{B:World->Prop}
section
variable {P:Program} {ops:Array Oper} {Q:Exit->Act->World->Prop} {md:Region.Mode}
def NoPz(Q:Exit->Act->World->Prop):Exit->Act->World->Prop
 | .panic _,_,_=>False
 |e,a,w=>Q e a w
theorem NoPz.imp{Q:Exit->Act->World->Prop}:∀(e:Exit) (a:Act) (w:World),NoPz Q e a w->Q e a w:=fun e a w h=>by
 cases e<;>first|exact h|exact(h:False).elim
def ShutL(md:Region.Mode)(ops:Array Oper)(L:Array Bool):Prop:=
 L.size=ops.size/\ ∀(i:Nat) (o:Oper),ops[i]? =some o->L.getD i false=true->∀e∈o.after,Region.binds md e=true->L.getD e.on false=true
theorem ShutL.set{L:Array Bool}(h:ShutL md ops L)(hj:j∈Region.ready md ops L):ShutL md ops (L.setIfInBounds j true):=by
 obtain⟨h1,h2⟩:=h
 obtain⟨j1,o,j2,j3⟩:=mem_ready.1 hj
 refine⟨by simpa using h1,fun i oi hi hl e he hb=> ?_⟩
 have mono:∀k,L.getD k false=true->(L.setIfInBounds j true).getD k false=true:=fun k hk=>by
  simp only[Zb,Y6] at hk⊢
  split
  · split<;>simp_all
  · exact hk
 by_cases e1:i=j
 · subst e1
   rw[j2] at hi;cases hi
   exact mono _ (j3 e he hb)
 · refine mono _ (h2 i oi hi ?_ e he hb)
   simp only[Zb,Y6] at hl⊢
   rw[if_neg (fun e2=>e1 e2.symm)] at hl
   exact hl
def zCg(md:Region.Mode)(ops:Array Oper)(l:List Nat):List Nat:=l.flatMap fun i=>match ops[i]? with|some o=>(o.after.toList.filter (Region.binds md)).map (·.on)|none=> []
def zBs(md:Region.Mode)(ops:Array Oper):Nat->List Nat->List Nat
 |0,l=>l
 |n+1,l=>zBs md ops n ((zCg md ops l).foldl (fun acc x=>if acc.contains x then acc else x::acc) l)
theorem zoJ{x:Nat}:∀ {m l:List Nat},x∈m.foldl (fun acc x=>if acc.contains x then acc else x::acc) l->x∈m∨x∈l
 | [],l,h=>.inr h
 |a::m,l,h=>by
  simp only[Xw] at h
  rcases zoJ h with h|h
  · exact .inl (.tail _ h)
  · split at h
    · exact .inr h
    · rcases Zv.1 h with h|h
      · subst h;exact .inl (.head _)
      · exact .inr h
theorem zeH{L:Array Bool}(hL:ShutL md ops L):∀(n:Nat) (l:List Nat),(∀i∈l,L.getD i false=true)->∀i∈zBs md ops n l,L.getD i false=true
 |0,l,h,i,hi=>h i hi
 |n+1,l,h,i,hi=>by
  refine zeH hL n _ (fun k hk=> ?_) i hi
  rcases zoJ hk with hk|hk
  · simp only[zCg,List.mem_flatMap] at hk
    obtain⟨j,hj,hk⟩:=hk
    split at hk
    · rename_i o ho
      simp only[Zh,ZV,Array.mem_toList_iff] at hk
      obtain⟨e,⟨he,hb⟩,rfl⟩:=hk
      exact hL.2 j o ho (h j hj) e he hb
    · cases hk
  · exact h k hk
def z8o(P:Program)(md:Region.Mode)(ops:Array Oper)(Q:Exit->Act->World->Prop)(S:Array Bool->World->Prop):Nat->Array Bool->Act->World->Prop
 |0,L,a,w=>Region.ready md ops L= []/\Q .normal a w
 |n+1,L,a,w=>
  (Region.ready md ops L= []->Q .normal a w)/\
  ∀i∈Region.ready md ops L,wpOp P ops Q i (fun a' w'=>S (L.setIfInBounds i true) w'/\z8o P md ops Q S n (L.setIfInBounds i true) a' w') a w
theorem zdK{S:Array Bool->World->Prop}:∀(n:Nat) (L:Array Bool) (a:Act) (w:World),z8o P md ops Q S n L a w->wpAny P md ops Q n L a w
 |0,_,_,_,h=>h
 |n+1,_,_,_,h=>⟨h.1,fun i hi=>wpOp_mono (fun a' w' h'=>zdK n _ a' w' h'.2) (h.2 i hi)⟩
theorem za9{S S':Array Bool->World->Prop}(p:Array Bool->Prop)(hp:∀L j,p L->p (L.setIfInBounds j true))(h:∀L w,p L->S' L w->S L w):∀(n:Nat) (L:Array Bool) (a:Act) (w:World),p L->z8o P md ops Q S' n L a w->z8o P md ops Q S n L a w
 |0,_,_,_,_,hh=>hh
 |n+1,L,a,w,hL,hh=>⟨hh.1,fun i hi=>wpOp_mono (fun a' w' h3=>⟨h _ _ (hp L i hL) h3.1,za9 p hp h n _ a' w' (hp L i hL) h3.2⟩) (hh.2 i hi)⟩
theorem zeL{S:Array Bool->World->Prop}{C:World->Prop}{i:Nat}{oi:Oper}{v:Value}(hi:ops[i]? =some oi)(hsel:∀(j:Nat) (o:Oper) cs b,ops[j]? =some o->o.op≠ .select cs b)
 (hQ:∀c a w,Q (.panic c) (a.put oi.dst v) w->Q (.panic c) a w) (hS:∀L w,S (L.setIfInBounds i true) w↔S L w) (hC:∀L w,ShutL md ops L->L.getD i true=false->S L w->C w):
 ∀(n:Nat) (L:Array Bool) (a:Act) (w:World),ShutL md ops L->
  (∀j oj,ops[j]? =some oj->j≠i->L.getD j true=false->(∀e∈oj.after,Region.binds md e=true->e.on≠i)->oi.apart ops oj=true)->
  i∈Region.ready md ops L->YieldsIf P ops C oi v a->S L w->
  z8o P md ops Q S n (L.setIfInBounds i true) (a.put oi.dst v) w->z8o P md ops Q S (n+1) L a w:=by
 intro n
 induction n with
 |zero=>
  intro L a w hsh _ hr hy hSw H
  have hun:=(mem_ready.1 hr).1
  refine⟨fun h=>(by rw[h] at hr;cases hr),fun j hj=> ?_⟩
  by_cases hji:j=i
  · subst hji;exact hy.wpOp hi (hC L w hsh hun hSw) ⟨(hS L w).2 hSw,H⟩
  · have:=ready_mono hj hji
    rw[H.1] at this
    cases this
 |succ n ih=>
  intro L a w hsh hfree hr hy hSw H
  have hun:=(mem_ready.1 hr).1
  refine⟨fun h=>(by rw[h] at hr;cases hr),fun j hj=> ?_⟩
  by_cases hji:j=i
  · subst hji;exact hy.wpOp hi (hC L w hsh hun hSw) ⟨(hS L w).2 hSw,H⟩
  · have h1:=H.2 j (ready_mono hj hji)
    obtain⟨hjun,oj,hoj,hall⟩:=mem_ready.1 hj
    have hnot:∀e∈oj.after,Region.binds md e=true->e.on≠i:=fun e he hb heq=>by
     have h1:=hall e he hb
     have h0:=(mem_ready.1 hr).1
     rw[heq] at h1
     rcases Yy i L.size with h'|h'
     · simp[h'] at h0 h1;rw[h0] at h1;cases h1
     · simp[Array.getElem?_eq_none h'] at h1
    have h2:=wpOp_putIf hoj (hfree j oj hoj hji hjun hnot) (fun cs b=>hsel i oi cs b hi) (fun cs b=>hsel j oj cs b hoj) hQ hy h1
    have hfree':∀k ok,ops[k]? =some ok->k≠i->(L.setIfInBounds j true).getD k true=false->
     (∀e∈ok.after,Region.binds md e=true->e.on≠i)->oi.apart ops ok=true:=fun k ok hk hki hun hno=>by
     refine hfree k ok hk hki ?_ hno
     by_cases hjk:j=k
     · subst hjk;exact hjun
     · rw[getD_set_ne true hjk] at hun;exact hun
    have hcomm:(L.setIfInBounds i true).setIfInBounds j true=(L.setIfInBounds j true).setIfInBounds i true:=(Array.setIfInBounds_comm _ _ (Ne.symm hji))
    refine wpOp_mono (fun a' w' h3=> ?_) h2
    have hS':S (L.setIfInBounds j true) w':=by
     have:=h3.2.1
     rw[hcomm] at this
     exact(hS _ w').1 this
    refine⟨hS',ih (L.setIfInBounds j true) a' w' (hsh.set hj) hfree' (ready_mono hr (Ne.symm hji)) h3.1 hS' ?_⟩
    have:=h3.2.2
    rwa [hcomm] at this
def zam:List (Nat×Oper×Nat)->Option Nat
 | []=>none
 |(k,_,m)::r=>if m=2 then some k else zam r
def zzL(md:Region.Mode)(ops:Array Oper)(k:Nat)(rest:List (Nat×Oper×Nat)):Bool:=match zam rest with|none=>true|some z=>(zBs md ops ops.size [z]).contains k
def z8M(P:Program)(md:Region.Mode)(ops:Array Oper)(Q:Exit->Act->World->Prop):List (Nat×Oper×Nat)->(World->Prop)->(World->Prop)->(World->Prop)->Act->Prop
 | [],A,B,T,a=>∀w,T w->Q .normal a w
 |(k,o,m)::rest,A,B,T,a=>
  if Region.wanted o (yielded ops a.tmps)=true then
   (if m=0∨m=3 then ∃v,(∀w,(if m=0 then A w else B w)->(execOp a.eval o).run P w= .ok (.value v) w)/\z8M P md ops Q rest A B T (a.put o.dst v)
   else ∀w,T w->o.wp P a w (fun a' w'=>∃A' B' T':World->Prop,T' w'/\(∀x,T' x->A' x)/\(∀x,A' x->B' x)/\(∀x,B' x->B x)/\(m=2∨ ∀x,A' x->A x)/\z8M P md ops Q rest A' B' T' a') Q)
  else z8M P md ops Q rest A B T (a.put o.dst undef)
def ziC(md:Region.Mode)(ops:Array Oper):List (Nat×Oper×Nat)->Array Bool->Bool
 | [],L=>decide (Region.ready md ops L= [])
 |(k,_,m)::rest,L=>(if m=0∨m=3 then(Region.ready md ops L).contains k&&Region.free md ops L k&&decide (zam rest≠some k)&&(m==3||zzL md ops k rest) else decide (Region.ready md ops L= [k]))&&ziC md ops rest (L.setIfInBounds k true)
def znO(z:Option Nat)(A B:World->Prop)(L:Array Bool)(w:World):Prop:=match z with|none=>A w|some z=>if L.getD z false=true then B w else A w
theorem zzo{A:World->Prop}(hAB:∀x,A x->B x){L:Array Bool}(h:znO z A B L w):B w:=by
 unfold znO at h
 split at h
 · exact hAB _ h
 · split at h
   · exact h
   · exact hAB _ h
theorem znN{A:World->Prop}(hAB:∀x,A x->B x){L:Array Bool}(h:A w):znO z A B L w:=by
 unfold znO
 split
 · exact h
 · split
   · exact hAB _ h
   · exact h
theorem z8z{L:Array Bool}(h:k<L.size):(L.setIfInBounds k true).getD k false=true:=by
 simp[Zb,h]
theorem zap{L:Array Bool}(h:L.getD k false=true):(L.setIfInBounds j true).getD k false=true:=by
 simp only[Zb,Y6] at h⊢
 split
 · split<;>simp_all
 · exact h
theorem zvb{L:Array Bool}(h:L.getD k true=false):L.getD k false=false:=by
 simp only[Zb] at h⊢
 cases hk:L[k]? with
 |none=>rfl
 |some b=>rw[hk] at h;simpa using h
theorem za8(hs:Region.noSelect ops=true)(hQ:∀c a d v w,Q (.panic c) (Act.put a d v) w->Q (.panic c) a w):∀(l:List (Nat×Oper×Nat)) (L:Array Bool) (A B T:World->Prop) (a:Act),
 (∀x∈l,ops[x.1]? =some x.2.1)->ShutL md ops L->ziC md ops l L=true->(∀x,A x->B x)->(∀x,T x->A x)->z8M P md ops Q l A B T a->∀w,T w->z8o P md ops Q (znO (zam l) A B) l.length L a w
 | [],L,A,B,T,a,_,hsh,hO,hAB,hTA,h,w,hw=>⟨by simpa[ziC] using hO,h w hw⟩
 |(k,o,m)::rest,L,A,B,T,a,hl,hsh,hO,hAB,hTA,h,w,hw=>by
  have h0:ops[k]? =some o:=hl (k,o,m) (by simp)
  have hk:k<L.size:=by rw[hsh.1];exact(ZY.1 h0).1
  have hl':∀x∈rest,ops[x.1]? =some x.2.1:=fun x hx=>hl x (by simp[hx])
  simp only[ziC,Z6] at hO
  obtain⟨hO1,hO2⟩:=hO
  by_cases hm:m=0∨m=3
  · rw[if_pos hm] at hO1
    simp only[Z6,decide_eq_true_eq] at hO1
    obtain⟨⟨⟨hr,hf⟩,hzk⟩,hso⟩:=hO1
    have hm2:m≠2:=by rcases hm with e|e<;>omega
    have hr':k∈Region.ready md ops L:=by simpa using hr
    have key:∃v,YieldsIf P ops (fun w=>if m=0 then A w else B w) o v a/\z8M P md ops Q rest A B T (a.put o.dst v):=by
     simp only[z8M,if_pos hm] at h
     split at h
     · rename_i hwt
       obtain⟨v,h1,h2⟩:=h
       exact⟨v,.inl ⟨hwt,h1⟩,h2⟩
     · rename_i hwt
       exact⟨undef,.inr ⟨by simpa using hwt,rfl⟩,h⟩
    obtain⟨v,hy,hK⟩:=key
    have hnz:zam ((k,o,m)::rest)=zam rest:=by simp[zam,hm2]
    rw[hnz]
    refine zeL (C:=fun w=>if m=0 then A w else B w) h0 (Region.noSelect_spec hs) (fun c a w h=>hQ c a _ _ w h) (fun L' w'=> ?_) (fun L' w' hsh' hun hS=> ?_) rest.length L a w hsh (Region.free_spec h0 hf) hr' hy (znN hAB (hTA _ hw))
     (za8 hs hQ rest _ A B T _ hl' (hsh.set hr') hO2 hAB hTA hK w hw)
    · cases hz:zam rest with
      |none=>exact X1
      |some z=>
       have hne:z≠k:=fun e=>hzk (by rw[hz,e])
       have:(L'.setIfInBounds k true).getD z false=L'.getD z false:=by
        simp only[Zb,Y6]
        rw[if_neg (fun e=>hne e.symm)]
       simp only[znO,this]
    · by_cases hm0:m=0
      · rw[if_pos hm0]
        subst hm0
        have hso:zzL md ops k rest=true:=by simpa using hso
        unfold zzL at hso
        split at hso
        · rename_i hz
          rw[hz] at hS
          exact hS
        · rename_i z hz
          rw[hz] at hS
          simp only[znO] at hS
          split at hS
          · rename_i hlz
            have:=zeH hsh' ops.size [z] (fun i hi=>by simp at hi;subst hi;exact hlz) k (by simpa using hso)
            rw[zvb hun] at this
            cases this
          · exact hS
      · rw[if_neg hm0]
        exact zzo hAB hS
  · rw[if_neg hm] at hO1
    have hr:Region.ready md ops L= [k]:=by simpa using hO1
    have hr':k∈Region.ready md ops L:=by rw[hr];simp
    refine⟨fun h1=>(by rw[h1] at hr;cases hr),fun i hi=> ?_⟩
    rw[hr] at hi
    obtain rfl:i=k:=by simpa using hi
    simp only[z8M,if_neg hm] at h
    unfold wpOp
    simp only[h0]
    have fin:∀(A' B' T':World->Prop) (a':Act) (w':World),T' w'->(∀x,T' x->A' x)->(∀x,A' x->B' x)->(∀x,B' x->B x)->(m=2∨ ∀x,A' x->A x)->z8M P md ops Q rest A' B' T' a'->
     znO (zam ((i,o,m)::rest)) A B (L.setIfInBounds i true) w'/\z8o P md ops Q (znO (zam ((i,o,m)::rest)) A B) rest.length (L.setIfInBounds i true) a' w':=fun A' B' T' a' w' t1 t2 t3 t4 t5 t6=>by
     have hrest:=za8 hs hQ rest _ A' B' T' a' hl' (hsh.set hr') hO2 t3 t2 t6 w' t1
     by_cases hm2:m=2
     · have hz:zam ((i,o,m)::rest)=some i:=by simp[zam,hm2]
       rw[hz]
       have hp:∀(L':Array Bool) (x:World),L'.getD i false=true->znO (zam rest) A' B' L' x->znO (some i) A B L' x:=fun L' x hL hx=>by
        simp only[znO,hL,if_true]
        exact t4 _ (zzo t3 hx)
       refine⟨hp _ _ (z8z hk) (znN t3 (t2 _ t1)),za9 (fun L'=>L'.getD i false=true) (fun L' j hL=>zap hL) hp rest.length _ a' w' (z8z hk) hrest⟩
     · have hz:zam ((i,o,m)::rest)=zam rest:=by simp[zam,hm2]
       rw[hz]
       have t5':∀x,A' x->A x:=by rcases t5 with e|e;exact absurd e hm2;exact e
       have hp:∀(L':Array Bool) (x:World),True->znO (zam rest) A' B' L' x->znO (zam rest) A B L' x:=fun L' x _ hx=>by
        cases hz2:zam rest with
        |none=>rw[hz2] at hx;exact t5' _ hx
        |some z=>
         rw[hz2] at hx
         simp only[znO] at hx⊢
         by_cases hh:L'.getD z false=true
         · rw[if_pos hh] at hx⊢;exact t4 _ hx
         · rw[if_neg hh] at hx⊢;exact t5' _ hx
       exact⟨hp _ _ trivial (znN t3 (t2 _ t1)),za9 (fun _=>True) (fun _ _ _=>trivial) hp rest.length _ a' w' trivial hrest⟩
    split
    · rename_i hwt
      rw[if_pos hwt] at h
      exact .inl (Oper.wp_mono (fun a' w' ⟨A',B',T',h1,h2,h3,h4,h5,h6⟩=>fin A' B' T' a' w' h1 h2 h3 h4 h5 h6) (h w hw))
    · rename_i hwt
      rw[if_neg hwt] at h
      exact fin A B T _ w hw hTA hAB (fun _ h=>h) (.inr fun _ h=>h) h
def zda(ops:Array Oper)(sch:List (Nat×Nat)):List (Nat×Oper×Nat):=sch.filterMap fun x=>(ops[x.1]?).map fun o=>(x.1,o,x.2)
theorem zf0{id:Nat}{a:Act}{l:List Oper}(sch:List (Nat×Nat))(A B T:World->Prop)(hm:P.follows .mixedOrders=true)(hlen:(zda l.toArray sch).length=l.length)
 (hs:Region.noSelect l.toArray=true) (hO:ziC .any l.toArray (zda l.toArray sch) (Array.replicate l.length false)=true)
 (hAB:∀x,A x->B x) (hTA:∀x,T x->A x) (hT:T w.drew) (h:z8M P .any l.toArray (NoPz Q) (zda l.toArray sch) A B T a):(Code.region id l.toArray true).wp P Q a w:=by
 refine Code.wp_mono NoPz.imp (wp_region_any hm ?_)
 have hsh:ShutL .any l.toArray (Array.replicate l.length false):=⟨by simp,fun i o ho hL=>by
  simp only[Zb,Array.getElem?_replicate] at hL
  split at hL<;>simp at hL⟩
 have:=za8 (md:=.any) hs (fun _ _ _ _ _ h=>h) (zda l.toArray sch) (Array.replicate l.length false) A B T a (fun x hx=>by
  simp only[zda,List.mem_filterMap,Z5] at hx
  obtain⟨y,_,o,ho,rfl⟩:=hx
  exact ho) hsh hO hAB hTA h w.drew hT
 rw[hlen] at this
 have h2:=zdK _ _ _ _ this
 simpa using h2
end
end
section
inductive SchT where
 |nil
 |op (k m:Nat) (rest:SchT)
 |alt (a b:SchT)
variable{a:Act}{w:World}{B:World->Prop}
def SchT.heads:SchT->List Nat
 | .nil=> []
 | .op k _ _=> [k]
 | .alt a b=>a.heads++b.heads
def SchT.nexts:SchT->List Nat
 | .nil=> []
 | .op k m r=>if m=2 then [k] else r.nexts
 | .alt a b=>a.nexts++b.nexts
def SchT.depth:SchT->Nat
 | .nil=>0
 | .op _ _ r=>r.depth+1
 | .alt a _=>a.depth
section
variable {P:Program} {ops:Array Oper} {Q:Exit->Act->World->Prop} {md:Region.Mode}
def zf1(P:Program)(md:Region.Mode)(ops:Array Oper)(Q:Exit->Act->World->Prop):SchT->(World->Prop)->(World->Prop)->(World->Prop)->Act->Prop
 | .nil,A,B,T,a=>∀w,T w->Q .normal a w
 | .op k m rest,A,B,T,a=>∃o,ops[k]? =some o/\
   (if Region.wanted o (yielded ops a.tmps)=true then
     (if m=0∨m=3 then ∃v,(∀w,(if m=0 then A w else B w)->(execOp a.eval o).run P w= .ok (.value v) w)/\zf1 P md ops Q rest A B T (a.put o.dst v)
     else ∀w,T w->o.wp P a w (fun a' w'=>∃A' B' T':World->Prop,T' w'/\(∀x,T' x->A' x)/\(∀x,A' x->B' x)/\(∀x,B' x->B x)/\(m=2∨ ∀x,A' x->A x)/\zf1 P md ops Q rest A' B' T' a') Q)
   else zf1 P md ops Q rest A B T (a.put o.dst undef))
 | .alt x y,A,B,T,a=>zf1 P md ops Q x A B T a/\zf1 P md ops Q y A B T a
def z4S(md:Region.Mode)(ops:Array Oper):Bool->SchT->Array Bool->Bool
 |top,.nil,L=>top&&decide (Region.ready md ops L= [])
 |top,.op k m rest,L=>(if top=true/\(m=0∨m=3) then(Region.ready md ops L).contains k&&Region.free md ops L k&& !(rest.nexts.contains k)&&(m==3||rest.nexts.all fun z=>(zBs md ops ops.size [z]).contains k) else(decide (m=1∨m=2))&&(if top=true then decide (Region.ready md ops L= [k]) else(Region.ready md ops L).contains k))&&z4S md ops true rest (L.setIfInBounds k true)
 |top,.alt a b,L=>(!top||decide (∀i∈Region.ready md ops L,i∈a.heads++b.heads))&&decide (a.depth=b.depth)&&z4S md ops false a L&&z4S md ops false b L
def zhr(zs:List Nat)(A B:World->Prop)(L:Array Bool)(w:World):Prop:=if ∃z∈zs,L.getD z false=true then B w else A w
theorem zvN{zs:List Nat}{A:World->Prop}(hAB:∀x,A x->B x){L:Array Bool}(h:zhr zs A B L w):B w:=by
 unfold zhr at h;split at h
 · exact h
 · exact hAB _ h
theorem zvM{zs:List Nat}{A:World->Prop}(hAB:∀x,A x->B x){L:Array Bool}(h:A w):zhr zs A B L w:=by
 unfold zhr;split
 · exact hAB _ h
 · exact h
theorem zlQ{L:Array Bool}{k z:Nat}(h:z≠k):(L.setIfInBounds k true).getD z false=L.getD z false:=by
 simp only[Zb,Y6]
 rw[if_neg (fun e=>h e.symm)]
theorem zy6{zs:List Nat}{k m:Nat}{rest:SchT}{L:Array Bool}{A T:World->Prop}{o:Oper}{n:Nat}(ho:ops[k]? =some o)(hk:k<L.size)(hm:m=1∨m=2)(hz:m=2->k∈zs)(hz1:m≠2->∀z∈rest.nexts,z∈zs)
 (hAB:∀x,A x->B x) (hTA:∀x,T x->A x) (h:zf1 P md ops Q (.op k m rest) A B T a)  (hw:T w)
 (ih:∀(A' B' T':World->Prop) (a':Act),(∀x,A' x->B' x)->(∀x,T' x->A' x)->zf1 P md ops Q rest A' B' T' a'->∀w,T' w->z8o P md ops Q (zhr rest.nexts A' B') n (L.setIfInBounds k true) a' w):
 wpOp P ops Q k (fun a' w'=>zhr zs A B (L.setIfInBounds k true) w'/\z8o P md ops Q (zhr zs A B) n (L.setIfInBounds k true) a' w') a w:=by
 obtain⟨o2,ho2,h⟩:=h
 rw[ho] at ho2;cases ho2
 have hm':¬(m=0∨m=3):=by omega
 have fin:∀(A' B' T':World->Prop) (a':Act) (w':World),T' w'->(∀x,T' x->A' x)->(∀x,A' x->B' x)->(∀x,B' x->B x)->(m=2∨ ∀x,A' x->A x)->zf1 P md ops Q rest A' B' T' a'->
  zhr zs A B (L.setIfInBounds k true) w'/\z8o P md ops Q (zhr zs A B) n (L.setIfInBounds k true) a' w':=fun A' B' T' a' w' t1 t2 t3 t4 t5 t6=>by
  have hrest:=ih A' B' T' a' t3 t2 t6 w' t1
  have hp:∀(L':Array Bool) (x:World),L'.getD k false=true->zhr rest.nexts A' B' L' x->zhr zs A B L' x:=fun L' x hL hx=>by
   by_cases hm2:m=2
   · unfold zhr
     rw[if_pos ⟨k,hz hm2,hL⟩]
     exact t4 _ (zvN t3 hx)
   · have t5':∀x,A' x->A x:=by rcases t5 with e|e;exact absurd e hm2;exact e
     unfold zhr
     split
     · exact t4 _ (zvN t3 hx)
     · rename_i hno
       unfold zhr at hx
       rw[if_neg (fun⟨z,h1,h2⟩=>hno ⟨z,hz1 hm2 z h1,h2⟩)] at hx
       exact t5' _ hx
  exact⟨hp _ _ (z8z hk) (zvM t3 (t2 _ t1)),za9 (fun L'=>L'.getD k false=true) (fun L' j hL=>zap hL) hp n _ a' w' (z8z hk) hrest⟩
 unfold wpOp
 simp only[ho]
 split
 · rename_i hwt
   rw[if_pos hwt,if_neg hm'] at h
   exact .inl (Oper.wp_mono (fun a' w' ⟨A',B',T',h1,h2,h3,h4,h5,h6⟩=>fin A' B' T' a' w' h1 h2 h3 h4 h5 h6) (h w hw))
 · rename_i hwt
   rw[if_neg hwt] at h
   exact fin A B T _ w hw hTA hAB (fun _ h=>h) (.inr fun _ h=>h) h
theorem z8N(hs:Region.noSelect ops=true)(hQ:∀c a d v w,Q (.panic c) (Act.put a d v) w->Q (.panic c) a w):∀(s:SchT) (L:Array Bool) (A B T:World->Prop) (a:Act),ShutL md ops L->(∀x,A x->B x)->(∀x,T x->A x)->zf1 P md ops Q s A B T a->∀w,T w->
 (z4S md ops true s L=true->z8o P md ops Q (zhr s.nexts A B) s.depth L a w)/\
 (z4S md ops false s L=true->∀(zs:List Nat) (n:Nat),(∀z∈s.nexts,z∈zs)->s.depth=n+1->∀i∈s.heads,wpOp P ops Q i (fun a' w'=>zhr zs A B (L.setIfInBounds i true) w'/\z8o P md ops Q (zhr zs A B) n (L.setIfInBounds i true) a' w') a w)
 | .nil,L,A,B,T,a,hsh,hAB,hTA,h,w,hw=>⟨fun hO=>⟨by simpa[z4S] using hO,h w hw⟩,fun hO=>by simp[z4S] at hO⟩
 | .op k m rest,L,A,B,T,a,hsh,hAB,hTA,h,w,hw=>by
   obtain⟨o,h0,h'⟩:=h
   have hk:k<L.size:=by rw[hsh.1];exact(ZY.1 h0).1
   have eff:∀(zs:List Nat) (n:Nat),(m=1∨m=2)->(∀z∈(SchT.op k m rest).nexts,z∈zs)->rest.depth=n->k∈Region.ready md ops L->z4S md ops true rest (L.setIfInBounds k true)=true->
    wpOp P ops Q k (fun a' w'=>zhr zs A B (L.setIfInBounds k true) w'/\z8o P md ops Q (zhr zs A B) n (L.setIfInBounds k true) a' w') a w:=fun zs n hm hz hd hr hO=>by
    refine zy6 h0 hk hm (fun e=>hz k (by simp[SchT.nexts,e])) (fun e z hzz=>hz z (by simp[SchT.nexts,e,hzz])) hAB hTA ⟨o,h0,h'⟩ hw ?_
    intro A' B' T' a' k1 k2 k3 w' k4
    subst hd
    exact(z8N hs hQ rest _ A' B' T' a' (hsh.set hr) k1 k2 k3 w' k4).1 hO
   constructor
   · intro hO
     simp only[z4S,Z6] at hO
     obtain⟨hO1,hO2⟩:=hO
     by_cases hm:m=0∨m=3
     · rw[if_pos ⟨trivial,hm⟩] at hO1
       simp only[Z6,ZX] at hO1
       obtain⟨⟨⟨hr,hf⟩,hzk⟩,hso⟩:=hO1
       have hm2:m≠2:=by rcases hm with e|e<;>omega
       have hr':k∈Region.ready md ops L:=by simpa using hr
       have key:∃v,YieldsIf P ops (fun w=>if m=0 then A w else B w) o v a/\zf1 P md ops Q rest A B T (a.put o.dst v):=by
        rw[if_pos hm] at h'
        split at h'
        · rename_i hwt
          obtain⟨v,h1,h2⟩:=h'
          exact⟨v,.inl ⟨hwt,h1⟩,h2⟩
        · rename_i hwt
          exact⟨undef,.inr ⟨by simpa using hwt,rfl⟩,h'⟩
       obtain⟨v,hy,hK⟩:=key
       have hnz:(SchT.op k m rest).nexts=rest.nexts:=by simp[SchT.nexts,hm2]
       rw[hnz]
       refine zeL (C:=fun w=>if m=0 then A w else B w) h0 (Region.noSelect_spec hs) (fun c a w h=>hQ c a _ _ w h) (fun L' w'=> ?_) (fun L' w' hsh' hun hS=> ?_) rest.depth L a w hsh (Region.free_spec h0 hf) hr' hy (zvM hAB (hTA _ hw))
        ((z8N hs hQ rest _ A B T _ (hsh.set hr') hAB hTA hK w hw).1 hO2)
       · have:(∃z∈rest.nexts,(L'.setIfInBounds k true).getD z false=true)↔ ∃z∈rest.nexts,L'.getD z false=true:=by
          constructor
          · rintro⟨z,h1,h2⟩
            have hne:z≠k:=fun e=>by rw[←e] at hzk;simp[h1] at hzk
            exact⟨z,h1,by rwa [zlQ hne] at h2⟩
          · rintro⟨z,h1,h2⟩
            exact⟨z,h1,zap h2⟩
         simp only[zhr,this]
       · by_cases hm0:m=0
         · rw[if_pos hm0]
           subst hm0
           have hso:(rest.nexts.all fun z=>(zBs md ops ops.size [z]).contains k)=true:=by simpa using hso
           unfold zhr at hS
           split at hS
           · rename_i hlz
             obtain⟨z,hz1,hz2⟩:=hlz
             have h3:=Zr.1 hso z hz1
             have:=zeH hsh' ops.size [z] (fun i hi=>by simp at hi;subst hi;exact hz2) k (by simpa using h3)
             rw[zvb hun] at this
             cases this
           · exact hS
         · rw[if_neg hm0]
           exact zvN hAB hS
     · rw[if_neg (fun hh=>hm hh.2)] at hO1
       simp only[Z6,decide_eq_true_eq,if_true] at hO1
       obtain⟨hm1,hr⟩:=hO1
       have hr':k∈Region.ready md ops L:=by rw[hr];simp
       refine⟨fun h1=>(by rw[h1] at hr;cases hr),fun i hi=> ?_⟩
       rw[hr] at hi
       obtain rfl:i=k:=by simpa using hi
       exact eff _ _ hm1 (fun z hz=>hz) rfl hr' hO2
   · intro hO zs n hz hd i hi
     simp only[z4S,Z6] at hO
     obtain⟨hO1,hO2⟩:=hO
     rw[if_neg (fun hh=>by cases hh.1)] at hO1
     simp only[Z6,decide_eq_true_eq,ZP,if_false] at hO1
     obtain⟨hm1,hr⟩:=hO1
     obtain rfl:i=k:=by simpa[SchT.heads] using hi
     exact eff zs n hm1 hz (by simpa[SchT.depth] using hd) (by simpa using hr) hO2
 | .alt x y,L,A,B,T,a,hsh,hAB,hTA,h,w,hw=>by
   obtain⟨hx,hy⟩:=h
   have sx:=z8N hs hQ x L A B T a hsh hAB hTA hx w hw
   have sy:=z8N hs hQ y L A B T a hsh hAB hTA hy w hw
   have both:z4S md ops false x L=true->z4S md ops false y L=true->x.depth=y.depth->∀(zs:List Nat) (n:Nat),(∀z∈(SchT.alt x y).nexts,z∈zs)->x.depth=n+1->∀i∈x.heads++y.heads,wpOp P ops Q i (fun a' w'=>zhr zs A B (L.setIfInBounds i true) w'/\z8o P md ops Q (zhr zs A B) n (L.setIfInBounds i true) a' w') a w:=fun o1 o2 hd zs n hz hn i hi=>by
    rcases Ze.1 hi with hi|hi
    · exact sx.2 o1 zs n (fun z h=>hz z (by simp[SchT.nexts,h])) hn i hi
    · exact sy.2 o2 zs n (fun z h=>hz z (by simp[SchT.nexts,h])) (by omega) i hi
   constructor
   · intro hO
     simp only[z4S,Z6,decide_eq_true_eq,Xt,Xu] at hO
     obtain⟨⟨⟨h1,h2⟩,h3⟩,h4⟩:=hO
     have hdep:∀(s:SchT),z4S md ops false s L=true->∃n,s.depth=n+1/\ ∃i∈s.heads,i∈Region.ready md ops L:=by
      intro s
      induction s with
      |nil=>intro hh;simp[z4S] at hh
      |op k m r _=>
       intro hh
       simp only[z4S,Z6] at hh
       have hh1:=hh.1
       rw[if_neg (fun hh=>by cases hh.1)] at hh1
       simp only[Z6,ZP,if_false] at hh1
       exact⟨r.depth,rfl,k,by simp[SchT.heads],by simpa using hh1.2⟩
      |alt p q ihp ihq=>
       intro hh
       simp only[z4S,Z6] at hh
       obtain⟨n,e1,i,e2,e3⟩:=ihp hh.1.2
       exact⟨n,e1,i,by simp[SchT.heads,e2],e3⟩
     obtain⟨n,hn,j,hj,hjr⟩:=hdep x h3
     show z8o P md ops Q _ x.depth L a w
     rw[hn]
     refine⟨fun he=>(by rw[he] at hjr;cases hjr),fun i hi=>both h3 h4 h2 _ n (fun z hz=>hz) hn i (h1 i hi)⟩
   · intro hO zs n hz hd i hi
     simp only[z4S,Z6,decide_eq_true_eq] at hO
     obtain⟨⟨⟨_,h2⟩,h3⟩,h4⟩:=hO
     exact both h3 h4 h2 zs n hz hd i hi
theorem ziY{id:Nat}{l:List Oper}(s:SchT)(A B T:World->Prop)(hm:P.follows .mixedOrders=true)(hlen:s.depth=l.length)
 (hs:Region.noSelect l.toArray=true) (hO:z4S .any l.toArray true s (Array.replicate l.length false)=true)
 (hAB:∀x,A x->B x) (hTA:∀x,T x->A x) (hT:T w.drew) (h:zf1 P .any l.toArray (NoPz Q) s A B T a):(Code.region id l.toArray true).wp P Q a w:=by
 refine Code.wp_mono NoPz.imp (wp_region_any hm ?_)
 have hsh:ShutL .any l.toArray (Array.replicate l.length false):=⟨by simp,fun i o ho hL=>by
  simp only[Zb,Array.getElem?_replicate] at hL
  split at hL<;>simp at hL⟩
 have:=(z8N (md:=.any) hs (fun _ _ _ _ _ h=>h) s (Array.replicate l.length false) A B T a hsh hAB hTA h w.drew hT).1 hO
 rw[hlen] at this
 have h2:=zdK _ _ _ _ this
 simpa using h2
end
end
section
def zbZ(P:Program)(C:z0g)(wio:FuncId->Nat->Bool)(fr:Fr)(o:Oper):Option Fr:=
 match o.op with
 | .call {callee:=.value c,args,..}=>(match zcF fr c with
   |some (f,cs)=>(match zhV fr (wio f) (args.toList.map (opE fr)++cs.map fun t=>.one (.t none t)) 0 with|some (_,_,none)=>zdD C wio fr f (args.toList.map (opE fr)++cs.map fun t=>.one (.t none t)) o.dst|_=>none)
   |none=>none)
 |op=>(match zaT P noM fr op with
  |some e=>putF fr o.dst e
  |none=>if ziT o then zm3 P fr o else none)
def zEP(w x:World):Prop:=∀b,b<w.heap.size->x.heap[b]? =w.heap[b]?
theorem zvW{P:Program}{I:World->(Nat->z0a)->Prop}{C:z0g}{wio:FuncId->Nat->Bool}{w:World}{K:Nat->z0a}{R G:Nat->Value}{fr fr':Fr}{a:Act}{o:Oper}{next:Act->World->Prop}{Q:Exit->Act->World->Prop}
 (hI:EnvS I) (hC:z8E P I C) (h:FRep w K R G fr a) (hIw:I w K) (hf:zbZ P C wio fr o=some fr') (hn:∀a' w' K' R',FRep w' K' R' G fr' a'->Step w K w' K'->zEP w w'->next a' w'):o.wp P a w next Q:=by
 unfold zbZ at hf
 split at hf
 · rename_i c args ats hop
   split at hf
   · rename_i f cs hc
     split at hf
     · rename_i ts deps hargs
       obtain⟨vs,q1,q2,q3⟩:=zeE (P:=P) h hop hc
       exact znS hI hC h hIw q1 q2 q3 hf fun a' w' K' R' h1 h2 h3=>hn a' w' K' R' h1 h2 (fun b hb=>(h3 _ _ _ hargs b hb (z9T _)).2)
     · cases hf
   · cases hf
 · split at hf
   · rename_i e he
     obtain⟨v,h1,h2⟩:=zbA h he
     unfold Oper.wp
     rw[h2 w (Stay.refl w K noM)]
     exact hn _ w K R (h.putF h1 hf) (Step.refl _ _) fun _ _=>rfl
   · split at hf
     · rename_i hc
       obtain⟨r,w',h1,h2,h3⟩:=zfx h hf
       unfold Oper.wp
       rw[h1]
       rcases h2 with⟨v,rfl,K',R',e1,e2⟩|⟨rfl,hd,K',R',e1,e2⟩
       · exact hn _ w' K' R' e1 e2 (h3 hc)
       · simp only[Oper.upon,hd]
         exact hn _ w' K' R' e1 e2 (h3 hc)
     · cases hf
def wrF(P:Program)(C:z0g)(wio:FuncId->Nat->Bool)(M:Nat->Bool)(fr:Fr)(o:Oper):Option Fr:=
 match o.op with
 | .call {callee:=.value c,args,..}=>(match zcF fr c with
   |none=>none
   |some (f,cs)=>(match zhV fr (wio f) (args.toList.map (opE fr)++cs.map fun t=>.one (.t none t)) 0 with
    |some (_,_,none)=>zdD C wio fr f (args.toList.map (opE fr)++cs.map fun t=>.one (.t none t)) o.dst
    |some (_,_,some (_,id))=>if M id then zdD C wio fr f (args.toList.map (opE fr)++cs.map fun t=>.one (.t none t)) o.dst else none
    |none=>none))
 | .buildSlice t n parts=>(match o.dst with
   |some d=>if M d=false/\z6V P fr t n parts.toList d=true then z6P P fr t n parts.toList d else none
   |none=>none)
 | .makeSlice t l c=>(match o.dst,rdV (opE fr l),rdV (opE fr c) with
   |some d,some (.int _ l'),some (.int _ c')=>if M d=false then z8I P fr t l' c' d else none
   |_,_,_=>none)
 | .call {callee:=.builtin .append,args,argTypes}=>(match o.dst,args.toList,argTypes.toList with
   |some d,[s,x],[st,xt]=>if M d=true/\(zk4 (opE fr s)).all M=true/\zk6 fr d s x=true then zhC P fr d st xt s x else none
   |_,_,_=>none)
 |_=>none
theorem zBL{P:Program}{I:World->(Nat->z0a)->Prop}{C:z0g}{wio:FuncId->Nat->Bool}{M:Nat->Bool}{w:World}{K:Nat->z0a}{R G:Nat->Value}{fr fr':Fr}{a:Act}{o:Oper}{next:Act->World->Prop}{Q:Exit->Act->World->Prop}
 (hI:EnvS I) (hC:z8E P I C) (h:FRep w K R G fr a) (hIw:I w K) (hf:wrF P C wio M fr o=some fr') (hn:∀a' w' K' R',FRep w' K' R' G fr' a'->Step w K w' K'->(∀x,Stay w' x K' M->Stay w x K M)->next a' w'):o.wp P a w next Q:=by
 unfold wrF at hf
 split at hf
 · rename_i c args ats hop
   split at hf
   · cases hf
   rename_i f cs hc
   obtain⟨vs,q1,q2,q3⟩:=zeE (P:=P) h hop hc
   have fin:∀ts deps io,zhV fr (wio f) (args.toList.map (opE fr)++cs.map fun t=>.one (.t none t)) 0=some (ts,deps,io)->(∀i id,io=some (i,id)->M id=true)->zdD C wio fr f (args.toList.map (opE fr)++cs.map fun t=>.one (.t none t)) o.dst=some fr'->o.wp P a w next Q:=fun ts deps io hargs hM hcall=>
    znS hI hC h hIw q1 q2 q3 hcall fun a' w' K' R' h1 h2 h3=>hn a' w' K' R' h1 h2 fun x hx b hb hcb=>by
     have hno:¬zcy io (K b):=by
      rintro⟨i,id,s,e1,e2⟩
      rcases hcb with e|⟨j,q,e,hj⟩
      · rw[e] at e2;cases e2
      · rw[e] at e2
        have:j=id:=by simpa using(List.cons.inj e2).1
        subst this
        have:=hM i j e1
        rw[hj] at this;cases this
     obtain⟨p1,p2⟩:=h3 _ _ _ hargs b hb hno
     rw[hx b (Zy hb h2.size) (by
      rcases p1 with e|e
      · exact .inl e
      · rcases hcb with e2|⟨j,q,e2,hj⟩
        · exact .inl (e.trans e2)
        · exact .inr ⟨j,q,e.trans e2,hj⟩)]
     exact p2
   split at hf
   · rename_i ts deps hargs
     exact fin _ _ _ hargs (fun i id e=>by cases e) hf
   · rename_i ts deps i id hargs
     split at hf
     · rename_i hc
       exact fin _ _ _ hargs (fun i' id' e=>by cases e;simpa using hc) hf
     · cases hf
   · cases hf
 · rename_i t n parts hop
   split at hf
   · rename_i d hd
     split at hf
     · rename_i hc
       obtain⟨v,w',h1,⟨K',R',h2,h3,h4⟩,h5⟩:=zbe h hf
       have hrun:(execOp a.eval o).run P w= .ok (.value v) w':=by
        simp only[execOp,hop]
        have:parts.map (fun(x:Nat×Operand)=>(x.1,a.eval x.2))=(parts.toList.map fun(i,x)=>(i,a.eval x)).toArray:=by
         apply Yr;simp
        rw[this]
        simp only[Zc,h1,Z3,Zk]
       unfold Oper.wp
       rw[hrun]
       have h2':FRep w' K' R' G fr' (a.put o.dst v):=by rw[hd];exact h2
       exact hn _ w' K' R' h2' h3 fun x hx b hb hcb=>by
        rw[hx b (Zy hb h3.size) (h4 hc.2 M hc.1 b hb hcb)]
        exact h5 b hb
     · cases hf
   · cases hf
 · rename_i t l c hop
   split at hf
   · rename_i d k l' k' c' hd hl hc'
     split at hf
     · rename_i hc
       obtain⟨e1,-⟩:=z1v (h.opE l) hl
       obtain⟨e2,-⟩:=z1v (h.opE c) hc'
       obtain⟨v,w',h1,⟨K',R',h2,h3,h4⟩,h5⟩:=zc4 (k:=k) (k':=k') h hf
       have hrun:(execOp a.eval o).run P w= .ok (.value v) w':=by
        simp only[execOp,hop,e1,e2,Zc,h1,Z3,Zk]
       unfold Oper.wp
       rw[hrun]
       have h2':FRep w' K' R' G fr' (a.put o.dst v):=by rw[hd];exact h2
       exact hn _ w' K' R' h2' h3 fun x hx b hb hcb=>by
        rw[hx b (Zy hb h3.size) (h4 rfl M hc b hb hcb)]
        exact h5 b hb
     · cases hf
   · cases hf
 · rename_i args ats hop
   split at hf
   · rename_i d s x st xt hd ha ht
     split at hf
     · rename_i hc
       obtain⟨c1,c2,c3⟩:=hc
       obtain rfl:args= #[s,x]:=by apply Yr;simpa using ha
       obtain rfl:ats= #[st,xt]:=by apply Yr;simpa using ht
       obtain⟨v,w',h1,⟨K',R',h2,h3,h4⟩,h5⟩:=ziW (ty:=o.type) h hf
       have hrun:(execOp a.eval o).run P w= .ok (.value v) w':=by
        simp only[execOp,hop,resolve,Zc,Zk,Z3,invoke,builtin]
        simp[h1]
       unfold Oper.wp
       rw[hrun]
       have h2':FRep w' K' R' G fr' (a.put o.dst v):=by rw[hd];exact h2
       have hb0:∀i∈zk4 (opE fr s),M i=true:=fun i hi=>Zr.1 c2 i hi
       exact hn _ w' K' R' h2' h3 fun y hy b hb hcb=>by
        rw[hy b (Zy hb h3.size) (h4 c3 M c1 hb0 b hb hcb)]
        refine h5 b hb ?_
        rcases hcb with e|⟨i,q,e,hi⟩
        · exact .inl e
        · refine .inr ⟨i,q,e,?_⟩
          by_cases hm:(zk4 (opE fr s)).contains i=true
          · have:=hb0 i (by simpa using hm)
            rw[hi] at this;cases this
          · simpa using hm
     · cases hf
   · cases hf
 · cases hf
def zwn(fr:Fr):Option (List Nat)->Fr
 |none=>fr
 |some l=>zAX fr l
theorem zpi{w:World}{G:Nat->Value}{a:Act}{l:Option (List Nat)}{K:Nat->z0a}{R:Nat->Value}{fr:Fr}(h:FRep w K R G fr a):∃K',FRep w K' R G (zwn fr l) a/\Step w K w K':=by
 cases l with
 |none=>exact⟨K,h,Step.refl _ _⟩
 |some l=>exact zjK h
def Fro(w:World)(K:Nat->z0a)(x:World):Prop:=∀b,b<w.heap.size->K b= []->x.heap[b]? =w.heap[b]?
theorem Fro.later{w w':World}{K K':Nat->z0a}(s:Step w K w' K'){x:World}(h:Fro w' K' x):Fro w K x:=fun b hb e=>by
 obtain⟨a1,a2⟩:=s.old b hb (.inl e)
 rw[h b (Zy hb s.size) (a1.trans e),a2]
def clsA(same:Bool)(w:World)(K:Nat->z0a)(M:Nat->Bool)(x:World):Prop:=if same then zEP w x else Stay w x K M
theorem clsA.fro{same:Bool}{w:World}{K:Nat->z0a}{M:Nat->Bool}{x:World}(h:clsA same w K M x):Fro w K x:=fun b hb e=>by
 unfold clsA at h
 split at h
 · exact h b hb
 · exact h b hb (.inl e)
theorem clsA.stay{same:Bool}{w:World}{K:Nat->z0a}{M:Nat->Bool}{x:World}(h:clsA same w K M x):Stay w x K M:=fun b hb e=>by
 unfold clsA at h
 split at h
 · exact h b hb
 · exact h b hb e
theorem clsA.self(same:Bool)(w:World)(K:Nat->z0a)(M:Nat->Bool):clsA same w K M w:=by
 unfold clsA
 split
 · exact fun _ _=>rfl
 · exact Stay.refl _ _ _
def zb6(P:Program)(C:z0g)(wio:FuncId->Nat->Bool)(same:Bool)(M:Nat->Bool)(ops:Array Oper):List (Nat×Oper×Nat)->Fr->Option Fr
 | [],fr=>some fr
 |(k,o,m)::rest,fr=>match z7o ops fr o with
  |none=>none
  |some false=>(match putF fr o.dst (.one (.k undef)) with|some fr'=>zb6 P C wio same M ops rest fr'|none=>none)
  |some true=>
   if m=0∨m=3 then(match zaT P (if m=0 then M else zEO) fr o.op with
    |some e=>(match putF fr o.dst e with|some fr'=>zb6 P C wio same M ops rest fr'|none=>none)
    |none=>none)
   else(match(if m=2 then opF P C wio fr o else if same then zbZ P C wio fr o else wrF P C wio M fr o) with|some fr'=>zb6 P C wio same M ops rest fr'|none=>none)
theorem z8J{P:Program}{I:World->(Nat->z0a)->Prop}{C:z0g}{wio:FuncId->Nat->Bool}{same:Bool}{M:Nat->Bool}{ops:Array Oper}{Q:Exit->Act->World->Prop}(hI:EnvS I)(hC:z8E P I C):∀ {l:List (Nat×Oper×Nat)} {w:World} {K:Nat->z0a} {R G:Nat->Value} {fr fr':Fr} {a:Act},FRep w K R G fr a->I w K->zb6 P C wio same M ops l fr=some fr'->
 (∀a' w' K' R',FRep w' K' R' G fr' a'->Step w K w' K'->Q .normal a' w')->z8M P .any ops (NoPz Q) l (clsA same w K M) (Fro w K) (fun x=>x=w) a
 | [],w,K,R,G,fr,fr',a,h,hIw,hf,hn=>by
   cases hf
   intro x hx
   subst hx;exact hn a x K R h (Step.refl _ _)
 |(k,o,m)::rest,w,K,R,G,fr,fr',a,h,hIw,hf,hn=>by
  simp only[zb6] at hf
  simp only[z8M]
  split at hf
  · cases hf
  · rename_i hg
    rw[if_neg (by rw[z9V h hg];simp)]
    split at hf
    · rename_i fr1 h1
      exact z8J hI hC (h.putF (v:=undef) (e:=.one (.k undef)) rfl h1) hIw hf hn
    · cases hf
  · rename_i hg
    rw[if_pos (z9V h hg)]
    split at hf
    · rename_i hm
      rw[if_pos hm]
      split at hf
      · rename_i e he
        split at hf
        · rename_i fr1 h1
          obtain⟨v,r1,r2⟩:=zbA h he
          refine⟨v,fun x hx=>r2 x ?_,z8J hI hC (h.putF r1 h1) hIw hf hn⟩
          by_cases hm0:m=0
          · rw[if_pos hm0] at hx⊢;exact hx.stay
          · rw[if_neg hm0] at hx⊢
            intro b hb hc
            rcases hc with hc|⟨i,s,_,hc⟩
            · exact hx b hb hc
            · cases hc
        · cases hf
      · cases hf
    · rename_i hm
      rw[if_neg hm]
      intro x hx
      subst hx
      split at hf
      · rename_i fr1 h1
        by_cases hm2:m=2
        · rw[if_pos hm2] at h1
          exact zAp hI hC h hIw h1 fun a' w' K' R' hr hs=>⟨clsA same w' K' M,Fro w' K',fun y=>y=w',rfl,fun y hy=>by subst hy;exact clsA.self _ _ _ _,fun y hy=>hy.fro,fun y hy=>hy.later hs,.inl hm2,z8J hI hC hr (hI.step hIw hs) hf fun a2 w2 K2 R2 hr2 hs2=>hn a2 w2 K2 R2 hr2 (hs.trans hs2)⟩
        · rw[if_neg hm2] at h1
          cases same with
          |true=>
           rw[if_pos rfl] at h1
           refine zvW hI hC h hIw h1 fun a' w' K' R' hr hs hsame=>⟨clsA true w' K' M,Fro w' K',fun y=>y=w',rfl,fun y hy=>by subst hy;exact clsA.self _ _ _ _,fun y hy=>hy.fro,fun y hy=>hy.later hs,.inr fun y hy=> ?_,z8J hI hC hr (hI.step hIw hs) hf fun a2 w2 K2 R2 hr2 hs2=>hn a2 w2 K2 R2 hr2 (hs.trans hs2)⟩
           intro b hb
           have:zEP w' y:=hy
           rw[this b (Zy hb hs.size)]
           exact hsame b hb
          |false=>
           rw[if_neg (by simp)] at h1
           exact zBL hI hC h hIw h1 fun a' w' K' R' hr hs hstay=>⟨clsA false w' K' M,Fro w' K',fun y=>y=w',rfl,fun y hy=>by subst hy;exact clsA.self _ _ _ _,fun y hy=>hy.fro,fun y hy=>hy.later hs,.inr fun y hy=>hstay y hy,z8J hI hC hr (hI.step hIw hs) hf fun a2 w2 K2 R2 hr2 hs2=>hn a2 w2 K2 R2 hr2 (hs.trans hs2)⟩
      · cases hf
def zbV(f g:Fr):Prop:=f.nt=g.nt/\(∀i∈f.tm.map (·.1)++g.tm.map (·.1),z3g f.tm i=z3g g.tm i)/\(∀i∈f.ob.map (·.1)++g.ob.map (·.1),z2i f.ob i=z2i g.ob i)
theorem zjB:∀ {l:List (Nat×E)} {i:Nat},i∉l.map (·.1)->z3g l i= .one .dead
 | [],i,_=>rfl
 |(j,x)::l,i,h=>by
  simp only[Zt,Zv,not_or] at h
  simp only[z3g]
  rw[if_neg (fun e=>h.1 e.symm)]
  exact zjB h.2
theorem zjz:∀ {l:List (Nat×T)} {i:Nat},i∉l.map (·.1)->z2i l i=none
 | [],i,_=>rfl
 |(j,x)::l,i,h=>by
  simp only[Zt,Zv,not_or] at h
  simp only[z2i]
  rw[if_neg (fun e=>h.1 e.symm)]
  exact zjz h.2
theorem FRep.same{f g:Fr}(h:zbV f g){w:World}{K:Nat->z0a}{R G:Nat->Value}{a:Act}(hr:FRep w K R G g a):FRep w K R G f a:=by
 obtain⟨h1,h2,h3⟩:=h
 have e2:∀i,z3g f.tm i=z3g g.tm i:=fun i=>by
  by_cases hi:i∈f.tm.map (·.1)++g.tm.map (·.1)
  · exact h2 i hi
  · simp only[Ze,not_or] at hi
    rw[zjB hi.1,zjB hi.2]
 have e3:∀i,z2i f.ob i=z2i g.ob i:=fun i=>by
  by_cases hi:i∈f.ob.map (·.1)++g.ob.map (·.1)
  · exact h3 i hi
  · simp only[Ze,not_or] at hi
    rw[zjz hi.1,zjz hi.2]
 have hA:∀x u,ARep w K R g.ob x u->ARep w K R f.ob x u:=fun x u hx=>by
  cases x with
  |dead=>trivial
  |k v=>exact hx
  |t dep x=>exact⟨hx.1,fun i e=>by rw[e3];exact hx.2 i e⟩
  |h i q=>obtain⟨n1,t,n2,n3⟩:=hx;exact⟨n1,t,by rw[e3];exact n2,n3⟩
  |a i q off=>obtain⟨hv,g',n1,n4,n5,t,n2,n3⟩:=hx;exact⟨hv,g',n1,n4,n5,t,by rw[e3];exact n2,n3⟩
  |tf n cs=>exact hx
  |ea dep cs off=>obtain⟨g',o,F,k1,k2,k3,k4,k5,k6⟩:=hx;exact⟨g',o,F,k1,k2,k3,k4,k5,fun i e=>by rw[e3];exact k6 i e⟩
 refine⟨fun i=> ?_,fun id t ht=>hr.ob id t (by rw[←e3];exact ht),by rw[h1];exact hr.nt,hr.df⟩
 rw[e2 i]
 exact(hr.tm i).mono hA
def zCX(k:Nat)(x:E):List (Nat×E)->List (Nat×E)
 | []=> [(k,x)]
 |(j,y)::r=>if k<j then(k,x)::(j,y)::r else if k=j then(k,x)::r else(j,y)::zCX k x r
def zCW(k:Nat)(x:T):List (Nat×T)->List (Nat×T)
 | []=> [(k,x)]
 |(j,y)::r=>if k<j then(k,x)::(j,y)::r else if k=j then(k,x)::r else(j,y)::zCW k x r
def zCB:List (Nat×E)->List (Nat×E)
 | []=> []
 |(k,x)::r=>zCX k x (zCB r)
def zCA:List (Nat×T)->List (Nat×T)
 | []=> []
 |(k,x)::r=>zCW k x (zCA r)
def zz6(fr:Fr):Fr:= {fr with tm:=zCB fr.tm,ob:=zCA fr.ob}
theorem zph(k:Nat)(x:E)(i:Nat):∀l:List (Nat×E),z3g (zCX k x l) i=if k=i then x else z3g l i
 | []=>rfl
 |(j,y)::r=>by
  simp only[zCX]
  by_cases h1:k<j
  · rw[if_pos h1];rfl
  · rw[if_neg h1]
    by_cases h2:k=j
    · rw[if_pos h2];subst h2
      simp only[z3g]
      by_cases h3:k=i
      · rw[if_pos h3,if_pos h3]
      · rw[if_neg h3,if_neg h3,if_neg h3]
    · rw[if_neg h2]
      simp only[z3g,zph k x i r]
      by_cases h3:k=i
      · subst h3
        rw[if_neg (fun e=>h2 e.symm),if_pos rfl,if_pos rfl]
      · rw[if_neg h3,if_neg h3]
theorem zpb(k:Nat)(x:T)(i:Nat):∀l:List (Nat×T),z2i (zCW k x l) i=if k=i then some x else z2i l i
 | []=>rfl
 |(j,y)::r=>by
  simp only[zCW]
  by_cases h1:k<j
  · rw[if_pos h1];rfl
  · rw[if_neg h1]
    by_cases h2:k=j
    · rw[if_pos h2];subst h2
      simp only[z2i]
      by_cases h3:k=i
      · rw[if_pos h3,if_pos h3]
      · rw[if_neg h3,if_neg h3,if_neg h3]
    · rw[if_neg h2]
      simp only[z2i,zpb k x i r]
      by_cases h3:k=i
      · subst h3
        rw[if_neg (fun e=>h2 e.symm),if_pos rfl,if_pos rfl]
      · rw[if_neg h3,if_neg h3]
theorem zpf(i:Nat):∀l:List (Nat×E),z3g (zCB l) i=z3g l i
 | []=>rfl
 |(k,x)::r=>by simp only[zCB,zph,zpf i r,z3g]
theorem zpa(i:Nat):∀l:List (Nat×T),z2i (zCA l) i=z2i l i
 | []=>rfl
 |(k,x)::r=>by simp only[zCA,zpb,zpa i r,z2i]
theorem FRep.nrm{fr:Fr}{w:World}{K:Nat->z0a}{R G:Nat->Value}{a:Act}(h:FRep w K R G fr a):FRep w K R G (zz6 fr) a:=
 FRep.same (f:=zz6 fr) (g:=fr) ⟨rfl,fun i _=>zpf i _,fun i _=>zpa i _⟩ h
def eqV:Value->Value->Bool
 | .bool a,.bool b=>a==b
 | .int k n,.int l m=>decide (k=l)&&decide (n=m)
 | .string a,.string b=>decide (a=b)
 | .pointer none,.pointer none=>true
 | .slice none a b,.slice none c d=>Nat.beq a c&&Nat.beq b d
 | .map none,.map none=>true
 | .nilFunc,.nilFunc=>true
 | .nilIface,.nilIface=>true
 |_,_=>false
theorem zpo{v u:Value}(h:eqV v u=true):v=u:=by
 unfold eqV at h
 split at h<;>first|(cases h;done)|rfl|(simp only[Z6,decide_eq_true_eq,beq_iff_eq] at h;first|(obtain⟨rfl,rfl⟩:=h;rfl)|(subst h;rfl))|skip
 simp only[Z6] at h
 rw[ZU h.1,ZU h.2]
def zD6:List (Value×Value)->List (Value×Value)->Bool
 | [],[]=>true
 |(a,b)::r,(c,d)::s=>eqV a c&&eqV b d&&zD6 r s
 |_,_=>false
theorem znF:∀ {a b:List (Value×Value)},zD6 a b=true->a=b
 | [],[],_=>rfl
 |(a,b)::r,(c,d)::s,h=>by
  simp only[zD6,Z6] at h
  rw[zpo h.1.1,zpo h.1.2,znF h.2]
mutual
def eqT:T->T->Bool
 | .sc v,.sc u=>eqV v u
 | .dead,.dead=>true
 | .agg a,.agg b=>znG a b
 | .tup a,.tup b=>znG a b
 | .sl n a,.sl m b=>Nat.beq n m&&znG a b
 | .os s n a,.os t m b=>Nat.beq s t&&Nat.beq n m&&znG a b
 | .vr a,.vr b=>znG a b
 | .vo n a,.vo m b=>Nat.beq n m&&znG a b
 | .pr a,.pr b=>znG a b
 | .mp k a,.mp l b=>decide (k=l)&&zD6 a b
 | .mr k a,.mr l b=>decide (k=l)&&zD6 a b
 |_,_=>false
def znG:List T->List T->Bool
 | [],[]=>true
 |a::r,b::s=>eqT a b&&znG r s
 |_,_=>false
end
mutual
theorem zvu:∀ {a b:T},eqT a b=true->a=b
 | .sc v,b,h=>by cases b<;>simp only[eqT] at h<;>first|(cases h;done)|rw[zpo h]
 | .dead,b,h=>by cases b<;>simp only[eqT] at h<;>first|(cases h;done)|rfl
 | .agg a,b,h=>by cases b<;>simp only[eqT] at h<;>first|(cases h;done)|rw[z9e h]
 | .tup a,b,h=>by cases b<;>simp only[eqT] at h<;>first|(cases h;done)|rw[z9e h]
 | .sl n a,b,h=>by cases b<;>simp only[eqT,Z6] at h<;>first|(cases h;done)|rw[ZU h.1,z9e h.2]
 | .os s n a,b,h=>by cases b<;>simp only[eqT,Z6] at h<;>first|(cases h;done)|rw[ZU h.1.1,ZU h.1.2,z9e h.2]
 | .vr a,b,h=>by cases b<;>simp only[eqT] at h<;>first|(cases h;done)|rw[z9e h]
 | .vo n a,b,h=>by cases b<;>simp only[eqT,Z6] at h<;>first|(cases h;done)|rw[ZU h.1,z9e h.2]
 | .pr a,b,h=>by cases b<;>simp only[eqT] at h<;>first|(cases h;done)|rw[z9e h]
 | .mp k a,b,h=>by cases b<;>simp only[eqT,Z6,decide_eq_true_eq] at h<;>first|(cases h;done)|rw[h.1,znF h.2]
 | .mr k a,b,h=>by cases b<;>simp only[eqT,Z6,decide_eq_true_eq] at h<;>first|(cases h;done)|rw[h.1,znF h.2]
 | .mt _ _ _,b,h=>by cases b<;>simp only[eqT] at h<;>cases h
 | .ms _ _ _,b,h=>by cases b<;>simp only[eqT] at h<;>cases h
 | .cl f a,b,h=>by cases b<;>simp only[eqT] at h<;>cases h
theorem z9e:∀ {a b:List T},znG a b=true->a=b
 | [],[],_=>rfl
 |a::r,b::s,h=>by
  simp only[znG,Z6] at h
  rw[zvu h.1,z9e h.2]
 | [],_::_,h=>by simp[znG] at h
 |_::_,[],h=>by simp[znG] at h
end
def eqA:A->A->Bool
 | .dead,.dead=>true
 | .k a,.k b=>eqV a b
 | .t d x,.t e y=>decide (d=e)&&eqT x y
 | .h i p,.h j q=>decide (i=j)&&decide (p=q)
 | .a i p o,.a j q o'=>decide (i=j)&&decide (p=q)&&decide (o=o')
 | .ea d x o,.ea e y o'=>decide (d=e)&&znG x y&&decide (o=o')
 | .tf n x,.tf m y=>decide (n=m)&&znG x y
 |_,_=>false
theorem zzh{a b:A}(h:eqA a b=true):a=b:=by
 cases a<;>cases b<;>simp only[eqA,Z6,decide_eq_true_eq] at h<;>first|(cases h;done)|rfl|(rw[zpo h];done)|(rw[h.1,zvu h.2];done)|(rw[h.1,h.2];done)|(rw[h.1.1,h.1.2,h.2];done)|(rw[h.1.1,z9e h.1.2,h.2];done)|(rw[h.1,z9e h.2];done)
def zEI:List A->List A->Bool
 | [],[]=>true
 |a::r,b::s=>eqA a b&&zEI r s
 |_,_=>false
theorem zvw:∀ {a b:List A},zEI a b=true->a=b
 | [],[],_=>rfl
 |a::r,b::s,h=>by
  simp only[zEI,Z6] at h
  rw[zzh h.1,zvw h.2]
def eqE:E->E->Bool
 | .one a,.one b=>eqA a b
 | .ag a,.ag b=>zEI a b
 |_,_=>false
theorem zD7{a b:E}(h:eqE a b=true):a=b:=by
 cases a<;>cases b<;>simp only[eqE] at h<;>first|(cases h;done)|(rw[zzh h];done)|(rw[zvw h];done)
def zEG:List (Nat×E)->List (Nat×E)->Bool
 | [],[]=>true
 |(i,a)::r,(j,b)::s=>Nat.beq i j&&eqE a b&&zEG r s
 |_,_=>false
theorem zvt:∀ {a b:List (Nat×E)},zEG a b=true->a=b
 | [],[],_=>rfl
 |(i,a)::r,(j,b)::s,h=>by
  simp only[zEG,Z6] at h
  rw[ZU h.1.1,zD7 h.1.2,zvt h.2]
def zEH:List (Nat×T)->List (Nat×T)->Bool
 | [],[]=>true
 |(i,a)::r,(j,b)::s=>Nat.beq i j&&eqT a b&&zEH r s
 |_,_=>false
theorem zvv:∀ {a b:List (Nat×T)},zEH a b=true->a=b
 | [],[],_=>rfl
 |(i,a)::r,(j,b)::s,h=>by
  simp only[zEH,Z6] at h
  rw[ZU h.1.1,zvu h.1.2,zvv h.2]
def zwZ(f g:Fr):Bool:=Nat.beq f.nt g.nt&&zEG f.tm g.tm&&zEH f.ob g.ob
theorem zwY{f g:Fr}(h:zwZ f g=true):zbV f g:=by
 simp only[zwZ,Z6] at h
 have e1:=ZU h.1.1
 have e2:=zvt h.1.2
 have e3:=zvv h.2
 exact⟨e1,fun i _=>by rw[e2],fun i _=>by rw[e3]⟩
open Classical in
noncomputable def ztr(x y:Fr):Option Fr:=if zwZ x y=true then some x else if zbV x y then some x else none
theorem zem{x y z:Fr}(h:ztr x y=some z):x=z/\zbV x y:=by
 unfold ztr at h
 split at h
 · rename_i hb;cases h;exact⟨rfl,zwY hb⟩
 · split at h
   · rename_i hs;cases h;exact⟨rfl,hs⟩
   · cases h
theorem zfk{x y:Fr}(h:zbV x y):ztr x y=some x:=by
 unfold ztr
 by_cases hb:zwZ x y=true
 · rw[if_pos hb]
 · rw[if_neg hb,if_pos h]
open Classical in
noncomputable def z7t(P:Program)(C:z0g)(wio:FuncId->Nat->Bool)(same:Bool)(M:Nat->Bool)(ops:Array Oper):SchT->Fr->Option Fr
 | .nil,fr=>some fr
 | .op k m rest,fr=>match ops[k]? with
   |none=>none
   |some o=>match z7o ops fr o with
    |none=>none
    |some false=>(match putF fr o.dst (.one (.k undef)) with|some fr'=>z7t P C wio same M ops rest (zz6 fr')|none=>none)
    |some true=>
     if m=0∨m=3 then(match zaT P (if m=0 then M else zEO) fr o.op with
      |some e=>(match putF fr o.dst e with|some fr'=>z7t P C wio same M ops rest (zz6 fr')|none=>none)
      |none=>none)
     else(match(if m=2 then opF P C wio fr o else if same then zbZ P C wio fr o else wrF P C wio M fr o) with|some fr'=>z7t P C wio same M ops rest (zz6 fr')|none=>none)
 | .alt a b,fr=>match z7t P C wio same M ops a fr,z7t P C wio same M ops b fr with
   |some x,some y=>ztr x y
   |_,_=>none
theorem z6U{P:Program}{I:World->(Nat->z0a)->Prop}{C:z0g}{wio:FuncId->Nat->Bool}{same:Bool}{M:Nat->Bool}{ops:Array Oper}{Q:Exit->Act->World->Prop}(hI:EnvS I)(hC:z8E P I C):∀ {l:SchT} {w:World} {K:Nat->z0a} {R G:Nat->Value} {fr fr':Fr} {a:Act},FRep w K R G fr a->I w K->z7t P C wio same M ops l fr=some fr'->
 (∀a' w' K' R',FRep w' K' R' G fr' a'->Step w K w' K'->Q .normal a' w')->zf1 P .any ops (NoPz Q) l (clsA same w K M) (Fro w K) (fun x=>x=w) a
 | .nil,w,K,R,G,fr,fr',a,h,hIw,hf,hn=>by
   simp only[z7t,Z9] at hf
   subst hf
   intro x hx
   subst hx;exact hn a x K R h (Step.refl _ _)
 | .alt x y,w,K,R,G,fr,fr',a,h,hIw,hf,hn=>by
   simp only[z7t] at hf
   split at hf
   · rename_i f1 f2 h1 h2
     obtain⟨rfl,hs⟩:=zem hf
     exact⟨z6U hI hC h hIw h1 hn,z6U hI hC h hIw h2 fun a' w' K' R' hr hst=>hn a' w' K' R' (hr.same hs) hst⟩
   · cases hf
 | .op k m rest,w,K,R,G,fr,fr',a,h,hIw,hf,hn=>by
   simp only[z7t] at hf
   split at hf
   · cases hf
   rename_i o ho
   refine⟨o,ho,?_⟩
   split at hf
   · cases hf
   · rename_i hg
     rw[if_neg (by rw[z9V h hg];simp)]
     split at hf
     · rename_i fr1 h1
       exact z6U hI hC (h.putF (v:=undef) (e:=.one (.k undef)) rfl h1).nrm hIw hf hn
     · cases hf
   · rename_i hg
     rw[if_pos (z9V h hg)]
     split at hf
     · rename_i hm
       rw[if_pos hm]
       split at hf
       · rename_i e he
         split at hf
         · rename_i fr1 h1
           obtain⟨v,r1,r2⟩:=zbA h he
           refine⟨v,fun x hx=>r2 x ?_,z6U hI hC (h.putF r1 h1).nrm hIw hf hn⟩
           by_cases hm0:m=0
           · rw[if_pos hm0] at hx⊢;exact hx.stay
           · rw[if_neg hm0] at hx⊢
             intro b hb hc
             rcases hc with hc|⟨i,s,_,hc⟩
             · exact hx b hb hc
             · cases hc
         · cases hf
       · cases hf
     · rename_i hm
       rw[if_neg hm]
       intro x hx
       subst hx
       split at hf
       · rename_i fr1 h1
         by_cases hm2:m=2
         · rw[if_pos hm2] at h1
           exact zAp hI hC h hIw h1 fun a' w' K' R' hr hs=>⟨clsA same w' K' M,Fro w' K',fun y=>y=w',rfl,fun y hy=>by subst hy;exact clsA.self _ _ _ _,fun y hy=>hy.fro,fun y hy=>hy.later hs,.inl hm2,z6U hI hC hr.nrm (hI.step hIw hs) hf fun a2 w2 K2 R2 hr2 hs2=>hn a2 w2 K2 R2 hr2 (hs.trans hs2)⟩
         · rw[if_neg hm2] at h1
           cases same with
           |true=>
            rw[if_pos rfl] at h1
            refine zvW hI hC h hIw h1 fun a' w' K' R' hr hs hsame=>⟨clsA true w' K' M,Fro w' K',fun y=>y=w',rfl,fun y hy=>by subst hy;exact clsA.self _ _ _ _,fun y hy=>hy.fro,fun y hy=>hy.later hs,.inr fun y hy=> ?_,z6U hI hC hr.nrm (hI.step hIw hs) hf fun a2 w2 K2 R2 hr2 hs2=>hn a2 w2 K2 R2 hr2 (hs.trans hs2)⟩
            intro b hb
            have:zEP w' y:=hy
            rw[this b (Zy hb hs.size)]
            exact hsame b hb
           |false=>
            rw[if_neg (by simp)] at h1
            exact zBL hI hC h hIw h1 fun a' w' K' R' hr hs hstay=>⟨clsA false w' K' M,Fro w' K',fun y=>y=w',rfl,fun y hy=>by subst hy;exact clsA.self _ _ _ _,fun y hy=>hy.fro,fun y hy=>hy.later hs,.inr fun y hy=>hstay y hy,z6U hI hC hr.nrm (hI.step hIw hs) hf fun a2 w2 K2 R2 hr2 hs2=>hn a2 w2 K2 R2 hr2 (hs.trans hs2)⟩
       · cases hf
end
section
inductive X where
 |n
 |x (id:Nat)
 |r
def zsk:X->Exit
 | .n=>.normal
 | .x id=>.exit id
 | .r=>.ret
structure Cfg where
 wio:FuncId->Nat->Bool
 live:Nat->Option (List Nat)
 dr:Nat->Option (List (Nat×Nat))
 wr:Nat->List Nat:=fun _=> []
 fz:Nat->Option (List Nat):=fun _=>none
 dt:Nat->Option SchT:=fun _=>none
variable{a:Act}{P:Program}{w:World}
def zc7:Code->Nat
 | .region id _ _=>id
 | .seq a _=>zc7 a
 | .cond _ a _=>zc7 a
 | .block _ c=>zc7 c
 | .loop c=>zc7 c
 | .scope c=>zc7 c
 |_=>0
def onE:E->List Nat
 | .one x=>(onA x).toList
 | .ag xs=>xs.filterMap onA
def ids:List (Nat×E)->List Nat
 | []=> []
 |(_,e)::r=>onE e++ids r
def zhS(ob:List (Nat×T)):List Nat->List (Nat×T)
 | []=> []
 |i::r=>match z2i ob i with|some t=>z6T (zhS ob r) i t|none=>zhS ob r
def zhR(tm:List (Nat×E)):List Nat->List (Nat×E)
 | []=> []
 |i::r=>(i,z3g tm i)::zhR tm r
def zax(n:Nat):List (Nat×E)->List (Nat×E)
 | []=> []
 |(i,e)::r=>if n<=i then(i,e)::zax n r else zax n r
def zrn(l:List Nat)(n:Nat):Nat:=if l.contains 999999 then 1000000000 else n
def za2(keep:Option (List Nat))(fr:Fr):Fr:=
 match keep with
 |none=>fr
 |some l=> {fr with tm:=zhR fr.tm l++zax (zrn l fr.nt) fr.tm,ob:=zhS fr.ob (ids (zhR fr.tm l++zax (zrn l fr.nt) fr.tm))}
theorem z7J(ob:List (Nat×T)):∀(l:List Nat) (i:Nat),z2i (zhS ob l) i=if i∈l then z2i ob i else none
 | [],i=>by simp[zhS,z2i]
 |j::r,i=>by
  simp only[zhS]
  split
  · rename_i t ht
    rw[z0A,z7J ob r i]
    by_cases e:j=i
    · subst e;simp[ht]
    · simp only[if_neg e,Zv,Ne.symm e,false_or]
  · rename_i hn
    rw[z7J ob r i]
    by_cases e:i=j
    · subst e;simp[hn]
    · simp[e]
theorem znw(l m:List (Nat×E))(i:Nat):((∃e,(i,e)∈l)/\z3g (l++m) i=z3g l i)∨z3g (l++m) i=z3g m i:=by
 induction l with
 |nil=>exact .inr rfl
 |cons a r ih=>
  obtain⟨j,x⟩:=a
  simp only[ZO,z3g]
  by_cases h:j=i
  · subst h;left;exact⟨⟨x,by simp⟩,by simp⟩
  · simp only[if_neg h]
    rcases ih with⟨⟨e,he⟩,h2⟩|h2
    · left;exact⟨⟨e,by simp[he]⟩,h2⟩
    · right;exact h2
theorem zlN(tm:List (Nat×E)):∀(l:List Nat) (i:Nat),(∃e,(i,e)∈zhR tm l)->z3g (zhR tm l) i=z3g tm i
 | [],i,h=>by obtain⟨e,he⟩:=h;cases he
 |j::r,i,h=>by
  simp only[zhR,z3g]
  by_cases e:j=i
  · subst e;simp
  · rw[if_neg e]
    refine zlN tm r i ?_
    obtain⟨x,hx⟩:=h
    simp only[zhR] at hx
    rcases Zv.1 hx with hx|hx
    · cases hx;exact absurd rfl e
    · exact⟨x,hx⟩
theorem zes(n:Nat):∀(tm:List (Nat×E)) (i:Nat),z3g (zax n tm) i=z3g tm i∨z3g (zax n tm) i= .one .dead
 | [],i=>.inl rfl
 |(j,x)::r,i=>by
  simp only[zax]
  by_cases e:j=i
  · subst e
    split
    · left;simp[z3g]
    · rename_i hn
      right
      have:∀l:List (Nat×E),z3g (zax n l) j= .one .dead:=by
       intro l
       induction l with
       |nil=>rfl
       |cons b r ih=>
        obtain⟨k,y⟩:=b
        simp only[zax]
        split
        · simp only[z3g];rw[if_neg (by omega)];exact ih
        · exact ih
      exact this r
  · split
    · simp only[z3g,if_neg e];exact zes n r i
    · simp only[z3g,if_neg e];exact zes n r i
theorem zpg:∀ {tm:List (Nat×E)} {i:Nat},z3g tm i= .one .dead∨(i,z3g tm i)∈tm
 | [],i=>.inl rfl
 |(j,x)::r,i=>by
  simp only[z3g]
  by_cases e:j=i
  · subst e;right;simp
  · rw[if_neg e]
    rcases zpg (tm:=r) (i:=i) with h|h
    · exact .inl h
    · exact .inr (by simp[h])
theorem zv4:∀ {tm:List (Nat×E)} {i:Nat} {e:E},(i,e)∈tm->∀j∈onE e,j∈ids tm
 |(k,x)::r,i,e,h,j,hj=>by
  simp only[ids,Ze]
  rcases Zv.1 h with h|h
  · cases h;exact .inl hj
  · exact .inr (zv4 h j hj)
theorem FRep.canon{K:Nat->z0a}{R G:Nat->Value}{fr:Fr}(h:FRep w K R G fr a)(keep:Option (List Nat)):FRep w K R G (za2 keep fr) a:=by
 unfold za2
 split
 · exact h
 rename_i l
 let tm':=zhR fr.tm l++zax (zrn l fr.nt) fr.tm
 have hget:∀i,z3g tm' i=z3g fr.tm i∨z3g tm' i= .one .dead:=fun i=>by
  rcases znw (zhR fr.tm l) (zax (zrn l fr.nt) fr.tm) i with⟨he,e⟩|e
  · left;rw[show z3g tm' i=_ from e];exact zlN fr.tm l i he
  · rw[show z3g tm' i=_ from e];exact zes (zrn l fr.nt) fr.tm i
 have hsub:∀i t,z2i (zhS fr.ob (ids tm')) i=some t->z2i fr.ob i=some t:=fun i t ht=>by
  rw[z7J] at ht
  split at ht
  · exact ht
  · cases ht
 have hA:∀x u,(∀j,onA x=some j->j∈ids tm')->ARep w K R fr.ob x u->ARep w K R (zhS fr.ob (ids tm')) x u:=fun x u hx hr=>by
  cases x with
  |dead=>trivial
  |k v=>exact hr
  |t dep x=>exact⟨hr.1,fun i e=>by subst e;rw[z7J,if_pos (hx i rfl)];exact hr.2 i rfl⟩
  |h i q=>obtain⟨n1,t,n2,n3⟩:=hr;exact⟨n1,t,by rw[z7J,if_pos (hx i rfl)];exact n2,n3⟩
  |a i q off=>obtain⟨hv,g,n1,n4,n5,t,n2,n3⟩:=hr;exact⟨hv,g,n1,n4,n5,t,by rw[z7J,if_pos (hx i rfl)];exact n2,n3⟩
  |tf n cs=>exact hr
  |ea dep cs off=>obtain⟨g,o,F,e1,e2,e3,e4,e5,e6⟩:=hr;exact⟨g,o,F,e1,e2,e3,e4,e5,fun i e=>by subst e;rw[z7J,if_pos (hx i rfl)];exact e6 i rfl⟩
 refine⟨fun i=> ?_,fun id t ht=>h.ob id t (hsub id t ht),h.nt,h.df⟩
 show ERep w K R (zhS fr.ob (ids tm')) (z3g tm' i) _
 rcases zpg (tm:=tm') (i:=i) with hd|hm
 · rw[hd];trivial
 · rcases hget i with e|e
   · have hr:=h.tm i
     rw[←e] at hr
     have hon:∀j∈onE (z3g tm' i),j∈ids tm':=zv4 hm
     revert hr hon
     generalize z3g tm' i=ee
     intro hr hon
     cases ee with
     |one x=>exact hA x _ (fun j hj=>hon j (by simp[onE,hj])) hr
     |ag xs=>
      obtain⟨arr,e1,e2,e3⟩:=hr
      exact⟨arr,e1,e2,fun j x hx=>hA x _ (fun k hk=>hon k (by simp only[onE,List.mem_filterMap];exact⟨x,ZS hx,hk⟩)) (e3 j x hx)⟩
   · rw[e];trivial
def zdo(body:Fr->Option (X×Fr))(cn:Fr->Fr):Nat->Fr->Option (X×Fr)
 |0,_=>none
 |n+1,fr=>match body (cn fr) with
  |some (.n,fr')=>zdo body cn n fr'
  |some (x,fr')=>some (x,fr')
  |none=>none
def z7z(P:Program):List Oper->Fr->Option Fr
 | [],fr=>some fr
 |o::l,fr=>match o.op,o.dst with
  | .assign _,some d=>(match zEi P fr o.type d with|some fr'=>z7z P l fr'|none=>none)
  |_,_=>z7z P l fr
theorem zeG{P:Program}{w:World}{G:Nat->Value}{a:Act}:∀ {l:List Oper} {K:Nat->z0a} {R:Nat->Value} {fr fr':Fr},FRep w K R G fr a->z7z P l fr=some fr'->∃K' R',FRep w K' R' G fr' a/\Step w K w K'
 | [],K,R,fr,fr',h,hf=>by cases hf;exact⟨K,R,h,Step.refl _ _⟩
 |o::l,K,R,fr,fr',h,hf=>by
  simp only[z7z] at hf
  split at hf
  · split at hf
    · rename_i fr1 h1
      obtain⟨K1,R1,a1,a2,_,_⟩:=zw8 h h1
      obtain⟨K2,R2,b1,b2⟩:=zeG (l:=l) a1 hf
      exact⟨K2,R2,b1,a2.trans b2⟩
    · cases hf
  · exact zeG (l:=l) h hf
noncomputable def z9E(P:Program)(C:z0g)(cf:Cfg)(id:Nat)(ops:Array Oper)(fr:Fr):Option Fr:=
 match cf.dt id with
 |some t=>z7t P C cf.wio (cf.wr id).isEmpty (cf.wr id).contains ops t fr
 |none=>(match cf.dr id with
  |some sch=>zb6 P C cf.wio (cf.wr id).isEmpty (cf.wr id).contains ops (zda ops sch) fr
  |none=>none)
noncomputable def z2H(P:Program)(C:z0g)(cf:Cfg)(LF:Nat):Code->Fr->Option (X×Fr)
 | .skip,fr=>some (.n,fr)
 | .label _,fr=>some (.n,fr)
 | .region id ops draw,fr=>
   if draw then(match z9E P C cf id ops (zwn fr (cf.fz id)) with
    |some fr1=>(match z7z P ops.toList fr1 with|some fr2=>some (.n,fr2)|none=>none)
    |none=>none)
   else(match zf5 P C cf.wio ops ops.toList (zwn fr (cf.fz id)) with|some fr'=>some (.n,fr')|none=>none)
 | .seq a b,fr=>(match z2H P C cf LF a fr with
   |some (.n,fr')=>z2H P C cf LF b fr'
   |r=>r)
 | .cond c x y,fr=>(match rdV (opE fr c) with
   |some (.bool true)=>z2H P C cf LF x fr
   |some (.bool false)=>z2H P C cf LF y fr
   |_=>none)
 | .block id c,fr=>(match z2H P C cf LF c fr with
   |some (.x i,fr')=>if i=id then some (.n,fr') else some (.x i,fr')
   |r=>r)
 | .scope c,fr=>z2H P C cf LF c fr
 | .loop c,fr=>zdo (fun fr=>z2H P C cf LF c fr) (za2 (cf.live (zc7 c))) LF fr
 | .exit id,fr=>some (.x id,fr)
 | .ret,fr=>some (.r,fr)
 |_,_=>none
def ztB(ops:Array Oper)(sch:List (Nat×Nat)):Bool:=
 decide ((zda ops sch).length=ops.toList.length)&&Region.noSelect ops&&ziC .any ops (zda ops sch) (Array.replicate ops.toList.length false)
def zcr(ops:Array Oper)(t:SchT):Bool:=
 decide (t.depth=ops.toList.length)&&Region.noSelect ops&&z4S .any ops true t (Array.replicate ops.toList.length false)
def okC(cf:Cfg):Code->Bool
 | .region id ops draw=> !draw||(match cf.dt id with|some t=>zcr ops t|none=>(match cf.dr id with|some sch=>ztB ops sch|none=>true))
 | .seq a b=>okC cf a&&okC cf b
 | .cond _ x y=>okC cf x&&okC cf y
 | .block _ c=>okC cf c
 | .loop c=>okC cf c
 | .scope c=>okC cf c
 |_=>true
theorem zFy{p:Nat->Prop}:∀ {n:Nat},p n->∃m,p m/\ ∀k,p k->m<=k:=by
 intro n
 induction n using Nat.strongRecOn with
 |_ n ih=>
  intro h
  by_cases hc:∃k,k<n/\p k
  · obtain⟨k,hk,hp⟩:=hc
    exact ih k hk hp
  · exact⟨n,h,fun k hp=>Nat.le_of_not_lt fun hk=>hc ⟨k,hk,hp⟩⟩
theorem zkn{c:Code}{Q:Exit->Act->World->Prop}(J:Nat->Act->World->Prop)(round:∀n a w,J n a w->c.wp P (Exit.then (fun a' w'=>∃m,m<n/\J m a' w') Q) a w){n:Nat}(h:J n a w):(Code.loop c).wp P Q a w:=by
 classical
 let L:Act->World->Nat->Prop:=fun a w m=>J m a w/\ ∀k,J k a w->m<=k
 have hL:∀a w,(∃n,J n a w)->∃m,L a w m:=fun a w ⟨n,hn⟩=>zFy hn
 refine wp_loop (fun a w=>∃n,J n a w) (fun a w=>if h:∃m,L a w m then h.choose else 0) ⟨n,h⟩ fun a w hI=> ?_
 have hI2:=hL a w hI
 obtain⟨hj,hmin⟩:=hI2.choose_spec
 refine Code.wp_mono (fun e a' w' hq=> ?_) (round _ a w hj)
 cases e with
 |normal=>
  obtain⟨m,hm,hJ⟩:=hq
  refine⟨⟨m,hJ⟩,?_⟩
  have hI':=hL a' w' ⟨m,hJ⟩
  rw[dif_pos hI',dif_pos hI2]
  exact YY (hI'.choose_spec.2 m hJ) hm
 |exit id=>exact hq
 |goto l=>exact hq
 |ret=>exact hq
 |panic ch=>exact hq
 |outgrown=>exact hq
theorem zcD{I:World->(Nat->z0a)->Prop}{C:z0g}{cf:Cfg}{LF:Nat}(hI:EnvS I)(hC:z8E P I C)(hm:P.follows .mixedOrders=true):∀(c:Code) {w:World} {K:Nat->z0a} {R G:Nat->Value} {fr fr':Fr} {x:X} {a:Act} {Q:Exit->Act->World->Prop},okC cf c=true->FRep w K R G fr a->I w K->
 z2H P C cf LF c fr=some (x,fr')->(∀a' w' K' R',FRep w' K' R' G fr' a'->Step w K w' K'->Q (zsk x) a' w')->c.wp P Q a w:=by
 intro c
 induction c with
 |skip=>intro w K R G fr fr' x a Q ho h hIw hf hq;cases hf;exact wp_skip (hq a w K R h (Step.refl _ _))
 |label l=>intro w K R G fr fr' x a Q ho h hIw hf hq;cases hf;exact wp_label (hq a w K R h (Step.refl _ _))
 |exit id=>intro w K R G fr fr' x a Q ho h hIw hf hq;cases hf;exact wp_exit (hq a w K R h (Step.refl _ _))
 |ret=>intro w K R G fr fr' x a Q ho h hIw hf hq;cases hf;exact wp_ret (hq a w K R h (Step.refl _ _))
 |goto l=>intro w K R G fr fr' x a Q ho h hIw hf hq;cases hf
 |scope c ih=>
  intro w K R G fr fr' x a Q ho h hIw hf hq
  simp only[okC] at ho
  simp only[z2H] at hf
  refine wp_scope_straight (ih ho h hIw hf fun a' w' K' R' hr hs=> ?_)
  have:=hq a' w' K' R' hr hs
  cases x<;>exact this
 |refuse s=>intro w K R G fr fr' x a Q ho h hIw hf hq;cases hf
 |rangeFunc=>intro w K R G fr fr' x a Q ho h hIw hf hq;cases hf
 |region id ops draw=>
  intro w K R G fr fr' x a Q ho h hIw hf hq
  simp only[z2H] at hf
  split at hf
  · rename_i hd
    subst hd
    split at hf
    · rename_i fr1 h1
      split at hf
      · rename_i fr2 h2
        cases hf
        obtain⟨Kz,hz,hsz⟩:=zpi (l:=cf.fz id) h
        have hd2:FRep w.drew Kz R G (zwn fr (cf.fz id)) a:=hz.keep ⟨fun b hb e=>⟨e,rfl⟩,fun b hb _=>⟨rfl,rfl⟩,Z8 _⟩
        have hId:I w.drew Kz:=hI.keep (hI.step hIw hsz) (Z8 _) fun b hb e=>⟨e,rfl⟩
        have hfin:∀a' w' K' R',FRep w' K' R' G fr1 a'->Step w.drew Kz w' K'->Q .normal a' w':=fun a' w' K' R' hr hs=>by
         obtain⟨K2,R2,e1,e2⟩:=zeG hr h2
         have hs0:Step w Kz w' K':=⟨hs.os,hs.tape,hs.output,hs.size,hs.old,hs.sz⟩
         exact hq a' w' K2 R2 e1 ((hsz.trans hs0).trans e2)
        rw[show Code.region id ops true=Code.region id ops.toList.toArray true by rw[Yw]]
        unfold z9E at h1
        split at h1
        · rename_i t ht
          simp only[okC,ht,zcr,Xt,Xu,Z6,decide_eq_true_eq] at ho
          obtain⟨⟨o1,o2⟩,o3⟩:=ho
          refine ziY t (clsA (cf.wr id).isEmpty w.drew Kz (cf.wr id).contains) (Fro w.drew Kz) (fun y=>y=w.drew) hm o1 (by rw[Yw];exact o2) (by rw[Yw];exact o3) (fun y hy=>hy.fro) (fun y hy=>by subst hy;exact clsA.self _ _ _ _) rfl ?_
          rw[Yw]
          exact z6U hI hC hd2 hId h1 hfin
        · rename_i ht
          split at h1
          · rename_i sch hsch
            simp only[okC,ht,hsch,ztB,Xt,Xu,Z6,decide_eq_true_eq] at ho
            obtain⟨⟨o1,o2⟩,o3⟩:=ho
            refine zf0 sch (clsA (cf.wr id).isEmpty w.drew Kz (cf.wr id).contains) (Fro w.drew Kz) (fun y=>y=w.drew) hm (by rw[Yw];exact o1) (by rw[Yw];exact o2) (by rw[Yw];exact o3) (fun y hy=>hy.fro) (fun y hy=>by subst hy;exact clsA.self _ _ _ _) rfl ?_
            rw[Yw]
            exact z8J hI hC hd2 hId h1 hfin
          · cases h1
      · cases hf
    · cases hf
  · rename_i hd
    have hd':draw=false:=by simpa using hd
    subst hd'
    split at hf
    · rename_i fr1 h1
      cases hf
      obtain⟨Kz,hz,hsz⟩:=zpi (l:=cf.fz id) h
      exact wp_region_list (ziz hI hC hz (hI.step hIw hsz) h1 fun a' w' K' R' hr hs=>hq a' w' K' R' hr (hsz.trans hs))
    · cases hf
 |seq c1 c2 ih1 ih2=>
  intro w K R G fr fr' x a Q ho h hIw hf hq
  simp only[okC,Z6] at ho
  simp only[z2H] at hf
  refine wp_seq ?_
  split at hf
  · rename_i fr1 h1
    exact ih1 ho.1 h hIw h1 fun a1 w1 K1 R1 hr hs=>ih2 ho.2 hr (hI.step hIw hs) hf fun a2 w2 K2 R2 hr2 hs2=>hq a2 w2 K2 R2 hr2 (hs.trans hs2)
  · rename_i hne
    cases x with
    |n=>exact absurd hf (hne _)
    |x id=>exact ih1 ho.1 h hIw hf fun a1 w1 K1 R1 hr hs=>hq a1 w1 K1 R1 hr hs
    |r=>exact ih1 ho.1 h hIw hf fun a1 w1 K1 R1 hr hs=>hq a1 w1 K1 R1 hr hs
 |cond c x1 y1 ih1 ih2=>
  intro w K R G fr fr' x a Q ho h hIw hf hq
  simp only[okC,Z6] at ho
  simp only[z2H] at hf
  split at hf
  · rename_i hc
    obtain⟨e1,-⟩:=z1v (h.opE c) hc
    exact wp_cond_true e1 (ih1 ho.1 h hIw hf hq)
  · rename_i hc
    obtain⟨e1,-⟩:=z1v (h.opE c) hc
    exact wp_cond_false e1 (ih2 ho.2 h hIw hf hq)
  · cases hf
 |block id c ih=>
  intro w K R G fr fr' x a Q ho h hIw hf hq
  simp only[okC] at ho
  simp only[z2H] at hf
  refine wp_block ?_
  split at hf
  · rename_i i fr1 h1
    split at hf
    · rename_i hi
      cases hf
      exact ih ho h hIw h1 fun a1 w1 K1 R1 hr hs=>by
       simp only[zsk,Exit.inBlock,if_pos hi];exact hq a1 w1 K1 R1 hr hs
    · rename_i hi
      cases hf
      exact ih ho h hIw h1 fun a1 w1 K1 R1 hr hs=>by
       simp only[zsk,Exit.inBlock,if_neg hi];exact hq a1 w1 K1 R1 hr hs
  · rename_i hne
    cases x with
    |n=>exact ih ho h hIw hf fun a1 w1 K1 R1 hr hs=>hq a1 w1 K1 R1 hr hs
    |x i=>exact absurd hf (hne _ _)
    |r=>exact ih ho h hIw hf fun a1 w1 K1 R1 hr hs=>hq a1 w1 K1 R1 hr hs
 |loop c ih=>
  intro w K R G fr fr' x a Q ho h hIw hf hq
  simp only[okC] at ho
  simp only[z2H] at hf
  refine zkn (fun n a1 w1=>∃fr1 K1 R1,FRep w1 K1 R1 G fr1 a1/\Step w K w1 K1/\zdo (fun fr=>z2H P C cf LF c fr) (za2 (cf.live (zc7 c))) n fr1=some (x,fr')) (fun n a1 w1 hJ=> ?_) ⟨fr,K,R,h,Step.refl _ _,hf⟩
  obtain⟨fr1,K1,R1,h1,hs1,hi⟩:=hJ
  cases n with
  |zero=>cases hi
  |succ n=>
   simp only[zdo] at hi
   split at hi
   · rename_i fr2 h2
     exact ih ho (h1.canon _) (hI.step hIw hs1) h2 fun a2 w2 K2 R2 hr hs=>⟨n,X9 n,fr2,K2,R2,hr,hs1.trans hs,hi⟩
   · rename_i x2 fr2 hne h2
     cases hi
     cases x with
     |n=>exact absurd rfl (hne)
     |x i=>exact ih ho (h1.canon _) (hI.step hIw hs1) h2 fun a2 w2 K2 R2 hr hs=>hq a2 w2 K2 R2 hr (hs1.trans hs)
     |r=>exact ih ho (h1.canon _) (hI.step hIw hs1) h2 fun a2 w2 K2 R2 hr hs=>hq a2 w2 K2 R2 hr (hs1.trans hs)
   · cases hi
end
section
variable{K:Nat->z0a}{w:World}
def zay(i:Nat):T->E
 | .vr _=>.one (.a i [] 0)
 | .os _ _ _=>.one (.h i [])
 | .vo off _=>.one (.a i [] off)
 | .pr cs=>.one (.ea none cs 0)
 |t=>.one (.t none t)
def z8q(nt:Nat):List T->Nat->List (Nat×E)
 | [],_=> []
 |t::ts,i=>if z7q t then(i,zay i t)::(nt+1000+i,zay i t)::z8q nt ts (i+1) else(i,zay i t)::z8q nt ts (i+1)
def zCt:T->T
 | .vo _ cs=>.vr cs
 |t=>t
def z8f:List T->Nat->List (Nat×T)
 | [],_=> []
 |t::ts,i=>if z7q t then(i,zCt t)::z8f ts (i+1) else z8f ts (i+1)
theorem zez:∀(ts:List T) (i j:Nat) (t:T),z2i (z8f ts i) j=some t->i<=j/\ ∃t0,t=zCt t0/\ts[j-i]? =some t0/\z7q t0=true
 | [],i,j,t,h=>by cases h
 |t0::ts,i,j,t,h=>by
  simp only[z8f] at h
  split at h
  · rename_i hio
    simp only[z2i] at h
    split at h
    · rename_i e
      cases h
      subst e
      exact⟨Z8 _,t0,rfl,by simp,hio⟩
    · obtain⟨h1,t1,h0,h2,h3⟩:=zez ts (i+1) j t h
      exact⟨by omega,t1,h0,by rw[show j-i=(j-(i+1))+1 by omega,ZT];exact h2,h3⟩
  · obtain⟨h1,t1,h0,h2,h3⟩:=zez ts (i+1) j t h
    exact⟨by omega,t1,h0,by rw[show j-i=(j-(i+1))+1 by omega,ZT];exact h2,h3⟩
theorem zm2:∀(ts:List T) (i j:Nat) (t:T),ts[j]? =some t->z7q t=true->z2i (z8f ts i) (i+j)=some (zCt t)
 | [],i,j,t,h,_=>by simp at h
 |t0::ts,i,0,t,h,hio=>by
  simp at h;subst h
  simp[z8f,hio,z2i]
 |t0::ts,i,j+1,t,h,hio=>by
  have ih:=zm2 ts (i+1) j t (by simpa using h) hio
  rw[show i+1+j=i+(j+1) by omega] at ih
  simp only[z8f]
  split
  · simp only[z2i];rw[if_neg (by omega)];exact ih
  · exact ih
theorem ziQ(nt:Nat):∀(ts:List T) (i k:Nat),z3g (z8q nt ts i) k= .one .dead∨ ∃j t,ts[j]? =some t/\z3g (z8q nt ts i) k=zay (i+j) t/\(k=i+j∨(z7q t=true/\k=nt+1000+(i+j)))
 | [],i,k=>.inl rfl
 |t::ts,i,k=>by
  have rest:z3g (z8q nt ts (i+1)) k= .one .dead∨ ∃j t',(t::ts)[j]? =some t'/\z3g (z8q nt ts (i+1)) k=zay (i+j) t'/\(k=i+j∨(z7q t'=true/\k=nt+1000+(i+j))):=by
   rcases ziQ nt ts (i+1) k with h|⟨j,t',h1,h2,h3⟩
   · exact .inl h
   · refine .inr ⟨j+1,t',by simpa using h1,by rw[h2];congr 1;omega,?_⟩
     rcases h3 with h3|⟨h3,h4⟩
     · left;omega
     · right;exact⟨h3,by omega⟩
  simp only[z8q]
  split
  · rename_i hio
    simp only[z3g]
    split
    · rename_i e;exact .inr ⟨0,t,rfl,rfl,.inl e.symm⟩
    · split
      · rename_i e;exact .inr ⟨0,t,rfl,rfl,.inr ⟨hio,e.symm⟩⟩
      · exact rest
  · simp only[z3g]
    split
    · rename_i e;exact .inr ⟨0,t,rfl,rfl,.inl e.symm⟩
    · exact rest
def z8g(nt:Nat)(args:List T):Fr:=⟨nt,z8q nt args 0,z8f args 0⟩
def zyp:Option T->Value->Value
 |some (.vo _ _),.pointer (some a)=>.pointer (some ⟨a.block,0,none⟩)
 |_,v=>v
theorem zm1{args:List T}{vals:Array Value}{nt:Nat}(hs:vals.size=args.length)(hr:∀i t,args[i]? =some t->ziX w K i (vals.getD i undef) t)(hn:args.length<=nt):
 FRep w K (fun i=>zyp (args[i]?) (vals.getD i undef)) (fun i=>vals.getD (i-(nt+1000)) undef) (z8g nt args) {tmps:=vals++Array.replicate (nt-vals.size) undef,defers:= []}:=by
 refine⟨fun k=> ?_,fun id t ht=> ?_,by simp[z8g];omega,rfl⟩
 · show ERep w K _ (z8f args 0) (z3g (z8q nt args 0) k) _
   rcases ziQ nt args 0 k with h|⟨j,t,h1,h2,h3⟩
   · rw[h];trivial
   · rw[h2,Zs]
     have hlt:=(Za.1 h1).1
     have hreg:zaD {tmps:=vals++Array.replicate (nt-vals.size) undef,defers:= []} (fun i=>vals.getD (i-(nt+1000)) undef) k=vals.getD j undef:=by
      rcases h3 with e|⟨_,e⟩
      · have hk:k=j:=by omega
        subst hk
        rw[zaD,if_pos (by simp;omega)]
        simp only[Zb,Xo]
        rw[if_pos (by omega)]
      · rw[zaD,if_neg (by simp;omega),e,show nt+1000+(0+j)-(nt+1000)=j by omega]
     rw[hreg]
     have hr':=hr j t h1
     unfold ziX at hr'
     have hob:z7q t=true->z2i (z8f args 0) j=some (zCt t):=fun hio=>by
      have:=zm2 args 0 j t h1 hio
      rwa [Zs] at this
     cases t with
     |vr cs=>
      have hob':=hob rfl
      simp only[z7q,if_true] at hr'
      generalize hv:vals.getD j undef=v at hr'
      have hvv:v=vals.getD j undef:=hv.symm
      cases hr' with
      |vr c g cs arr e fz F hfz hc0 hK hg hl hF hh=>exact⟨_,g,rfl,by simp[hv,h1,zyp,z7y],rfl,_,hob',rfl⟩
     |os sz n cs=>exact⟨by simp[h1,zyp,nav],_,hob rfl,rfl⟩
     |vo off cs=>
      have hob':=hob rfl
      simp only[z7q,if_true] at hr'
      generalize hv:vals.getD j undef=v at hr'
      cases hr' with
      |vo c g off cs h2=>exact⟨.pointer (some ⟨g,0,none⟩),g,by simp[hv,h1,zyp,nav],rfl,rfl,_,hob',rfl⟩
     |pr cs=>
      simp only[z7q,ZP,if_false] at hr'
      generalize hv:vals.getD j undef=v at hr'
      cases hr' with
      |pr c g o cs F hK hg hF hh=>exact⟨g,o,F,rfl,hK,hg,hF,hh,fun _ e=>by cases e⟩
     |sc v=>exact⟨hr',fun _ e=>by cases e⟩
     |dead=>exact⟨hr',fun _ e=>by cases e⟩
     |agg cs=>exact⟨hr',fun _ e=>by cases e⟩
     |tup cs=>exact⟨hr',fun _ e=>by cases e⟩
     |mp kk es=>exact⟨hr',fun _ e=>by cases e⟩
     |mr kk es=>exact⟨hr',fun _ e=>by cases e⟩
     |mt=>exact⟨hr',fun _ e=>by cases e⟩
     |ms=>exact⟨hr',fun _ e=>by cases e⟩
     |cl f cs=>exact⟨hr',fun _ e=>by cases e⟩
     |sl n cs=>exact⟨hr',fun _ e=>by cases e⟩
 · obtain⟨h1,t0,h0,h2,h3⟩:=zez args 0 id t ht
   have h2':args[id]? =some t0:=by simpa using h2
   have:=hr id t0 h2'
   unfold ziX at this
   rw[h3] at this
   simp only[if_true] at this
   rw[h2',h0]
   cases t0 with
   |vo off cs=>
    generalize hv:vals.getD id undef=v at this
    cases this with
    |vo c g off cs h2=>exact h2
   |_=>exact this
def zC9(P:Program)(fr:Fr):ResultVar->Option E
 | .tmp t=>if t<fr.nt then some (z3g fr.tm t) else none
 | .cell ad ty=>if ad<fr.nt then zr1 P noM fr ty (z3g fr.tm ad) else none
def ztb(P:Program)(fr:Fr):List ResultVar->Option (List E)
 | []=>some []
 |r::rs=>match zC9 P fr r,ztb P fr rs with|some e,some es=>some (e::es)|_,_=>none
def zBA:ResultVar->Array Value->Sem Value
 | .tmp t,tmps=>pure (tmps.getD t undef)
 | .cell a t,tmps=>do loadVar t (←asAddr (tmps.getD a undef))
theorem zx9{P:Program}{R G:Nat->Value}{fr:Fr}{a:Act}{r:ResultVar}{e:E}(h:FRep w K R G fr a)(hr:zC9 P fr r=some e):∃v,ERep w K R fr.ob e v/\(zBA r a.tmps).run P w= .ok v w:=by
 have hreg:∀t,t<fr.nt->ERep w K R fr.ob (z3g fr.tm t) (a.tmps.getD t undef):=fun t ht=>by
  have:=h.tm t
  rwa [zaD,if_pos (by rw[h.nt];exact ht)] at this
 cases r with
 |tmp t=>
  simp only[zC9] at hr
  split at hr
  · rename_i ht
    cases hr
    exact⟨_,hreg t ht,by simp[zBA]⟩
  · cases hr
 |cell ad ty=>
  simp only[zC9] at hr
  split at hr
  · rename_i ht
    obtain⟨v,h1,h2⟩:=zoP h (hreg ad ht) hr
    refine⟨v,h1,?_⟩
    have h3:=h2 w (Stay.refl w K noM)
    have hp:∃ad',a.tmps.getD ad undef= .pointer (some ad'):=by
     have hx:=hreg ad ht
     unfold zr1 at hr
     split at hr
     · cases hr
     · split at hr
       · rename_i id p off hg
         rw[hg] at hx
         obtain⟨hv,g,_,_,n5,_⟩:=hx
         exact⟨_,n5⟩
       · rename_i dep cs off hg
         rw[hg] at hx
         obtain⟨g,o,F,n5,_⟩:=hx
         exact⟨_,n5⟩
       · cases hr
    obtain⟨ad',hp⟩:=hp
    rw[hp] at h3
    simp only[zBA,hp,asAddr,Zc,Zk,Z3]
    simpa[Instr.loadAt,Instr.sureAddr] using h3
  · cases hr
theorem zlm{P:Program}{w:World}{K:Nat->z0a}{R G:Nat->Value}{fr:Fr}{a:Act}(h:FRep w K R G fr a):∀ {rs:List ResultVar} {es:List E},ztb P fr rs=some es->
 ∃vs:List Value,vs.length=es.length/\es.length=rs.length/\(∀j e,es[j]? =some e->ERep w K R fr.ob e (vs.getD j undef))/\(rs.mapM (fun r=>zBA r a.tmps)).run P w= .ok vs w
 | [],es,hr=>by cases hr;exact⟨[],rfl,rfl,fun j e hj=>by simp at hj,by simp⟩
 |r::rs,es,hr=>by
  simp only[ztb] at hr
  split at hr
  · rename_i e es' h1 h2
    cases hr
    obtain⟨v,a1,a2⟩:=zx9 h h1
    obtain⟨vs,b1,b0,b2,b3⟩:=zlm h h2
    refine⟨v::vs,by simp[b1],by simp[b0],fun j e hj=> ?_,?_⟩
    · match j,hj with
      |0,hj=>simp at hj;subst hj;simpa using a1
      |j+1,hj=>simpa using b2 j e (by simpa using hj)
    · rw[List.mapM_cons]
      simp only[Zc,a2,b3,Z3,Zk]
  · cases hr
def zla:E->T
 | .one _=>.dead
 | .ag xs=>.agg (xs.map fun _=>.dead)
def zbY:List E->List A
 | []=> []
 | .one x::es=>x::zbY es
 | .ag xs::es=>xs++zbY es
def zeR:Nat->Nat->List E->List (List Nat×Nat)
 |_,_,[]=> []
 |j,base,.one x::es=>([j],base)::zeR (j+1) (base+1) es
 |j,base,.ag xs::es=>(List.range xs.length).map (fun i=>([j,i],base+i))++zeR (j+1) (base+xs.length) es
theorem zcq{w:World}{K:Nat->z0a}{R:Nat->Value}{ob:List (Nat×T)}:∀ {es:List E} {us:List Value} {j0 base:Nat},us.length=es.length->(∀j e,es[j]? =some e->ERep w K R ob e (us.getD j undef))->
 ∃vs:List Value,vs.length=(zbY es).length/\(∀k x,(zbY es)[k]? =some x->ARep w K R ob x (vs.getD k undef))/\
  ∀q r,(q,r)∈zeR j0 base es->∃k,k<vs.length/\r=base+k/\ ∃j q',q=(j0+j)::q'/\j<es.length/\nav w (us.getD j undef) q'=some (vs.getD k undef)
 | [],us,j0,base,hl,hr=>⟨[],rfl,fun k x hk=>by simp[zbY] at hk,fun q r hm=>by cases hm⟩
 | .one x::es,us,j0,base,hl,hr=>by
   match us,hl with
   |u::us,hl=>
    obtain⟨vs,a1,a2,a3⟩:=zcq (es:=es) (us:=us) (j0:=j0+1) (base:=base+1) (by simpa using hl) (fun j e hj=>by simpa using hr (j+1) e (by simpa using hj))
    refine⟨u::vs,by simp[zbY,a1],fun k y hk=> ?_,fun q r hm=> ?_⟩
    · match k,hk with
      |0,hk=>simp[zbY] at hk;subst hk;exact(hr 0 (.one x) rfl:ERep w K R ob (.one x) u)
      |k+1,hk=>simpa using a2 k y (by simpa[zbY] using hk)
    · simp only[zeR] at hm
      rcases Zv.1 hm with hm|hm
      · cases hm
        exact⟨0,by simp,by simp,0,[],by simp,by simp,by simp[nav]⟩
      · obtain⟨k,k1,k2,j,q',k3,k4,k5⟩:=a3 q r hm
        exact⟨k+1,by simpa using k1,by omega,j+1,q',by rw[k3];congr 1;omega,by simpa using k4,by simpa using k5⟩
 | .ag xs::es,us,j0,base,hl,hr=>by
   match us,hl with
   |u::us,hl=>
    obtain⟨arr,b1,b2,b3⟩:=hr 0 (.ag xs) rfl
    obtain⟨vs,a1,a2,a3⟩:=zcq (es:=es) (us:=us) (j0:=j0+1) (base:=base+xs.length) (by simpa using hl) (fun j e hj=>by simpa using hr (j+1) e (by simpa using hj))
    have hal:arr.toList.length=xs.length:=by simpa using b2
    refine⟨arr.toList++vs,by simp[zbY,a1,b2],fun k y hk=> ?_,fun q r hm=> ?_⟩
    · simp only[zbY] at hk
      by_cases hlt:k<xs.length
      · rw[ZH hlt] at hk
        have:=b3 k y hk
        have e1:(arr.toList++vs).getD k undef=arr.getD k undef:=by
         simp only[X4,ZH (show k<arr.toList.length by omega),Zx,Zb]
        rw[e1];exact this
      · rw[Y2 (by omega)] at hk
        have:=a2 _ y hk
        have e1:(arr.toList++vs).getD k undef=vs.getD (k-xs.length) undef:=by
         simp only[X4,Y2 (show arr.toList.length<=k by omega),hal]
        rw[e1];exact this
    · simp only[zeR,Ze,Zh,Zj] at hm
      rcases hm with⟨i,hi,he⟩|hm
      · cases he
        have hia:i<arr.size:=by omega
        refine⟨i,by simp;omega,rfl,0,[i],by simp,by simp,?_⟩
        have e1:(arr.toList++vs).getD i undef=arr.getD i undef:=by
         simp only[X4,ZH (show i<arr.toList.length by omega),Zx,Zb]
        rw[e1]
        have hu:(u::us).getD 0 undef= .agg arr:=by simpa using b1
        rw[hu]
        simp[nav,zf9,Zb,hia]
      · obtain⟨k,k1,k2,j,q',k3,k4,k5⟩:=a3 q r hm
        refine⟨xs.length+k,by simp;omega,by omega,j+1,q',by rw[k3];congr 1;omega,by simpa using k4,?_⟩
        have e1:(arr.toList++vs).getD (xs.length+k) undef=vs.getD k undef:=by
         simp only[X4,Y2 (show arr.toList.length<=xs.length+k by omega),hal]
         congr 2;omega
        rw[e1];simpa using k5
end
section
variable{a:Act}{cf:Cfg}{fr:Fr}{fn:Func}{args outs:List T}{G R:Nat->Value}{K:Nat->z0a}{P:Program}{r:T}{w:World}
def zCv(fr:Fr)(g:Nat):T:=
 match z3g fr.tm g with
 | .one (.h e [])=>(match z2i fr.ob e with|some t=>t|none=>.dead)
 | .one (.a e [] 0)=>(match z2i fr.ob e with|some (.vr cs)=>.vr cs|_=>.dead)
 |_=>.dead
def zCu(fr:Fr)(g:Nat):T:=
 match z3g fr.tm g with
 | .one (.a e [] off)=>(match z2i fr.ob e with|some (.vr cs)=>.vo off cs|_=>.dead)
 |_=>.dead
def zEC:T->Bool
 | .vo _ _=>true
 |_=>false
theorem TRep.vr_val{c:z0a}{v:Value}{cs:List T}{g:Nat}(h:TRep w K c v (.vr cs))(hb:z7y v=some g):v= .pointer (some ⟨g,0,none⟩):=by
 cases h with
 |vr c g' cs arr e fz F hfz hc0 hK hg hl hF hh=>
  simp only[z7y,Z9] at hb
  rw[hb]
def zqR(fr:Fr)(g:Nat):Option Nat:=
 match z3g fr.tm g with
 | .one (.h e [])=>some e
 | .one (.a e [] _)=>some e
 |_=>none
def zlw(fr:Fr)(nt:Nat):List T->Nat->List T
 | [],_=> []
 |t::ts,i=>(if zEC t then zCu fr (nt+1000+i) else if z7q t then zCv fr (nt+1000+i) else .dead)::zlw fr nt ts (i+1)
theorem zlv(fr:Fr)(nt:Nat):∀(ts:List T) (i j:Nat) (t:T),ts[j]? =some t->z7q t=true->(zlw fr nt ts i)[j]? =some (if zEC t then zCu fr (nt+1000+(i+j)) else zCv fr (nt+1000+(i+j)))
 | [],i,j,t,h,_=>by simp at h
 |t0::ts,i,0,t,h,hio=>by simp at h;subst h;simp[zlw,hio]
 |t0::ts,i,j+1,t,h,hio=>by
  simp only[zlw,ZT]
  rw[zlv fr nt ts (i+1) j t (by simpa using h) hio]
  rw[show i+1+j=i+(j+1) by omega]
def zjt:List T->Nat->Option Nat
 | [],_=>none
 |t::ts,i=>if z7q t then some i else zjt ts (i+1)
theorem zoX:∀(ts:List T) (i j:Nat) (t:T),(ts.filter z7q).length<=1->ts[j]? =some t->z7q t=true->zjt ts i=some (i+j)
 | [],i,j,t,_,h,_=>by simp at h
 |t0::ts,i,0,t,_,h,hio=>by simp at h;subst h;simp[zjt,hio]
 |t0::ts,i,j+1,t,hl,h,hio=>by
  have h':ts[j]? =some t:=by simpa using h
  by_cases h0:z7q t0=true
  · exfalso
    have hm:t∈ts.filter z7q:=by simp[ZS h',hio]
    have:=YI hm
    simp only[Xa,h0,if_true,Zq] at hl
    omega
  · have h0':z7q t0=false:=by simpa using h0
    simp only[zjt,h0',ZP,if_false]
    rw[zoX ts (i+1) j t (by simpa[Xa,h0'] using hl) h' hio]
    congr 1;omega
def ztv(fr:Fr)(nt:Nat)(args:List T):Option Nat:=match zjt args 0 with|some i=>zqR fr (nt+1000+i)|none=>none
def zCh(fr:Fr)(nt:Nat)(args:List T):Fr:=
 match zjt args 0 with
 |none=>fr
 |some i=>match z3g fr.tm (nt+1000+i) with
  | .one (.a e (j::p) 0)=>(zea fr e (j::p) (fr.nt+7)).getD fr
  |_=>fr
def zpm(P:Program)(fn:Func)(args:List T)(fr:Fr):Option (T×List T):=
 match ztb P fr fn.results.toList with
 |none=>none
 |some es=>
  if(zbY es).length<=900/\fr.nt=fn.ntmps then
   match plugL true {fr with tm:=z7u (kill fr.nt) (putR fr.tm (fr.nt+1) (zbY es)),ob:=z6T fr.ob fr.nt (.tup (es.map zla))} fr.nt (zeR 0 (fr.nt+1) es) with
   |none=>none
   |some fr2=>
    if ztv fr2 fn.ntmps args=some fr.nt then none else
    match z2i fr2.ob fr.nt with
    |some (.tup ts)=>
     if es.length=1 then(match ts with| [t]=>some (t,zlw fr2 fn.ntmps args 0)|_=>none)
     else some (.tup ts,zlw fr2 fn.ntmps args 0)
    |_=>none
  else none
def zey(P:Program)(fn:Func)(args:List T)(fr:Fr):Option (T×List T):=zpm P fn args (zCh fr fn.ntmps args)
def zAt(cf:Cfg)(o:Option (T×List T)):Option (T×List T):=match cf.fz 999998 with|none=>o|some _=>o.map fun x=>(z1Z x.1,x.2)
def dz:z0a->z0a
 |0::_=> []
 |c=>c
theorem ztD{o:Option (T×List T)}(h:zAt cf o=some (r,outs)):∃r0,o=some (r0,outs)/\(r=r0∨r=z1Z r0):=by
 unfold zAt at h
 split at h
 · exact⟨r,h,.inl rfl⟩
 · rw[Z5] at h
   obtain⟨⟨r0,outs0⟩,h1,h2⟩:=h
   cases h2
   exact⟨r0,h1,.inr rfl⟩
noncomputable def zkb(P:Program)(C:z0g)(cf:Cfg)(LF:Nat)(fn:Func)(args:List T):Option (T×List T):=
 if args.length<=fn.ntmps/\(args.filter z7q).length<=1 then
  match fn.body with
  |none=>none
  |some c=>match z2H P C cf LF c (z8g fn.ntmps args) with
   |some (.n,fr)=>zAt cf (zey P fn args fr)
   |some (.r,fr)=>zAt cf (zey P fn args fr)
   |_=>none
 else none
theorem zsR{ob:List (Nat×T)}{e:E}{u:Value}(h:ERep w K R ob e u)(c:z0a):TRep w K c u (zla e):=by
 cases e with
 |one x=>exact .dead c u
 |ag xs=>
  obtain⟨arr,rfl,h2,h3⟩:=h
  refine .agg c arr _ (fun j=>arr.getD j undef) (by simpa using h2) (fun j hj=>z6h _ _ (by simp at hj;omega)) (fun j t ht=> ?_)
  simp only[Zd,Z5] at ht
  obtain⟨y,hy,rfl⟩:=ht
  exact .dead _ _
theorem zqF(fn:Func)(tmps:Array Value):results fn tmps=(do let vs←fn.results.mapM (fun r=>zBA r tmps);pure (if h:vs.size=1 then vs[0] else .tuple vs)):=by
 unfold results
 congr 1
 congr 1
 funext r
 cases r<;>rfl
def zwo(N:Nat)(e0:Option (Nat×Nat))(one:Bool):z0a->z0a
 | []=> []
 |h::s=>if h=N+2 then(if one then(match s with|0::s'=>0::s'|_=> [1]) else 0::s)
  else match e0 with|some (e,i)=>if h=e+2 then(i+2)::s else [1]|none=> [1]
theorem zpl(h:FRep w K R G fr a)(hx:zpm P fn args fr=some (r,outs))(h1:(args.filter z7q).length<=1):
 ∃v K',(results fn a.tmps).run P w= .ok v w/\TRep w K' [0] v r/\(∀i t,args[i]? =some t->z7q t=true->∃t',outs[i]? =some t'/\TRep w K' (col i) (G (fn.ntmps+1000+i)) t')/\Step w K w K':=by
 unfold zpm at hx
 split at hx
 case h_1=>cases hx
 case h_2 es hes=>
 split at hx
 case isFalse=>cases hx
 case isTrue hc=>
 obtain⟨hfl,hnt⟩:=hc
 split at hx
 case h_1=>cases hx
 case h_2 fr2 hpl=>
 split at hx
 · cases hx
 rename_i hne
 obtain⟨us,u1,u0,u2,u3⟩:=zlm h hes
 obtain⟨vs,v1,v2,v3⟩:=zcq (j0:=0) (base:=fr.nt+1) u1 u2
 have hp:=h.putR (base:=fr.nt+1) (xs:=zbY es) (us:=fun j=>vs.getD j undef) (by omega) v2
 have hrep:TRep w K (col fr.nt) (.tuple us.toArray) (.tup (es.map zla)):=by
  refine .tup _ us.toArray _ (fun j=>us.getD j undef) (by simp[u1]) (fun j hj=> ?_) (fun j t ht=> ?_)
  · have:j<us.length:=by simp at hj;omega
    simp[List.getD,this]
  · simp only[Zd,Z5] at ht
    obtain⟨e,he,rfl⟩:=ht
    exact zsR (u2 j e he) _
 have hq:=hp.replace (d:=fr.nt) (w':=w) (K':=K) (v:=.tuple us.toArray) (t:=.tup (es.map zla)) ⟨fun b hb e=>⟨e,rfl⟩,fun b hb _=>⟨rfl,rfl⟩,Z8 _⟩ hrep
 have hregs:∀k,k<vs.length->zaD a (gv G (fr.nt+1) (fun j=>vs.getD j undef) (zbY es).length) (fr.nt+1+k)=vs.getD k undef:=fun k hk=>by
  rw[zaD,if_neg (by rw[h.nt];omega)]
  simp only[gv]
  rw[if_pos (by omega)]
  congr 1;omega
 obtain⟨K2,R2,q1,q2,q3,q4,_⟩:=hq.plugL (l:=zeR 0 (fr.nt+1) es) (fun q r' hm=>by
  obtain⟨k,k1,rfl,j,q',rfl,k4,k5⟩:=v3 q r' hm
  refine⟨?_,by omega⟩
  rw[hregs k k1]
  have hju:j<us.length:=by omega
  simp only[zaI,if_true,Zs,nav,zf9]
  have:us.toArray[j]? =some (us.getD j undef):=by simp[List.getD,hju]
  rw[this]
  exact k5) hpl
 have hRN:R2 fr.nt= .tuple us.toArray:=by
  rw[q4 fr.nt (fun q r' hm=>by obtain⟨k,k1,rfl,_⟩:=v3 q r' hm;omega)]
  simp[zaI]
 have hres:(results fn a.tmps).run P w= .ok (if us.length=1 then us.getD 0 undef else .tuple us.toArray) w:=by
  rw[zqF]
  have:(fn.results.mapM (fun r=>zBA r a.tmps)).run P w= .ok us.toArray w:=by
   rw[Array.mapM_eq_mapM_toList]
   simp only[map_eq_pure_bind,Zc,u3,Z3,Zk]
  simp only[Zc,this,Z3,Zk]
  congr 1
  by_cases e:us.length=1
  · match us,e with
    | [u],_=>simp
  · rw[dif_neg (by simpa using e),if_neg e]
 let io:Option (Nat×Nat):=match zjt args 0 with|some i=>(match zqR fr2 (fn.ntmps+1000+i) with|some e=>some (e,i)|none=>none)|none=>none
 have hio:∀e i,io=some (e,i)->e≠fr.nt:=fun e i he=>by
  intro heq
  apply hne
  simp only[io] at he
  split at he
  · rename_i i' hi'
    split at he
    · rename_i e' he'
      cases he
      simp only[ztv,hi']
      rw[he',heq]
    · cases he
  · cases he
 let one:Bool:=decide (es.length=1)
 let K3:Nat->z0a:=fun b=>zwo fr.nt io one (K2 b)
 have hK3:∀b,K2 b= []->K3 b= []:=fun b e=>by show zwo fr.nt io one (K2 b)= [];rw[e];rfl
 have hstep:Step w K2 w K3:=⟨rfl,rfl,rfl,Z8 _,fun b hb hc=>⟨by
  show zwo fr.nt io one (K2 b)=K2 b
  rcases hc with e|e
  · rw[e];rfl
  · rw[e]
    simp only[zwo]
    rw[if_neg (by omega)]
    cases io with
    |none=>rfl
    |some x=>
     obtain⟨e',i⟩:=x
     simp only
     rw[if_neg (by omega)],rfl⟩,.same rfl⟩
 have houts:outs=zlw fr2 fn.ntmps args 0->∀i t,args[i]? =some t->z7q t=true->∃t',outs[i]? =some t'/\TRep w K3 (col i) (G (fn.ntmps+1000+i)) t':=fun ho i t ht hit=>by
  refine⟨if zEC t then zCu fr2 (fn.ntmps+1000+i) else zCv fr2 (fn.ntmps+1000+i),by rw[ho,zlv fr2 fn.ntmps args 0 i t ht hit,Zs],?_⟩
  have hidx:=zoX args 0 i t h1 ht hit
  rw[Zs] at hidx
  have hg:=q1.tm (fn.ntmps+1000+i)
  have hgv:zaD a (gv G (fr.nt+1) (fun j=>vs.getD j undef) (zbY es).length) (fn.ntmps+1000+i)=G (fn.ntmps+1000+i):=by
   rw[zaD,if_neg (by rw[h.nt];omega)]
   simp only[gv]
   rw[if_neg (by omega)]
  rw[hgv] at hg
  have hmv0:∀e tt,io=some (e,i)->z2i fr2.ob e=some tt->TRep w K3 (col i) (R2 e) tt:=fun e tt he hob=>by
   have hr:=q1.ob e tt hob
   have hen:=hio e i he
   refine hr.move (fun b s hb hcc hKb=>⟨?_,rfl⟩) (fun b hb e0=>⟨hK3 b e0,rfl⟩) (by simp[col]) (Z8 _)
   show zwo fr.nt io one (K2 b)=_
   rw[hKb,he]
   simp[zwo,col,hen]
  have hmv:∀e tt,io=some (e,i)->z2i fr2.ob e=some tt->R2 e=G (fn.ntmps+1000+i)->TRep w K3 (col i) (G (fn.ntmps+1000+i)) tt:=fun e tt he hob hR=>hR▸hmv0 e tt he hob
  split
  · unfold zCu
    split
    · rename_i e off hge
      have hie:io=some (e,i):=by simp only[io,hidx,zqR,hge]
      split
      · rename_i cs hob
        rw[hge] at hg
        obtain⟨hv,g,n1,n4,n5,_⟩:=hg
        simp only[nav,Z9] at n1
        have hr:=hmv0 e _ hie hob
        rw[n1] at hr
        rw[hr.vr_val n4] at hr
        rw[n5]
        exact .vo _ g off cs hr
      · exact .dead _ _
    · exact .dead _ _
  unfold zCv
  split
  · rename_i e hge
    have hie:io=some (e,i):=by simp only[io,hidx,zqR,hge]
    split
    · rename_i tt hob
      rw[hge] at hg
      obtain⟨n1,_⟩:=hg
      simp only[nav,Z9] at n1
      exact hmv e tt hie hob n1
    · exact .dead _ _
  · rename_i e hge
    have hie:io=some (e,i):=by simp only[io,hidx,zqR,hge]
    split
    · rename_i cs hob
      rw[hge] at hg
      obtain⟨hv,g,n1,n4,n5,_⟩:=hg
      simp only[nav,Z9] at n1
      refine hmv e _ hie hob ?_
      have hr:=q1.ob e _ hob
      rw[n5,n1]
      rw[n1] at hr
      cases hr with
      |vr c g' cs arr e' fz F hfz hc0 hK hg' hl hF hh=>
       simp only[z7y,Z9] at n4
       rw[n4]
    · exact .dead _ _
  · exact .dead _ _
 refine⟨_,K3,hres,?_⟩
 split at hx
 case h_2=>cases hx
 case h_1 ts hob=>
 have htup:=q1.ob fr.nt _ hob
 rw[hRN] at htup
 split at hx
 · rename_i hone
   split at hx
   · rename_i t
     cases hx
     refine⟨?_,houts rfl,q2.trans hstep⟩
     rw[if_pos (by omega)]
     obtain⟨v',k1,k2⟩:=htup.kid (j:=0) (t':=r) (z1F _) rfl
     have hv':v'=us.getD 0 undef:=by
      simp only[zf9] at k1
      have:0<us.length:=by omega
      simp[List.getD,this] at k1⊢
      exact k1.symm
     rw[←hv']
     refine k2.move (fun b s hb hcc hKb=>⟨?_,rfl⟩) (fun b hb e0=>⟨hK3 b e0,rfl⟩) (by simp[col]) (Z8 _)
     show zwo fr.nt io one (K2 b)=_
     rw[hKb]
     simp[zwo,col,one,hone]
   · cases hx
 · rename_i hone
   cases hx
   refine⟨?_,houts rfl,q2.trans hstep⟩
   rw[if_neg (by omega)]
   refine htup.move (fun b s hb hcc hKb=>⟨?_,rfl⟩) (fun b hb e0=>⟨hK3 b e0,rfl⟩) (by simp[col]) (Z8 _)
   show zwo fr.nt io one (K2 b)=_
   rw[hKb]
   simp[zwo,col,one,hone]
theorem zvr(h:FRep w K R G fr a)(hx:zey P fn args fr=some (r,outs))(h1:(args.filter z7q).length<=1):
 ∃v K',(results fn a.tmps).run P w= .ok v w/\TRep w K' [0] v r/\(∀i t,args[i]? =some t->z7q t=true->∃t',outs[i]? =some t'/\TRep w K' (col i) (G (fn.ntmps+1000+i)) t')/\Step w K w K':=by
 unfold zey at hx
 have keep:zCh fr fn.ntmps args=fr∨ ∃e p fr1,zea fr e p (fr.nt+7)=some fr1/\zCh fr fn.ntmps args=fr1:=by
  unfold zCh
  split
  · exact .inl rfl
  · split
    · rename_i e j p _
      cases ht:zea fr e (j::p) (fr.nt+7) with
      |none=>exact .inl rfl
      |some f=>exact .inr ⟨_,_,f,ht,rfl⟩
    · exact .inl rfl
 rcases keep with e|⟨e,p,fr1,e1,e2⟩
 · rw[e] at hx;exact zpl h hx h1
 · rw[e2] at hx
   obtain⟨vp,t,-,-,h2⟩:=h.take e1
   obtain⟨v,K',r1,r2,r3,r4⟩:=zpl h2 hx h1
   exact⟨v,K',r1,r2,r3,(zfi e p _).trans r4⟩
theorem zC8{I:World->(Nat->z0a)->Prop}{C:z0g}{LF:Nat}{f:FuncId}{c:Code}(hI:EnvS I)(hC:z8E P I C)(hm:P.follows .mixedOrders=true)(hfn:P.funcs[f]? =some fn)(hb:fn.body=some c)(hname:fn.name≠ "runtime.NumGoroutine")
 (hok:okC cf c=true) (hr:zkb P C cf LF fn args=some (r,outs)):CallOk P I f args r outs:=by
 unfold zkb at hr
 split at hr
 case isFalse=>cases hr
 case isTrue hc=>
 rw[hb] at hr
 simp only at hr
 refine⟨fun vals w=>by simp[callFunc,program,Sem.run,hfn,hname,hb],fun w K vals hs ha hIw=> ?_⟩
 have hent:=zm1 (nt:=fn.ntmps) hs ha hc.1
 have main:∀x fr,(x= .n∨x= .r)->z2H P C cf LF c (z8g fn.ntmps args)=some (x,fr)->zAt cf (zey P fn args fr)=some (r,outs)->
  Calls P f vals w fun e w'=>∃v K',e= .returned v/\TRep w' K' [0] v r/\(∀i t,args[i]? =some t->z7q t=true->∃t',outs[i]? =some t'/\TRep w' K' (col i) (vals.getD i undef) t')/\Step w K w' K':=fun x fr hx hcode hexit=>by
  refine calls_of_wp hfn hb (zcD hI hC hm c hok hent hIw hcode fun a' w' K' R' h' hst=> ?_)
  obtain⟨r0,hex0,hr0⟩:=ztD hexit
  obtain⟨v,K1,e1,e20,e30,e40⟩:=zvr h' hex0 hc.2
  obtain⟨K2,e2,e3,e4⟩:∃K2,TRep w' K2 [0] v r/\(∀i t,args[i]? =some t->z7q t=true->∃t',outs[i]? =some t'/\TRep w' K2 (col i) (vals.getD (fn.ntmps+1000+i-(fn.ntmps+1000)) undef) t')/\Step w' K' w' K2:=by
   rcases hr0 with e|e
   · rw[e];exact⟨K1,e20,e30,e40⟩
   · rw[e]
     refine⟨fun b=>dz (K1 b),e20.freeze (fun b s hb hcc hK=>⟨by show dz (K1 b)= [];rw[hK];rfl,rfl⟩) (fun b hb hK=>⟨by show dz (K1 b)= [];rw[hK];rfl,rfl⟩) (Z8 _) [0],fun i t hi hio=> ?_,e40.trans ⟨rfl,rfl,rfl,Z8 _,fun b hb hcc=>⟨by
      show dz (K1 b)=K1 b
      rcases hcc with q|q<;>rw[q]<;>rfl,rfl⟩,.same rfl⟩⟩
     obtain⟨t',f1,f2⟩:=e30 i t hi hio
     exact⟨t',f1,f2.move (fun b s hb hcc hK=>⟨by show dz (K1 b)=col i++s;rw[hK];rfl,rfl⟩) (fun b hb hK=>⟨by show dz (K1 b)= [];rw[hK];rfl,rfl⟩) X1 (Z8 _)⟩
  have hpost:a'.defers= []/\ ∃v,(results fn a'.tmps).run P w'= .ok v w'/\ ∃v' K',Ending.returned v= .returned v'/\TRep w' K' [0] v' r/\(∀i t,args[i]? =some t->z7q t=true->∃t',outs[i]? =some t'/\TRep w' K' (col i) (vals.getD i undef) t')/\Step w K w' K':=
   ⟨h'.df,v,e1,v,K2,rfl,e2,fun i t hi hio=>by
     obtain⟨t',f1,f2⟩:=e3 i t hi hio
     rw[show fn.ntmps+1000+i-(fn.ntmps+1000)=i by omega] at f2
     exact⟨t',f1,f2⟩,hst.trans e4⟩
  rcases hx with rfl|rfl
  · exact hpost
  · exact hpost
 split at hr
 · rename_i fr hcode
   exact main .n fr (.inl rfl) hcode hr
 · rename_i fr hcode
   exact main .r fr (.inr rfl) hcode hr
 · cases hr
end
section
def wpC(P:Program)(C:z0g)(cf:Cfg)(LF:Nat)(c:Code)(fr:Fr)(Q:X->Fr->Prop):Prop:=∃x fr',z2H P C cf LF c fr=some (x,fr')/\Q x fr'
def ztd(P:Program)(C:z0g)(wio:FuncId->Nat->Bool)(ops:Array Oper):List Oper->Fr->(Fr->Prop)->Prop
 | [],fr,Q=>Q fr
 |o::rest,fr,Q=>∃b,z7o ops fr o=some b/\(b=true->∃fr',opF P C wio fr o=some fr'/\ztd P C wio ops rest fr' Q)/\(b=false->∃fr',putF fr o.dst (.one (.k undef))=some fr'/\ztd P C wio ops rest fr' Q)
theorem zd4{P:Program}{C:z0g}{wio:FuncId->Nat->Bool}{ops:Array Oper}{Q:Fr->Prop}:∀ {l:List Oper} {fr:Fr},ztd P C wio ops l fr Q->∃fr',zf5 P C wio ops l fr=some fr'/\Q fr'
 | [],fr,h=>⟨fr,rfl,h⟩
 |o::rest,fr,⟨b,hb,h1,h2⟩=>by
  cases b with
  |true=>
   obtain⟨fr',e,h⟩:=h1 rfl
   obtain⟨x,e2,h⟩:=zd4 h
   exact⟨x,by simp only[zf5,hb,e,e2],h⟩
  |false=>
   obtain⟨fr',e,h⟩:=h2 rfl
   obtain⟨x,e2,h⟩:=zd4 h
   exact⟨x,by simp only[zf5,hb,e,e2],h⟩
variable {P:Program} {C:z0g} {cf:Cfg} {LF:Nat} {fr:Fr} {Q:X->Fr->Prop}
theorem zwv(h:Q .n fr):wpC P C cf LF .skip fr Q:=⟨_,_,rfl,h⟩
theorem zs0{i}(h:Q .n fr):wpC P C cf LF (.label i) fr Q:=⟨_,_,rfl,h⟩
theorem zww{i}(h:Q (.x i) fr):wpC P C cf LF (.exit i) fr Q:=⟨_,_,rfl,h⟩
theorem zzv(h:Q .r fr):wpC P C cf LF .ret fr Q:=⟨_,_,rfl,h⟩
def zkX(Q1:Fr->Prop)(Q:X->Fr->Prop):X->Fr->Prop
 | .n,fr=>Q1 fr
 | .x i,fr=>Q (.x i) fr
 | .r,fr=>Q .r fr
theorem zzu{a b:Code}(h:wpC P C cf LF a fr (zkX (fun fr'=>wpC P C cf LF b fr' Q) Q)):wpC P C cf LF (.seq a b) fr Q:=by
 obtain⟨x,fr1,e,h⟩:=h
 cases x with
 |n=>
  obtain⟨y,fr2,e2,h⟩:=h
  exact⟨y,fr2,by simp only[z2H,e,e2],h⟩
 |x i=>exact⟨_,_,by simp only[z2H,e],h⟩
 |r=>exact⟨_,_,by simp only[z2H,e],h⟩
def z9x(id:Nat)(Q:X->Fr->Prop):X->Fr->Prop
 | .n,fr=>Q .n fr
 | .x i,fr=>if i=id then Q .n fr else Q (.x i) fr
 | .r,fr=>Q .r fr
theorem zs2{id:Nat}{c:Code}(h:wpC P C cf LF c fr (z9x id Q)):wpC P C cf LF (.block id c) fr Q:=by
 obtain⟨x,fr1,e,h⟩:=h
 cases x with
 |n=>exact⟨_,_,by simp only[z2H,e],h⟩
 |x i=>
  simp only[z9x] at h
  by_cases hi:i=id
  · rw[if_pos hi] at h
    exact⟨.n,fr1,by simp only[z2H,e,if_pos hi],h⟩
  · rw[if_neg hi] at h
    exact⟨.x i,fr1,by simp only[z2H,e,if_neg hi],h⟩
 |r=>exact⟨_,_,by simp only[z2H,e],h⟩
structure Hid(p:Prop):Prop where
 out:p
variable{ops:Array Oper}{b draw:Bool}{F1 fr1:Fr}{cn:Fr->Fr}{Q1:Fr->Prop}{fn:Func}{wio:FuncId->Nat->Bool}{kn:List (Nat×Fr)}{sch:List (Nat×Nat)}{es:List (Nat×Nat×Nat×Nat)}{M:List Nat}{l:List Oper}{args outs:List T}{k m:Nat}{H:Nat->Fr}{I:Nat->Fr->Prop}{o:Oper}{g:Option (Option Nat×Bool)}{Q2:Prop}{a rest t:SchT}{r:T}
def zzE(o:Option Bool)(Q1 Q2:Prop):Prop:=match o with|some b=>(b=true->Q1)/\(b=false->Q2)|none=>False
theorem zcK{Q1:Prop}:zzE (some b) Q1 Q2=((b=true->Q1)/\(b=false->Q2)):=rfl
theorem zs6{o:Option Bool}{Q1:Prop}(h:zzE o Q1 Q2):∃b,o=some b/\(b=true->Q1)/\(b=false->Q2):=by
 cases o with
 |none=>exact absurd h id
 |some b=>exact⟨b,rfl,h⟩
def zBv(o:Option Value)(Q1 Q2:Prop):Prop:=match o with|some (.bool b)=>(b=true->Q1)/\(b=false->Q2)|_=>False
theorem zaL{Q1:Prop}:zBv (some (.bool b)) Q1 Q2=((b=true->Q1)/\(b=false->Q2)):=rfl
theorem zzD{o:Option Value}{Q1:Prop}(h:zBv o Q1 Q2):∃b,o=some (.bool b)/\(b=true->Q1)/\(b=false->Q2):=by
 unfold zBv at h
 split at h
 · exact⟨_,rfl,h⟩
 · exact absurd h id
def zhF(o:Option Fr)(Q:Fr->Prop):Prop:=match o with|some fr=>Q fr|none=>False
theorem zmn{fr:Fr}{Q:Fr->Prop}:zhF (some fr) Q=Q fr:=rfl
theorem zbg{o:Option Fr}{Q:Fr->Prop}(h:zhF o Q):∃fr,o=some fr/\Q fr:=by
 cases o with
 |none=>exact absurd h id
 |some fr=>exact⟨fr,rfl,h⟩
theorem zpT{id:Nat}(hd:draw=false)(hz:cf.fz id=none)(h:∀Q':Fr->Prop,Hid (∀fr',Q .n fr'->Q' fr')->zhF (zf5 P C cf.wio ops ops.toList fr) Q'):wpC P C cf LF (.region id ops draw) fr Q:=by
 obtain⟨fr',e,h⟩:=zbg (h (Q .n) ⟨fun _ h=>h⟩)
 subst hd
 exact⟨.n,fr',by simp[z2H,hz,zwn,e],h⟩
theorem zzw{id:Nat}{l:List Nat}(hz:cf.fz id=some l)(hf:zAX fr l=fr1)(h:wpC P C {cf with fz:=fun _=>none} LF (.region id ops draw) fr1 Q):wpC P C cf LF (.region id ops draw) fr Q:=by
 obtain⟨x,fr',e,h⟩:=h
 refine⟨x,fr',?_,h⟩
 simp only[z2H,zwn] at e
 simp only[z2H,hz,zwn,hf]
 exact e
def zFH(P:Program)(C:z0g)(wio:FuncId->Nat->Bool)(M:List Nat)(ops:Array Oper)(sch:List (Nat×Nat))(fr:Fr):Option Fr:=match zb6 P C wio M.isEmpty M.contains ops (zda ops sch) fr with|some fr1=>z7z P ops.toList fr1|none=>none
theorem zmz{id:Nat}(hd:draw=false)(hz:cf.fz id=none)(h:ztd P C cf.wio ops ops.toList fr (Q .n)):wpC P C cf LF (.region id ops draw) fr Q:=by
 obtain⟨fr',e,h⟩:=zd4 h
 subst hd
 exact⟨.n,fr',by simp[z2H,hz,zwn,e],h⟩
def z0y(P:Program)(C:z0g)(wio:FuncId->Nat->Bool)(same:Bool)(M:Nat->Bool)(fr:Fr)(o:Oper)(m:Nat):Option Fr:=
 if m=0∨m=3 then(match zaT P (if m=0 then M else zEO) fr o.op with|some e=>putF fr o.dst e|none=>none)
 else if m=2 then opF P C wio fr o else if same then zbZ P C wio fr o else wrF P C wio M fr o
def z9X(P:Program)(C:z0g)(wio:FuncId->Nat->Bool)(M:List Nat)(ops:Array Oper):List (Nat×Nat)->Fr->(Fr->Prop)->Prop
 | [],fr,Q=>Q fr
 |(k,m)::rest,fr,Q=>∃o,ops[k]? =some o/\ ∃b,z7o ops fr o=some b/\(b=true->∃fr',z0y P C wio M.isEmpty M.contains fr o m=some fr'/\z9X P C wio M ops rest fr' Q)/\(b=false->∃fr',putF fr o.dst (.one (.k undef))=some fr'/\z9X P C wio M ops rest fr' Q)
theorem zeA{P:Program}{C:z0g}{wio:FuncId->Nat->Bool}{M:List Nat}{ops:Array Oper}{Q:Fr->Prop}:∀ {l:List (Nat×Nat)} {fr:Fr},z9X P C wio M ops l fr Q->∃fr',zb6 P C wio M.isEmpty M.contains ops (zda ops l) fr=some fr'/\Q fr'
 | [],fr,h=>⟨fr,rfl,h⟩
 |(k,m)::rest,fr,⟨o,ho,b,hb,h1,h2⟩=>by
  have hp:zda ops ((k,m)::rest)=(k,o,m)::zda ops rest:=by simp[zda,ho]
  rw[hp]
  cases b with
  |true=>
   obtain⟨fr',e,h⟩:=h1 rfl
   obtain⟨x,e2,h⟩:=zeA h
   refine⟨x,?_,h⟩
   simp only[zb6,hb]
   unfold z0y at e
   by_cases hm:m=0∨m=3
   · rw[if_pos hm] at e⊢
     split at e
     · rename_i e' he'
       simp only[he',e,e2]
     · cases e
   · rw[if_neg hm] at e⊢
     simp only[e,e2]
  |false=>
   obtain⟨fr',e,h⟩:=h2 rfl
   obtain⟨x,e2,h⟩:=zeA h
   exact⟨x,by simp only[zb6,hb,e,e2],h⟩
theorem zs1{id:Nat}(hd:draw=true)(hs:cf.dr id=some sch)(hz:cf.fz id=none)(h:z9X P C cf.wio (cf.wr id) ops sch fr (fun fr1=>zhF (z7z P ops.toList fr1) (Q .n)))(ht:cf.dt id=none:=by rfl):wpC P C cf LF (.region id ops draw) fr Q:=by
 obtain⟨fr1,e1,h⟩:=zeA h
 obtain⟨fr2,e2,h⟩:=zbg h
 subst hd
 exact⟨.n,fr2,by simp only[z2H,if_true,z9E,ht,hs,hz,zwn,e1,e2],h⟩
theorem zvz{Q:X->Fr->Prop}(h:∀Q':Fr->Prop,Hid (∀fr',Q .n fr'->Q' fr')->zhF (z7z P l fr) Q'):z9X P C wio M ops [] fr (fun fr1=>zhF (z7z P l fr1) (Q .n)):=h _ ⟨fun _ h=>h⟩
theorem zy8{l:List (Nat×Nat)}{Q:Fr->Prop}(ho:ops[k]? =some o)(hg:o.guard=none)(h:∀Q':Fr->Prop,Hid (∀fr',z9X P C wio M ops l fr' Q->Q' fr')->zhF (z0y P C wio M.isEmpty M.contains fr o m) Q'):z9X P C wio M ops ((k,m)::l) fr Q:=by
 obtain⟨fr',e,h⟩:=zbg (h _ ⟨fun _ h=>h⟩)
 exact⟨o,ho,true,by simp[z7o,hg],fun _=>⟨fr',e,h⟩,fun h=>by cases h⟩
theorem znI{l:List (Nat×Nat)}{Q:Fr->Prop}(ho:ops[k]? =some o)(h:∀Q1 Q2:Prop,Hid ((∀Q':Fr->Prop,Hid (∀fr',z9X P C wio M ops l fr' Q->Q' fr')->zhF (z0y P C wio M.isEmpty M.contains fr o m) Q')->Q1)->Hid ((∀Q':Fr->Prop,Hid (∀fr',z9X P C wio M ops l fr' Q->Q' fr')->zhF (putF fr o.dst (.one (.k undef))) Q')->Q2)->zzE (z7o ops fr o) Q1 Q2):z9X P C wio M ops ((k,m)::l) fr Q:=by
 obtain⟨b,hb,h1,h2⟩:=zs6 (h _ _ ⟨id⟩ ⟨id⟩)
 refine⟨o,ho,b,hb,fun e=> ?_,fun e=> ?_⟩
 · obtain⟨fr',e,h⟩:=zbg (h1 e _ ⟨fun _ h=>h⟩)
   exact⟨fr',e,h⟩
 · obtain⟨fr',e,h⟩:=zbg (h2 e _ ⟨fun _ h=>h⟩)
   exact⟨fr',e,h⟩
theorem zA5{Q:Fr->Prop}(hg:o.guard=none)(h:∀Q':Fr->Prop,Hid (∀fr',ztd P C wio ops l fr' Q->Q' fr')->zhF (opF P C wio fr o) Q'):ztd P C wio ops (o::l) fr Q:=by
 obtain⟨fr',e,h⟩:=zbg (h _ ⟨fun _ h=>h⟩)
 exact⟨true,by simp[z7o,hg],fun _=>⟨fr',e,h⟩,fun h=>by cases h⟩
theorem zqG{Q:Fr->Prop}(h:∀Q1 Q2:Prop,Hid ((∀Q':Fr->Prop,Hid (∀fr',ztd P C wio ops l fr' Q->Q' fr')->zhF (opF P C wio fr o) Q')->Q1)->Hid ((∀Q':Fr->Prop,Hid (∀fr',ztd P C wio ops l fr' Q->Q' fr')->zhF (putF fr o.dst (.one (.k undef))) Q')->Q2)->zzE (z7o ops fr o) Q1 Q2):ztd P C wio ops (o::l) fr Q:=by
 obtain⟨b,hb,h1,h2⟩:=zs6 (h _ _ ⟨id⟩ ⟨id⟩)
 refine⟨b,hb,fun e=> ?_,fun e=> ?_⟩
 · obtain⟨fr',e,h⟩:=zbg (h1 e _ ⟨fun _ h=>h⟩)
   exact⟨fr',e,h⟩
 · obtain⟨fr',e,h⟩:=zbg (h2 e _ ⟨fun _ h=>h⟩)
   exact⟨fr',e,h⟩
theorem zBM{c:Operand}{x y:Code}(h:∀Q1 Q2:Prop,Hid (wpC P C cf LF x fr Q->Q1)->Hid (wpC P C cf LF y fr Q->Q2)->zBv (rdV (opE fr c)) Q1 Q2):wpC P C cf LF (.cond c x y) fr Q:=by
 obtain⟨b,h,h1,h2⟩:=zzD (h _ _ ⟨id⟩ ⟨id⟩)
 cases b with
 |true=>
  obtain⟨x,fr1,e,h'⟩:=h1 rfl
  exact⟨x,fr1,by simp only[z2H,h,e],h'⟩
 |false=>
  obtain⟨x,fr1,e,h'⟩:=h2 rfl
  exact⟨x,fr1,by simp only[z2H,h,e],h'⟩
theorem z0m(h:Q1 fr):zkX Q1 Q .n fr:=h
theorem z8S{i}(h:Q (.x i) fr):zkX Q1 Q (.x i) fr:=h
theorem zj4(h:Q .r fr):zkX Q1 Q .r fr:=h
theorem z5V{id}(h:Q .n fr):z9x id Q .n fr:=h
theorem zrJ{id}(h:Q .n fr):z9x id Q (.x id) fr:=by simp[z9x,h]
theorem zhv{id i}(hi:(i==id)=false)(h:Q (.x i) fr):z9x id Q (.x i) fr:=by
 have:i≠id:=by simpa using hi
 simp[z9x,this,h]
theorem zpD{id}(h:Q .r fr):z9x id Q .r fr:=h
theorem zEx{a b:Int}(h:b<=a):(a<b)=False:=by simp;omega
theorem zEB{a b:Int}(h:b<a):(a<=b)=False:=by simp;omega
theorem zEw{a b:Nat}(h:b<=a):(a<b)=False:=by simp;omega
theorem zEA{a b:Nat}(h:b<a):(a<=b)=False:=by simp;omega
def zAF(I:Nat->Fr->Prop)(cn:Fr->Fr)(m:Nat)(Q:X->Fr->Prop):X->Fr->Prop
 | .n,fr=>∃k,k<m/\I k (cn fr)
 | .x i,fr=>Q (.x i) fr
 | .r,fr=>Q .r fr
def zti(I:Nat->Prop)(H:Nat->Fr)(cn:Fr->Fr)(n k:Nat)(Q:X->Fr->Prop):X->Fr->Prop
 | .n,fr=>k<n/\I (k+1)/\cn fr=H (k+1)
 | .x i,fr=>Q (.x i) fr
 | .r,fr=>Q .r fr
def zB2(P:Program)(fn:Func)(args:List T)(r:T)(outs:List T):X->Fr->Prop
 | .n,fr=>zey P fn args fr=some (r,outs)
 | .r,fr=>zey P fn args fr=some (r,outs)
 | .x _,_=>False
theorem zAD{i:Nat}(h:Q (.x i) fr):zAF I cn m Q (.x i) fr:=h
theorem zAE(h:Q .r fr):zAF I cn m Q .r fr:=h
theorem zxc{I:Nat->Prop}{n i:Nat}(h:Q (.x i) fr):zti I H cn n k Q (.x i) fr:=h
theorem zxd{I:Nat->Prop}{n:Nat}(h:Q .r fr):zti I H cn n k Q .r fr:=h
def zvs(P:Program)(fn:Func)(args:List T)(r:T)(outs:List T):X->Fr->Prop
 | .n,fr=>(zey P fn args fr).map (fun x=>(z1Z x.1,x.2))=some (r,outs)
 | .r,fr=>(zey P fn args fr).map (fun x=>(z1Z x.1,x.2))=some (r,outs)
 | .x _,_=>False
theorem zfh{c:Code}(hb:fn.body=some c)(ha:args.length<=fn.ntmps/\(args.filter z7q).length<=1)(hz:(cf.fz 999998).isSome=true)(h:wpC P C cf LF c (z8g fn.ntmps args) (zvs P fn args r outs)):zkb P C cf LF fn args=some (r,outs):=by
 obtain⟨x,fr',e,h⟩:=h
 obtain⟨l,hl⟩:=ZW.1 hz
 unfold zkb zAt
 rw[if_pos ha,hb]
 simp only[e,hl]
 cases x with
 |n=>exact h
 |x i=>exact absurd h id
 |r=>exact h
theorem zA0{c:Code}(hb:fn.body=some c)(ha:args.length<=fn.ntmps/\(args.filter z7q).length<=1)(h:wpC P C cf LF c (z8g fn.ntmps args) (zB2 P fn args r outs))(hz:cf.fz 999998=none:=by rfl):zkb P C cf LF fn args=some (r,outs):=by
 obtain⟨x,fr',e,h⟩:=h
 unfold zkb zAt
 rw[if_pos ha,hb]
 simp only[e,hz]
 cases x with
 |n=>exact h
 |x i=>exact absurd h id
 |r=>exact h
def zdk:Code->Nat
 | .skip=>0
 | .region _ _ _=>1
 | .seq _ _=>2
 | .cond _ _ _=>3
 | .block _ _=>4
 | .loop _=>5
 | .exit _=>6
 | .ret=>7
 | .label _=>8
 | .scope _=>10
 |_=>9
def zka:Code->Code
 | .seq a _=>a
 |c=>c
def zdJ:Code->Code
 | .seq _ b=>b
 |c=>c
def cdA:Code->Code
 | .cond _ x _=>x
 |c=>c
def cdB:Code->Code
 | .cond _ _ y=>y
 |c=>c
def cdO:Code->Option Operand
 | .cond o _ _=>some o
 |_=>none
def blC:Code->Code
 | .block _ c=>c
 |c=>c
def blI:Code->Nat
 | .block i _=>i
 |_=>0
def lpC:Code->Code
 | .loop c=>c
 |c=>c
def spC:Code->Code
 | .scope c=>c
 |c=>c
def exI:Code->Nat
 | .exit i=>i
 |_=>0
def rgI:Code->Nat
 | .region i _ _=>i
 |_=>0
def rgD:Code->Bool
 | .region _ _ d=>d
 |_=>false
def rgO:Code->Array Oper
 | .region _ ops _=>ops
 |_=> #[]
def rgN:Code->Option Nat
 | .region i _ _=>some i
 |_=>none
def rgL(c:Code):Option (List Oper):=match c with| .region _ ops _=>some ops.toList|_=>none
section
variable {c:Code}
theorem z8p(hk:zdk c=0)(h:Q .n fr):wpC P C cf LF c fr Q:=by
 cases c<;>first|exact zwv h|cases hk
theorem ztm(hk:zdk c=8)(h:Q .n fr):wpC P C cf LF c fr Q:=by
 cases c<;>first|exact zs0 h|cases hk
theorem zaU(hk:zdk c=6)(h:Q (.x (exI c)) fr):wpC P C cf LF c fr Q:=by
 cases c<;>first|exact zww h|cases hk
theorem zn2(hk:zdk c=7)(h:Q .r fr):wpC P C cf LF c fr Q:=by
 cases c<;>first|exact zzv h|cases hk
theorem zCe(hk:zdk c=2)(h:wpC P C cf LF (zka c) fr (zkX (fun fr'=>wpC P C cf LF (zdJ c) fr' Q) Q)):wpC P C cf LF c fr Q:=by
 cases c<;>first|exact zzu h|cases hk
theorem zto(hk:zdk c=4)(h:wpC P C cf LF (blC c) fr (z9x (blI c) Q)):wpC P C cf LF c fr Q:=by
 cases c<;>first|exact zs2 h|cases hk
theorem zF9{o:Operand}(ho:cdO c=some o)(h:∀Q1 Q2:Prop,Hid (wpC P C cf LF (cdA c) fr Q->Q1)->Hid (wpC P C cf LF (cdB c) fr Q->Q2)->zBv (rdV (opE fr o)) Q1 Q2):wpC P C cf LF c fr Q:=by
 cases c<;>first|(cases ho;exact zBM h)|cases ho
theorem zjd(hl:rgL c=some l)(hd:rgD c=false)(hz:cf.fz (rgI c)=none)(h:∀Q':Fr->Prop,Hid (∀fr',Q .n fr'->Q' fr')->zhF (zf5 P C cf.wio l.toArray l fr) Q'):wpC P C cf LF c fr Q:=by
 cases c with
 |region i ops d=>
  cases hl
  exact zpT hd hz (by simpa using h)
 |_=>cases hl
theorem ztn{l:List Nat}(hk:zdk c=1)(hz:cf.fz (rgI c)=some l)(hf:zAX fr l=fr1)(h:wpC P C {cf with fz:=fun _=>none} LF c fr1 Q):wpC P C cf LF c fr Q:=by
 cases c<;>first|exact zzw hz hf h|cases hk
theorem zal{i:Nat}(hi:rgN c=some i)(hd:rgD c=true)(hs:cf.dr i=some sch)(hz:cf.fz i=none)(h:z9X P C cf.wio (cf.wr i) (rgO c) sch fr (fun fr1=>zhF (z7z P (rgO c).toList fr1) (Q .n)))(ht:cf.dt i=none:=by rfl):wpC P C cf LF c fr Q:=by
 cases c with
 |region j ops d=>
  cases hi
  exact zs1 hd hs hz h ht
 |_=>cases hi
def zCz:List Oper->Nat->Option Oper
 | [],_=>none
 |o::_,0=>some o
 |_::l,k+1=>zCz l k
theorem zAs(l:List Oper):∀(k:Nat) (o:Oper),zCz l k=some o->l[k]? =some o:=by
 induction l with
 |nil=>intro k o h;cases k<;>cases h
 |cons a l ih=>
  intro k o h
  cases k with
  |zero=>simpa[zCz] using h
  |succ k=>simpa using ih k o (by simpa[zCz] using h)
def ziD(c:Code)(k:Nat):Option Oper:=match c with| .region _ ops _=>zCz ops.toList k|_=>none
theorem zeo{c:Code}(h:ziD c k=some o):(rgO c)[k]? =some o:=by
 cases c with
 |region i ops d=>rw[←Zx];exact zAs _ _ _ h
 |_=>cases h
theorem z5s{Q:X->Fr->Prop}(hl:rgL c=some l)(h:∀Q':Fr->Prop,Hid (∀fr',Q .n fr'->Q' fr')->zhF (z7z P l fr) Q'):z9X P C wio M ops [] fr (fun fr1=>zhF (z7z P (rgO c).toList fr1) (Q .n)):=by
 have e:(rgO c).toList=l:=by
  cases c with
  |region i ops d=>cases hl;rfl
  |_=>cases hl
 rw[e]
 exact zvz h
def zGa:Option Oper->Option Nat
 |some o=>o.dst
 |none=>none
def zzf(c:Code)(o:Oper):Option (Option (Option Nat×Bool)):=match o.guard with|none=>some none|some (j,want)=>(match zGa (ziD c j) with|some t=>some (some (some t,want))|none=>none)
def zv9(g:Option (Option Nat×Bool))(fr:Fr):Option Bool:=
 match g with
 |none=>some true
 |some (none,_)=>some false
 |some (some t,want)=>if t<fr.nt then(match zfE (z3g fr.tm t) with|some b=>some (b==some want)|none=>none) else none
theorem zp9(hg:zzf c o=some g)(fr:Fr):z7o (rgO c) fr o=zv9 g fr:=by
 unfold zzf at hg
 unfold z7o zv9
 split at hg
 · rename_i h;cases hg;simp[h]
 · rename_i j want h
   split at hg
   · rename_i t ht
     cases hg
     have e:((rgO c)[j]?).bind (·.dst)=some t:=by
      unfold zGa at ht
      split at ht
      · rename_i o' ho'
        rw[zeo ho'];exact ht
      · cases ht
     simp only[h,e]
     all_goals rfl
   · cases hg
theorem z6k{l:List (Nat×Nat)}{Q:Fr->Prop}(ho:ziD c k=some o)(hg:o.guard=none)(h:∀Q':Fr->Prop,Hid (∀fr',z9X P C wio M (rgO c) l fr' Q->Q' fr')->zhF (z0y P C wio M.isEmpty M.contains fr o m) Q'):z9X P C wio M (rgO c) ((k,m)::l) fr Q:=zy8 (zeo ho) hg h
theorem zd7{l:List (Nat×Nat)}{Q:Fr->Prop}(ho:ziD c k=some o)(hg:zzf c o=some g)(h:∀Q1 Q2:Prop,Hid ((∀Q':Fr->Prop,Hid (∀fr',z9X P C wio M (rgO c) l fr' Q->Q' fr')->zhF (z0y P C wio M.isEmpty M.contains fr o m) Q')->Q1)->Hid ((∀Q':Fr->Prop,Hid (∀fr',z9X P C wio M (rgO c) l fr' Q->Q' fr')->zhF (putF fr o.dst (.one (.k undef))) Q')->Q2)->zzE (zv9 g fr) Q1 Q2):z9X P C wio M (rgO c) ((k,m)::l) fr Q:=
 znI (zeo ho) (by simpa only[zp9 hg] using h)
def zn0(P:Program)(C:z0g)(wio:FuncId->Nat->Bool)(c:Code)(k:Nat)(fr:Fr)(Q:Fr->Prop):Prop:=ztd P C wio (rgO c) ((rgO c).toList.drop k) fr Q
theorem ztl(hk:zdk c=1)(hd:rgD c=false)(hz:cf.fz (rgI c)=none)(h:zn0 P C cf.wio c 0 fr (Q .n)):wpC P C cf LF c fr Q:=by
 cases c<;>first|exact zmz hd hz h|cases hk
theorem zjb{Q:Fr->Prop}(hk:(rgO c).size<=k)(h:Q fr):zn0 P C wio c k fr Q:=by
 unfold zn0
 rw[List.drop_eq_nil_of_le (by simpa using hk)]
 exact h
theorem zln(ho:ziD c k=some o):(rgO c).toList.drop k=o::(rgO c).toList.drop (k+1):=by
 have h1:(rgO c).toList[k]? =some o:=by rw[Zx];exact zeo ho
 obtain⟨h2,h3⟩:=Za.1 h1
 rw[Yl h2,h3]
theorem zgw{Q:Fr->Prop}(ho:ziD c k=some o)(hg:o.guard=none)(h:∀Q':Fr->Prop,Hid (∀fr',zn0 P C wio c (k+1) fr' Q->Q' fr')->zhF (opF P C wio fr o) Q'):zn0 P C wio c k fr Q:=by
 unfold zn0 at h⊢
 rw[zln ho]
 exact zA5 hg h
theorem zqH{Q:Fr->Prop}(ho:ziD c k=some o)(hg:zzf c o=some g)(h:∀Q1 Q2:Prop,Hid ((∀Q':Fr->Prop,Hid (∀fr',zn0 P C wio c (k+1) fr' Q->Q' fr')->zhF (opF P C wio fr o) Q')->Q1)->Hid ((∀Q':Fr->Prop,Hid (∀fr',zn0 P C wio c (k+1) fr' Q->Q' fr')->zhF (putF fr o.dst (.one (.k undef))) Q')->Q2)->zzE (zv9 g fr) Q1 Q2):zn0 P C wio c k fr Q:=by
 unfold zn0 at h⊢
 rw[zln ho]
 exact zqG (by simpa only[zp9 hg] using h)
theorem zA8(hk:zdk c=10)(h:wpC P C cf LF (spC c) fr Q):wpC P C cf LF c fr Q:=by
 cases c with
 |scope c=>unfold wpC at h⊢;simpa only[z2H,spC] using h
 |_=>cases hk
def z7K(P:Program)(C:z0g)(cf:Cfg)(c:Code)(i:Nat)(t:SchT)(fr:Fr)(Q:Fr->Prop):Prop:=∃fr',z7t P C cf.wio (cf.wr i).isEmpty (cf.wr i).contains (rgO c) t fr=some fr'/\Q fr'
theorem zls{i:Nat}(hi:rgN c=some i)(hd:rgD c=true)(ht:cf.dt i=some t)(hz:cf.fz i=none)(h:z7K P C cf c i t fr (fun fr1=>∃fr2,z7z P (rgO c).toList fr1=some fr2/\Q .n fr2)):wpC P C cf LF c fr Q:=by
 cases c with
 |region j ops d=>
  cases hi
  simp only[rgD] at hd
  subst hd
  obtain⟨fr1,e1,fr2,e2,h⟩:=h
  simp only[rgO] at e1 e2
  exact⟨.n,fr2,by simp only[z2H,if_true,z9E,ht,hz,zwn,e1,e2],h⟩
 |_=>cases hi
theorem zgb{i:Nat}{Q:Fr->Prop}(h:Q fr):z7K P C cf c i .nil fr Q:=⟨fr,by simp only[z7t],h⟩
theorem zkV{fr2:Fr}{Q:X->Fr->Prop}(hl:rgL c=some l)(ha:z7z P l fr=some fr2)(h:Q .n fr2):∃fr2,z7z P (rgO c).toList fr=some fr2/\Q .n fr2:=by
 cases c with
 |region j ops d=>cases hl;exact⟨fr2,ha,h⟩
 |_=>cases hl
def z0x(P:Program)(C:z0g)(wio:FuncId->Nat->Bool)(same:Bool)(M:Nat->Bool)(fr:Fr)(o:Oper)(m:Nat):Option Fr:=match z0y P C wio same M fr o m with|some f=>some (zz6 f)|none=>none
theorem zef{i:Nat}{fr':Fr}(ho:ziD c k=some o)(hgd:z7o (rgO c) fr o=some true)(hs:z0x P C cf.wio (cf.wr i).isEmpty (cf.wr i).contains fr o m=some fr1)(e:z7t P C cf.wio (cf.wr i).isEmpty (cf.wr i).contains (rgO c) rest fr1=some fr'):z7t P C cf.wio (cf.wr i).isEmpty (cf.wr i).contains (rgO c) (.op k m rest) fr=some fr':=by
 unfold z0x at hs
 split at hs
 case h_2=>cases hs
 case h_1 f hz=>
 cases hs
 simp only[z7t,zeo ho,hgd]
 unfold z0y at hz
 split at hz
 · rename_i hm
   rw[if_pos hm]
   split at hz
   · rename_i e1 he
     try rw[he]
     simp only[hz]
     exact e
   · cases hz
 · rename_i hm
   rw[if_neg hm]
   rw[hz]
   exact e
theorem ze8{i:Nat}{Q:Fr->Prop}(ho:ziD c k=some o)(hg:o.guard=none)(hs:z0x P C cf.wio (cf.wr i).isEmpty (cf.wr i).contains fr o m=some fr1)(h:z7K P C cf c i rest fr1 Q):z7K P C cf c i (.op k m rest) fr Q:=by
 obtain⟨fr',e,h⟩:=h
 exact⟨fr',zef ho (by unfold z7o;rw[hg]) hs e,h⟩
theorem zEW{i:Nat}{Q:Fr->Prop}(ho:ziD c k=some o)(hg:zzf c o=some g)(hv:zv9 g fr=some true)(hs:z0x P C cf.wio (cf.wr i).isEmpty (cf.wr i).contains fr o m=some fr1)(h:z7K P C cf c i rest fr1 Q):z7K P C cf c i (.op k m rest) fr Q:=by
 obtain⟨fr',e,h⟩:=h
 exact⟨fr',zef ho (by rw[zp9 hg];exact hv) hs e,h⟩
def nrmO?:Option Fr->Option Fr
 |some f=>some (zz6 f)
 |none=>none
theorem zEX{i:Nat}{Q:Fr->Prop}(ho:ziD c k=some o)(hg:zzf c o=some g)(hv:zv9 g fr=some false)(hs:nrmO? (putF fr o.dst (.one (.k undef)))=some fr1)(h:z7K P C cf c i rest fr1 Q):z7K P C cf c i (.op k m rest) fr Q:=by
 obtain⟨fr',e,h⟩:=h
 have hgd:z7o (rgO c) fr o=some false:=by rw[zp9 hg];exact hv
 unfold nrmO? at hs
 split at hs
 · rename_i f hf
   cases hs
   exact⟨fr',by simp only[z7t,zeo ho,hgd,hf];exact e,h⟩
 · cases hs
def lkp(s:Nat):List (Nat×Fr)->Option Fr
 | []=>none
 |(j,f)::r=>if s=j then some f else lkp s r
def zEt(s k:Nat):List (Nat×Nat×Nat×Nat)->Option (Nat×Nat)
 | []=>none
 |(a,b,m,z)::r=>if Nat.beq a s&&Nat.beq b k then some (m,z) else zEt s k r
def zBg(es:List (Nat×Nat×Nat×Nat))(z:Nat):SchT->Nat->Bool
 | .nil,s=>Nat.beq s z
 | .op k m r,s=>match zEt s k es with|some (m',s')=>Nat.beq m m'&&zBg es z r s'|none=>false
 | .alt a b,s=>zBg es z a s&&zBg es z b s
theorem zoG{s k m z:Nat}:∀ {es:List (Nat×Nat×Nat×Nat)},zEt s k es=some (m,z)->(s,k,m,z)∈es
 |(a,b,m',z')::r,h=>by
  simp only[zEt] at h
  split at h
  · rename_i hb
    simp only[Z6] at hb
    obtain rfl:=ZU hb.1
    obtain rfl:=ZU hb.2
    cases h
    simp
  · exact Zo _ (zoG h)
def zya(P:Program)(C:z0g)(cf:Cfg)(c:Code)(i:Nat):List (Nat×Nat×Nat×Nat)->List (Nat×Fr)->(List (Nat×Fr)->Prop)->Prop
 | [],kn,Q=>Q kn
 |(s,k,m,s')::es,kn,Q=>∃F o F1,lkp s kn=some F/\ziD c k=some o/\o.guard=none/\z0x P C cf.wio (cf.wr i).isEmpty (cf.wr i).contains F o m=some F1/\((lkp s' kn=some F1/\zya P C cf c i es kn Q)∨(lkp s' kn=none/\zya P C cf c i es ((s',F1)::kn) Q))
theorem z1x{i s s':Nat}{Q:List (Nat×Fr)->Prop}{F:Fr}(hk:lkp s kn=some F)(ho:ziD c k=some o)(hg:o.guard=none)(hl:lkp s' kn=none)(hs:z0x P C cf.wio (cf.wr i).isEmpty (cf.wr i).contains F o m=some F1)(h:zya P C cf c i es ((s',F1)::kn) Q):zya P C cf c i ((s,k,m,s')::es) kn Q:=⟨F,o,F1,hk,ho,hg,hs,.inr ⟨hl,h⟩⟩
theorem z1w{i s s':Nat}{Q:List (Nat×Fr)->Prop}{F:Fr}(hk:lkp s kn=some F)(ho:ziD c k=some o)(hg:o.guard=none)(hl:lkp s' kn=some F1)(hs:z0x P C cf.wio (cf.wr i).isEmpty (cf.wr i).contains F o m=some F1)(h:zya P C cf c i es kn Q):zya P C cf c i ((s,k,m,s')::es) kn Q:=⟨F,o,F1,hk,ho,hg,hs,.inl ⟨hl,h⟩⟩
theorem zzi{i z:Nat}{Q:Fr->Prop}{G:Fr}(hk:lkp z kn=some G)(h:Q G):zya P C cf c i [] kn (fun kn=>∃G,lkp z kn=some G/\Q G):=⟨G,hk,h⟩
theorem znL{i:Nat}{Q:List (Nat×Fr)->Prop}:∀ {es:List (Nat×Nat×Nat×Nat)} {kn:List (Nat×Fr)},zya P C cf c i es kn Q->∃kn',Q kn'/\(∀s F,lkp s kn=some F->lkp s kn'=some F)/\
 ∀s k m s',(s,k,m,s')∈es->∃F o F1,lkp s kn'=some F/\ziD c k=some o/\o.guard=none/\z0x P C cf.wio (cf.wr i).isEmpty (cf.wr i).contains F o m=some F1/\lkp s' kn'=some F1
 | [],kn,h=>⟨kn,h,fun _ _ e=>e,fun _ _ _ _ h=>by cases h⟩
 |(s,k,m,s')::es,kn,⟨F,o,F1,h1,h2,h3,h4,h5⟩=>by
  have:∃kn',Q kn'/\(∀s F,lkp s kn=some F->lkp s kn'=some F)/\lkp s' kn'=some F1/\
   ∀s k m s',(s,k,m,s')∈es->∃F o F1,lkp s kn'=some F/\ziD c k=some o/\o.guard=none/\z0x P C cf.wio (cf.wr i).isEmpty (cf.wr i).contains F o m=some F1/\lkp s' kn'=some F1:=by
   rcases h5 with⟨hl,hd⟩|⟨hl,hd⟩
   · obtain⟨kn',a1,a2,a3⟩:=znL hd
     exact⟨kn',a1,a2,a2 _ _ hl,a3⟩
   · obtain⟨kn',a1,a2,a3⟩:=znL hd
     refine⟨kn',a1,fun s F e=>a2 s F ?_,a2 _ _ (by simp[lkp]),a3⟩
     simp only[lkp]
     rw[if_neg (fun e'=>by rw[e',hl] at e;cases e)]
     exact e
  obtain⟨kn',a1,a2,a3,a4⟩:=this
  refine⟨kn',a1,a2,fun s1 k1 m1 s1' hm=> ?_⟩
  rcases Zv.1 hm with e|e
  · cases e
    exact⟨F,o,F1,a2 _ _ h1,h2,h3,h4,a3⟩
  · exact a4 _ _ _ _ e
theorem zfz{i z:Nat}{es:List (Nat×Nat×Nat×Nat)}{kn:List (Nat×Fr)}(he:∀s k m s',(s,k,m,s')∈es->∃F o F1,lkp s kn=some F/\ziD c k=some o/\o.guard=none/\z0x P C cf.wio (cf.wr i).isEmpty (cf.wr i).contains F o m=some F1/\lkp s' kn=some F1):
 ∀ {t:SchT} {s:Nat} {F G:Fr},zBg es z t s=true->lkp s kn=some F->lkp z kn=some G->z7t P C cf.wio (cf.wr i).isEmpty (cf.wr i).contains (rgO c) t F=some G
 | .nil,s,F,G,h,hF,hG=>by
   obtain rfl:=ZU h
   rw[hF] at hG;cases hG
   simp only[z7t]
 | .op k m r,s,F,G,h,hF,hG=>by
   simp only[zBg] at h
   split at h
   · rename_i m' s' hn
     simp only[Z6] at h
     obtain⟨hm,h⟩:=h
     obtain rfl:=ZU hm
     obtain⟨F',o,F1,b1,b2,b3,b4,b5⟩:=he _ _ _ _ (zoG hn)
     rw[hF] at b1;cases b1
     exact zef b2 (by unfold z7o;rw[b3]) b4 (zfz he h b5 hG)
   · cases h
 | .alt a b,s,F,G,h,hF,hG=>by
   simp only[zBg,Z6] at h
   simp only[z7t,zfz he h.1 hF hG,zfz he h.2 hF hG]
   exact zfk ⟨rfl,fun _ _=>rfl,fun _ _=>rfl⟩
theorem zyP{i:Nat}{Q:Fr->Prop}(es:List (Nat×Nat×Nat×Nat))(z:Nat)(hc:zBg es z t 0=true)(h:zya P C cf c i es [(0,fr)] (fun kn=>∃G,lkp z kn=some G/\Q G)):z7K P C cf c i t fr Q:=by
 obtain⟨kn,⟨G,hG,hQ⟩,h2,h3⟩:=znL h
 exact⟨G,zfz h3 hc (h2 0 fr (by simp[lkp])) hG,hQ⟩
theorem zBT{i:Nat}{b:SchT}{f:Fr}{Q:Fr->Prop}(h1:z7K P C cf c i a fr (fun x=>x=f))(h2:z7K P C cf c i b fr (fun y=>zbV f y))(h:Q f):z7K P C cf c i (.alt a b) fr Q:=by
 obtain⟨x,e1,rfl⟩:=h1
 obtain⟨y,e2,hs⟩:=h2
 exact⟨x,by simp only[z7t,e1,e2];exact zfk hs,h⟩
theorem zgc{i:Nat}{b:SchT}{Q:Fr->Prop}(h:z7K P C cf c i a fr (fun x=>z7K P C cf c i b fr (fun y=>zbV x y)/\Q x)):z7K P C cf c i (.alt a b) fr Q:=by
 obtain⟨x,e1,h1,h2⟩:=h
 exact zBT ⟨x,e1,rfl⟩ h1 h2
theorem z4u{id i:Nat}(hi:i=id)(h:Q .n fr):z9x id Q (.x i) fr:=by
 subst hi;exact zrJ h
end
attribute [irreducible] wpC zkX z9x ztd zn0 z9X zAF zti zhF zzE zBv
end
section
variable{c:Cfg}{fn:Func}{f:FuncId}{cf:FuncId->Option Cfg}{args:List T}{d:Nat}{P:Program}{o:T×List T}
def LFm:Nat:=18446744073709551616
noncomputable def z6r(P:Program)(X:z0g->z0g)(cf:FuncId->Option Cfg):Nat->z0g
 |0=>fun f args=>match cf f with|some _=>none|none=>X (fun _ _=>none) f args
 |n+1=>fun f args=>match cf f with
  |some c=>(match P.funcs[f]? with|some fn=>zkb P (z6r P X cf n) c LFm fn args|none=>none)
  |none=>X (z6r P X cf n) f args
def zgG(P:Program)(f:FuncId)(c:Cfg):Bool:=
 match P.funcs[f]? with
 |none=>false
 |some fn=>match fn.body with
  |none=>false
  |some b=>(fn.name != "runtime.NumGoroutine")&&okC c b
theorem zcu{P:Program}{I:World->(Nat->z0a)->Prop}{X:z0g->z0g}{cf:FuncId->Option Cfg}(hI:EnvS I)(hX:∀C,z8E P I C->z8E P I (X C))(hm:P.follows .mixedOrders=true)(hf:∀f c,cf f=some c->zgG P f c=true):∀n,z8E P I (z6r P X cf n)
 |0=>fun f args r outs h=>by
  simp only[z6r] at h
  split at h
  · cases h
  · exact hX _ (fun _ _ _ _ h=>by cases h) f args r outs h
 |n+1=>fun f args r outs h=>by
  simp only[z6r] at h
  split at h
  · rename_i c hc
    split at h
    · rename_i fn hfn
      have hok:=hf f c hc
      unfold zgG at hok
      rw[hfn] at hok
      simp only at hok
      split at hok
      · cases hok
      · rename_i b hb
        simp only[Z6,bne_iff_ne,ne_eq] at hok
        exact zC8 hI (zcu hI hX hm hf n) hm hfn hb hok.1 hok.2 h
    · cases h
  · exact hX _ (zcu hI hX hm hf n) f args r outs h
theorem zuM{X:z0g->z0g}{n:Nat}(hc:cf f=some c)(hfn:P.funcs[f]? =some fn)(h:zkb P (z6r P X cf n) c LFm fn args=some o):z6r P X cf (n+1) f args=some o:=by
 simp only[z6r,hc,hfn,h]
def From(P:Program)(X:z0g->z0g)(cf:FuncId->Option Cfg)(d:Nat)(f:FuncId)(args:List T)(o:T×List T):Prop:=∀n,d<=n->z6r P X cf n f args=some o
theorem From.run{X:z0g->z0g}(hc:cf f=some c)(hfn:P.funcs[f]? =some fn)(h:∀n,d<=n->zkb P (z6r P X cf n) c LFm fn args=some o):From P X cf (d+1) f args o:=fun n hn=>by
 match n,hn with
 |m+1,hm=>exact zuM hc hfn (h m (by omega))
theorem From.mono{X:z0g->z0g}{e:Nat}(h:From P X cf d f args o)(he:d<=e):From P X cf e f args o:=fun n hn=>h n (by omega)
theorem From.ok{I:World->(Nat->z0a)->Prop}{X:z0g->z0g}{r:T}{outs:List T}(hI:EnvS I)(hX:∀C,z8E P I C->z8E P I (X C))(hm:P.follows .mixedOrders=true)(hf:∀f c,cf f=some c->zgG P f c=true)(h:From P X cf d f args (r,outs)):CallOk P I f args r outs:=
 zcu hI hX hm hf d f args r outs (h d (Z8 d))
end
section
variable{c:Cfg}{fr fr':Fr}{fn:Func}{f:FuncId}{wio:FuncId->Nat->Bool}{args:List T}{LF:Nat}{p q:Nat->Prop}{o:T×List T}
noncomputable def Lim(P:Program)(X:z0g->z0g)(cf:FuncId->Option Cfg):z0g:=fun f args=>
 @dite _ (∃o d,From P X cf d f args o) (Classical.propDecidable _) (fun h=>some h.choose) (fun _=>none)
section
variable {P:Program} {Xc:z0g->z0g} {cf:FuncId->Option Cfg}
theorem zuL{d:Nat}(h:From P Xc cf d f args o):Lim P Xc cf f args=some o:=by
 have he:∃o d,From P Xc cf d f args o:=⟨o,d,h⟩
 unfold Lim
 rw[dif_pos he]
 obtain⟨e,h2⟩:=he.choose_spec
 have a1:=h (d+e) (by omega)
 have a2:=h2 (d+e) (by omega)
 rw[a1] at a2
 exact a2.symm
theorem zz5(h:Lim P Xc cf f args=some o):∃d,From P Xc cf d f args o:=by
 unfold Lim at h
 split at h
 · rename_i he
   cases h
   exact he.choose_spec
 · cases h
def Ev(p:Nat->Prop):Prop:=∃n,∀m,n<=m->p m
theorem Ev.pure(h:∀m,p m):Ev p:=⟨0,fun m _=>h m⟩
theorem Ev.both{r:Nat->Prop}(h1:Ev p)(h2:Ev q)(h:∀m,p m->q m->r m):Ev r:=by
 obtain⟨a,h1⟩:=h1
 obtain⟨b,h2⟩:=h2
 exact⟨a+b,fun m hm=>h m (h1 m (by omega)) (h2 m (by omega))⟩
theorem Ev.imp(h1:Ev p)(h:∀m,p m->q m):Ev q:=by
 obtain⟨a,h1⟩:=h1
 exact⟨a,fun m hm=>h m (h1 m hm)⟩
theorem zdC{args:List E}{dst:Option Nat}(h:zdD (Lim P Xc cf) wio fr f args dst=some fr'):Ev fun m=>zdD (z6r P Xc cf m) wio fr f args dst=some fr':=by
 unfold zdD at h⊢
 split at h
 · cases h
 · rename_i ts deps io ha
   split at h
   · cases h
   · rename_i r outs hc
     obtain⟨d,hd⟩:=zz5 hc
     refine⟨d,fun m hm=> ?_⟩
     show(match z6r P Xc cf m f ts with|none=>none|some (r,outs)=>_)=_
     rw[hd m hm]
     exact h
theorem zn9{o:Oper}(h:opF P (Lim P Xc cf) wio fr o=some fr'):Ev fun m=>opF P (z6r P Xc cf m) wio fr o=some fr':=by
 unfold opF at h⊢
 split at h
 · exact .pure fun _=>h
 · split at h
   · exact zdC h
   · cases h
 · exact .pure fun _=>h
 · exact .pure fun _=>h
 · exact .pure fun _=>h
theorem zmf{o:Oper}(h:zbZ P (Lim P Xc cf) wio fr o=some fr'):Ev fun m=>zbZ P (z6r P Xc cf m) wio fr o=some fr':=by
 unfold zbZ at h⊢
 split at h
 · split at h
   · split at h
     · exact zdC h
     · cases h
   · cases h
 · exact .pure fun _=>h
theorem zrZ{M:Nat->Bool}{o:Oper}(h:wrF P (Lim P Xc cf) wio M fr o=some fr'):Ev fun m=>wrF P (z6r P Xc cf m) wio M fr o=some fr':=by
 unfold wrF at h⊢
 split at h
 · split at h
   · cases h
   · split at h
     · exact zdC h
     · split at h
       · rename_i hM
         simp only[hM,if_true]
         exact zdC h
       · cases h
     · cases h
 · exact .pure fun _=>h
 · exact .pure fun _=>h
 · exact .pure fun _=>h
 · cases h
theorem zjc{wio:FuncId->Nat->Bool}{ops:Array Oper}:∀ {l:List Oper} {fr fr':Fr},zf5 P (Lim P Xc cf) wio ops l fr=some fr'->Ev fun m=>zf5 P (z6r P Xc cf m) wio ops l fr=some fr'
 | [],fr,fr',h=>.pure fun _=>h
 |o::rest,fr,fr',h=>by
  simp only[zf5] at h⊢
  split at h
  · cases h
  · split at h
    · rename_i fr1 h1
      exact(zn9 h1).both (zjc h) fun m a1 a2=>by rw[a1];exact a2
    · cases h
  · split at h
    · rename_i fr1 h1
      exact(zjc h)
    · cases h
theorem zdy{wio:FuncId->Nat->Bool}{same:Bool}{M:Nat->Bool}{ops:Array Oper}:∀ {l:List (Nat×Oper×Nat)} {fr fr':Fr},zb6 P (Lim P Xc cf) wio same M ops l fr=some fr'->Ev fun m=>zb6 P (z6r P Xc cf m) wio same M ops l fr=some fr'
 | [],fr,fr',h=>.pure fun _=>h
 |(k,o,mk)::rest,fr,fr',h=>by
  simp only[zb6] at h⊢
  split at h
  · cases h
  · split at h
    · exact zdy h
    · cases h
  · split at h
    · rename_i hm
      simp only[if_pos hm]
      split at h
      · split at h
        · exact zdy h
        · cases h
      · cases h
    · rename_i hm
      simp only[if_neg hm]
      split at h
      · rename_i fr1 h1
        have h2:Ev fun m=>(if mk=2 then opF P (z6r P Xc cf m) wio fr o else if same=true then zbZ P (z6r P Xc cf m) wio fr o else wrF P (z6r P Xc cf m) wio M fr o)=some fr1:=by
         by_cases e:mk=2
         · simp only[if_pos e] at h1⊢;exact zn9 h1
         · simp only[if_neg e] at h1⊢
           by_cases e2:same=true
           · simp only[if_pos e2] at h1⊢;exact zmf h1
           · simp only[if_neg e2] at h1⊢;exact zrZ h1
        exact h2.both (zdy h) fun m a1 a2=>by rw[a1];exact a2
      · cases h
theorem z9Y{wio:FuncId->Nat->Bool}{same:Bool}{M:Nat->Bool}{ops:Array Oper}:∀ {l:SchT} {fr fr':Fr},z7t P (Lim P Xc cf) wio same M ops l fr=some fr'->Ev fun m=>z7t P (z6r P Xc cf m) wio same M ops l fr=some fr'
 | .nil,fr,fr',h=>.pure fun _=>h
 | .alt x y,fr,fr',h=>by
   simp only[z7t] at h⊢
   split at h
   · rename_i f1 f2 h1 h2
     obtain⟨rfl,hs⟩:=zem h
     exact(z9Y h1).both (z9Y h2) fun m a1 a2=>by rw[a1,a2];exact zfk hs
   · cases h
 | .op k mk rest,fr,fr',h=>by
   simp only[z7t] at h⊢
   split at h
   · cases h
   rename_i o ho
   try simp only[ho]
   split at h
   · cases h
   · split at h
     · exact z9Y h
     · cases h
   · split at h
     · rename_i hm
       simp only[if_pos hm]
       split at h
       · split at h
         · exact z9Y h
         · cases h
       · cases h
     · rename_i hm
       simp only[if_neg hm]
       split at h
       · rename_i fr1 h1
         have h2:Ev fun m=>(if mk=2 then opF P (z6r P Xc cf m) wio fr o else if same=true then zbZ P (z6r P Xc cf m) wio fr o else wrF P (z6r P Xc cf m) wio M fr o)=some fr1:=by
          by_cases e:mk=2
          · simp only[if_pos e] at h1⊢;exact zn9 h1
          · simp only[if_neg e] at h1⊢
            by_cases e2:same=true
            · simp only[if_pos e2] at h1⊢;exact zmf h1
            · simp only[if_neg e2] at h1⊢;exact zrZ h1
         exact h2.both (z9Y h) fun m a1 a2=>by rw[a1];exact a2
       · cases h
theorem znJ{id:Nat}{ops:Array Oper}(h:z9E P (Lim P Xc cf) c id ops fr=some fr'):Ev fun m=>z9E P (z6r P Xc cf m) c id ops fr=some fr':=by
 unfold z9E at h⊢
 split at h
 · exact z9Y h
 · split at h
   · exact zdy h
   · cases h
theorem zlO{B:z0g->Fr->Option (X×Fr)}{cn:Fr->Fr}(hB:∀fr o,B (Lim P Xc cf) fr=some o->Ev fun m=>B (z6r P Xc cf m) fr=some o):∀ {n:Nat} {fr:Fr} {o:X×Fr},zdo (B (Lim P Xc cf)) cn n fr=some o->Ev fun m=>zdo (B (z6r P Xc cf m)) cn n fr=some o
 |0,fr,o,h=>by cases h
 |n+1,fr,o,h=>by
  simp only[zdo] at h⊢
  split at h
  · rename_i fr1 h1
    exact(hB _ _ h1).both (zlO hB h) fun m a1 a2=>by rw[a1];exact a2
  · rename_i x fr1 hne h1
    refine(hB _ _ h1).imp fun m a1=> ?_
    rw[a1]
    cases x with
    |n=>exact absurd rfl hne
    |x i=>exact h
    |r=>exact h
  · cases h
theorem zhp:∀(b:Code) {fr:Fr} {o:X×Fr},z2H P (Lim P Xc cf) c LF b fr=some o->Ev fun m=>z2H P (z6r P Xc cf m) c LF b fr=some o:=by
 intro b
 induction b with
 |skip=>intro fr o h;exact .pure fun _=>h
 |label l=>intro fr o h;exact .pure fun _=>h
 |exit id=>intro fr o h;exact .pure fun _=>h
 |ret=>intro fr o h;exact .pure fun _=>h
 |goto l=>intro fr o h;cases h
 |scope c ih=>intro fr o h;simp only[z2H] at h⊢;exact ih h
 |refuse s=>intro fr o h;cases h
 |rangeFunc=>intro fr o h;cases h
 |region id ops draw=>
  intro fr o h
  simp only[z2H] at h⊢
  split at h
  · rename_i hd
    simp only[hd,if_true]
    split at h
    · rename_i fr1 h1
      exact(znJ h1).imp fun m a1=>by rw[a1];exact h
    · cases h
  · rename_i hd
    simp only[hd,ZP,if_false]
    split at h
    · rename_i fr1 h1
      exact(zjc h1).imp fun m a1=>by rw[a1];exact h
    · cases h
 |seq a b ih1 ih2=>
  intro fr o h
  simp only[z2H] at h⊢
  split at h
  · rename_i fr1 h1
    exact(ih1 h1).both (ih2 h) fun m a1 a2=>by rw[a1];exact a2
  · rename_i hne
    refine(ih1 h).imp fun m a1=> ?_
    rw[a1]
    obtain⟨x,fr1⟩:=o
    cases x with
    |n=>exact absurd h (hne _)
    |x i=>rfl
    |r=>rfl
 |cond c x y ih1 ih2=>
  intro fr o h
  simp only[z2H] at h⊢
  split at h
  · exact ih1 h
  · exact ih2 h
  · cases h
 |block id c ih=>
  intro fr o h
  simp only[z2H] at h⊢
  split at h
  · rename_i i fr1 h1
    exact(ih h1).imp fun m a1=>by rw[a1];exact h
  · rename_i hne
    refine(ih h).imp fun m a1=> ?_
    rw[a1]
    obtain⟨x,fr1⟩:=o
    cases x with
    |n=>rfl
    |x i=>exact absurd h (hne _ _)
    |r=>rfl
 |loop b ih=>
  intro fr o h
  simp only[z2H] at h⊢
  exact zlO (B:=fun C fr=>z2H P C c LF b fr) (fun fr o h=>ih h) h
theorem zx0(h:zkb P (Lim P Xc cf) c LF fn args=some o):Ev fun m=>zkb P (z6r P Xc cf m) c LF fn args=some o:=by
 unfold zkb at h⊢
 split at h
 · rename_i hc
   simp only[if_pos hc]
   split at h
   · cases h
   · rename_i b hb
     split at h
     · rename_i fr h1
       exact(zhp _ h1).imp fun m a1=>by rw[a1];exact h
     · rename_i fr h1
       exact(zhp _ h1).imp fun m a1=>by rw[a1];exact h
     · cases h
 · cases h
theorem zuK(hc:cf f=some c)(hfn:P.funcs[f]? =some fn)(h:zkb P (Lim P Xc cf) c LFm fn args=some o):Lim P Xc cf f args=some o:=by
 obtain⟨d,hd⟩:=zx0 h
 exact zuL (d:=d+1) (From.run hc hfn hd)
theorem zgP(hc:cf f=none)(h:∀C,Xc C f args=some o):Lim P Xc cf f args=some o:=
 zuL (d:=0) fun n _=>by
  cases n with
  |zero=>simp only[z6r,hc,h]
  |succ n=>simp only[z6r,hc,h]
theorem zoS(hc:cf f=none)(h:Ev fun m=>Xc (z6r P Xc cf m) f args=some o):Lim P Xc cf f args=some o:=by
 obtain⟨d,hd⟩:=h
 refine zuL (d:=d+1) fun n hn=> ?_
 match n,hn with
 |n+1,hn=>simp only[z6r,hc];exact hd n (by omega)
theorem zCQ{I:World->(Nat->z0a)->Prop}{r:T}{outs:List T}(hI:EnvS I)(hX:∀C,z8E P I C->z8E P I (Xc C))(hm:P.follows .mixedOrders=true)(hf:∀f c,cf f=some c->zgG P f c=true)(h:Lim P Xc cf f args=some (r,outs)):CallOk P I f args r outs:=by
 obtain⟨d,hd⟩:=zz5 h
 exact From.ok hI hX hm hf hd
end
end
section
def z2r(P:Program)(t:TypeId)(f:Nat):Option (Nat×Nat×Bool):=
 match z3b P t with
 |some ⟨.struct fields,_,_,_⟩=>match fields[f]? with
  |none=>none
  |some fd=>match z3b P fd.type with
   |none=>none
   |some ti=>some (fd.offset,ti.size,z6E ti.u)
 |_=>none
def zj5(P:Program)(t:TypeId):Option (List T):=
 match z3b P t with
 |some ⟨.struct fields,_,_,some zs⟩=>if zs.all zdA=true/\(fields.toList.all fun f=>(z3b P f.type).isSome)=true then some zs else none
 |_=>none
theorem zjN(P:Program)(t:TypeId)(e:E)(f:Nat):z9W P t e f=match z2r P t f with
 |some (off,size,_)=>if size=0 then none else match e with
  | .one (.a id p o)=>some (.one (.a id p (o+off)))
  | .one (.ea dep cs o)=>some (.one (.ea dep cs (o+off)))
  |_=>none
 |none=>none:=by
 unfold z9W z2r
 cases z3b P t with
 |none=>rfl
 |some i=>
  obtain⟨u,s,b,z⟩:=i
  cases u with
  |struct fields=>
   simp only
   cases fields[f]? with
   |none=>rfl
   |some fd=>
    simp only
    cases z3b P fd.type with
    |none=>rfl
    |some ti=>rfl
  |_=>rfl
theorem zvq(P:Program)(fr:Fr)(t:TypeId)(e:E)(f:Nat):zm0 P fr t e f=match z2r P t f with
 |some (off,size,agg)=>zqP fr agg size off e
 |none=>none:=by
 unfold zm0 z2r
 cases z3b P t with
 |none=>rfl
 |some i=>
  obtain⟨u,s,b,z⟩:=i
  cases u with
  |struct fields=>
   simp only
   cases fields[f]? with
   |none=>rfl
   |some fd=>
    simp only
    cases z3b P fd.type with
    |none=>rfl
    |some ti=>rfl
  |_=>rfl
theorem z2M{P:Program}{t:TypeId}{zs:List T}(h:zj5 P t=some zs)(fr:Fr)(parts:List (Nat×Operand)):ziV P fr t parts=match zfb fr (z2r P t) (zs.map (A.t none)) parts with
 |some xs=>some (.ag xs)
 |none=>none:=by
 unfold zj5 at h
 split at h
 · rename_i fields s b zs' ht
   split at h
   · rename_i hc
     cases h
     unfold ziV
     rw[ht]
     simp only
     rw[if_pos hc]
     have:(fun i=>match fields[i]? with|some f=>(match z3b P f.type with|some ti=>some (f.offset,ti.size,z6E ti.u)|none=>none)|none=>none)=z2r P t:=by
      funext i
      unfold z2r
      rw[ht]
      simp only
      cases fields[i]? with
      |none=>rfl
      |some f=>
       simp only
       cases z3b P f.type with
       |none=>rfl
       |some ti=>rfl
     exact congrArg (fun g=>match zfb fr g (zs.map (A.t none)) parts with|some xs=>some (E.ag xs)|none=>none) this
   · cases h
 · cases h
abbrev bT(x:Bool):T:=.sc (.bool x)
abbrev hE(id:Nat):E:=.one (.h id [])
abbrev aE(id:Nat):E:=.one (.a id [] 0)
theorem ziU:∀l:List UInt8,zc9 (l.map fun b=>.sc (.int .u8 b.toNat))=some l
 | []=>rfl
 |b::l=>by simp[zc9,ziU l]
theorem zmx(b:UInt8):IntKind.u8.wrap (b.toNat:Int)=b.toNat:=by
 have:=b.toNat_lt
 rw[YQ];omega
@[simp] theorem range_1:List.range 1= [0]:=rfl
@[simp] theorem range_2:List.range 2= [0,1]:=rfl
@[simp] theorem range_3:List.range 3= [0,1,2]:=rfl
@[simp] theorem range_4:List.range 4= [0,1,2,3]:=rfl
@[simp] theorem range_5:List.range 5= [0,1,2,3,4]:=rfl
@[simp] theorem range_6:List.range 6= [0,1,2,3,4,5]:=rfl
@[simp] theorem range_7:List.range 7= [0,1,2,3,4,5,6]:=rfl
@[simp] theorem range_8:List.range 8= [0,1,2,3,4,5,6,7]:=rfl
@[simp] theorem range_9:List.range 9= [0,1,2,3,4,5,6,7,8]:=rfl
@[simp] theorem range_10:List.range 10= [0,1,2,3,4,5,6,7,8,9]:=rfl
@[simp] theorem range_11:List.range 11= [0,1,2,3,4,5,6,7,8,9,10]:=rfl
@[simp] theorem range_12:List.range 12= [0,1,2,3,4,5,6,7,8,9,10,11]:=rfl
@[simp] theorem zrU(t:T):∀n,zbU n [t]=List.replicate n t
  |0=>rfl
  |n+1=>by simp[zbU,zrU t n,List.replicate_succ]
@[simp] theorem zAo{α:Type}(g:α->Value):∀l:List α,zhH (l.map fun x=>T.sc (g x))=false
  | []=>rfl
  |x::l=>by simp[zhH,opn,zAo g l]
@[simp] theorem bits_u64:IntKind.u64.bits=64:=rfl
@[simp] theorem bits_i64:IntKind.i64.bits=64:=rfl
@[simp] theorem int_beq(a b:Int):(a==b)=decide (a=b):=rfl
@[simp] theorem int_bne(a b:Int):(a !=b)= !decide (a=b):=rfl
@[simp] theorem wrap_0:IntKind.i64.wrap 0=0:=by decide
@[simp] theorem wrap_1:IntKind.i64.wrap 1=1:=by decide
@[simp] theorem wrap_2:IntKind.i64.wrap 2=2:=by decide
@[simp] theorem wrap_3:IntKind.i64.wrap 3=3:=by decide
@[simp] theorem wrap_m1:IntKind.i64.wrap (-1)= -1:=by decide
end
section
variable{s:ByteArray}{cn:Fr->Fr}{h:Int}{i m n:Nat}{α β ν ρ σ:Type}{xs ys:List α}{x:Option α}{r v:α}{H:σ->Fr}{g:α->List β}{f:α->Option β}{o:σ⊕ρ}
def z0h{σ ρ:Type}(b:σ->Option (σ⊕ρ)):Nat->σ->Option ρ
 |0,_=>none
 |n+1,s=>match b s with
  |none=>none
  |some (.inl s')=>z0h b n s'
  |some (.inr r)=>some r
def z0c{σ ρ:Type}(s:σ):Option (σ⊕ρ):=some (.inl s)
def z0d{σ ρ:Type}(x:Option ρ):Option (σ⊕ρ):=x.map .inr
def chk{α:Type}(p:Prop)[Decidable p](x:Option α):Option α:=if p then x else none
def atI{α:Type}(xs:List α)(i:Int):Option α:=if 0<=i then xs[i.toNat]? else none
def zht(s:ByteArray)(i:Int):Option Int:=if 0<=i then(s[i.toNat]?).map fun b=>(b.toNat:Int) else none
def z6B{α:Type}(xs:List α)(l h:Int):Option (List α):=if 0<=l/\l<=h/\h<=xs.length then some ((xs.drop l.toNat).take (h.toNat-l.toNat)) else none
def zoB(s:ByteArray)(l h:Int):Option ByteArray:=if 0<=l/\l<=h/\h<=s.size then some (s.extract l.toNat h.toNat) else none
def z1n(bytes n:Nat):Prop:=n*bytes<=140737488355328/\n<=4611686018427387904
instance(b n:Nat):Decidable (z1n b n):=by unfold z1n;exact inferInstance
def z0D(bytes l:Int):Prop:=0<=l/\l<=140737488355328/\bytes*l<=140737488355328
instance(b n:Int):Decidable (z0D b n):=by unfold z0D;exact inferInstance
def zaH(a b:ByteArray):Prop:=((a.size:Int)+b.size)<=9223372036854775807
instance(a b:ByteArray):Decidable (zaH a b):=by unfold zaH;exact inferInstance
def z1o(l:List Int):ByteArray:=⟨(l.map fun z=>UInt8.ofNat z.toNat).toArray⟩
def zCV(s:ByteArray):List Int:=s.data.toList.map fun b=>(b.toNat:Int)
def z7r{κ ν:Type}[DecidableEq κ](k:κ):List (κ×ν)->Option ν
 | []=>none
 |(a,v)::r=>if a=k then some v else z7r k r
def z8h{κ ν:Type}[DecidableEq κ](k:κ)(v:ν):List (κ×ν)->List (κ×ν)
 | []=> [(k,v)]
 |(a,u)::r=>if a=k then(k,v)::r else(a,u)::z8h k v r
def z3j(k:IntKind)(a b:Int):Int:=k.wrap (BitVec.ofInt k.bits a&&&BitVec.ofInt k.bits b).toNat
def orI(k:IntKind)(a b:Int):Int:=k.wrap (BitVec.ofInt k.bits a|||BitVec.ofInt k.bits b).toNat
def zGW(k:IntKind)(a b:Int):Int:=k.wrap (BitVec.ofInt k.bits a^^^BitVec.ofInt k.bits b).toNat
def zhE(k:IntKind)(a b:Int):Int:=k.wrap (BitVec.ofInt k.bits a&&& ~~~ BitVec.ofInt k.bits b).toNat
theorem zsP:∃f:IntKind->Int->Int->Int,∀k a b,f k a b=k.wrap (a*2^(min b.toNat k.bits)):=⟨_,fun _ _ _=>rfl⟩
noncomputable def zmU:IntKind->Int->Int->Int:=Classical.choose zsP
theorem zsQ(k:IntKind)(a b:Int):zmU k a b=k.wrap (a*2^(min b.toNat k.bits)):=Classical.choose_spec zsP k a b
def z1D(k:IntKind)(a b:Int):Int:=a.fdiv (2^(min b.toNat k.bits))
def zEs(k:IntKind)(a b:Int):Int:=k.wrap (a.tdiv b)
def zC0(a b:ByteArray):Bool:=Go.Op.bytesLess a.toList b.toList
theorem z9w{p:Prop}[Decidable p](h:chk p x=some r):p/\x=some r:=by
 unfold chk at h;split at h
 · exact⟨by assumption,h⟩
 · cases h
theorem z2u{r:β}(h:x.bind f=some r):∃v,x=some v/\f v=some r:=by
 cases x with
 |none=>cases h
 |some v=>exact⟨v,rfl,h⟩
theorem z6f{x:Option ρ}(h:z0d x=some o):∃r,x=some r/\o= .inr r:=by
 unfold z0d at h
 cases x with
 |none=>cases h
 |some v=>cases h;exact⟨v,rfl,rfl⟩
theorem z5f{s:σ}(h:z0c s=some o):o= .inl s:=by cases h;rfl
theorem zfD{i:Int}(h:atI xs i=some v):0<=i/\i<xs.length/\i.toNat+1<=xs.length/\xs[i.toNat]? =some v/\ ∀hh:i.toNat<xs.length,xs[i.toNat]'hh=v:=by
 unfold atI at h
 split at h
 · have:=(Za.1 h).1
   exact⟨by assumption,by omega,this,h,fun _=>(Za.1 h).2⟩
 · cases h
theorem zrI{i v:Int}(h:zht s i=some v):0<=i/\i<s.size/\ ∃b,s[i.toNat]? =some b/\v=(b.toNat:Int)/\ ∀hh:i.toNat<s.size,((s[i.toNat]'hh).toNat:Int)=v:=by
 unfold zht at h
 split at h
 · simp only[Z5] at h
   obtain⟨b,hb,rfl⟩:=h
   have:i.toNat<s.size:=by
    rcases Yy i.toNat s.size with h'|h'
    · exact h'
    · rw[getElem?_neg s i.toNat (by omega)] at hb;cases hb
   exact⟨by assumption,by omega,b,hb,rfl,fun hh=>by rw[getElem?_pos s i.toNat hh] at hb;cases hb;rfl⟩
 · cases h
theorem za4{i:Int}{r:β}(h:(atI xs i).bind f=some r):∃v,(0<=i/\i<xs.length/\i.toNat+1<=xs.length/\xs[i.toNat]? =some v/\ ∀hh:i.toNat<xs.length,xs[i.toNat]'hh=v)/\f v=some r:=by
 obtain⟨v,h1,h2⟩:=z2u h
 exact⟨v,zfD h1,h2⟩
theorem zyq{r:β}(h:(atI xs (i:Int)).bind f=some r):∃v,(i<xs.length/\i+1<=xs.length/\xs[i]? =some v/\ ∀hh:i<xs.length,xs[i]'hh=v)/\f v=some r:=by
 obtain⟨v,h1,h2⟩:=z2u h
 obtain⟨a,b,c,d,e⟩:=zfD h1
 simp only[Z2] at c d e
 exact⟨v,⟨by omega,c,d,e⟩,h2⟩
theorem zme{b:Nat}(h:chk (z1n b n) x=some r):(n*b<=140737488355328/\n<=4611686018427387904)/\x=some r:=z9w h
theorem zFW(h:chk (z1n 1 n) x=some r):(n<=140737488355328/\n<=4611686018427387904)/\x=some r:=by
 obtain⟨⟨a,b⟩,h⟩:=z9w h
 exact⟨⟨by omega,b⟩,h⟩
theorem zFt{b l:Int}(h:chk (z0D b l) x=some r):(0<=l/\l<=140737488355328/\b*l<=140737488355328/\max l 0=l)/\x=some r:=by
 obtain⟨⟨a,b,c⟩,h⟩:=z9w h
 exact⟨⟨a,b,c,by omega⟩,h⟩
theorem z5Y{l:Int}(e:z6B xs l h=some ys):0<=l/\l<=h/\h<=xs.length/\ys=(xs.drop l.toNat).take (h.toNat-l.toNat)/\ys.length=h.toNat-l.toNat:=by
 unfold z6B at e
 split at e
 · cases e
   refine⟨by omega,by omega,by omega,rfl,?_⟩
   simp;omega
 · cases e
theorem zn3{t:ByteArray}{l:Int}(e:zoB s l h=some t):0<=l/\l<=h/\h<=s.size/\t=s.extract l.toNat h.toNat:=by
 unfold zoB at e
 split at e
 · cases e;exact⟨by omega,by omega,by omega,rfl⟩
 · cases e
theorem z1r{σ ρ:Type}{b:σ->Option (σ⊕ρ)}(I:σ->Prop)(m:σ->Nat)(Post:ρ->Prop)(step:∀s,I s->(∃s',b s=some (.inl s')/\I s'/\m s'<m s)∨(∃r,b s=some (.inr r)/\Post r)):
 ∀(n:Nat) (s:σ),I s->m s<n->∃r,z0h b n s=some r/\Post r
 |0,s,_,h=>by omega
 |n+1,s,hI,hm=>by
  rcases step s hI with⟨s',e,hI',hm'⟩|⟨r,e,hr⟩
  · obtain⟨r,h1,h2⟩:=z1r I m Post step n s' hI' (by omega)
    exact⟨r,by simp only[z0h,e];exact h1,h2⟩
  · exact⟨r,by simp only[z0h,e],hr⟩
theorem zbF{b:σ->Option (σ⊕ρ)}{r:ρ}(I:σ->Prop)(m:σ->Nat){s:σ}(hI:I s)(hm:m s<n)(step:∀s,I s->(∃s',b s=z0c s'/\I s'/\m s'<m s)∨b s=z0d (some r)):z0h b n s=some r:=by
 obtain⟨r',h1,h2⟩:=z1r I m (·=r) (fun s hs=>(step s hs).imp id fun h=>⟨r,h,rfl⟩) n s hI hm
 rw[h1,h2]
theorem zcn{P:Program}{C:z0g}{cf:Cfg}{LF:Nat}{c:Code}{fr:Fr}{Q:X->Fr->Prop}{o:Operand}(ho:cdO c=some o)(hv:rdV (opE fr o)=some (.bool true))(h:wpC P C cf LF (cdA c) fr Q):wpC P C cf LF c fr Q:=
 zF9 ho fun Q1 Q2 h1 h2=>by rw[hv,zaL];exact⟨fun _=>h1.out h,fun e=>by cases e⟩
theorem zco{P:Program}{C:z0g}{cf:Cfg}{LF:Nat}{c:Code}{fr:Fr}{Q:X->Fr->Prop}{o:Operand}(ho:cdO c=some o)(hv:rdV (opE fr o)=some (.bool false))(h:wpC P C cf LF (cdB c) fr Q):wpC P C cf LF c fr Q:=
 zF9 ho fun Q1 Q2 h1 h2=>by rw[hv,zaL];exact⟨(fun e=>by cases e),fun _=>h2.out h⟩
def zd3{σ ρ:Type}(H:σ->Fr)(cn:Fr->Fr)(o:σ⊕ρ)(Q:X->Fr->Prop):X->Fr->Prop
 | .n,fr=>∃s',o= .inl s'/\cn fr=H s'
 | .x i,fr=>(∃r,o= .inr r)/\Q (.x i) fr
 | .r,fr=>(∃r,o= .inr r)/\Q .r fr
theorem z6j{Q:X->Fr->Prop}{fr:Fr}{s:σ}(ho:o= .inl s)(h:cn fr=H s):zd3 H cn o Q .n fr:=⟨s,ho,h⟩
theorem z7R{Q:X->Fr->Prop}{fr:Fr}{r:ρ}(ho:o= .inr r)(h:Q (.x i) fr):zd3 H cn o Q (.x i) fr:=⟨⟨r,ho⟩,h⟩
theorem zx8{Q:X->Fr->Prop}{fr:Fr}{r:ρ}(ho:o= .inr r)(h:Q .r fr):zd3 H cn o Q .r fr:=⟨⟨r,ho⟩,h⟩
theorem ziJ{σ ρ:Type}{B:Fr->Option (X×Fr)}{cn:Fr->Fr}{body:σ->Option (σ⊕ρ)}{H:σ->Fr}{r:ρ}{Q:X->Fr->Prop}
 (round:∀s o,body s=some o->(∀r',o= .inr r'->r'=r)->∃x fr',B (H s)=some (x,fr')/\zd3 H cn o Q x fr'):
 ∀(n:Nat) (s:σ) (fr:Fr),z0h body n s=some r->cn fr=H s->∃x fr',zdo B cn n fr=some (x,fr')/\Q x fr'
 |0,s,fr,h,_=>by cases h
 |n+1,s,fr,h,h0=>by
  simp only[z0h] at h
  split at h
  · cases h
  · rename_i s' e
    obtain⟨x,fr',e1,e2⟩:=round s _ e (fun r' h'=>by cases h')
    cases x with
    |n=>
     obtain⟨s2,e3,e4⟩:=e2
     cases e3
     obtain⟨x2,fr2,e5,e6⟩:=ziJ round n s' fr' h e4
     exact⟨x2,fr2,by simp only[zdo,h0,e1];exact e5,e6⟩
    |x i=>obtain⟨⟨r',e3⟩,_⟩:=e2;cases e3
    |r=>obtain⟨⟨r',e3⟩,_⟩:=e2;cases e3
  · rename_i r0 e
    cases h
    obtain⟨x,fr',e1,e2⟩:=round s _ e (fun r' h'=>by cases h';rfl)
    cases x with
    |n=>obtain⟨s2,e3,_⟩:=e2;cases e3
    |x i=>exact⟨_,_,by simp only[zdo,h0,e1],e2.2⟩
    |r=>exact⟨_,_,by simp only[zdo,h0,e1],e2.2⟩
theorem z9A{P:Program}{C:z0g}{cf:Cfg}{LF:Nat}{c:Code}{fr:Fr}{Q:X->Fr->Prop}{lv:List Nat}{body:σ->Option (σ⊕ρ)}{s0:σ}{r:ρ}(h:z0h body LF s0=some r)(H:σ->Fr)(hk:zdk c=5)(hv:cf.live (zc7 (lpC c))=some lv)
 (h0:za2 (some lv) fr=H s0) (round:∀s o,body s=some o->(∀r',o= .inr r'->r'=r)->wpC P C cf LF (lpC c) (H s) (zd3 H (za2 (some lv)) o Q)):wpC P C cf LF c fr Q:=by
 cases c with
 |loop b=>
  obtain⟨x,fr',e1,e2⟩:=ziJ (B:=fun fr=>z2H P C cf LF b fr) (cn:=za2 (some lv)) (H:=H) (body:=body) (r:=r) (Q:=Q) (fun s o h1 h2=>by have:=round s o h1 h2;unfold wpC at this;exact this) LF s0 fr h h0
  unfold wpC
  refine⟨x,fr',?_,e2⟩
  simp only[z2H]
  simp only[lpC] at hv
  rw[hv]
  exact e1
 |_=>cases hk
theorem zrj(k:IntKind)(a b:Int):z7w .add k a b=some (.int k (k.wrap (a+b))):=rfl
theorem zr8(k:IntKind)(a b:Int):z7w .sub k a b=some (.int k (k.wrap (a-b))):=rfl
theorem zrc(k:IntKind)(a b:Int):z7w .mul k a b=some (.int k (k.wrap (a*b))):=rfl
theorem zra(k:IntKind)(a b:Int):z7w .quo k a b=if b=0 then none else some (.int k (zEs k a b)):=rfl
theorem zr9(k:IntKind)(a b:Int):z7w .rem k a b=if b=0 then none else some (.int k (a.tmod b)):=rfl
theorem zri(k:IntKind)(a b:Int):z7w .and k a b=some (.int k (z3j k a b)):=Eq.trans rfl rfl
theorem zv0(k:IntKind)(a b:Int):z7w .or k a b=some (.int k (orI k a b)):=Eq.trans rfl rfl
theorem zr7(k:IntKind)(a b:Int):z7w .xor k a b=some (.int k (zGW k a b)):=Eq.trans rfl rfl
theorem zju(k:IntKind)(a b:Int):z7w .andNot k a b=some (.int k (zhE k a b)):=Eq.trans rfl rfl
theorem zrh(k:IntKind)(a b:Int):z7w .eql k a b=some (.bool (decide (a=b))):=rfl
theorem zrb(k:IntKind)(a b:Int):z7w .neq k a b=some (.bool (!decide (a=b))):=rfl
theorem zrd(k:IntKind)(a b:Int):z7w .lss k a b=some (.bool (decide (a<b))):=rfl
theorem zre(k:IntKind)(a b:Int):z7w .leq k a b=some (.bool (decide (a<=b))):=rfl
theorem zrf(k:IntKind)(a b:Int):z7w .gtr k a b=some (.bool (decide (b<a))):=rfl
theorem zrg(k:IntKind)(a b:Int):z7w .geq k a b=some (.bool (decide (b<=a))):=rfl
theorem zio{a b:ByteArray}:a.toList=b.toList↔a=b:=by
 constructor
 · intro h
   have h1:a.data.toList=b.data.toList:=by simpa[ByteArray.toList_eq] using h
   obtain⟨⟨x⟩⟩:=a
   obtain⟨⟨y⟩⟩:=b
   simp at h1
   rw[h1]
 · intro h;rw[h]
theorem zqu(a b:ByteArray):zc1 .eql a b=some (.bool (decide (a=b))):=by
 simp only[zc1]
 congr 2
 rw[Yh];simp[zio]
theorem zqr(a b:ByteArray):zc1 .neq a b=some (.bool (!decide (a=b))):=by
 simp only[zc1]
 congr 3
 rw[Yh];simp[zio]
theorem zqs(a b:ByteArray):zc1 .lss a b=some (.bool (zC0 a b)):=rfl
theorem zqt(a b:ByteArray):zc1 .geq a b=some (.bool (!zC0 a b)):=rfl
theorem zqv(a b:ByteArray):zc1 .add a b=if zaH a b then some (.string (a++b)) else none:=by
 have hm:IntKind.i64.max=9223372036854775807:=by decide
 show(if((a.size+b.size:Nat):Int)>IntKind.i64.max then none else some (Value.string (a++b)))=_
 rw[hm]
 by_cases h:zaH a b
 · rw[if_pos h]
   unfold zaH at h
   rw[if_neg (by omega)]
 · rw[if_neg h]
   unfold zaH at h
   rw[if_pos (by omega)]
theorem zyn(op:BinOp)(u:Option TyI)(k k':IntKind)(a b:Int):zBo op u (.int k a) (.int k' b)=match op with
 | .shl=>if b<0 then none else some (.int k (zmU k a b))
 | .shr=>if b<0 then none else some (.int k (z1D k a b))
 |_=>if k=k' then z7w op k a b else none:=by
 cases op
 case shl=>simp only[zsQ];rfl
 all_goals rfl
theorem zym(op:BinOp)(u:Option TyI)(a b:ByteArray):zBo op u (.string a) (.string b)=zc1 op a b:=rfl
theorem zw1(op:BinOp)(u:Option TyI)(a b:Bool):zBo op u (.bool a) (.bool b)=match u with
 |some ⟨.bool,_,_,_⟩=>(match op with| .eql=>some (.bool (a==b))| .neq=>some (.bool (!(a==b)))|_=>none)
 |_=>none:=rfl
theorem zpA:∀l:List Int,zc9 (l.map fun z=>.sc (.int .u8 z))=some (l.map fun z=>UInt8.ofNat z.toNat)
 | []=>rfl
 |z::l=>by simp[zc9,zpA l]
theorem zpj{α β:Type}{g:α->List β}{m:Nat}(hg:∀x,(g x).length=m):∀xs:List α,(xs.flatMap g).length=xs.length*m
 | []=>by simp
 |x::xs=>by
  have:=zpj hg xs
  simp only[Y5,Z7,hg,this,Zq,Yo,Nat.one_mul]
  omega
theorem zhe{α β:Type}{g:α->List β}{m:Nat}(hg:∀x,(g x).length=m):∀(xs:List α) (i:Nat),(xs.flatMap g).drop (i*m)=(xs.drop i).flatMap g
 |xs,0=>by simp
 | [],i+1=>by simp
 |x::xs,i+1=>by
  have:=zhe hg xs i
  rw[Y5,List.drop_succ_cons,←this,List.drop_append,List.drop_eq_nil_of_le (by rw[hg,Yo];omega),Yb,hg]
  congr 1
  rw[Yo];omega
theorem zlV{α β:Type}{g:α->List β}{m:Nat}(hg:∀x,(g x).length=m):∀(xs:List α) (i:Nat),(xs.flatMap g).take (i*m)=(xs.take i).flatMap g
 |xs,0=>by simp
 | [],i+1=>by simp
 |x::xs,i+1=>by
  have:=zlV hg xs i
  rw[Y5,Xd,Y5,←this,List.take_append,Ym (by rw[hg,Yo];omega),hg]
  congr 2
  rw[Yo];omega
theorem zhd(hg:∀x,(g x).length=m)(h:xs[i]? =some v):
 i*m+m<=xs.length*m/\((xs.flatMap g).drop (i*m)).take m=g v/\(∀j,j<m->(xs.flatMap g)[i*m+j]? =(g v)[j]?)/\ ∀j c,(g v)[j]? =some c->∀hh:i*m+j<(xs.flatMap g).length,(xs.flatMap g)[i*m+j]'hh=c:=by
 obtain⟨hi,hv⟩:=Za.1 h
 have hd:xs.drop i=v::xs.drop (i+1):=by rw[←hv];exact Yl hi
 have h2:((xs.flatMap g).drop (i*m))=g v++(xs.drop (i+1)).flatMap g:=by rw[zhe hg,hd,Y5]
 have key:∀j,j<m->(xs.flatMap g)[i*m+j]? =(g v)[j]? :=fun j hj=>by
  rw[←YM,h2,ZH (by rw[hg];exact hj)]
 refine⟨?_,?_,key,fun j c hc hh=> ?_⟩
 · calc i*m+m=(i+1)*m:=by rw[Yo,Nat.one_mul]
    _<=_:=Yk _ hi
 · rw[h2,List.take_append_of_le_length (by rw[hg];exact Z8 _),Ym (by rw[hg];exact Z8 _)]
 · have hj:j<m:=by rw[←hg v];exact(Za.1 hc).1
   have:=key j hj
   rw[hc,Z1 hh] at this
   exact YF this
theorem zel{g:α->β}{l:Int}(e:z6B xs l h=some ys):((xs.map g).drop l.toNat).take (h.toNat-l.toNat)=ys.map g:=by
 obtain⟨_,_,_,e2,_⟩:=z5Y e
 rw[e2,XX,List.map_drop]
theorem zn5(hg:∀x,(g x).length=m){l:Int}(e:z6B xs l h=some ys):((xs.flatMap g).drop (l.toNat*m)).take ((h.toNat-l.toNat)*m)=ys.flatMap g:=by
 obtain⟨_,_,_,e2,_⟩:=z5Y e
 rw[e2,zhe hg,zlV hg]
theorem zek{l:Int}(e:z6B xs l h=some ys)(f:α->T):T.sl (h.toNat-l.toNat) (ys.map f)=T.sl ys.length (ys.map f):=by
 obtain⟨_,_,_,_,e2⟩:=z5Y e
 rw[e2]
theorem zqN{l:Int}(e:z6B xs l h=some ys)(f:α->List T):T.sl (h.toNat-l.toNat) (ys.flatMap f)=T.sl ys.length (ys.flatMap f):=by
 obtain⟨_,_,_,_,e2⟩:=z5Y e
 rw[e2]
theorem zd9{l:Int}(a:0<=l)(b:l<=h):0<=h/\l<=(h.toNat:Int):=by omega
theorem zgF:∀a b:List T,zhH (a++b)=(zhH a||zhH b)
 | [],b=>by simp[zhH]
 |t::a,b=>by simp[zhH,zgF a b,Bool.or_assoc]
theorem zoE{α:Type}(g:α->T):∀l:List α,zhH (l.map g)=l.any fun x=>opn (g x)
 | []=>rfl
 |x::l=>by simp[zhH,zoE g l]
theorem zly{α:Type}(g:α->List T):∀l:List α,zhH (l.flatMap g)=l.any fun x=>zhH (g x)
 | []=>rfl
 |x::l=>by simp[zgF,zly g l]
theorem zb4{κ ν:Type}[DecidableEq κ]{ke:κ->Value}{ve:ν->Value}(h:∀a b,z6D (ke a) (ke b)=decide (a=b))(k:κ):∀m:List (κ×ν),z6X (ke k) (m.map fun p=>(ke p.1,ve p.2))=(z7r k m).map ve
 | []=>rfl
 |(a,v)::m=>by
  simp only[Zt,z6X,z7r,h,zb4 h k m]
  by_cases e:a=k<;>simp[e]
theorem zeO{κ ν:Type}[DecidableEq κ]{ke:κ->Value}{ve:ν->Value}(h:∀a b,z6D (ke a) (ke b)=decide (a=b))(k:κ)(v:ν):∀m:List (κ×ν),ziu (ke k) (ve v) (m.map fun p=>(ke p.1,ve p.2))=(z8h k v m).map fun p=>(ke p.1,ve p.2)
 | []=>rfl
 |(a,u)::m=>by
  simp only[Zt,ziu,z8h,h,zeO h k v m]
  by_cases e:a=k<;>simp[e]
theorem zuT(a b:Int×Int):z6D (.agg #[.int .i64 a.1,.int .i64 a.2]) (.agg #[.int .i64 b.1,.int .i64 b.2])=decide (a=b):=by
 obtain⟨a1,a2⟩:=a
 obtain⟨b1,b2⟩:=b
 simp[z6D,zoD]
theorem zxT(k:ByteArray)(kd:IntKind)(m:List (ByteArray×Int)):z6X (.string k) (m.map fun p=>(Value.string p.1,Value.int kd p.2))=(z7r k m).map (Value.int kd):=zb4 (ke:=Value.string) (ve:=Value.int kd) (fun _ _=>rfl) k m
theorem zxU(k:ByteArray)(m:List (ByteArray×Bool)):z6X (.string k) (m.map fun p=>(Value.string p.1,Value.bool p.2))=(z7r k m).map Value.bool:=zb4 (ke:=Value.string) (ve:=Value.bool) (fun _ _=>rfl) k m
theorem zxY(k:Int)(kk kd:IntKind)(m:List (Int×Int)):z6X (.int kk k) (m.map fun p=>(Value.int kk p.1,Value.int kd p.2))=(z7r k m).map (Value.int kd):=zb4 (ke:=Value.int kk) (ve:=Value.int kd) (fun _ _=>rfl) k m
theorem zxZ(k:Int)(kk:IntKind)(m:List (Int×Bool)):z6X (.int kk k) (m.map fun p=>(Value.int kk p.1,Value.bool p.2))=(z7r k m).map Value.bool:=zb4 (ke:=Value.int kk) (ve:=Value.bool) (fun _ _=>rfl) k m
theorem zzQ(k:ByteArray)(kd:IntKind)(v:Int)(m:List (ByteArray×Int)):ziu (.string k) (.int kd v) (m.map fun p=>(Value.string p.1,Value.int kd p.2))=(z8h k v m).map fun p=>(Value.string p.1,Value.int kd p.2):=zeO (ke:=Value.string) (ve:=Value.int kd) (fun _ _=>rfl) k v m
theorem zzR(k:ByteArray)(v:Bool)(m:List (ByteArray×Bool)):ziu (.string k) (.bool v) (m.map fun p=>(Value.string p.1,Value.bool p.2))=(z8h k v m).map fun p=>(Value.string p.1,Value.bool p.2):=zeO (ke:=Value.string) (ve:=Value.bool) (fun _ _=>rfl) k v m
theorem zzV(k:Int)(kk kd:IntKind)(v:Int)(m:List (Int×Int)):ziu (.int kk k) (.int kd v) (m.map fun p=>(Value.int kk p.1,Value.int kd p.2))=(z8h k v m).map fun p=>(Value.int kk p.1,Value.int kd p.2):=zeO (ke:=Value.int kk) (ve:=Value.int kd) (fun _ _=>rfl) k v m
theorem zzW(k:Int)(kk:IntKind)(v:Bool)(m:List (Int×Bool)):ziu (.int kk k) (.bool v) (m.map fun p=>(Value.int kk p.1,Value.bool p.2))=(z8h k v m).map fun p=>(Value.int kk p.1,Value.bool p.2):=zeO (ke:=Value.int kk) (ve:=Value.bool) (fun _ _=>rfl) k v m
theorem zxX(k:Int)(kk:IntKind)(m:List (Int×ByteArray)):z6X (.int kk k) (m.map fun p=>(Value.int kk p.1,Value.string p.2))=(z7r k m).map Value.string:=zb4 (ke:=Value.int kk) (ve:=Value.string) (fun _ _=>rfl) k m
theorem zzU(k:Int)(kk:IntKind)(v:ByteArray)(m:List (Int×ByteArray)):ziu (.int kk k) (.string v) (m.map fun p=>(Value.int kk p.1,Value.string p.2))=(z8h k v m).map fun p=>(Value.int kk p.1,Value.string p.2):=zeO (ke:=Value.int kk) (ve:=Value.string) (fun _ _=>rfl) k v m
theorem zxV(x y:Int)(kd:IntKind)(m:List ((Int×Int)×Int)):z6X (.agg #[.int .i64 x,.int .i64 y]) (m.map fun p=>(Value.agg #[.int .i64 p.1.1,.int .i64 p.1.2],Value.int kd p.2))=(z7r (x,y) m).map (Value.int kd):=zb4 (ke:=fun p:Int×Int=>Value.agg #[.int .i64 p.1,.int .i64 p.2]) (ve:=Value.int kd) (zuT) (x,y) m
theorem zzS(x y:Int)(kd:IntKind)(v:Int)(m:List ((Int×Int)×Int)):ziu (.agg #[.int .i64 x,.int .i64 y]) (.int kd v) (m.map fun p=>(Value.agg #[.int .i64 p.1.1,.int .i64 p.1.2],Value.int kd p.2))=(z8h (x,y) v m).map fun p=>(Value.agg #[.int .i64 p.1.1,.int .i64 p.1.2],Value.int kd p.2):=zeO (ke:=fun p:Int×Int=>Value.agg #[.int .i64 p.1,.int .i64 p.2]) (ve:=Value.int kd) (zuT) (x,y) v m
theorem zxW(k:List Int)(kd:IntKind)(m:List (List Int×Int)):z6X (agI k) (m.map fun p=>(agI p.1,Value.int kd p.2))=(z7r k m).map (Value.int kd):=zb4 (ke:=agI) (ve:=Value.int kd) zeq k m
theorem zzT(k:List Int)(kd:IntKind)(v:Int)(m:List (List Int×Int)):ziu (agI k) (.int kd v) (m.map fun p=>(agI p.1,Value.int kd p.2))=(z8h k v m).map fun p=>(agI p.1,Value.int kd p.2):=zeO (ke:=agI) (ve:=Value.int kd) zeq k v m
def zro{κ ν:Type}[DecidableEq κ](k:κ):List (κ×ν)->Option (κ×ν)
 | []=>none
 |(a,v)::m=>if a=k then some (a,v) else zro k m
theorem zh7{κ ν:Type}[DecidableEq κ](k:κ):∀m:List (κ×ν),(zro k m).map (·.2)=z7r k m
 | []=>rfl
 |(a,v)::m=>by
  simp only[zro,z7r]
  split
  · rfl
  · exact zh7 k m
theorem zva{κ:Type}[DecidableEq κ](k:κ)(m:List (κ×ν)):(zro k m).isSome=(z7r k m).isSome:=by rw[←zh7,Option.isSome_map]
theorem znD{α:Type}(k:ByteArray)(g:ByteArray×α->T):∀m:List (ByteArray×α),zaG (.string k) (m.map fun p=>Value.string p.1) (m.map g)=(zro k m).map g
 | []=>rfl
 |(a,v)::m=>by
  simp only[Zt,zaG,zro,z6D,znD k g m]
  by_cases h:a=k<;>simp[h]
theorem zvn{α:Type}(k:Int)(kk:IntKind)(g:Int×α->T):∀m:List (Int×α),zaG (.int kk k) (m.map fun p=>Value.int kk p.1) (m.map g)=(zro k m).map g
 | []=>rfl
 |(a,v)::m=>by
  simp only[Zt,zaG,zro,z6D,zvn k kk g m]
  by_cases h:a=k<;>simp[h]
theorem zsU{α:Type}(k:ByteArray)(v:α)(g:ByteArray×α->T):∀m:List (ByteArray×α),zaC (.string k) (g (k,v)) (m.map fun p=>Value.string p.1) (m.map g)=((z8h k v m).map (fun p=>Value.string p.1),(z8h k v m).map g)
 | []=>rfl
 |(a,u)::m=>by
  simp only[Zt,zaC,z8h,z6D,zsU k v g m]
  by_cases h:a=k<;>simp[h]
theorem zsW(k:Value)(t:T):zaC k t [] []=([k],[t]):=rfl
theorem zwV(k v:Value):ziu k v []= [(k,v)]:=rfl
theorem zwW{κ:Type}[DecidableEq κ](k:κ)(v:ν):z8h k v []= [(k,v)]:=rfl
theorem zxO(kd:IntKind)(z:Int)(o:Option Int):(o.map (Value.int kd)).getD (.int kd z)= .int kd (o.getD z):=by cases o<;>rfl
theorem zvc(z:Bool)(o:Option Bool):(o.map Value.bool).getD (.bool z)= .bool (o.getD z):=by cases o<;>rfl
@[simp] theorem oneNil:(Value.slice none 0 0).oneCell'=true:=rfl
@[simp] theorem bszL(a:Array UInt8):ByteArray.size ⟨a⟩=a.size:=rfl
@[simp] theorem bempty:(⟨#[]⟩:ByteArray)=ByteArray.empty:=rfl
@[simp] theorem voG0(p l:List T):(p++l)[p.length]? =l[0]? :=by rw[List.getElem?_append_right (Nat.le_refl _),Nat.sub_self]
@[simp] theorem voG(p l:List T)(j:Nat):(p++l)[p.length+j]? =l[j]? :=by rw[List.getElem?_append_right (by omega),Nat.add_sub_cancel_left]
@[simp] theorem voSet0(p l:List T)(x:T):(p++l).set p.length x=p++l.set 0 x:=by rw[List.set_append_right _ _ (Nat.le_refl _),Nat.sub_self]
@[simp] theorem voSet(p l:List T)(j:Nat)(x:T):(p++l).set (p.length+j) x=p++l.set j x:=by rw[List.set_append_right _ _ (by omega),Nat.add_sub_cancel_left]
section
variable {P:Program} {C:z0g} {cf:Cfg} {LF:Nat} {c:Code} {fr fr1:Fr} {Q:X->Fr->Prop}
theorem zr{l:List Oper}(hl:rgL c=some l)(hd:rgD c=false)(hz:cf.fz (rgI c)=none)(hf:zf5 P C cf.wio l.toArray l fr=some fr1)(h:Q .n fr1):wpC P C cf LF c fr Q:=
 zjd hl hd hz fun Q' hQ=>by rw[hf,zmn];exact hQ.out _ h
theorem zq(hk:zdk c=2)(h:wpC P C cf LF (zka c) fr (zkX (fun fr'=>wpC P C cf LF (zdJ c) fr' Q) Q)):wpC P C cf LF c fr Q:=zCe hk h
theorem zb(hk:zdk c=4)(h:wpC P C cf LF (blC c) fr (z9x (blI c) Q)):wpC P C cf LF c fr Q:=zto hk h
end
@[simp] theorem voLe(a j k n:Nat):(a+j+k<=a+n)=(j+k<=n):=by simp only[eq_iff_iff];omega
section
variable {P:Program} {C:z0g} {cf:Cfg} {LF:Nat} {c:Code} {fr fr1:Fr} {Q:X->Fr->Prop} {l:List Oper}
theorem zs(h:Q .n fr1)(hl:rgL c=some l:=by rfl)(hd:rgD c=false:=by rfl)(hz:cf.fz (rgI c)=none:=by rfl)(hf:zf5 P C cf.wio l.toArray l fr=some fr1:=by simp;rfl):wpC P C cf LF c fr Q:=zr hl hd hz hf h
theorem zp(h:wpC P C cf LF (zka c) fr (zkX (fun fr'=>wpC P C cf LF (zdJ c) fr' Q) Q))(hk:zdk c=2:=by rfl):wpC P C cf LF c fr Q:=zq hk h
end
end
section
open Go
variable{k n:Nat}{α ρ σ:Type}{xs:List α}{x:Option ρ}{b:σ->Option (σ⊕ρ)}
theorem zoO{σ ρ:Type}{b:σ->Option (σ⊕ρ)}{x:Option ρ}:∀(n:Nat) (f:Nat->σ) (m:Nat),n<m->(∀k,k<n->b (f k)=z0c (f (k+1)))->b (f n)=z0d x->z0h b m (f 0)=x
 |0,f,m+1,_,_,hl=>by
  simp only[z0h,hl]
  cases x<;>rfl
 |n+1,f,m+1,hm,hs,hl=>by
  simp only[z0h,hs 0 (by omega),z0c]
  exact zoO n (fun k=>f (k+1)) m (by omega) (fun k hk=>hs (k+1) (by omega)) hl
theorem z0q(n:Nat)(f:Nat->σ){s:σ}(h0:s=f 0)(hn:n<LFm)(step:∀k,k<n->b (f k)=z0c (f (k+1)))(last:b (f n)=z0d x):z0h b LFm s=x:=by
 subst h0;exact zoO n f LFm hn step last
theorem ziF{σ ρ:Type}{b:σ->Option (σ⊕ρ)}{x:Option ρ}{p:Nat->Bool}{A:Nat->Option ρ}:∀(n:Nat) (f:Nat->σ) (m i:Nat),n<m->(∀k,k<n->b (f k)=if p (i+k)=true then z0d (A (i+k)) else z0c (f (k+1)))->b (f n)=z0d x->
 z0h b m (f 0)=match((List.range n).map (i+ ·)).find? p with|some k=>A k|none=>x
 |0,f,m+1,i,_,_,hl=>by
  simp only[z0h,hl]
  cases x<;>rfl
 |n+1,f,m+1,i,hm,hs,hl=>by
  have h0:=hs 0 (by omega)
  have hmap:(List.range (n+1)).map (i+ ·)=i::(List.range n).map (i+1+ ·):=by
   rw[List.range_succ_eq_map,Zt,Ya]
   congr 1
   apply ZA
   intro k _
   simp only[Function.comp]
   omega
  rw[hmap,List.find?_cons]
  simp only[YH] at h0
  by_cases hp:p i=true
  · rw[if_pos hp] at h0
    rw[hp]
    simp only[z0h,h0]
    generalize A i=y
    cases y<;>rfl
  · rw[if_neg hp] at h0
    have hp':p i=false:=by simpa using hp
    rw[hp']
    simp only[z0h,h0,z0c]
    exact ziF n (fun k=>f (k+1)) m (i+1) (by omega) (fun k hk=>by rw[hs (k+1) (by omega),show i+(k+1)=i+1+k by omega]) hl
theorem z5C(n:Nat)(f:Nat->σ)(p:Nat->Bool)(A:Nat->Option ρ){s:σ}(h0:s=f 0)(hn:n<LFm)(step:∀k,k<n->b (f k)=if p k=true then z0d (A k) else z0c (f (k+1)))(last:b (f n)=z0d x):
 z0h b LFm s=match(List.range n).find? p with|some k=>A k|none=>x:=by
 subst h0
 have:=ziF n f LFm 0 hn (p:=p) (A:=A) (fun k hk=>by rw[step k hk];simp) last
 simpa using this
theorem z0H(h:k<4611686018427387904):IntKind.i64.wrap ((k:Int)+1)=((k+1:Nat):Int):=by
 rw[IntWalk.i64_in _ (by omega)];omega
theorem z2z{x:Int}(h: -9223372036854775808<=x)(h2:x<9223372036854775808):IntKind.i64.wrap x=x:=IntWalk.i64_in _ (by omega)
theorem zwu{x:Int}(h:0<=x)(h2:x<256):IntKind.u8.wrap x=x:=by rw[YQ];omega
theorem z0Q(h:k<xs.length):atI xs (k:Int)=some xs[k]:=by
 unfold atI;rw[if_pos (by omega),Z2,Z1 h]
theorem zbc{s:ByteArray}(h:k<s.size):zht s (k:Int)=some (s[k].toNat:Int):=by
 unfold zht;rw[if_pos (by omega),Z2,getElem?_pos s k h];rfl
theorem zaW(h:k<=xs.length):z6B xs 0 (k:Int)=some (xs.take k):=by
 unfold z6B;rw[if_pos (by omega)];simp
theorem zn4(h:k<=xs.length):z6B xs (k:Int) (xs.length:Int)=some (xs.drop k):=by
 unfold z6B;rw[if_pos (by omega)];simp[Ym]
theorem z0e{p:Prop}[Decidable p](x:Option α)(h:p):chk p x=x:=by unfold chk;rw[if_pos h]
theorem zlX{p:Nat->Bool}:(List.range n).find? p=none↔ ∀k,k<n->p k=false:=by simp
theorem zlW{p:Nat->Bool}:(List.range n).find? p=some k↔k<n/\p k=true/\ ∀j,j<k->p j=false:=by
 rw[YU];simp;constructor
 · rintro⟨a,b,c⟩;exact⟨b,a,c⟩
 · rintro⟨a,b,c⟩;exact⟨b,a,c⟩
theorem zdu{p:Nat->Bool}(a b:ρ):(match(List.range n).find? p with|some _=>a|none=>b)=if(List.range n).all (fun k=> !p k) then b else a:=by
 cases h:(List.range n).find? p with
 |none=>rw[zlX] at h;rw[if_pos (by simpa using h)]
 |some k=>
  rw[zlW] at h
  rw[if_neg]
  simp only[Zr,Zj,ZX]
  intro hh
  have:=hh k h.1
  rw[h.2.1] at this
  cases this
theorem zgz(p:α->Bool)(l:List α)(d:α):(List.range l.length).all (fun k=>p (l.getD k d))=l.all p:=by
 rw[Yh,Zr,Zr]
 constructor
 · intro h x hx
   obtain⟨i,hi,rfl⟩:=Zn hx
   have:=h i (Zj.2 hi)
   simpa only[List.getD,Z1 hi,Z4] using this
 · intro h i hi
   have hi:=Zj.1 hi
   have:=h _ (Zm hi)
   simpa only[List.getD,Z1 hi,Z4] using this
theorem zgO{b:Int->Option (Int⊕ρ)}{l:List α}(d:α)(p:α->Bool){A B:Option ρ}(h:l.length<4611686018427387904)(step:∀k,k<l.length->b (k:Int)=if p (l.getD k d)=true then z0c ((k+1:Nat):Int) else z0d A)(last:b (l.length:Int)=z0d B):
 z0h b LFm 0=if l.all p=true then B else A:=by
 rw[z5C (s:=(0:Int)) l.length (fun k=>(k:Int)) (fun k=> !p (l.getD k d)) (fun _=>A) (x:=B) rfl (by simp only[LFm];omega) (fun k hk=> ?_) last]
 · rw[zdu]
   simp only[Xy]
   rw[zgz]
 · rw[step k hk]
   cases p (l.getD k d)<;>simp
end
end Go.Proofs.YtiobkcdgggbljaaGreatDoor
