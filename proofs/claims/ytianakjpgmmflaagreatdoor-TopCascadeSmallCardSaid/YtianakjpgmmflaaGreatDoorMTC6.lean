/- Proved here: the law TopCascadeSmall returns true for every input, and its arguments read afterwards as before; the row's listed tables are tied to the program's text by the given tie. No other condition. -/
import Derived.Test.YtianakjpgmmflaaGreatDoorMTC5
import Derived.KernelRfl
import Derived.ChangeOld
import Derived.ChangeReads
import Derived.Below
import Derived.ChangeSlices
import Derived.Deep.Grids
import Derived.WideShapes
import Derived.WalkKit
import Derived.ProofKit
import Derived.Shelf.SlSortCmp.NoneTotal
import Derived.StillTailTactics
import Derived.Shelf.Strings.BuilderX
import Derived.Lib.AppendStr
import Derived.Lib.OthersKept
import Derived.LoopN
import Derived.Test.YtianakjpgmmflaaGreatDoorRows
import Derived.OpenShut
import Derived.LaidMore
import Derived.LaidSub
import Derived.Lay
import Derived.ShutString
import Derived.Deep.DeepHandedRow
set_option linter.unusedVariables false
set_option linter.unusedSimpArgs false
set_option linter.unusedSectionVars false
set_option maxRecDepth 100000
set_option maxHeartbeats 6000000
namespace Go.Proofs.YtianakjpgmmflaaGreatDoor
section
open Go
instance:XMo xt:=inferInstanceAs (XMo xtF)
theorem cAw:z4J Tryz.prog xt zlA 24 8 []=some (.sc (.bool true),[]):=by kernel_rfl
theorem cK:L 8 []=some (.sc (.bool true),[]):=zBw 24 cAw
end
section
open Go
def zxv:Option Bool:=some true
instance:Ok zxv (fun r=>L 8 []=some (.sc (.bool r),[])):=⟨fun r h=>by cases h;exact cK⟩
end
section
open Go Go.IntKind
noncomputable section
variable{a0:List Int}
def zcd(a0:List Int)(a1:Int):Option (DFA):=
 (zcD a0).bind fun v4=>
 (z4I v4).bind fun v5=>
 (z5H v5.2 v5.1 a1).bind fun v6=>
 some v6.1
instance{a1:Int}:Ok (zcd a0 a1) (fun r=>L 4 [(tI a0),.sc (.int .i64 a1)]=some (.agg [.sc (.int .i64 r.letters),.sc (.int .i64 r.start),(tB r.final),(tR r.next)],[.dead,.dead])):=⟨fun r h=>by have h:=z4u h;unfold zcd at h;exact zeu rfl Tryz.func4 (bdy Tryz.f4 rfl)⟩
def z4a(v21:DFA)(v22:Cover×Int)(v23:List Hol×Int):Int->Option (Int⊕Bool)
 |w29=>
 if w29<(v23.1.length:Int) then
 (atI v23.1 w29).bind fun v35=>
 (atI v22.1.casc.sizes w29).bind fun v36=>
 if v36=(v35.tiles.length:Int) then
 if(v35.tiles.length:Int)<2 then
 z0i<|
 some false
 else
 (atI v22.1.groups w29).bind fun v37=>
 (z8S v35.tiles v37.tiles).bind fun v38=>
 if v38=true then
 if v35.set=v37.set then
 z0c (i64.wrap (w29+1))
 else
 z0i<|
 some false
 else
 z0i<|
 some false
 else
 z0i<|
 some false
 else
 z0i<|
 if((decide ((v23.1.length:Int)=0))==(decide ((v21.final.length:Int)=1)))=true then
 (zxv).bind fun v40=>
 some v40
 else
 some false
def z3Z(v21:DFA)(v22:Cover×Int)(v23:List Hol×Int):Int->Fr
 |w29=>⟨103,[(3,.one (.a 3 [] (0))),(4,.one (.a 4 [] (0))),(6,.one (.t none (.sl v23.1.length (v23.1.flatMap fun x0=> [.sc (.int .i64 x0.set),(tI x0.tiles),(tS x0.words),(tR x0.perms)])))),(45,.one (.t none (.sl v23.1.length (v23.1.flatMap fun x0=> [.sc (.int .i64 x0.set),(tI x0.tiles),(tS x0.words),(tR x0.perms)])))),(46,.one (.t none (.sc (.int .i64 (v23.1.length:Int))))),(47,.one (.t none (.sc (.int .i64 w29))))],[(3,.vr [.sc (.int .i64 v21.letters),.sc (.int .i64 v21.start),(tB v21.final),(tR v21.next)]),(4,.vr [.sc (.int .i64 v22.1.casc.letters),(tI v22.1.casc.sizes),.sl v22.1.casc.rows.length (v22.1.casc.rows.flatMap fun x0=> [(tI x0.pre),(tR x0.maps)]),(tI v22.1.start),(tR v22.1.tuples),(tI v22.1.states),.sl v22.1.groups.length (v22.1.groups.flatMap fun x0=> [.sc (.int .i64 x0.set),(tI x0.tiles),(tS x0.words),(tR x0.perms)])])]⟩
def z4Q(a0:List Int):Option (Bool):=
 (zcd a0 5).bind fun v21=>
 (z4P v21).bind fun v22=>
 (z4w v21).bind fun v23=>
 if v22.2=0 then
 if v23.2=0 then
 if(v23.1.length:Int)=(v22.1.casc.sizes.length:Int) then
 if(v22.1.groups.length:Int)=(v23.1.length:Int) then
 z0k (z4a v21 v22 v23) LFm 0
 else
 some false
 else
 some false
 else
 some false
 else
 some false
theorem z9F{r:Bool}(h0:z4Q a0=some r):L 3 [(tI a0)]=some (.sc (.bool r),[.dead]):=by
 simp only[z4Q] at h0
 refine zrf rfl Tryz.func3 (zso (bdy Tryz.f3 rfl) ⟨of_decide_eq_true rfl,of_decide_eq_true rfl⟩ ?_)
 simp only[z6H,z7u,z6N,z8Z,z6i]
 refine zp (zs ?_)
 refine z0d (zp ?_)
 obtain⟨v21,f37,h1⟩:=z1t h0
 have f37k:=Ok.ok _ f37
 try simp at f37k
 refine zr rfl rfl rfl (by simp[f37k];rfl) ?_
 refine z0d (zp ?_)
 obtain⟨v22,f38,h2⟩:=z1t h1
 have f38k:=Ok.ok _ f38
 try simp at f38k
 refine zr rfl rfl rfl (by simp[f38k];rfl) ?_
 refine z0d (zp ?_)
 obtain⟨v23,f39,h3⟩:=z1t h2
 have f39k:=Ok.ok _ f39
 try simp at f39k
 refine zr rfl rfl rfl (by simp[f39k];rfl) ?_
 refine z0d (zp (zp ?_))
 by_cases c40:v22.2=0
 ·rw[if_pos c40] at h3
  have c40e:=eq_true c40
  by_cases c41:v23.2=0
  ·rw[if_pos c41] at h3
   have c41e:=eq_true c41
   by_cases c42:(v23.1.length:Int)=(v22.1.casc.sizes.length:Int)
   ·rw[if_pos c42] at h3
    have c42e:=eq_true c42
    refine zr rfl rfl rfl (by simp[c40e,c41e,c42e];rfl) ?_
    refine z0d ?_
    by_cases c43:(v22.1.groups.length:Int)=(v23.1.length:Int)
    ·rw[if_pos c43] at h3
     have c43e:=eq_true c43
     refine z9J rfl (by simp[c43e]) (z6v rfl (z0d (zp (zp (zs ?_)))))
     refine z0d (zb rfl (z8a h3 (z3Z v21 v22 v23) rfl rfl (by simp[z3Z]) fun s o1 h4 hr1=> ?_))
     obtain⟨w29,hs1⟩:∃y,y=s:=⟨_,rfl⟩
     subst hs1
     simp only[z4a] at h4
     simp only[z3Z]
     refine zp (zs ?_)
     refine z0d (zp ?_)
     by_cases c62:w29<(v23.1.length:Int)
     ·rw[if_pos c62] at h4
      refine z7H rfl (by simp[c62]) (z6v rfl (z0d (zp (zb rfl (zp ?_)))))
      obtain⟨v35,f63,h5⟩:=z1t h4
      obtain⟨f63a,f63b,f63c,f63d,f63e⟩:=zaY f63
      have f63g:=zac (g:=fun x:Hol=>([.sc (.int .i64 x.set),(tI x.tiles),(tS x.words),(tR x.perms)]:List T)) (m:=4) (fun _=>rfl) f63d
      have f63h:=zeJ (g:=fun x:Hol=>([.sc (.int .i64 x.set),(tI x.tiles),(tS x.words),(tR x.perms)]:List T)) (m:=4) (fun _=>rfl) v23.1
      have f63k0:=f63g.2.2.1 0 (by decide)
      have f63m0:=f63g.2.2.2 0 _ rfl
      have f63k1:=f63g.2.2.1 1 (by decide)
      have f63m1:=f63g.2.2.2 1 _ rfl
      have f63k2:=f63g.2.2.1 2 (by decide)
      have f63m2:=f63g.2.2.2 2 _ rfl
      have f63k3:=f63g.2.2.1 3 (by decide)
      have f63m3:=f63g.2.2.2 3 _ rfl
      obtain⟨f63g,f63i,-⟩:=f63g
      try simp at f63i f63h f63k0 f63m0 f63k1 f63m1 f63k2 f63m2 f63k3 f63m3
      refine zr rfl rfl rfl (by simp[f63a,f63b,f63c,f63d,f63e,f63g,f63i,f63h,f63k0,f63k1,f63k2,f63k3,f63m0,f63m1,f63m2,f63m3];rfl) ?_
      refine z0d (zp ?_)
      obtain⟨v36,f64,h6⟩:=z8G h5
      by_cases c65:v36=(v35.tiles.length:Int)
      ·rw[if_pos c65] at h6
       have c65e:=eq_true c65
       by_cases c66:(v35.tiles.length:Int)<2
       ·rw[if_pos c66] at h6
        refine z6U rfl rfl rfl rfl ?_;repeat' (first|(refine z3T rfl rfl fun Q' hQ=> ?_;simp[f64,c65e,c66];refine hQ.out _ ?_;clear hQ;clear Q')|(refine z5C rfl rfl fun Q1 Q2 h1 h2=> ?_;simp[f64,c65e,c66,z7n];(first|refine h1.out ?_|refine h2.out ?_);clear h1 h2;clear Q1 Q2;intro Q' hQ;simp[f64,c65e,c66];refine hQ.out _ ?_;clear hQ;clear Q')|(refine z2Z rfl fun Q' hQ=> ?_;simp[f64,c65e,c66];refine hQ.out _ ?_;clear hQ;clear Q'))
        refine z0d (z7H rfl (by simp) (zp (zs ?_)))
        refine z0d (za4 rfl (z7l (z5O ?_)))
        obtain⟨rr1,h7,ho1⟩:=z3K h6
        have hs1:=hr1 _ ho1
        subst hs1
        refine zcm ho1 (z7l (z5O ?_))
        cases h7
        simp
       ·rw[if_neg c66] at h6
        obtain⟨v37,f67,h7⟩:=z1t h6
        obtain⟨f67a,f67b,f67c,f67d,f67e⟩:=zaY f67
        have f67g:=zac (g:=fun x:Hol=>([.sc (.int .i64 x.set),(tI x.tiles),(tS x.words),(tR x.perms)]:List T)) (m:=4) (fun _=>rfl) f67d
        have f67h:=zeJ (g:=fun x:Hol=>([.sc (.int .i64 x.set),(tI x.tiles),(tS x.words),(tR x.perms)]:List T)) (m:=4) (fun _=>rfl) v22.1.groups
        have f67k0:=f67g.2.2.1 0 (by decide)
        have f67m0:=f67g.2.2.2 0 _ rfl
        have f67k1:=f67g.2.2.1 1 (by decide)
        have f67m1:=f67g.2.2.2 1 _ rfl
        have f67k2:=f67g.2.2.1 2 (by decide)
        have f67m2:=f67g.2.2.2 2 _ rfl
        have f67k3:=f67g.2.2.1 3 (by decide)
        have f67m3:=f67g.2.2.2 3 _ rfl
        obtain⟨f67g,f67i,-⟩:=f67g
        try simp at f67i f67h f67k0 f67m0 f67k1 f67m1 f67k2 f67m2 f67k3 f67m3
        obtain⟨v38,f68,h8⟩:=z1t h7
        have f68k:=Ok.ok _ f68
        try simp at f68k
        by_cases c69:v38=true
        ·rw[if_pos c69] at h8
         refine z6U rfl rfl rfl rfl ?_;repeat' (first|(refine z3T rfl rfl fun Q' hQ=> ?_;simp[f64,c65e,c66,f67a,f67b,f67c,f67d,f67e,f67g,f67i,f67h,f67k0,f67k1,f67k2,f67k3,f67m0,f67m1,f67m2,f67m3,f68k,c69];refine hQ.out _ ?_;clear hQ;clear Q')|(refine z5C rfl rfl fun Q1 Q2 h1 h2=> ?_;simp[f64,c65e,c66,f67a,f67b,f67c,f67d,f67e,f67g,f67i,f67h,f67k0,f67k1,f67k2,f67k3,f67m0,f67m1,f67m2,f67m3,f68k,c69,z7n];(first|refine h1.out ?_|refine h2.out ?_);clear h1 h2;clear Q1 Q2;intro Q' hQ;simp[f64,c65e,c66,f67a,f67b,f67c,f67d,f67e,f67g,f67i,f67h,f67k0,f67k1,f67k2,f67k3,f67m0,f67m1,f67m2,f67m3,f68k,c69];refine hQ.out _ ?_;clear hQ;clear Q')|(refine z2Z rfl fun Q' hQ=> ?_;simp[f64,c65e,c66,f67a,f67b,f67c,f67d,f67e,f67g,f67i,f67h,f67k0,f67k1,f67k2,f67k3,f67m0,f67m1,f67m2,f67m3,f68k,c69];refine hQ.out _ ?_;clear hQ;clear Q'))
         refine z0d ?_
         by_cases c70:v35.set=v37.set
         ·rw[if_pos c70] at h8
          have c70e:=eq_true c70
          refine z9J rfl (by simp[c70e]) (z6v rfl (z4X (z0d (zs ?_))))
          have ho:=z4j h8
          refine z5j ho ?_
          simp[z3Z,c69]
         ·rw[if_neg c70] at h8
          have c70e:=eq_false c70
          refine z7H rfl (by simp[c70e]) (zp (zs ?_))
          refine z0d (za4 rfl (z7l (z5O ?_)))
          obtain⟨rr1,h9,ho1⟩:=z3K h8
          have hs1:=hr1 _ ho1
          subst hs1
          refine zcm ho1 (z7l (z5O ?_))
          cases h9
          simp[c69]
        ·rw[if_neg c69] at h8
         refine z6U rfl rfl rfl rfl ?_;repeat' (first|(refine z3T rfl rfl fun Q' hQ=> ?_;simp[f64,c65e,c66,f67a,f67b,f67c,f67d,f67e,f67g,f67i,f67h,f67k0,f67k1,f67k2,f67k3,f67m0,f67m1,f67m2,f67m3,f68k,c69];refine hQ.out _ ?_;clear hQ;clear Q')|(refine z5C rfl rfl fun Q1 Q2 h1 h2=> ?_;simp[f64,c65e,c66,f67a,f67b,f67c,f67d,f67e,f67g,f67i,f67h,f67k0,f67k1,f67k2,f67k3,f67m0,f67m1,f67m2,f67m3,f68k,c69,z7n];(first|refine h1.out ?_|refine h2.out ?_);clear h1 h2;clear Q1 Q2;intro Q' hQ;simp[f64,c65e,c66,f67a,f67b,f67c,f67d,f67e,f67g,f67i,f67h,f67k0,f67k1,f67k2,f67k3,f67m0,f67m1,f67m2,f67m3,f68k,c69];refine hQ.out _ ?_;clear hQ;clear Q')|(refine z2Z rfl fun Q' hQ=> ?_;simp[f64,c65e,c66,f67a,f67b,f67c,f67d,f67e,f67g,f67i,f67h,f67k0,f67k1,f67k2,f67k3,f67m0,f67m1,f67m2,f67m3,f68k,c69];refine hQ.out _ ?_;clear hQ;clear Q'))
         refine z0d (z7H rfl (by simp) (zp (zs ?_)))
         refine z0d (za4 rfl (z7l (z5O ?_)))
         obtain⟨rr1,h9,ho1⟩:=z3K h8
         have hs1:=hr1 _ ho1
         subst hs1
         refine zcm ho1 (z7l (z5O ?_))
         cases h9
         simp[c69]
      ·rw[if_neg c65] at h6
       have c65e:=eq_false c65
       refine z6U rfl rfl rfl rfl ?_;repeat' (first|(refine z3T rfl rfl fun Q' hQ=> ?_;simp[f64,c65e];refine hQ.out _ ?_;clear hQ;clear Q')|(refine z5C rfl rfl fun Q1 Q2 h1 h2=> ?_;simp[f64,c65e,z7n];(first|refine h1.out ?_|refine h2.out ?_);clear h1 h2;clear Q1 Q2;intro Q' hQ;simp[f64,c65e];refine hQ.out _ ?_;clear hQ;clear Q')|(refine z2Z rfl fun Q' hQ=> ?_;simp[f64,c65e];refine hQ.out _ ?_;clear hQ;clear Q'))
       refine z0d (z7H rfl (by simp) (zp (zs ?_)))
       refine z0d (za4 rfl (z7l (z5O ?_)))
       obtain⟨rr1,h7,ho1⟩:=z3K h6
       have hs1:=hr1 _ ho1
       subst hs1
       refine zcm ho1 (z7l (z5O ?_))
       cases h7
       simp
     ·rw[if_neg c62] at h4
      refine z9J rfl (by simp[c62]) (z9C rfl (z7x ?_))
      obtain⟨rr1,h5,ho1⟩:=z3K h4
      have hs1:=hr1 _ ho1
      subst hs1
      refine z6t ho1 (z3D rfl (z0d (zp ?_)))
      by_cases c71:((decide ((v23.1.length:Int)=0))==(decide ((v21.final.length:Int)=1)))=true
      ·rw[if_pos c71] at h5
       simp only[Int.natCast_eq_zero,List.length_eq_zero_iff] at c71
       obtain⟨v40,f72,h6⟩:=z1t h5
       have f72k:=Ok.ok _ f72
       try simp at f72k
       refine zr rfl rfl rfl (by simp[c71,f72k];rfl) ?_
       refine z0d (za4 rfl ?_)
       cases h6
       simp[c71]
      ·rw[if_neg c71] at h5
       simp only[Int.natCast_eq_zero,List.length_eq_zero_iff] at c71
       refine zr rfl rfl rfl (by simp[c71];rfl) ?_
       refine z0d (za4 rfl ?_)
       cases h5
       simp[c71]
    ·rw[if_neg c43] at h3
     have c43e:=eq_false c43
     refine z7H rfl (by simp[c43e]) (zp (zs ?_))
     refine z0d (za4 rfl (z5O ?_))
     cases h3
     simp
   ·rw[if_neg c42] at h3
    have c42e:=eq_false c42
    refine zr rfl rfl rfl (by simp[c40e,c41e,c42e];rfl) ?_
    refine z0d (z7H rfl (by simp) (zp (zs ?_)))
    refine z0d (za4 rfl (z5O ?_))
    cases h3
    simp
  ·rw[if_neg c41] at h3
   have c41e:=eq_false c41
   refine zr rfl rfl rfl (by simp[c40e,c41e];rfl) ?_
   refine z0d (z7H rfl (by simp) (zp (zs ?_)))
   refine z0d (za4 rfl (z5O ?_))
   cases h3
   simp
 ·rw[if_neg c40] at h3
  have c40e:=eq_false c40
  refine zr rfl rfl rfl (by simp[c40e];rfl) ?_
  refine z0d (z7H rfl (by simp) (zp (zs ?_)))
  refine z0d (za4 rfl (z5O ?_))
  cases h3
  simp
end
end
section
open Go
theorem zsi(a:List Int)(h:a.length<1000):z8S a a=some true:=by
 unfold z8S
 rw[if_pos rfl]
 refine z0x (s:=(0:Int)) a.length (fun k=>(k:Int)) rfl (by simp only[LFm];omega) (fun k hk=> ?_) ?_
 · simp only[z7G]
   rw[if_pos (by omega),z1k hk,Z0,Z0,if_pos rfl,z1g (by omega)]
 · simp only[z7G]
   rw[if_neg (by omega)]
theorem zyx(l:List Int):z4Q l=some true:=by
 obtain⟨t0,e0,h0⟩:=zBi l
 obtain⟨m,t1,e1,m1,m2,h1⟩:=zqv h0
 obtain⟨d,t2,n,e2,hd,hn,h2,h32,hs⟩:=zAa h1 m 5 ⟨m1,m2⟩ (by omega)
 have e2':z5H t1 (m:Int) 5=some (d,t2):=e2
 obtain⟨c,G,c1,c2,c3,c4,c5,c6,c7⟩:=zAG hd m2 hs
 unfold z4Q zcd
 rw[e0,Z0,e1,Z0]
 simp only
 rw[e2',Z0,Z0]
 simp only
 rw[c1,Z0,c2,Z0,if_pos rfl,if_pos rfl,if_pos (by simp only;rw[c3]),if_pos (by simp only;rw[c4])]
 refine z0x (s:=(0:Int)) G.length (fun k=>(k:Int)) rfl (by simp only[LFm];omega) (fun k hk=> ?_) ?_
 · obtain⟨a1,a2,a3⟩:=c6 k hk
   have hg:atI G (k:Int)=some (G.getD k default):=by
    rw[z1k hk,List.getD,Z1 hk,Zb]
   have hz:atI c.casc.sizes (k:Int)=some (((G.getD k default).tiles.length:Nat):Int):=by
    rw[z1k (by omega),←a1,List.getD,Z1 (by omega),Zb]
   simp only[z4a]
   rw[if_pos (by omega),hg,Z0,hz,Z0,if_pos rfl,if_neg (by omega),c4,hg,Z0,zsi _ (by omega),Z0,if_pos rfl,if_pos rfl,z1g (by omega)]
 · simp only[z4a]
   rw[if_neg (by omega)]
   congr 1
   have hf:=hd.fin
   have:((decide ((G.length:Int)=0))==(decide ((d.final.length:Int)=1)))=true:=by
    by_cases e:n=1
    · have:=c7.2 e
      have h3:(G.length:Int)=0:=by omega
      have h4:(d.final.length:Int)=1:=by omega
      rw[decide_eq_true h3,decide_eq_true h4];rfl
    · have:G.length≠0:=fun h=>e (c7.1 h)
      have h3:¬((G.length:Int)=0):=by omega
      have h4:¬((d.final.length:Int)=1):=by omega
      rw[decide_eq_false h3,decide_eq_false h4];rfl
   rw[if_pos this]
   rfl
theorem zEp(l:List Int)(w0:l.length<=maxLen)(z0:∀x∈l,(Lit.int .i64 x).wf=true):∃outs,L 3 [.sl l.length (l.map fun x=>.sc (.int .i64 x))]=some (.sc (.bool true),outs):=⟨_,z9F (zyx l)⟩
end
section
open Go.RowKit
def zgx(P:Program):Nat->TypeId->Bool
 |0,_=>false
 |m+1,t=>
  match P.underlying t with
  |some (.slice e)=>P.cellsOf e !=0&&zgx P m e
  |some (.pointer e)=>zgx P m e
  |some (.struct fs)=>fs.toList.all fun f=>zgx P m f.type
  |some (.array _ e)=>zgx P m e
  |some (.map _ e)=>zgx P m e
  |_=>true
section
variable {H:Type} {enc:TypeId×Value->H} {P:Program} {w:World} {base:Nat}
theorem zgW{m:Nat}{r r':TypeId->List Value->Option (DataW H×List MemPlace)}
 (hr:∀t cs x,zgx P m t=true->r t cs=some x->r' t cs=some x) {t:TypeId} {cs:List Value} {x:DataW H×List MemPlace} (hf:zgx P (m+1) t=true)
 (h:DataW.trodStep enc P w base (fun _=>true) true r t cs=some x):DataW.trodStep enc P w base (fun b=>decide (b<w.heap.size)) true r' t cs=some x:=by
 unfold DataW.trodStep at h⊢
 unfold zgx at hf
 split at h
 case h_1=>exact h
 case h_2=>exact h
 case h_3=>exact h
 case h_4=>exact h
 case h_5=>exact h
 case h_6 e a hu=>
  rw[hu] at hf
  simp only[Z4,Yl] at h⊢
  obtain⟨y,⟨cs',hc,hy⟩,rfl⟩:=h
  exact⟨y,⟨cs',hc,hr _ _ _ hf hy⟩,rfl⟩
 case h_7=>exact h
 case h_8 e a len cap hu=>
  rw[hu] at hf
  simp only[Z6,bne_iff_ne,ne_eq] at hf
  obtain⟨hcell,hfe⟩:=hf
  simp only at h⊢
  split at h
  · rename_i hc
    rw[if_pos hc]
    simp only[Z4,Yl,if_true] at h⊢
    obtain⟨elems,he,rest,hrest,rfl⟩:=h
    have one:∀(i:Nat) (y:DataW H×List MemPlace),(w.cells? base (a.add (i*P.cellsOf e)) (P.cellsOf e)).bind (r e)=some y->(w.cells? base (a.add (i*P.cellsOf e)) (P.cellsOf e)).bind (r' e)=some y:=by
     intro i y hv
     simp only[Yl] at hv⊢
     obtain⟨cs',hc',hy'⟩:=hv
     exact⟨cs',hc',hr _ _ _ hfe hy'⟩
    refine⟨elems,mapM_carry he (fun i y _ _ hy=>one i y hy),rest,?_,rfl⟩
    by_cases hb:a.block<w.heap.size
    · rw[if_pos (by simpa using hb)]
      exact mapM_carry hrest (fun j y _ _ hy=>one (len+j) y hy)
    · rw[if_neg (by simpa using hb)]
      have hz:cap-len=0:=by
       rcases XQ (cap-len) with h0|h0
       · exact h0
       · exfalso
         have hl:rest.length=cap-len:=by simpa using mapM_some_length hrest
         have h1:=mapM_some_get hrest 0 0 (by simp[h0])
         obtain⟨y,hy⟩:∃y,rest[0]? =some y:=⟨rest[0],Z1 (by omega)⟩
         rw[hy] at h1
         simp only[Yl] at h1
         obtain⟨cs',hc',_⟩:=h1
         have h2:=World.cells?_block hc' (by omega)
         have h3:(a.add ((len+0)*P.cellsOf e)).block=a.block:=by unfold Addr.add;split<;>rfl
         omega
      rw[hz] at hrest
      simpa using hrest
  · cases h
 case h_9 fs _ hu=>
  rw[hu] at hf
  split at h
  · rename_i hc
    rw[if_pos hc]
    simp only[Z4] at h⊢
    obtain⟨xs,hx,rfl⟩:=h
    exact⟨xs,mapM_carry hx (fun f y hin _ hv=>hr _ _ _ (Zn.1 hf f hin) hv),rfl⟩
  · cases h
 case h_10 n e _ hu=>
  rw[hu] at hf
  split at h
  · rename_i hc
    rw[if_pos hc]
    simp only[Z4] at h⊢
    obtain⟨xs,hx,rfl⟩:=h
    exact⟨xs,mapM_carry hx (fun f y _ _ hv=>hr _ _ _ hf hv),rfl⟩
  · cases h
 case h_11=>exact h
 case h_12=>exact h
 case h_13=>exact h
 case h_14 k e b hu=>
  rw[hu] at hf
  split at h
  · rename_i es clock hb
    split at h
    · rename_i hc
      simp only[Yl] at h
      obtain⟨entries,he,hd⟩:=h
      split at hd
      · rename_i hris
        have hx:=YD hd
        subst hx
        simp only[if_pos hc,Yl]
        refine⟨entries,mapM_carry he (fun x y _ hy hv=> ?_),by simp[hris]⟩
        simp only[Yl] at hv⊢
        obtain⟨key,hk,hz⟩:=hv
        refine⟨key,hk,?_⟩
        split at hz
        · rename_i hfm
          rw[if_pos hfm]
          simp only[Z4] at hz⊢
          obtain⟨q,hq,rfl⟩:=hz
          exact⟨q,hr _ _ _ hf hq,rfl⟩
        · cases hz
      · cases hd
    · cases h
  · cases h
 case h_15=>exact h
 case h_16=>exact h
 case h_17=>exact h
 case h_18=>exact h
 case h_19=>exact h
 case h_20=>exact h
 case h_21=>cases h
theorem zps:∀(n m:Nat) (t:TypeId) (cs:List Value) (x:DataW H×List MemPlace),zgx P m t=true->
 DataW.trod enc P w base (fun _=>true) true n t cs=some x->DataW.trod enc P w base (fun b=>decide (b<w.heap.size)) true n t cs=some x:=by
 intro n
 induction n with
 |zero=>intro m t cs x _ h;simp[DataW.trod] at h
 |succ n ih=>
  intro m t cs x hf h
  cases m with
  |zero=>simp[zgx] at hf
  |succ m=>
   rw[DataW.trod_step] at h⊢
   exact zgW (m:=m) (fun t cs x hf hx=>ih m t cs x hf hx) hf h
theorem zkI{w':World}(hb:Below w.heap.size w w'){p:MemPlace}(hp:p.block<w.heap.size):w.sameAt w' p:=by
 cases p with
 |cell b off=>exact hb.cell (p:=⟨b,off,none⟩) hp
 |map b=>exact hb.block b hp
theorem zc0{w':World}(m:Nat)(hb:Below w.heap.size w w'):∀ {ts:List TypeId} {vs:List Value} {ds:List (DataW H)} {ps:List MemPlace},(ts.all (zgx P m))=true->
 DataW.TrodAll enc P w 0 (fun _=>true) true ts vs ds ps->DataW.TrodAll enc P w' 0 (fun b=>decide (b<w.heap.size)) true ts vs ds ps
 | [],[],[],ps,_,h=>h
 |t::ts,v::vs,d::ds,ps,hf,⟨p,q,⟨n,h1⟩,h2,e⟩=>by
  simp only[Xx,Z6] at hf
  have h3:=zps n m t _ _ hf.1 h1
  exact⟨p,q,⟨n,DataW.trod_carry n _ _ _ h3 (fun z hz=>zkI hb (DataW.trod_lt n _ _ _ h3 z hz))⟩,zc0 m hb hf.2 h2,e⟩
 | [],_::_,_,_,_,h=>by cases h
 | [],[],_::_,_,_,h=>by cases h
 |_::_,[],_,_,_,h=>by cases h
 |_::_,_::_,[],_,_,h=>by cases h
end
section
variable {H:Type} {enc:TypeId×Value->H} {P:Program} {w:World} {r:Reach} {b0:Nat}
open Go.ChangeShapes Go.WideShapes
open Go.Deep (open_bools)
theorem zvk(a:Addr)(j:Nat):(a.add j).block=a.block:=by unfold Addr.add;split<;>rfl
end
end
section
open Go.ChangeShapes Go.WideShapes Go.RowKit
def KZ:Nat->z0a:=fun _=> []
section
variable {H:Type} {enc:TypeId×Value->H} {P:Program} {w:World} {r:Reach} {b0:Nat}
theorem zsM{t e:TypeId}{v:Value}{d:DataW H}{ps:List MemPlace}(ht:P.underlying t=some (.slice e))(he:P.underlying e=some (.int .i64))(hc:P.cellsOf e=1)
 (hval:Value.okWide P w r b0 t v) (hd:DataW.Trod enc P w 0 (fun _=>true) true t v d ps):
 ∃xs:List Int,TRep w KZ [] v (.sl xs.length (xs.map fun x=>.sc (.int .i64 x)))/\xs.length<=maxLen/\ ∀x∈xs,(Lit.int .i64 x).wf=true:=by
 obtain⟨ga,n,cap,rfl⟩:=okWide_slice ht hval
 obtain⟨fuel,hf⟩:=hd
 rcases open_ints ht he hc hf with⟨hcs,_⟩|⟨a,len',cap',zs,hcs,_,hl,hm,hz,_,hcell,hwz⟩
 · simp[Value.cells] at hcs
   obtain⟨rfl,rfl,rfl⟩:=hcs
   exact⟨[],.emp _ _ _ (by decide),by decide,fun x hx=>by cases hx⟩
 · simp[Value.cells] at hcs
   obtain⟨rfl,rfl,rfl⟩:=hcs
   simp only[if_true] at hz
   refine⟨zs.take n,?_,by simp;omega,fun x hx=>hwz x (ZI hx)⟩
   have hln:(zs.take n).length=n:=by simp;omega
   rw[hln]
   by_cases h0:n=0
   · subst h0
     simp only[Xq,Ys]
     exact .emp _ _ _ hm
   · have hc0:=hcell 0 (by omega)
     have hb:=World.block_lt_of_cell? w _ hc0
     rw[zvk] at hb
     have hsp:a.spot=none:=by
      have:a.add 0=a:=by simp[Addr.add]
      rw[this] at hc0
      unfold World.cell? at hc0
      split at hc0
      · split at hc0
        · cases hc0
        · rename_i hh
          simpa using hh
      · cases hc0
     obtain⟨g,o,sp⟩:=a
     simp only at hsp
     subst hsp
     refine .fro [] g o n cap _ (fun j=>.int .i64 (zs.getD j 0)) rfl hb hl hm (fun j hj=> ?_) (fun j t hj=> ?_)
     · have h1:=hcell j (by simp at hj;omega)
       have e:(⟨g,o,none⟩:Addr).add j=⟨g,o+j,none⟩:=by
        unfold Addr.add
        split
        · rename_i h;subst h;rfl
        · rfl
       rw[e] at h1
       exact h1
     · simp only[Zd,Z4] at hj
       obtain⟨x,hx,rfl⟩:=hj
       have hjn:j<n:=by
        have:=(Z8.1 hx).1
        simp at this;omega
       rw[List.getElem?_take_of_lt hjn] at hx
       simp only[List.getD,hx]
       exact .sc _ _ rfl
end
end
section
open Go Go.RowKit
def tab64:List Nat:= [0,1,56,2,57,49,28,3,61,58,42,50,38,29,17,4,62,47,59,36,45,43,51,22,53,39,33,30,24,18,12,5,63,55,48,27,60,41,37,16,46,35,44,21,52,32,23,11,54,26,40,15,34,20,31,10,25,14,19,9,13,8,7,6]
def tzI(k:Nat):Int:=IntKind.u64.wrap (bits BinOp.and IntKind.u64 (k:Int) (IntKind.u64.wrap (-(k:Int)))*285870213051353865)/288230376151711744
theorem zAB:∀k:Fin 128,0<k.val->0<=tzI k.val/\tzI k.val<64/\wrap64 ((tab64[(tzI k.val).toNat]?.getD 0:Nat):Int)=(tzN k.val:Nat):=by decide+kernel
theorem zxO(k:Nat)(W:World)(hk:0<k/\k<128)(hT:∀i:Nat,i<64->W.cell? ⟨1,i,none⟩=some (.int .u8 ((tab64.getD i 0:Nat):Int))):Calls Tryz.prog 91 #[.int .u64 (k:Int)] W fun e w'=>e= .returned (.int .i64 (tzN k))/\w'=W:=by
 have h0:(0:Int)<(k:Int):=by omega
 have h1:¬(k:Int)=0:=by omega
 obtain⟨q1,q2,q3⟩:=zAB ⟨k,hk.2⟩ hk.1
 have HQ:=Lib.hid q3
 have HQ1:=Lib.hid q1
 have HQ2:=Lib.hid q2
 clear q1 q2 q3
 go_enter Tryz.func91,Tryz.ntmps91
 go_wp2
 · go_ret
   exact⟨congrArg Ending.returned (congrArg (Value.int IntKind.i64) HQ.out),rfl⟩
 · rename_i hn
   exact absurd ⟨HQ1.out,HQ2.out⟩ hn
theorem zGs(k:Nat)(W:World)(hk:0<k/\k<128)(hT:∀i:Nat,i<64->W.cell? ⟨1,i,none⟩=some (.int .u8 ((tab64.getD i 0:Nat):Int))):Calls Tryz.prog 43 #[.int .u64 (k:Int)] W fun e w'=>e= .returned (.int .i64 (tzN k))/\w'=W:=by
 have HT:=Lib.hid hT
 clear hT
 go_enter Tryz.func43,Tryz.ntmps43
 go_wp2_with (go_at_call 91;refine(zxO k _ hk HT.out).mono ?_;rintro e w' ⟨rfl,rfl⟩)
 go_ret
 exact⟨rfl,rfl⟩
def znz(w:World)(K:Nat->z0a):Prop:=K 1= []/\1<w.heap.size/\ ∀i:Nat,i<64->w.cell? ⟨1,i,none⟩=some (.int .u8 ((tab64.getD i 0:Nat):Int))
theorem zx3:EnvS znz:=⟨fun {w K w' K'} h hs hk=>by
 obtain⟨h1,h2,h3⟩:=h
 obtain⟨k1,k2⟩:=hk 1 h2 h1
 exact⟨k1,by omega,fun i hi=>by rw[z0Y k2];exact h3 i hi⟩⟩
theorem zrp{args:List T}{r:T}{outs:List T}(h:xTz args=some (r,outs)):CallOk Tryz.prog znz 43 args r outs:=by
 unfold xTz at h
 split at h
 case h_2=>cases h
 rename_i x
 unfold vTz at h
 split at h
 case isFalse=>cases h
 rename_i hx
 obtain⟨k,rfl⟩:∃k:Nat,x=(k:Int):=⟨x.toNat,by omega⟩
 simp only[ZP,Z9,Xb,Z3] at h
 obtain⟨rfl,rfl⟩:=h
 refine⟨fun vals w=> ?_,fun w K vals hs ha hI=> ?_⟩
 · have hb:∃c,Tryz.f43.body=some c:=⟨_,rfl⟩
   obtain⟨c,hb⟩:=hb
   have hname:Tryz.f43.name≠ "runtime.NumGoroutine" :=by decide
   simp[callFunc,program,Sem.run,Tryz.func43,hname,hb]
 · obtain⟨v,rfl⟩:∃v,vals= #[v]:=by
    obtain⟨l⟩:=vals
    match l,hs with
    | [v],_=>exact⟨v,rfl⟩
   have hv:TRep w K [] v (.sc (.int .u64 (k:Int))):=ha 0 _ rfl
   rw[hv.sc_eq]
   refine(zGs k w (by omega) hI.2.2).mono fun e w' ⟨he,hw⟩=> ?_
   subst hw
   refine⟨_,K,he,.sc _ _ rfl,fun i t hi hio=> ?_,Step.refl _ _⟩
   match i,hi with
   |0,hi=>cases hi;cases hio
end
section
open Go Go.RowKit Go.Sort
variable{os:Array Obj}{g n:Nat}{w:World}
def zri(x:Fin 128):Value:=.int .i64 ((x.val:Nat):Int)
def cfS(p r:Fin 128):Int:=if Lib.compareInt (szN r.val) (szN p.val)≠0 then Lib.compareInt (szN r.val) (szN p.val) else Lib.compareInt (p.val:Nat) (r.val:Nat)
theorem zEd(k:Nat)(W:World)(hk:k<128):Calls Tryz.prog 179 #[.int .u64 (k:Int)] W fun e w'=>e= .returned (.int .i64 (szN k))/\w'=W:=by
 have h0:(0:Int)<=(k:Int):=by omega
 have h1:(k:Int)<128:=by omega
 go_enter Tryz.func179,Tryz.ntmps179
 go_wp2
 all_goals go_ret
 all_goals refine⟨congrArg Ending.returned (congrArg (Value.int IntKind.i64) ?_),rfl⟩
 clear h0 h1
 revert k
 decide+kernel
theorem zBb(k:Nat)(W:World)(hk:k<128):Calls Tryz.prog 139 #[.int .u64 (k:Int)] W fun e w'=>e= .returned (.int .i64 (szN k))/\w'=W:=by
 go_enter Tryz.func139,Tryz.ntmps139
 go_wp2_with (go_at_call 179;refine(zEd k _ hk).mono ?_;rintro e w' ⟨rfl,rfl⟩)
 go_ret
 exact⟨rfl,rfl⟩
theorem zxX(k:Nat)(W:World)(hk:k<128):Calls Tryz.prog 99 #[.int .i64 (k:Int)] W fun e w'=>e= .returned (.int .i64 (szN k))/\w'=W:=by
 have hw:IntKind.u64.wrap (k:Int)=(k:Int):=by rw[XB];omega
 go_enter Tryz.func99,Tryz.ntmps99
 go_wp2_with (go_at_call 139;refine(zBb k _ hk).mono ?_;rintro e w' ⟨rfl,rfl⟩)
 go_ret
 exact⟨rfl,rfl⟩
theorem or2(a b:Int)(g:Nat)(W:World)(ha:W.cell? ⟨g,0,none⟩=some (.int .i64 a))(hb:W.cell? ⟨g,1,none⟩=some (.int .i64 b)):Calls Tryz.prog 48 #[.slice (some ⟨g,0,none⟩) 2 2] W fun e w'=>e= .returned (.int .i64 (if a≠0 then a else b))/\w'=W:=by
 go_enter Tryz.func48,Tryz.ntmps48
 go_wp2
 go_loop [8] (fun vi=>∃k:Nat,k<=2/\vi= .int .i64 k/\(0<k->a=0)/\(1<k->b=0)) (fun vi=>2-(intOf vi).toNat)
 case atStart=>exact⟨0,by omega,rfl,by omega,by omega⟩
 case round=>
  obtain⟨k,hk,rfl,h1,h2⟩:=hrel
  rcases(by omega:k=0∨k=1∨k=2) with rfl|rfl|rfl
  · clear h1 h2
    by_cases h:a=0
    · subst h
      go_wp2
      go_round
      case rel=>exact⟨1,by omega,by go_num,by simp,by simp⟩
      case measure=>simp[intOf]
    · go_wp2
      go_ret
      simp[h]
  · have h1:=h1 (by omega)
    clear h2
    subst h1
    by_cases h:b=0
    · subst h
      go_wp2
      go_round
      case rel=>exact⟨2,by omega,by go_num,by simp,by simp⟩
      case measure=>simp[intOf]
    · go_wp2
      go_ret
      simp
  · have h1:=h1 (by omega)
    have h2:=h2 (by omega)
    subst h1 h2
    go_wp2
    go_ret
    simp
theorem zEK(x y:Fin 128)(W:World):Calls Tryz.prog 98 #[zri x,zri y] W fun e w'=>e= .returned (.int .i64 (cfS x y))/\ ∃q os',w'=grow (W.drewN q) os':=by
 obtain⟨x,hx⟩:=x
 obtain⟨y,hy⟩:=y
 unfold cfS zri
 simp only
 generalize hc1:Lib.compareInt (szN y) (szN x)=c1
 generalize hc2:Lib.compareInt (x:Int) (y:Int)=c2
 have H1:=Lib.hid hc1
 have H2:=Lib.hid hc2
 clear hc1 hc2
 go_enter Tryz.func98,Tryz.ntmps98
 go_wp2_with (first|(go_at_call 99;first|(refine(zxX y _ hy).mono ?_;rintro e w' ⟨rfl,rfl⟩)|(refine(zxX x _ hx).mono ?_;rintro e w' ⟨rfl,rfl⟩))|(go_at_call 49;refine(Tryz.cmp_Compare_int _ _ _).mono ?_;rintro e w' ⟨rfl,rfl⟩;first|rw[H1.out]|rw[H2.out])|(go_at_call 48;refine(or2 c1 c2 _ _ ?_ ?_).mono ?_))
 · simp
 · simp
 all_goals go_ret
 all_goals exact⟨rfl,0,#[_],alloc_eq_grow _ _⟩
theorem zuQ(a b:Int):Lib.compareInt a b<0↔a<b:=by unfold Lib.compareInt;split<;>(try split)<;>omega
theorem zye(a b:Int):Lib.compareInt a b=0↔a=b:=by unfold Lib.compareInt;split<;>(try split)<;>omega
theorem zy5(p r:Fin 128):ltOf cfS p r=true↔(szN r.val<szN p.val∨(szN r.val=szN p.val/\p.val<r.val)):=by
 unfold ltOf cfS
 rw[decide_eq_true_iff]
 split
 · rename_i h
   have:=(not_congr (zye (szN r.val) (szN p.val))).1 h
   rw[zuQ]
   omega
 · rename_i h
   have:=(zye (szN r.val) (szN p.val)).1 (by simpa using h)
   rw[zuQ]
   omega
theorem zt1(p r:Fin 128):ltOf cfS p r=false↔ ¬(szN r.val<szN p.val∨(szN r.val=szN p.val/\p.val<r.val)):=by
 rw[←zy5];simp
theorem zGB:SWO (ltOf cfS) where
 irrefl x:=by rw[zt1];omega
 trans x y z h1 h2:=by rw[zy5] at*;omega
 ntrans x y z h1 h2:=by rw[zt1] at*;omega
theorem ziW(a b:Int):leI a b=true↔(szN b.toNat<szN a.toNat∨(szN a.toNat=szN b.toNat/\a.toNat<=b.toNat)):=by
 unfold leI zyj;simp
theorem zgj(x:Int):∀l:List Int,(zwH x l).Perm (x::l)
 | []=>.refl _
 |y::l=>by
  unfold zwH
  split
  · exact .refl _
  · exact((zgj x l).cons y).trans (.swap x y l)
theorem zdy:∀l:List Int,(zcj l).Perm l
 | []=>.refl _
 |x::l=>(zgj x (zcj l)).trans ((zdy l).cons x)
theorem zgi(x:Int):∀l:List Int,l.Pairwise (fun a b=>leI a b=true)->(zwH x l).Pairwise (fun a b=>leI a b=true)
 | [],_=>by simp[zwH]
 |y::l,h=>by
  unfold zwH
  rw[Zz] at h
  split
  · rename_i hxy
    refine Zz.2 ⟨fun z hz=> ?_,Zz.2 h⟩
    rcases Zu.1 hz with rfl|hz
    · exact hxy
    · have:=h.1 z hz
      rw[ziW] at*
      omega
  · rename_i hxy
    refine Zz.2 ⟨fun z hz=> ?_,zgi x l h.2⟩
    rcases Zu.1 ((zgj x l).mem_iff.1 hz) with rfl|hz
    · rw[ziW] at*
      omega
    · exact h.1 z hz
theorem ze9:∀l:List Int,(zcj l).Pairwise (fun a b=>leI a b=true)
 | []=>by simp[zcj]
 |x::l=>zgi x _ (ze9 l)
theorem zbc:∀ {l1 l2:List Int},l1.Perm l2->(∀x∈l1,0<=x)->l1.Pairwise (fun a b=>leI a b=true)->l2.Pairwise (fun a b=>leI a b=true)->l1=l2
 | [],l2,h,_,_,_=>by rw[List.nil_perm] at h;exact h.symm
 |a::l1,[],h,_,_,_=>by simp at h
 |a::l1,b::l2,h,h0,h1,h2=>by
  have hab:a=b:=by
   rcases Zu.1 (h.mem_iff.1 (Zy ..)) with e|ha
   · exact e
   · rcases Zu.1 (h.mem_iff.2 (Zy ..)) with e|hb
     · exact e.symm
     · have e1:=(Zz.1 h2).1 a ha
       have e2:=(Zz.1 h1).1 b hb
       have p1:=h0 a (Zy ..)
       have p2:=h0 b (h.mem_iff.2 (Zy ..))
       rw[ziW] at e1 e2
       omega
  subst hab
  rw[zbc (List.perm_cons a|>.1 h) (fun x hx=>h0 x (Zl _ hx)) (Zz.1 h1).2 (Zz.1 h2).2]
def toF(x:Int):Fin 128:=⟨x.toNat%128,Nat.mod_lt _ (by decide)⟩
def ofF(f:Fin 128):Int:=(f.val:Int)
theorem zxQ{x:Int}(h:0<=x/\x<128):ofF (toF x)=x:=by simp only[ofF,toF];omega
def zEg(B:Nat)(K:Nat->z0a)(b:Nat):z0a:=if B<=b then [0] else K b
theorem zmw{xs:List Int}(hx:∀x∈xs,0<=x/\x<128){d':Array (Fin 128)}(hp:PermIn 0 (xs.map toF).toArray.size (xs.map toF).toArray d')(hs:SortedIn (ltOf cfS) 0 (xs.map toF).toArray.size d'):d'.toList.map ofF=zcj xs:=by
 obtain⟨h1,_,h3⟩:=hp
 have hsz:d'.size=xs.length:=by simpa using h1
 have e1:(xs.map toF).map ofF=xs:=by
  rw[Y3]
  conv=>rhs;rw[←YW xs]
  exact ZB fun x hxm=>zxQ (hx x hxm)
 have hp2:d'.toList.Perm (xs.map toF):=by
  have:(d'.extract 0 (xs.map toF).toArray.size).toList=d'.toList:=by
   rw[←h1];simp
  rw[this] at h3
  simp at h3
  rwa [Yq (by simp)] at h3
 have hp3:(d'.toList.map ofF).Perm xs:=by
  have:=hp2.map ofF
  rwa [e1] at this
 refine zbc (hp3.trans (zdy xs).symm) (fun x hxm=>(hx x (hp3.mem_iff.1 hxm)).1) ?_ (ze9 xs)
 rw[ZK]
 intro i j hi hj hij
 simp only[Zh,Yj] at hi hj
 have:=hs i j (by omega) hij (by simp;omega)
 rw[zt1,getElem!_pos d' i hi,getElem!_pos d' j hj] at this
 rw[ziW]
 simp only[ZG,Xi,ofF,Z3]
 omega
theorem zoG{cur:Array Value}{e:TypeId}{fr:Nat×Nat}(d:Array (Fin 128))(hb:w.heap[g]? =some (.cells cur e fr)):(sortWorld zri w g 0 n d os).heap[g]? =some (.cells (putCells zri 0 d cur) e fr):=by
 unfold sortWorld
 rw[heap_grow_old _ _ (by rw[size_putRow];exact z0P hb)]
 simp[putRow,mapBlock,Sort.ahead,Y2,hb,onCells]
theorem zi9(d:Array (Fin 128)){b:Nat}(hb:b<w.heap.size)(hne:b≠g):(sortWorld zri w g 0 n d os).heap[b]? =w.heap[b]? :=by
 unfold sortWorld
 rw[heap_grow_old _ _ (by rw[size_putRow];exact hb)]
 simp[putRow,mapBlock,Sort.ahead,Y2,Ne.symm hne]
theorem zvW(d:Array (Fin 128)):w.heap.size<=(sortWorld zri w g 0 n d os).heap.size:=by
 unfold sortWorld
 rw[size_grow,size_putRow]
 show w.heap.size<=w.heap.size+_
 omega
theorem zlY{I:World->(Nat->z0a)->Prop}{args:List T}{r:T}{outs:List T}(h:zvy 98 args=some (r,outs)):CallOk Tryz.prog I 97 args r outs:=by
 unfold zvy at h
 split at h
 case h_2=>cases h
 rename_i n cs f fs gs
 split at h
 case isFalse=>cases h
 rename_i hfg
 obtain⟨rfl,hfs,hgs⟩:=hfg
 simp only[X4] at hfs hgs
 subst hfs hgs
 split at h
 case h_2=>cases h
 rename_i xs hxs
 split at h
 case isFalse=>cases h
 rename_i hn
 subst hn
 unfold zm7 at h
 split at h
 case isFalse=>cases h
 rename_i hc
 obtain⟨hne,hlen,hall⟩:=hc
 have hx:∀x∈xs,0<=x/\x<128:=by simpa using hall
 obtain⟨rfl,rfl⟩:T.tup []=r/\ [T.os 1 (zcj xs).length ((zcj xs).map fun x=>.sc (.int .i64 x)),.dead]=outs:=by simpa using h
 have hcs:=z8e hxs
 subst hcs
 clear h hxs hall
 refine⟨fun vals w=> ?_,fun w K vals hs ha hI=> ?_⟩
 · have hb:∃c,Tryz.f97.body=some c:=⟨_,rfl⟩
   obtain⟨c,hb⟩:=hb
   have hname:Tryz.f97.name≠ "runtime.NumGoroutine" :=by decide
   simp[callFunc,program,Sem.run,Tryz.func97,hname,hb]
 · obtain⟨v,u,rfl⟩:∃v u,vals= #[v,u]:=by
    obtain⟨l⟩:=vals
    match l,hs with
    | [v,u],_=>exact⟨v,u,rfl⟩
   have hv:TRep w K (col 0) v (.os 1 xs.length (xs.map fun x=>.sc (.int .i64 x))):=ha 0 _ rfl
   have hu:TRep w K [] u (.sc (.func (.func 98) #[] #[])):=ha 1 _ rfl
   rw[hu.sc_eq]
   clear hu ha
   have hl0:0<xs.length:=ZH.2 hne
   generalize hT:T.os 1 xs.length (xs.map fun x=>T.sc (.int .i64 x))=t at hv
   cases hv with
   |nil=>injection hT with _ e _;omega
   |own c g n cap size cs arr e fz F hfz hc0 hK hg hsz hl hz hn hcap hF hh=>
    injection hT with e1 e2 e3
    subst e1 e2 e3
    have hcell:∀j (hj:j<xs.length),arr[j]? =some (.int .i64 xs[j]):=fun j hj=>by
     rw[hF j (by simpa using hj)]
     have:=hh j (.sc (.int .i64 xs[j])) (by simp[hj])
     rw[this.sc_eq]
    have hH:Holds zri w g 0 (xs.map toF).toArray:=fun j hj=>by
     have hj':j<xs.length:=by simpa using hj
     constructor
     · rw[Zp,z1E hg,hcell j hj',getElem!_pos _ j hj]
       simp only[zri,List.getElem_toArray,ZG]
       have:=zxQ (hx _ (Zw hj'))
       unfold ofF at this
       rw[this]
     · unfold World.frozen?
       rw[Zp]
       simp only[hg]
       have:=hfz j (by omega)
       obtain⟨lo,hi⟩:=fz
       simp only at this⊢
       simp only[YV,decide_eq_false_iff_not]
       omega
    have eg:∀args w,(callFunc 98 args).run Tryz.prog w= .ok (.enter 98 args) w:=enters_of Tryz.func98 (by kernel_rfl) rfl
    have hcmp:CmpLays1 Tryz.prog 98 #[] zri cfS g 0 (xs.map toF).toArray.size w:=fun m os dk _ x y=>zEK x y _
    have hcon:=Tryz.slices_SortFunc_f97 zri (fun _=>rfl) cfS zGB 98 #[] g 0 cap (xs.map toF).toArray w eg hcmp hH (z0P hg) (by simpa using hlen)
    have hsize:(xs.map toF).toArray.size=xs.length:=by simp
    rw[hsize] at hcon
    refine hcon.mono fun e' w' ⟨he,d',m,os,hp,hso,hw⟩=> ?_
    subst hw
    have hsort:=zmw hx (by rw[hsize];exact hp) (by rw[hsize];exact hso)
    have hd:d'.size=xs.length:=by have:=hp.1;simpa using this
    have hys:(zcj xs).length=xs.length:=(zdy xs).length_eq
    refine⟨.tuple #[],zEg w.heap.size K,he,?_,fun i t hi hio=> ?_,rfl,rfl,rfl,zvW d',fun b hb hcb=>⟨by unfold zEg;rw[if_neg (by omega)],zi9 d' hb ?_⟩,?_⟩
    · exact .tup _ #[] [] (fun _=>undef) rfl (fun j hj=>by simp at hj) (fun j t ht=>by simp at ht)
    · match i,hi with
      |0,hi=>
       refine⟨_,rfl,?_⟩
       show TRep _ _ (col 0) (.slice (some ⟨g,0,none⟩) xs.length cap) _
       rw[←hys]
       refine .own (col 0) g _ cap 1 _ (putCells zri 0 d' arr) e fz (fun j=>.int .i64 ((zcj xs).getD j 0)) (fun i hi=>hfz i (by simpa[putCells] using hi)) (by simp[col]) (by unfold zEg;rw[if_neg (by have:=z0P hg;omega)];exact hK) (zoG d' hg) (by simpa[putCells] using hsz) (by simp) (by omega) (by omega) hcap (fun j hj=> ?_) (fun j t ht=> ?_)
       · have hj':j<xs.length:=by simpa[hys] using hj
         have hja:j<arr.size:=(ZO.1 (hcell j hj')).1
         have hjd:j<d'.size:=by omega
         simp only[putCells,X7,hcell j hj',ZP]
         rw[if_pos (by omega),YJ,getElem!_pos d' j hjd]
         have:(zcj xs).getD j 0=ofF d'[j]:=by
          rw[←hsort];simp[List.getD,hjd]
         rw[this];rfl
       · simp only[Zd,Z4] at ht
         obtain⟨x,hx',rfl⟩:=ht
         simp only[List.getD,hx']
         exact .sc _ _ rfl
      |1,hi=>cases hi;cases hio
    · rintro rfl
      rw[hK] at hcb
      simp[col] at hcb
    · intro b arr0 e0 fz0 hb0
      by_cases hbg:b=g
      · subst hbg
        rw[hg] at hb0
        cases hb0
        exact⟨_,_,_,zoG d' hg,by simp[putCells]⟩
      · exact⟨_,_,_,(zi9 d' (z0P hb0) hbg).trans hb0,rfl⟩
   |_=>cases hT
theorem zro:z7e Tryz.prog znz xtC:=by
 intro f args r outs h
 unfold xtC at h
 split at h
 case isTrue hf=>subst hf;exact zrp h
 split at h
 case isTrue hf=>subst hf;exact zlY h
 split at h
 case isTrue hf=>subst hf;exact zlZ h
 split at h
 case isTrue hf=>subst hf;exact zjF h
 split at h
 case isTrue hf=>subst hf;exact zjI h
 cases h
end
section
open Go Go.RowKit Go.Sort
variable{l:List (List Int×T)}{cs:List T}{n:Nat}{K:Nat->z0a}{v:Value}{w:World}{c:z0a}
theorem zaW(x y:List Int):zah y x= -zah x y:=by
 unfold zah
 by_cases h1:x.length<y.length
 · rw[if_neg (by omega),if_pos h1,if_pos h1];rfl
 · by_cases h2:y.length<x.length
   · rw[if_pos h2,if_neg h1,if_pos h2]
   · rw[if_neg h2,if_neg h1,if_neg h1,if_neg h2];exact z8l x y
theorem znm(x y z:List Int)(h1:zah x y<=0)(h2:zah y z<=0):zah x z<=0/\(zah x z=0->zah x y=0/\zah y z=0):=by
 have key:=z7T x y z
 unfold zah at h1 h2⊢
 by_cases a1:x.length<y.length
 · by_cases b1:y.length<z.length
   · rw[if_pos (show x.length<z.length by omega)];exact⟨by omega,fun e=>by omega⟩
   · rw[if_neg b1] at h2
     by_cases b2:z.length<y.length
     · rw[if_pos b2] at h2;omega
     · rw[if_pos (show x.length<z.length by omega)];exact⟨by omega,fun e=>by omega⟩
 · rw[if_neg a1] at h1
   by_cases a2:y.length<x.length
   · rw[if_pos a2] at h1;omega
   · rw[if_neg a2] at h1
     by_cases b1:y.length<z.length
     · rw[if_pos (show x.length<z.length by omega)];exact⟨by omega,fun e=>by omega⟩
     · rw[if_neg b1] at h2
       by_cases b2:z.length<y.length
       · rw[if_pos b2] at h2;omega
       · rw[if_neg b2] at h2
         rw[if_neg (show ¬x.length<z.length by omega),if_neg (show ¬z.length<x.length by omega),if_neg a1,if_neg a2,if_neg b1,if_neg b2]
         exact key h1 h2
theorem zxd(x y z:List Int)(h1:zah x y<0)(h2:zah y z<0):zah x z<0:=by
 obtain⟨a,b⟩:=znm x y z (by omega) (by omega)
 rcases Int.lt_or_eq_of_le a with h|h
 · exact h
 · have:=(b h).1;omega
theorem zGW(x y:List Int):(if Lib.compareInt (x.length:Int) (y.length:Int)≠0 then Lib.compareInt (x.length:Int) (y.length:Int) else z8F x y)=zah x y:=by
 unfold zah Lib.compareInt
 by_cases h1:x.length<y.length
 · simp[h1]
 · by_cases h2:y.length<x.length
   · simp[h1,h2]
   · simp[h1,h2]
theorem zw7(p q m1 m2:Value)(x y:List Int)(W:World)(h1:IntsAt W p x)(h2:IntsAt W q y):Calls Tryz.prog 47 #[.agg #[p,m1],.agg #[q,m2]] W fun e w'=>e= .returned (.int .i64 (zah x y))/\ ∃q os',w'=grow (W.drewN q) os':=by
 obtain⟨ga,ca,e1,n1,-⟩:=h1.get
 obtain⟨gb,cb,e2,n2,-⟩:=h2.get
 have H1:=Lib.hid h1
 have H2:=Lib.hid h2
 rw[←zGW x y]
 generalize hc1:Lib.compareInt (x.length:Int) (y.length:Int)=c1
 generalize hc2:z8F x y=c2
 have H3:=Lib.hid hc1
 have H4:=Lib.hid hc2
 clear hc1 hc2 h1 h2
 subst e1 e2
 have CX:RowKit.Hid (∀w:World,Calls Tryz.prog 49 #[.int .i64 (x.length:Int),.int .i64 (y.length:Int)] w fun e w'=>e= .returned (.int .i64 c1)/\w'=w):=Lib.hid fun w=>(Tryz.cmp_Compare_int _ _ _).mono fun e w' ⟨h1,h2⟩=>⟨by rw[h1,H3.out],h2⟩
 have CS:RowKit.Hid (∀w:World,Below W.heap.size W w->Calls Tryz.prog 41 #[.slice ga x.length ca,.slice gb y.length cb] w fun e w'=>e= .returned (.int .i64 c2)/\w'=w):=Lib.hid fun w hb=>(zck _ _ _ _ w (H1.out.below hb) (H2.out.below hb)).mono fun e w' ⟨h1,h2⟩=>⟨by rw[h1,H4.out],h2.symm⟩
 go_enter Tryz.func47,Tryz.ntmps47
 go_wp2
 refine(fun(W2:World) (hW2:_=W2)=>(?_:Code.wp _ _ _ _ W2)) _ rfl
 have hc1:W2.cell? ⟨W.heap.size,0,none⟩=some (.slice ga x.length ca):=by subst hW2;simp
 have hc2:W2.cell? ⟨W.heap.size+1,0,none⟩=some (.slice gb y.length cb):=by subst hW2;simp
 have hgr:∃os',W2=grow W os':=⟨#[_,_],by rw[←hW2,alloc_eq_grow,alloc_eq_grow,grow_grow];rfl⟩
 clear hW2
 have hgd:∃os',W2.drew=grow (W.drewN 1) os':=by obtain⟨os,e⟩:=hgr;exact⟨os,by rw[e];rfl⟩
 have hb3:Below W.heap.size W W2.drew:=by
  obtain⟨os,e⟩:=hgr
  subst e
  exact⟨rfl,rfl,rfl,by show W.heap.size<=(grow W os).heap.size;rw[size_grow];omega,fun b hb=>heap_grow_old _ _ hb⟩
 refine wp_region_still_tail 12 (by kernel_rfl) (by kernel_rfl) ?_
 simp only[Xm,Xq,List.drop_succ_cons,List.drop_zero]
 repeat still_step
 still_call (CX.out _)
 repeat still_step
 still_call (CS.out _ hb3)
 refine wpStill_nil ?_
 change wpList _ _ _ _ _ W2.drew
 clear hb3 hgr hc1 hc2 CX CS H1 H2 H3 H4
 generalize W2.drew=W3 at*
 go_wp2_with (go_at_call 48;refine(or2 c1 c2 _ _ ?_ ?_).mono ?_)
 · simp
 · simp
 all_goals go_ret
 all_goals obtain⟨os,rfl⟩:=hgd
 all_goals exact⟨rfl,1,os++ #[_],by rw[alloc_eq_grow,grow_grow]⟩
theorem zyD{w':World}{K':Nat->z0a}{c':z0a}(h:TRep w K c v (.sl n cs))(hk:∀b,b<w.heap.size->K b= []->K' b= []/\w'.heap[b]? =w.heap[b]?)(hs:w.heap.size<=w'.heap.size):TRep w' K' c' v (.sl n cs):=by
 cases h with
 |emp c a cap hc=>exact .emp c' a cap hc
 |fro c g o n cap cs F hK hg hn hc hF hh=>
  obtain⟨k1,k2⟩:=hk g hg hK
  exact .fro c' g o _ cap _ F k1 (by omega) hn hc (fun j hj=>by rw[z0Y k2];exact hF j hj) (fun j t ht=>(hh j t ht).move (fun _ _ _ hc=>absurd rfl hc) hk YU hs)
theorem zyE(h:TRep w K c v (.sl n cs)):v.oneCell'=true:=by
 cases h with
 |emp=>rfl
 |fro=>rfl
theorem zfY:∀(l:List (List Int×T)) (j:Nat),(l.flatMap z4v)[j]? =(l[j/2]?).bind fun r=>(z4v r)[j%2]?
 | [],j=>by simp
 |r::l,0=>by simp[z4v]
 |r::l,1=>by simp[z4v]
 |r::l,j+2=>by
  rw[Ya,Y5 (by simp[z4v])]
  simp only[z4v,Zr,Ye,Zp,Nat.reduceAdd,Nat.add_sub_cancel]
  rw[show(j+2)/2=j/2+1 by omega,show(j+2)%2=j%2 by omega,ZT]
  exact zfY l j
theorem zcw:∀l:List (List Int×T),(l.flatMap z4v).length=l.length*2
 | []=>rfl
 |r::l=>by rw[Ya,Za,zcw l];simp[z4v];omega
theorem zgf(x:List Int×T):∀l:List (List Int×T),(zvq x l).Perm (x::l)
 | []=>.refl _
 |y::l=>by
  unfold zvq
  split
  · exact .refl _
  · exact((zgf x l).cons y).trans (.swap x y l)
theorem z6S:∀l:List (List Int×T),(z4O l).Perm l
 | []=>.refl _
 |x::l=>(zgf x (z4O l)).trans ((z6S l).cons x)
abbrev zny(l:List (List Int×T)):Prop:=l.Pairwise fun a b=>zah a.1 b.1<=0
theorem zge(x:List Int×T):∀l:List (List Int×T),zny l->zny (zvq x l)
 | [],_=>by simp[zvq]
 |y::l,h=>by
  unfold zvq
  rw[zny,Zz] at h
  split
  · rename_i hxy
    refine Zz.2 ⟨fun z hz=> ?_,Zz.2 h⟩
    rcases Zu.1 hz with rfl|hz
    · omega
    · exact(znm _ _ _ (by omega) (h.1 z hz)).1
  · rename_i hxy
    refine Zz.2 ⟨fun z hz=> ?_,zge x l h.2⟩
    rcases Zu.1 ((zgf x l).mem_iff.1 hz) with rfl|hz
    · rw[zaW];omega
    · exact h.1 z hz
theorem z8s:∀l:List (List Int×T),zny (z4O l)
 | []=>by simp[z4O]
 |x::l=>zge x _ (z8s l)
theorem zsS(h:(l.map (·.1)).Nodup):∀a∈l,∀b∈l,a.1=b.1->a=b:=by
 induction l with
 |nil=>intro a ha;cases ha
 |cons r l ih=>
  rw[Zs,YH] at h
  intro a ha b hb e
  rcases Zu.1 ha with ea|ha'
  · rcases Zu.1 hb with eb|hb'
    · rw[ea,eb]
    · exact absurd (Zm.2 ⟨b,hb',by rw[←e,ea]⟩) h.1
  · rcases Zu.1 hb with eb|hb'
    · exact absurd (Zm.2 ⟨a,ha',by rw[e,eb]⟩) h.1
    · exact ih h.2 a ha' b hb' e
theorem zo1{r:List (List Int×T)}(hn:(l.map (·.1)).Nodup)(h:l.Perm r)(h1:zny l)(h2:zny r):l=r:=by
 refine Xy (le:=fun a b=>zah a.1 b.1<=0) (fun a b ha hb h3 h4=> ?_) h1 h2 h
 rw[zaW] at h4
 exact zsS hn a ha b (h.mem_iff.2 hb) ((zgG a.1 b.1).1 (by omega))
def cfP(rows:List (List Int×T))(i j:Nat):Int:=zah (rows.getD (rwN rows.length i) ([],.dead)).1 (rows.getD (rwN rows.length j) ([],.dead)).1
theorem zGD(rows:List (List Int×T)):SWO (ltOf (cfP rows)) where
 irrefl x:=by
  unfold ltOf cfP
  rw[(zgG _ _).2 rfl];simp
 trans x y z h1 h2:=by
  unfold ltOf cfP at*
  simp only[decide_eq_true_eq] at*
  exact zxd _ _ _ h1 h2
 ntrans x y z h1 h2:=by
  unfold ltOf cfP at*
  simp only[decide_eq_false_iff_not] at*
  rw[zaW] at h1 h2⊢
  have:=(znm (rows.getD (rwN rows.length z) ([],.dead)).1 (rows.getD (rwN rows.length y) ([],.dead)).1 (rows.getD (rwN rows.length x) ([],.dead)).1 (by omega) (by omega)).1
  omega
theorem zkz{rows:List (List Int×T)}(hn:(rows.map (·.1)).Nodup){d':Array Nat}(hp:PermIn 0 (List.range rows.length).toArray.size (List.range rows.length).toArray d')(hs:SortedIn (ltOf (cfP rows)) 0 (List.range rows.length).toArray.size d'):d'.size=rows.length/\(∀x∈d'.toList,x<rows.length)/\d'.toList.map (fun j=>rows.getD j ([],.dead))=z4O rows:=by
 obtain⟨h1,_,h3⟩:=hp
 have hsz:d'.size=rows.length:=by simpa using h1
 have hp2:d'.toList.Perm (List.range rows.length):=by
  have:(d'.extract 0 (List.range rows.length).toArray.size).toList=d'.toList:=by
   rw[←h1];simp
  rw[this] at h3
  simp at h3
  exact h3
 have hlt:∀x∈d'.toList,x<rows.length:=fun x hx=>Zk.1 (hp2.mem_iff.1 hx)
 have e1:(List.range rows.length).map (fun j=>rows.getD j ([],.dead))=rows:=by
  refine Zf (by simp) fun i h1 h2=> ?_
  simp[List.getD,h2]
 have hpp:(d'.toList.map (fun j=>rows.getD j ([],.dead))).Perm rows:=by
  have:=hp2.map (fun j=>rows.getD j ([],.dead))
  rwa [e1] at this
 refine⟨hsz,hlt,zo1 ?_ (hpp.trans (z6S rows).symm) ?_ (z8s rows)⟩
 · exact(hpp.map (·.1)).nodup_iff.2 hn
 · rw[zny,ZK]
   intro i j hi hj hij
   simp only[Zh,Yj] at hi hj
   have:=hs i j (by omega) hij (by simp;omega)
   rw[getElem!_pos d' i hi,getElem!_pos d' j hj] at this
   unfold ltOf cfP rwN at this
   simp only[decide_eq_false_iff_not] at this
   have l1:=hlt d'[i] (by simp)
   have l2:=hlt d'[j] (by simp)
   rw[if_pos l1,if_pos l2,zaW] at this
   simp only[ZG,Xi]
   omega
theorem zdY{I:World->(Nat->z0a)->Prop}{args:List T}{r:T}{outs:List T}(h:zjE 47 args=some (r,outs)):CallOk Tryz.prog I 46 args r outs:=by
 unfold zjE at h
 split at h
 case h_2=>cases h
 rename_i n cs f fs gs
 split at h
 case isFalse=>cases h
 rename_i hfg
 obtain⟨rfl,hfs,hgs⟩:=hfg
 simp only[X4] at hfs hgs
 subst hfs hgs
 split at h
 case h_2=>cases h
 rename_i xs hxs
 split at h
 case isFalse=>cases h
 rename_i hc
 obtain⟨hn,hlen,hnd⟩:=hc
 subst hn
 obtain⟨rfl,rfl⟩:T.tup []=r/\ [T.os 2 (z4O xs).length ((z4O xs).flatMap z4v),.dead]=outs:=by simpa using h
 obtain⟨hcs,hsl⟩:=zhX hxs
 subst hcs
 clear h hxs
 have hys:(z4O xs).length=xs.length:=(z6S xs).length_eq
 refine⟨fun vals w=> ?_,fun w K vals hs ha hI=> ?_⟩
 · have hb:∃c,Tryz.f46.body=some c:=⟨_,rfl⟩
   obtain⟨c,hb⟩:=hb
   have hname:Tryz.f46.name≠ "runtime.NumGoroutine" :=by decide
   simp[callFunc,program,Sem.run,Tryz.func46,hname,hb]
 · obtain⟨v,u,rfl⟩:∃v u,vals= #[v,u]:=by
    obtain⟨l⟩:=vals
    match l,hs with
    | [v,u],_=>exact⟨v,u,rfl⟩
   have hv:TRep w K (col 0) v (.os 2 xs.length (xs.flatMap z4v)):=ha 0 _ rfl
   have hu:TRep w K [] u (.sc (.func (.func 47) #[] #[])):=ha 1 _ rfl
   rw[hu.sc_eq]
   clear hu ha
   have htup:∀(w':World) (K':Nat->z0a),TRep w' K' [0] (.tuple #[]) (.tup []):=fun w' K'=>.tup _ #[] [] (fun _=>undef) rfl (fun j hj=>by simp at hj) (fun j t ht=>by simp at ht)
   by_cases hl0:xs.length=0
   ·
    have hx0:xs= []:=ZW hl0
    subst hx0
    have hvs:∃p cap,v= .slice p 0 cap:=by
     generalize hT:T.os 2 ([]:List (List Int×T)).length (([]:List (List Int×T)).flatMap z4v)=t at hv
     cases hv with
     |nil=>exact⟨_,_,rfl⟩
     |own c g n cap=>injection hT with e1 e2 e3;simp at e2;subst e2;exact⟨_,_,rfl⟩
     |_=>cases hT
    obtain⟨p,cap,rfl⟩:=hvs
    refine(AnyF.slices_SortFunc_none Tryz.laysSlF06_f46 p cap _ w).mono fun e' w' ⟨he,hw⟩=> ?_
    subst hw
    refine⟨.tuple #[],K,he,htup _ _,fun i t hi hio=> ?_,Step.refl _ _⟩
    match i,hi with
    |0,hi=>cases hi;exact⟨_,rfl,hv⟩
    |1,hi=>cases hi;cases hio
   have hl1:0<xs.length:=by omega
   generalize hT:T.os 2 xs.length (xs.flatMap z4v)=t at hv
   cases hv with
   |nil=>injection hT with _ e _;omega
   |own c g n cap size cs arr e fz F hfz hc0 hK hg hsz hl hz hn hcap hF hh=>
    injection hT with e1 e2 e3
    subst e1 e2 e3
    have hpl:=zcw xs
    have hget:∀j (hj:j<xs.length) (k:Nat),k<2->(xs.flatMap z4v)[2*j+k]? =(z4v xs[j])[k]? :=fun j hj k hk=>by
     rw[zfY,show(2*j+k)/2=j by omega,show(2*j+k)%2=k by omega,Z1 hj];rfl
    have hrow:∀j (hj:j<xs.length),TRep w K (col 0++ [2*j]) (F (2*j)) (zen xs[j].1):=fun j hj=>hh (2*j) _ (by rw[show 2*j=2*j+0 by omega,hget j hj 0 (by omega)];rfl)
    have hmap:∀j (hj:j<xs.length),TRep w K (col 0++ [2*j+1]) (F (2*j+1)) xs[j].2:=fun j hj=>hh (2*j+1) _ (by rw[hget j hj 1 (by omega)];rfl)
    have hcell:∀j,j<xs.length*2->arr[j]? =some (F j):=fun j hj=>hF j (by omega)
    let enc:Nat->List Value:=fun j=> [F (2*rwN xs.length j),F (2*rwN xs.length j+1)]
    have hrw:∀j,rwN xs.length j<xs.length:=fun j=>by unfold rwN;split<;>omega
    have hdg:∀j,j<xs.length->(List.range xs.length).toArray[j]! =j:=fun j hj=>by
     rw[getElem!_pos _ j (by simpa using hj)];simp
    have hflat:∀(d:Array Nat) (hd:∀x∈d.toList,x<xs.length) (j:Nat),j<d.size*2->(flatK enc 2 d)[j]! =F (2*d[j/2]! +j%2):=fun d hd j hj=>by
     rw[get_flatK enc 2 d j hj]
     have h2:j/2<d.size:=by omega
     have h3:d[j/2]! <xs.length:=by rw[getElem!_pos d _ h2];exact hd _ (by simp)
     show [F (2*rwN xs.length d[j/2]!),F (2*rwN xs.length d[j/2]! +1)][j%2]! =_
     rw[rwN,if_pos h3]
     rcases Nat.mod_two_eq_zero_or_one j with e|e<;>rw[e]<;>simp
    have hsize:(List.range xs.length).toArray.size=xs.length:=by simp
    have hH:HoldsK enc 2 w g 0 (List.range xs.length).toArray:=fun j hj=>by
     rw[size_flatK,hsize] at hj
     constructor
     · rw[Zp,z1E hg,hcell j hj,hflat _ (fun x hx=>by simpa using hx) j (by rw[hsize];exact hj),hdg _ (by omega),show 2*(j/2)+j%2=j by omega]
       rfl
     · unfold World.frozen?
       rw[Zp]
       simp only[hg]
       have hja:j<arr.size:=(ZO.1 (hcell j hj)).1
       have:=hfz j hja
       obtain⟨lo,hi⟩:=fz
       simp only at this⊢
       simp only[YV,decide_eq_false_iff_not]
       omega
    have eg:∀args w,(callFunc 47 args).run Tryz.prog w= .ok (.enter 47 args) w:=enters_of Tryz.func47 (by kernel_rfl) rfl
    have esw:∀(m:Nat) (d:Array Nat) (os:Array Obj),sortWorldK enc 2 w g 0 m d os=sortWorld (id:Value->Value) w g 0 m (flatK enc 2 d) os:=fun _ _ _=>rfl
    have hlay:∀(d:Array Nat) (m:Nat) (os:Array Obj) (b:Nat),b<w.heap.size->K b= []->K b= []/\(sortWorldK enc 2 w g 0 m d os).heap[b]? =w.heap[b]? :=fun d m os b hb hk=>⟨hk,by rw[esw];exact z5u _ hb (by rintro rfl;rw[hK] at hk;simp[col] at hk)⟩
    have hcmp:CmpLays Tryz.prog 47 #[] enc 2 (cfP xs) g 0 (List.range xs.length).toArray.size w:=fun m os dk _ x y=>by
     have k1:=(zaG (c':= []) (hrow _ (hrw x)) (hlay dk m os) (by rw[esw];exact z6r _)).2
     have k2:=(zaG (c':= []) (hrow _ (hrw y)) (hlay dk m os) (by rw[esw];exact z6r _)).2
     have:=zw7 _ _ (F (2*rwN xs.length x+1)) (F (2*rwN xs.length y+1)) _ _ _ k1 k2
     have e1:cfP xs x y=zah (xs[rwN xs.length x]'(hrw x)).1 (xs[rwN xs.length y]'(hrw y)).1:=by
      unfold cfP
      rw[List.getD,Z1 (hrw x),List.getD,Z1 (hrw y)];rfl
     rw[e1]
     exact this
    have hcon:=Tryz.slices_SortFunc_f46 (fun _=>rfl) (fun _=>rfl) enc (fun _=>rfl) (fun x v hv=>by
     rcases Zu.1 hv with rfl|hv
     · exact zoa (hrow _ (hrw x))
     · rcases Zu.1 hv with rfl|hv
       · obtain⟨m,ds,e⟩:=hsl _ (Zw (hrw x))
         have:=hmap _ (hrw x)
         rw[e] at this
         exact zyE this
       · cases hv) (cfP xs) (zGD xs) 47 #[] g 0 cap (List.range xs.length).toArray w eg hcmp hH (z0P hg) (by simpa using hlen)
    rw[hsize] at hcon
    refine hcon.mono fun e' w' ⟨he,d',m,os,hp,hso,hw⟩=> ?_
    subst hw
    obtain⟨hd,hdl,hsort⟩:=zkz hnd (by rw[hsize];exact hp) (by rw[hsize];exact hso)
    have hfs:(flatK enc 2 d').size=xs.length*2:=by rw[size_flatK,hd]
    refine⟨.tuple #[],zl4 w.heap.size K,he,htup _ _,fun i t hi hio=> ?_,rfl,rfl,rfl,by rw[esw];exact z6r _,fun b hb hcb=>⟨by unfold zl4;rw[if_neg (by omega)],by rw[esw];exact z5u _ hb (by rintro rfl;rw[hK] at hcb;simp[col] at hcb)⟩,?_⟩
    · match i,hi with
      |0,hi=>
       refine⟨_,rfl,?_⟩
       show TRep _ _ (col 0) (.slice (some ⟨g,0,none⟩) xs.length cap) _
       rw[←hys]
       refine .own (col 0) g _ cap 2 _ (putCells id 0 (flatK enc 2 d') arr) e fz (fun j=>F (2*d'.toList.getD (j/2) 0+j%2)) (fun i hi=>hfz i (by simpa[putCells] using hi)) (by simp[col]) (by unfold zl4;rw[if_neg (by have:=z0P hg;omega)];exact hK) (by rw[esw];exact z8V _ hg) (by simpa[putCells] using hsz) (by rw[zcw]) (by omega) (by omega) hcap (fun j hj=> ?_) (fun j t ht=> ?_)
       · have hj':j<xs.length*2:=by rw[zcw,hys] at hj;exact hj
         have hja:j<arr.size:=(ZO.1 (hcell j hj')).1
         have hjd:j/2<d'.size:=by omega
         simp only[putCells,X7,hcell j hj',ZP]
         rw[if_pos (by omega),YJ]
         show some (flatK enc 2 d')[j]! =_
         rw[hflat d' hdl j (by omega),getElem!_pos d' _ hjd]
         simp[List.getD,hjd]
       · rw[zfY] at ht
         have hjs:j/2<(z4O xs).length:=by
          rcases Yw (j/2) (z4O xs).length with h|h
          · exact h
          · rw[X6 h] at ht;cases ht
         rw[Z1 hjs] at ht
         have hjd:j/2<d'.toList.length:=by rw[Yj];omega
         have hjl:=hdl d'.toList[j/2] (Zw hjd)
         have ex:(z4O xs)[j/2]=xs[d'.toList[j/2]]:=by
          have h1:(d'.toList.map fun j=>xs.getD j ([],.dead))[j/2]? =some (z4O xs)[j/2]:=by rw[hsort];exact Z1 hjs
          rw[Zd,Z1 hjd,ZP,List.getD,Z1 hjl] at h1
          exact(YD h1).symm
         have e2:d'.toList.getD (j/2) 0=d'.toList[j/2]:=by rw[List.getD,Z1 hjd,Zb]
         rw[e2]
         rw[ex] at ht
         simp only[Z0] at ht
         have hmv:∀b,b<w.heap.size->K b= []->zl4 w.heap.size K b= []/\(sortWorldK enc 2 w g 0 m d' os).heap[b]? =w.heap[b]? :=fun b hb hk=>⟨by unfold zl4;rw[if_neg (by omega)];exact hk,(hlay d' m os b hb hk).2⟩
         have hsz':w.heap.size<=(sortWorldK enc 2 w g 0 m d' os).heap.size:=by rw[esw];exact z6r _
         rcases Nat.mod_two_eq_zero_or_one j with e|e
         · rw[e] at ht⊢
           obtain rfl:zen (xs[d'.toList[j/2]]).1=t:=by simpa[z4v] using ht
           exact(zaG (hrow _ hjl) hmv hsz').1
         · rw[e] at ht⊢
           obtain rfl:(xs[d'.toList[j/2]]).2=t:=by simpa[z4v] using ht
           obtain⟨m2,ds,e3⟩:=hsl _ (Zw hjl)
           have h4:=hmap _ hjl
           rw[e3] at h4⊢
           exact zyD h4 hmv hsz'
      |1,hi=>cases hi;cases hio
    · intro b arr0 e0 fz0 hb0
      by_cases hbg:b=g
      · subst hbg
        rw[hg] at hb0
        cases hb0
        exact⟨_,_,_,by rw[esw];exact z8V _ hg,by simp[putCells]⟩
      · exact⟨_,_,_,by rw[esw];exact(z5u _ (z0P hb0) hbg).trans hb0,rfl⟩
   |_=>cases hT
end
section
open Go
variable{rs:List (List Int×T)}{vis:List Nat}{args:List T}{i r:Nat}
noncomputable def zob:Code:=zb2 (zb2 (zb2 (zb2 zh6)))
noncomputable def c24:Code:=zgU (zgU zob)
noncomputable def lpR:Code:=lpC (blC (zb2 (zgU zob)))
noncomputable def c25:Code:=zgU lpR
noncomputable def c26:Code:=zgU (blC (zb2 (zb2 lpR)))
noncomputable def c27:Code:=zb2 (blC (zb2 (zb2 lpR)))
noncomputable def c28:Code:=zgU (zb2 zob)
noncomputable def c29:Code:=zgU (zb2 (zb2 zob))
theorem zxh:zh6= .seq (zgU zh6) (.seq (zgU (zb2 zh6)) (.seq (zgU (zb2 (zb2 zh6))) (.seq (zgU (zb2 (zb2 (zb2 zh6)))) (.seq (.seq c24 (.block 6 (.loop (.seq c25 (.seq (.cond (.tmp 79) .skip (.exit 6)) (.block 7 (.seq c26 c27))))))) (.seq c28 (.seq c29 .ret)))))):=rfl
theorem zCR:c24= .region 24 (rgO c24) false:=rfl
theorem zCQ:c25= .region 25 (rgO c25) false:=rfl
theorem zCP:c26= .region 26 (rgO c26) false:=rfl
def zei(rs:List (List Int×T))(vis:List Nat):List T:=(vis.map fun i=>rs.getD i ([],.sl 0 [])).flatMap z4v
def HR(rs:List (List Int×T))(r:Nat)(vis:List Nat):Fr:=⟨89,[(16,.one (.h 16 [])),(77,.one (.k (.pointer (some ⟨r,0,none⟩)))),(999999,.one .dead)],[(16,.os 2 vis.length (zei rs vis))]⟩
def cS:z0e:=fun f args=>if f=46 then zjE 47 args else none
theorem znq{r:List Int×T}(hi:rs[i]? =some r):zei rs (vis++ [i])=zei rs vis++z4v r:=by
 simp[zei,List.getD,hi]
theorem zAI{p:List Int}{m:Nat}{ds:List T}(hi:rs[i]? =some (p,.sl m ds))(hdm:ds.map z1P=ds)(hk:vis.length+1<=4611686018427387904)(hk2:(vis.length+1)*48<=140737488355328):
 ∃f1,zeo Tryz.prog cS cfRw.wio (rgO c26) ((rgO c26).toList.drop 1) {HR rs r vis with tm:=z7P (z7P (z7P (HR rs r vis).tm 78 (.one (.t none (.tup [.sc (.bool true),.dead,.dead])))) 79 (.one (.t none (.sc (.bool true))))) 80 (.one (.t none (.tup [.dead,.agg (z4v (p,.sl m ds))])))}=some f1/\
  ∃f2,z2p Tryz.prog cS cfRw LFm c27 f1=some (.n,f2)/\z9d (some [16,77,999999]) f2=HR rs r (vis++ [i]):=by
 have key:∀(fr:Fr) (Q:Fr->Prop),zmD Tryz.prog cS cfRw.wio c26 1 fr Q->∃f1,zeo Tryz.prog cS cfRw.wio (rgO c26) ((rgO c26).toList.drop 1) fr=some f1/\Q f1:=fun fr Q h=>by
  unfold zmD at h
  exact zco h
 refine key _ _ ?_
 simp only[HR,z7P,z4v,zen]
 refine zfS rfl rfl fun Q' hQ=> ?_;simp[*,cfRw];refine hQ.out _ ?_;clear hQ;clear Q'
 refine zfS rfl rfl fun Q' hQ=> ?_;simp[*,cfRw];refine hQ.out _ ?_;clear hQ;clear Q'
 refine zfS rfl rfl fun Q' hQ=> ?_;simp[*,cfRw];refine hQ.out _ ?_;clear hQ;clear Q'
 refine ziB (by decide) ?_
 have key2:∀(fr:Fr) (Q:Fr->Prop),wpC Tryz.prog cS cfRw LFm c27 fr (fun x f=>x= .n/\Q f)->∃f2,z2p Tryz.prog cS cfRw LFm c27 fr=some (.n,f2)/\Q f2:=fun fr Q h=>by
  unfold wpC at h
  obtain⟨x,f,h1,h2,h3⟩:=h
  subst h2
  exact⟨f,h1,h3⟩
 refine key2 _ _ ?_
 refine ziE rfl rfl rfl fun Q' hQ=> ?_;simp[*,cfRw];refine hQ.out _ ?_;clear hQ;clear Q'
 refine⟨rfl,?_⟩
 simp[HR,znq hi,z4v,zen]
theorem zxR(b:Bool)(l:List T):zeo Tryz.prog cS cfRw.wio (rgO c25) ((rgO c25).toList.drop 1) {HR rs r vis with tm:=z7P (HR rs r vis).tm 78 (.one (.t none (.tup (.sc (.bool b)::l))))}=some {HR rs r vis with tm:=z7P (z7P (HR rs r vis).tm 78 (.one (.t none (.tup (.sc (.bool b)::l))))) 79 (.one (.t none (.sc (.bool b))))}:=by
 have key:∀(fr f2:Fr),zmD Tryz.prog cS cfRw.wio c25 1 fr (fun f=>f=f2)->zeo Tryz.prog cS cfRw.wio (rgO c25) ((rgO c25).toList.drop 1) fr=some f2:=fun fr f2 h=>by
  unfold zmD at h
  obtain⟨f,h1,h2⟩:=zco h
  rw[h1,h2]
 refine key _ _ ?_
 simp only[HR,z7P]
 refine zfS rfl rfl fun Q' hQ=> ?_;simp[*,cfRw];refine hQ.out _ ?_;clear hQ;clear Q'
 refine ziB (by decide) ?_
 rfl
theorem zAH{n:Nat}{cs:List T}(hx:cS 46 [.os 2 vis.length (zei rs vis),.sc (.func (.func 47) #[] #[])]=some (.tup [],[.os 2 n cs,.dead]))(hcs:cs.map z1P=cs)(x y:E):
 wpC Tryz.prog cS cfRw LFm (.seq c28 (.seq c29 .ret)) {HR rs r vis with tm:=z7P (z7P (HR rs r vis).tm 78 (.one (.t none (.tup [.sc (.bool false)])))) 79 (.one (.t none (.sc (.bool false))))} (zuA Tryz.prog Tryz.f18 [] (.sl n cs) []):=by
 simp only[HR,z7P]
 repeat' (first|refine z0d ?_|refine z7x ?_|refine z5O ?_|refine z4X ?_|refine z3D rfl ?_|refine zgK rfl ?_|refine z7l ?_|refine zzo ?_|refine zzp ?_|refine zwb ?_|refine zwc ?_|refine zAV rfl ?_|refine zsE rfl ?_|(refine zsD rfl rfl (by simp[*,cfRw,hx,hcs];rfl) ?_)|(refine ziE rfl rfl rfl fun Q' hQ=> ?_;simp[*,cfRw,hx,hcs];(refine hQ.out _ ?_;clear hQ;clear Q'))|(refine zDZ rfl fun Q1 Q2 h1 h2=> ?_;simp[*,z7n,z9S,zDc,zDg,zDb,zDf,z6F,zeX,z2J,opE,rdV,scE,zgE];(try (repeat' (first|refine And.intro ?_ ?_|intro _)));all_goals (first|(exfalso;omega)|(refine h1.out ?_;clear h1 h2;clear Q1 Q2)|(refine h2.out ?_;clear h1 h2;clear Q1 Q2)))|refine z9C rfl ?_|refine za4 rfl ?_|refine z6v rfl ?_|refine zsC rfl ?_|refine z6U rfl rfl rfl rfl ?_|(refine z2Z rfl fun Q' hQ=> ?_;simp[*,cfRw,hx,hcs];(refine hQ.out _ ?_;clear hQ;clear Q'))|(refine z3T rfl rfl fun Q' hQ=> ?_;simp[*,cfRw,hx,hcs];(refine hQ.out _ ?_;clear hQ;clear Q'))|(refine z5C rfl rfl fun Q1 Q2 h1 h2=> ?_;simp[*,z7n,z9S,zDc,zDg,zDb,zDf,zui,zeX,z2J,opE,rdV,scE,zgE];(try (repeat' (first|refine And.intro ?_ ?_|intro _)));all_goals (first|(exfalso;omega)|((first|(exfalso;omega)|(refine h1.out ?_;clear h1 h2;clear Q1 Q2)|(refine h2.out ?_;clear h1 h2;clear Q1 Q2));intro Q' hQ;simp[*,cfRw,hx,hcs];(refine hQ.out _ ?_;clear hQ;clear Q'))))|refine zsB rfl rfl rfl ?_|(refine ziB (by decide) ?_)|(refine zfS rfl rfl fun Q' hQ=> ?_;simp[*,cfRw,hx,hcs];(refine hQ.out _ ?_;clear hQ;clear Q'))|(refine zqb rfl rfl fun Q1 Q2 h1 h2=> ?_;simp[*,z7n,z9S,zDc,zDg,zDb,zDf,zui,zeX,z2J,opE,rdV,scE,zgE];(try (repeat' (first|refine And.intro ?_ ?_|intro _)));all_goals (first|(exfalso;omega)|((first|(exfalso;omega)|(refine h1.out ?_;clear h1 h2;clear Q1 Q2)|(refine h2.out ?_;clear h1 h2;clear Q1 Q2));intro Q' hQ;simp[*,cfRw,hx,hcs];(refine hQ.out _ ?_;clear hQ;clear Q')))))
 all_goals (simp[zuA, *];done)
theorem zph:∀(i:Nat) (t:T),args.all (fun t=> !z6i t)=true->args[i]? =some t->z6i t=true->False:=fun i t ha hi hio=>by
 rw[Zn] at ha
 have:=ha t (ZM hi)
 rw[hio] at this
 cases this
theorem zjo(hd:∀r∈rs,z1P r.2=r.2):((rs).flatMap z4v).map z1P=rs.flatMap z4v:=by
 induction rs with
 |nil=>rfl
 |cons r l ih=>
  rw[Ya,ZY,ih fun q hq=>hd q (Zl _ hq)]
  simp[z4v,zen,hd r (Zy ..)]
theorem zjG{I:World->(Nat->z0a)->Prop}{C:z0e}(hI:EnvS I)(hC:z7e Tryz.prog I C)(hS:z7e Tryz.prog I cS)(hsort:∀l1 l2:List (List Int×T),l1.Perm l2->(l2.map (·.1)).Nodup->z4O l1=z4O l2)(hperm:∀l:List (List Int×T),(z4O l).Perm l){r:T}{outs:List T}(h:zjH C args=some (r,outs)):CallOk Tryz.prog I 18 args r outs:=by
 have hm:Tryz.prog.follows .mixedOrders=true:=by kernel_rfl
 unfold zjH at h
 split at h
 case h_2=>cases h
 rename_i fr hcode
 split at h
 case h_2=>cases h
 rename_i kk ks cs h5 h16 ho16
 split at h
 case h_2=>cases h
 rename_i rs hrs
 split at h
 case isFalse=>cases h
 rename_i hc
 obtain⟨hnd,hby,hal,hio,hnt,hdm⟩:=hc
 obtain⟨rfl,rfl⟩:T.sl (z4O rs).length ((z4O rs).flatMap z4v)=r/\(args.map fun _=>T.dead)=outs:=by simpa using h
 obtain⟨hcs,hsl⟩:=zhT hrs
 clear h hrs
 have hb:Tryz.f18.body=some zh6:=rfl
 refine⟨fun vals w=> ?_,fun w K vals hs ha hIw=> ?_⟩
 · have hname:Tryz.f18.name≠ "runtime.NumGoroutine" :=by decide
   simp[callFunc,program,Sem.run,Tryz.func18,hname,hb]
 have hent:=zgD (nt:=89) hs ha hal
 obtain⟨f0,e0,hcode⟩:=zfK hcode
 obtain⟨f1,e1,hcode⟩:=zfK hcode
 obtain⟨f2,e2,e3⟩:=zfK hcode
 have ok:okC cfRw (zwh zh6)=true:=by kernel_rfl
 simp only[zwh,okC,Z6] at ok
 obtain⟨ok0,ok1,ok2,ok3⟩:=ok
 refine calls_of_wp Tryz.func18 hb ?_
 rw[zxh]
 refine wp_seq (z9z hI hC hm _ ok0 hent hIw e0 fun a1 w1 K1 R1 h1 s1=> ?_)
 refine wp_seq (z9z hI hC hm _ ok1 h1 (hI.step hIw s1) e1 fun a2 w2 K2 R2 h2 s2=> ?_)
 have s2:=s1.trans s2
 refine wp_seq (z9z hI hC hm _ ok2 h2 (hI.step hIw s2) e2 fun a3 w3 K3 R3 h3 s3=> ?_)
 have s3:=s2.trans s3
 refine wp_seq (z9z hI hC hm _ ok3 h3 (hI.step hIw s3) e3 fun a4 w4 K4 R4 h4 s4=> ?_)
 have s4:=s3.trans s4
 clear h1 h2 h3 s1 s2 s3 e0 e1 e2 e3 hent
 have h5':=(h4.weaken (tm:= [(5,.one (.t none (.ms kk ks cs))),(16,.one (.h 16 []))]) fun i=>by
  simp only[z2J]
  split
  · rename_i e;subst e;exact .inl h5.symm
  · split
    · rename_i e;subst e;exact .inl h16.symm
    · exact .inr rfl).canon (some [5,16,999999])
 have e6:z9d (some [5,16,999999]) {fr with tm:= [(5,.one (.t none (.ms kk ks cs))),(16,.one (.h 16 []))]}=⟨89,[(5,.one (.t none (.ms kk ks cs))),(16,.one (.h 16 [])),(999999,.one .dead)],[(16,.os 2 0 [])]⟩:=by
  simp[ho16,hnt]
 rw[e6] at h5'
 clear h4 h5 h16 ho16 hnt e6
 obtain⟨o0,o1,ty,ke,el,q24,p0,d0,g0,p1,d1,g1,ht⟩:∃(o0 o1:Oper) (ty ke el:TypeId),(rgO c24).toList= [o0,o1]/\o0.op= .move (.tmp 5)/\o0.dst=some 76/\o0.guard=none/\o1.op= .range ty (.tmp 76)/\o1.dst=some 77/\o1.guard=none/\Tryz.prog.underlying ty=some (.map ke el):=⟨_,_,_,_,_,rfl,rfl,rfl,rfl,rfl,rfl,rfl,rfl⟩
 refine wp_seq (wp_seq ?_)
 rw[zCR]
 refine wp_region_list ?_
 rw[q24]
 refine zjK g0 fun Kk hK=> ?_
 unfold Oper.wp
 rw[show(execOp a4.eval o0).run Tryz.prog w4= .ok (.value (a4.eval (.tmp 5))) w4 by simp[execOp,p0]]
 simp only[Oper.upon,d0]
 refine hK _ _ ?_
 clear hK
 have h7:=h5'.put (d:=76) (x:=.one (.t none (.ms kk ks cs))) (v:=a4.eval (.tmp 5)) (show 76<89 by decide) (h5'.opE (.tmp 5))
 refine zjK g1 fun Kk hK=> ?_
 refine zwa h7 p1 d1 (show 77<89 by decide) rfl ht fun bm ents clock F hg hKb hmt htr h8 s8=>hK _ _ (wpList_nil ?_)
 have hln:cs.length=rs.length:=by rw[hcs];simp
 rw[hln] at hmt
 have hkid:∀i (hi:i<rs.length),TRep w4 K4 [] (F i) (.agg (z4v rs[i])):=fun i hi=>htr i _ (by rw[hcs,Zd,Z1 hi];rfl)
 clear hK h7 h5' q24 p0 d0 g0 p1 d1 g1 ht htr Kk hcs
 have h9:=h8.canon (some [16,77,999999])
 have e9:∀rr,z9d (some [16,77,999999]) {(⟨89,z7P [(5,.one (.t none (.ms kk ks cs))),(16,.one (.h 16 [])),(999999,.one .dead)] 76 (.one (.t none (.ms kk ks cs))),[(16,.os 2 0 [])]⟩:Fr) with tm:=z7P (z7P [(5,.one (.t none (.ms kk ks cs))),(16,.one (.h 16 [])),(999999,.one .dead)] 76 (.one (.t none (.ms kk ks cs)))) 77 (.one (.k (.pointer (some ⟨rr,0,none⟩))))}=HR rs rr []:=fun rr=>by
  simp[HR,zei]
 rw[e9] at h9
 clear e9 h8 hln
 generalize hr:w4.heap.size=rr at h9 s8
 have hKrr:itK rr K4 rr= [1]:=by simp[itK]
 have hitr:(w4.alloc (.mapIter (some bm) clock #[] clock)).heap[rr]? =some (.mapIter (some bm) clock (z9B ents []) clock):=by
  rw[←hr,heap_alloc_new];rfl
 show(Code.block 6 _).wp _ _ _ _
 refine wp_block ?_
 refine zjL (fun n a1 w1=>∃K1 R1 vis,FRep w1 K1 R1 (fun i=>vals.getD (i-(89+1000)) undef) (HR rs rr vis) a1/\Step w4 K4 w1 K1/\K1 rr= [1]/\w1.heap[rr]? =some (.mapIter (some bm) clock (z9B ents vis) clock)/\vis.Nodup/\(∀i∈vis,i<rs.length)/\vis.length+n=rs.length) ?_ (n:=rs.length) ⟨_,_,[],h9,s8,hKrr,hitr,List.nodup_nil,(fun i hi=>by cases hi),by simp⟩
 clear h9 s8 hitr hKrr
 rintro n a5 w5 ⟨K5,R5,vis,h5,s5,hKr,hit,hnv,hlt,hlen⟩
 have hbm:w5.heap[bm]? =some (.map ents clock):=(s5.old bm (z0P hg) (.inl hKb)).2.trans hg
 have hKb5:K5 bm= []:=(s5.old bm (z0P hg) (.inl hKb)).1.trans hKb
 have hI5:I w5 K5:=hI.step hIw (s4.trans s5)
 refine wp_seq ?_
 rw[zCQ]
 refine wp_region_list ?_
 obtain⟨o0,o1,q25,p0,d0,g0,x1⟩:∃(o0 o1:Oper),(rgO c25).toList= [o0,o1]/\o0.op= .next (.tmp 77) false/\o0.dst=some 78/\o0.guard=none/\(rgO c25).toList.drop 1= [o1]:=⟨_,_,rfl,rfl,rfl,rfl,rfl⟩
 rw[q25]
 refine zjK g0 fun Kk hK=> ?_
 refine zzg h5 p0 d0 (show 78<89 by decide) rfl hKr hit hbm hmt.old (fun hz h6=> ?_) (fun e he w6 hst hit6 h6=> ?_)
 ·
  refine hK _ _ ?_
  clear hK
  have hreg:zeo Tryz.prog cS cfRw.wio (rgO c25) [o1] {HR rs rr vis with tm:=z7P (HR rs rr vis).tm 78 (.one (.t none (.tup [.sc (.bool false)])))}=some {HR rs rr vis with tm:=z7P (z7P (HR rs rr vis).tm 78 (.one (.t none (.tup [.sc (.bool false)])))) 79 (.one (.t none (.sc (.bool false))))}:=by
   rw[←x1];exact zxR false []
  refine zhV hI hS h6 hI5 hreg fun a7 w7 K7 R7 h7 s7=> ?_
  have s7:=s5.trans s7
  refine wp_seq (wp_cond_false (z1o (h7.opE (.tmp 79)) rfl).1 (wp_exit ?_))
  simp only[Exit.then,Exit.inBlock,if_true]
  have hvp:=zqi hnv hlt (ztY hmt hlt hz)
  have hvl:vis.length=rs.length:=by simpa using hvp.length_eq
  have e1:(List.range rs.length).map (fun i=>rs.getD i ([],.sl 0 []))=rs:=by
   refine Zf (by simp) fun i h1 h2=> ?_
   simp[List.getD,h2]
  have hvr:(vis.map fun i=>rs.getD i ([],.sl 0 [])).Perm rs:=by
   have:=hvp.map (fun i=>rs.getD i ([],.sl 0 []))
   rwa [e1] at this
  have hso:z4O (vis.map fun i=>rs.getD i ([],.sl 0 []))=z4O rs:=hsort _ _ hvr hnd
  have hx:cS 46 [.os 2 vis.length (zei rs vis),.sc (.func (.func 47) #[] #[])]=some (.tup [],[.os 2 (z4O rs).length ((z4O rs).flatMap z4v),.dead]):=by
   have hpi:=zfZ (vis.map fun i=>rs.getD i ([],.sl 0 [])) fun r hr=>hsl r (hvr.mem_iff.1 hr)
   have hnd':((vis.map fun i=>rs.getD i ([],.sl 0 [])).map (·.1)).Nodup:=(hvr.map (·.1)).nodup_iff.2 hnd
   unfold cS
   rw[if_pos rfl]
   unfold zjE zei
   simp only[XO,and_self,if_true,hpi]
   rw[if_pos ⟨by simp,by simp;omega,hnd'⟩,hso]
  have hcd:((z4O rs).flatMap z4v).map z1P=(z4O rs).flatMap z4v:=zjo fun r hr=>hdm r ((hperm rs).mem_iff.1 hr)
  have htl:=zAH (r:=rr) hx hcd (.one .dead) (.one .dead)
  unfold wpC at htl
  obtain⟨x,f8,hco,hex⟩:=htl
  have okt:okC cfRw (.seq c28 (.seq c29 .ret))=true:=by kernel_rfl
  refine z9z hI hS hm _ okt h7 (hI.step hIw (s4.trans s7)) hco fun a8 w8 K8 R8 h8 s8=> ?_
  have s8:=s7.trans s8
  have hfin:∀r0,zcS Tryz.prog Tryz.f18 [] f8=some (r0,[])->z1P r0=T.sl (z4O rs).length ((z4O rs).flatMap z4v)->a8.defers= []/\ ∃v,(results Tryz.f18 a8.tmps).run Tryz.prog w8= .ok v w8/\ ∃v' K',Ending.returned v= .returned v'/\TRep w8 K' [0] v' (T.sl (z4O rs).length ((z4O rs).flatMap z4v))/\(∀i t,args[i]? =some t->z6i t=true->∃t',(args.map fun _=>T.dead)[i]? =some t'/\TRep w8 K' (col i) (vals.getD i undef) t')/\Step w K w8 K':=fun r0 hx0 hd0=>by
   obtain⟨v,K9,r1,r2,-,r4⟩:=znd h8 hx0 (by simp)
   refine⟨h8.df,v,r1,v,fun b=>dz (K9 b),rfl,?_,fun i t hi hio'=>(zph i t hio hi hio').elim,((s4.trans s8).trans r4).trans ⟨rfl,rfl,rfl,Z5 _,fun b hb hcc=>⟨by
    show dz (K9 b)=K9 b
    rcases hcc with q|q<;>rw[q]<;>rfl,rfl⟩,.same rfl⟩⟩
   rw[←hd0]
   exact r2.freeze (fun b s hb hcc hK=>⟨by show dz (K9 b)= [];rw[hK];rfl,rfl⟩) (fun b hb hK=>⟨by show dz (K9 b)= [];rw[hK];rfl,rfl⟩) (Z5 _) [0]
  have hgo:(zcS Tryz.prog Tryz.f18 [] f8).map (fun x=>(z1P x.1,x.2))=some (T.sl (z4O rs).length ((z4O rs).flatMap z4v),[])->∃r0,zcS Tryz.prog Tryz.f18 [] f8=some (r0,[])/\z1P r0=T.sl (z4O rs).length ((z4O rs).flatMap z4v):=fun h=>by
   rw[Z4] at h
   obtain⟨⟨r0,o0⟩,h1,h2⟩:=h
   have e1:z1P r0=_:=congrArg Prod.fst h2
   have e2:o0= []:=congrArg Prod.snd h2
   subst e2
   exact⟨r0,h1,e1⟩
  cases x with
  |n=>
   obtain⟨r0,h1,h2⟩:=hgo hex
   exact hfin r0 h1 h2
  |r=>
   obtain⟨r0,h1,h2⟩:=hgo hex
   exact hfin r0 h1 h2
  |x id=>exact hex.elim
 ·
  obtain⟨i,hi,hei,hiv,hev⟩:=zwz hmt hlt he
  refine hK _ _ ?_
  clear hK
  have s6:Step w4 K4 w6 K5:=hst.later s5 (by omega)
  have hI6:I w6 K5:=hI.step hIw (s4.trans s6)
  have hreg:zeo Tryz.prog cS cfRw.wio (rgO c25) [o1] {HR rs rr vis with tm:=z7P (HR rs rr vis).tm 78 (.one (.t none (.tup [.sc (.bool true),.dead,.dead])))}=some {HR rs rr vis with tm:=z7P (z7P (HR rs rr vis).tm 78 (.one (.t none (.tup [.sc (.bool true),.dead,.dead])))) 79 (.one (.t none (.sc (.bool true))))}:=by
   rw[←x1];exact zxR true [.dead,.dead]
  refine zhV hI hS h6 hI6 hreg fun a7 w7 K7 R7 h7 s7=> ?_
  have hr7:=s7.old rr (z0P hit6) (.inr hKr)
  have hb7:=(s6.trans s7).old bm (z0P hg) (.inl hKb)
  have s7:=s6.trans s7
  refine wp_seq (wp_cond_true (z1o (h7.opE (.tmp 79)) rfl).1 (wp_skip ?_))
  show(Code.block 7 _).wp _ _ _ _
  refine wp_block (wp_seq ?_)
  rw[zCP]
  refine wp_region_list ?_
  obtain⟨o2,l2,q26,p2,d2,g2,x2⟩:∃(o2:Oper) (l2:List Oper),(rgO c26).toList=o2::l2/\o2.op= .entry (.tmp 77)/\o2.dst=some 80/\o2.guard=none/\(rgO c26).toList.drop 1=l2:=⟨_,_,rfl,rfl,rfl,rfl,rfl⟩
  rw[q26]
  refine zjK g2 fun Kk hK=> ?_
  obtain⟨m,ds,e2⟩:=hsl rs[i] (Zw hi)
  have hri:rs[i]? =some (rs[i].1,.sl m ds):=by rw[Z1 hi];rw[←e2]
  have hdd:ds.map z1P=ds:=by
   have:=hdm rs[i] (Zw hi)
   rw[e2,z1P,z3U] at this
   injection this
  have hkt:TRep w7 K7 [] e.val (.agg (z4v (rs[i].1,.sl m ds))):=by
   rw[hev,←e2]
   exact(hkid i hi).move (fun b s hb hc=>absurd rfl hc) (fun b hb e=>⟨(s7.old b hb (.inl e)).1.trans e,(s7.old b hb (.inl e)).2⟩) YU s7.size
  refine zx4 h7 p2 d2 (show 80<89 by decide) rfl (hr7.2.trans hit6) (hb7.2.trans hg) (by rw[←Zv] at hei;exact ZM hei) hmt.nodup (.dead _ _) hkt fun h8=>hK _ _ ?_
  clear hK
  have hl1:vis.length+1<=rs.length:=by
   have:=zeg (vis:=i::vis) (n:=rs.length) (YH.2 ⟨hiv,hnv⟩) fun j hj=>by
    rcases Zu.1 hj with rfl|hj
    · exact hi
    · exact hlt j hj
   simpa using this
  obtain⟨f1,t1,f2,t2,t3⟩:=zAI (r:=rr) (vis:=vis) hri hdd (by omega) (by omega)
  rw[x2] at t1
  have hI7:I w7 K7:=hI.step hIw (s4.trans s7)
  refine zhV hI hS h8 hI7 t1 fun a9 w9 K9 R9 h9 s9=> ?_
  have ok27:okC cfRw c27=true:=by kernel_rfl
  refine z9z hI hS hm _ ok27 h9 (hI.step hI7 s9) t2 fun a10 w10 K10 R10 h10 s10=> ?_
  have s10:=s9.trans s10
  have h11:=h10.canon (some [16,77,999999])
  rw[t3] at h11
  have hr10:=s10.old rr (by have:=s7.size;have:=z0P (hr7.2.trans hit6);omega) (.inr (hr7.1.trans hKr))
  refine⟨n-1,by omega,K10,R10,vis++ [i],h11,s7.trans s10,hr10.1.trans (hr7.1.trans hKr),?_,?_,?_,?_⟩
  · rw[hr10.2,hr7.2,hit6,zms vis i hei]
  · exact Yu.2 ⟨hnv,by simp,fun a ha b hb=>by
     rw[Zj] at hb
     subst hb
     rintro rfl
     exact hiv ha⟩
  · intro j hj
    rcases Ze.1 hj with hj|hj
    · exact hlt j hj
    · rw[Zj] at hj;omega
  · simp;omega
end
section
open Go Go.RowKit
def zq9:Nat->Code->Code
 |0,c=>c
 |k+1,c=>zq9 k (zb2 c)
def zyN:Nat->Code->Prop
 |0,_=>True
 |k+1,c=>c= .seq (zgU c) (zb2 c)/\zyN k (zb2 c)
theorem zsg{P:Program}{C:z0e}{cf:Cfg}{LF:Nat}{x y:Code}{fr fr':Fr}{e:X}(h:z2p P C cf LF (.seq x y) fr=some (e,fr')):(∃f1,z2p P C cf LF x fr=some (.n,f1)/\z2p P C cf LF y f1=some (e,fr'))∨(z2p P C cf LF x fr=some (e,fr')/\e≠ .n):=by
 simp only[z2p] at h
 split at h
 · rename_i f1 h1
   exact .inl ⟨f1,h1,h⟩
 · rename_i hne
   refine .inr ⟨h,?_⟩
   rintro rfl
   exact hne _ h
theorem zuM{P:Program}{I:World->(Nat->z0a)->Prop}{C:z0e}{cf:Cfg}{LF:Nat}(hI:EnvS I)(hC:z7e P I C)(hm:P.follows .mixedOrders=true){Q:Exit->Act->World->Prop}:∀(k:Nat) (c:Code) {w:World} {K:Nat->z0a} {R G:Nat->Value} {fr fr':Fr} {x:X} {a:Act},zyN k c->okC cf (zzW k c)=true->FRep w K R G fr a->I w K->
 z2p P C cf LF (zzW k c) fr=some (x,fr')->(∀a' w' K' R',FRep w' K' R' G fr' a'->Step w K w' K'->(Exit.then ((zq9 k c).wp P Q) Q) (znS x) a' w')->c.wp P Q a w
 |0,c,w,K,R,G,fr,fr',x,a,_,_,h,hIw,hf,hq=>by
  cases hf
  exact hq a w K R h (Step.refl _ _)
 |k+1,c,w,K,R,G,fr,fr',x,a,hs,ho,h,hIw,hf,hq=>by
  obtain⟨e1,e2⟩:=hs
  simp only[zzW,okC,Z6] at ho
  simp only[zzW] at hf
  rw[e1]
  refine wp_seq ?_
  rcases zsg hf with⟨f1,h1,h2⟩|⟨h1,hne⟩
  · exact z9z hI hC hm _ ho.1 h hIw h1 fun a1 w1 K1 R1 r1 s1=>zuM hI hC hm k _ e2 ho.2 r1 (hI.step hIw s1) h2 fun a2 w2 K2 R2 r2 s2=>hq a2 w2 K2 R2 r2 (s1.trans s2)
  · refine z9z hI hC hm _ ho.1 h hIw h1 fun a1 w1 K1 R1 r1 s1=> ?_
    have:=hq a1 w1 K1 R1 r1 s1
    cases x with
    |n=>exact absurd rfl hne
    |r=>exact this
    |x id=>exact this
theorem zphB{args:List T}:∀(i:Nat) (t:T),args.all (fun t=> !z6i t)=true->args[i]? =some t->z6i t=true->False:=fun i t ha hi hio=>by
 rw[Zn] at ha
 have:=ha t (ZM hi)
 rw[hio] at this
 cases this
end
section
open Go Go.RowKit
variable{P:Program}
theorem z9Q{ops:Array Oper}{Q:Exit->Act->World->Prop}{l:List Oper}{o:Oper}{a:Act}{w w':World}{v:Value}(hg:o.guard=none)(hr:(execOp a.eval o).run P w= .ok (.value v) w')(h:wpList P ops Q l (a.put o.dst v) w'):wpList P ops Q (o::l) a w:=by
 refine zjK hg fun Kk hK=> ?_
 unfold Oper.wp
 rw[hr]
 simp only[Oper.upon]
 exact hK _ _ h
theorem zq5(w:World)(t e ty:TypeId)(z:Value)(zs:List Value)(ht:P.underlying t=some (.slice e))(hv:∀w,(zeroValue e).run P w= .ok z w)(b o n c:Nat)(hn:0<n)(hz:(Builtin.zeroCells z.cells n).toList=zs)
 (h1:∀v∈zs,v.oneCell'=true) (hc:∀j,j<zs.length->(w.cell? ⟨b,o+j,none⟩).isSome=true) (hf:∀j,j<zs.length->w.frozen? ⟨b,o+j,none⟩=false):
 (Builtin.clear_ #[t] ty #[.slice (some ⟨b,o,none⟩) n c]).run P w= .ok (.tuple #[]) (w.setCells b o zs):=by
 have hst:=run_storeCells_cells (P:=P) b o zs 0 w (by simpa using hc) (by simpa using hf) h1
 simp only[Yx] at hst
 obtain⟨m,rfl⟩:∃m,n=m+1:=⟨n-1,by omega⟩
 simp[Builtin.clear_,run_underlying ht,hv,hz,hst]
theorem zcl{g:Nat}{e:TypeId}{fz:Nat×Nat}:∀(vs:List Value) (o:Nat) (w:World) (arr:Array Value),w.heap[g]? =some (.cells arr e fz)->∃arr':Array Value,(w.setCells g o vs).heap[g]? =some (.cells arr' e fz)/\arr'.size=arr.size/\(∀j,j<o->arr'[j]? =arr[j]?)/\(∀b,b≠g->(w.setCells g o vs).heap[b]? =w.heap[b]?)/\(w.setCells g o vs).heap.size=w.heap.size/\(w.setCells g o vs).os=w.os/\(w.setCells g o vs).tape=w.tape/\(w.setCells g o vs).output=w.output
 | [],o,w,arr,h=>⟨arr,h,rfl,fun _ _=>rfl,fun _ _=>rfl,rfl,rfl,rfl,rfl⟩
 |v::vs,o,w,arr,h=>by
  have h1:(w.setCell ⟨g,o,none⟩ v).heap[g]? =some (.cells (arr.setIfInBounds o v) e fz):=by
   simp[World.setCell,Y2,h]
  obtain⟨arr',a1,a2,a3,a4,a5,a6,a7,a8⟩:=zcl vs (o+1) (w.setCell ⟨g,o,none⟩ v) _ h1
  refine⟨arr',a1,by rw[a2];simp,fun j hj=> ?_,fun b hb=> ?_,?_,a6,a7,a8⟩
  · rw[a3 j (by omega),ZZ,if_neg (by omega)]
  · rw[World.setCells,a4 b hb]
    exact Below.heap_setCell _ _ _ _ hb
  · rw[World.setCells,a5];simp[World.setCell]
def elU(P:Program)(t:TypeId):TypeId:=match P.underlying t with|some (.slice e)=>e|_=>0
noncomputable def rD:Code:=zgU (zq9 4 zbj)
noncomputable def rF:Code:=zgU (zb2 (zq9 4 zbj))
theorem zDY:zq9 4 zbj= .seq (.region 11 (rgO rD) false) (.seq (.region 12 (rgO rF) false) .ret):=rfl
theorem zpn{I:World->(Nat->z0a)->Prop}{C:z0e}(hI:EnvS I)(hC:z7e Tryz.prog I C){args:List T}{r:T}{outs:List T}(h:zD2 C args=some (r,outs)):CallOk Tryz.prog I 200 args r outs:=by
 have hm:Tryz.prog.follows .mixedOrders=true:=by kernel_rfl
 unfold zD2 at h
 split at h
 case h_2=>cases h
 rename_i n0 cs0 t
 split at h
 · cases h
 rename_i htio
 have hb:Tryz.f200.body=some zbj:=rfl
 refine⟨fun vals w=> ?_,fun w K vals hs ha hIw=> ?_⟩
 · have hname:Tryz.f200.name≠ "runtime.NumGoroutine" :=by decide
   simp[callFunc,program,Sem.run,Tryz.func200,hname,hb]
 have hent:=zgD (nt:=42) hs ha (by simp)
 have okp:okC zF8 (zzW 4 zbj)=true:=by kernel_rfl
 refine calls_of_wp Tryz.func200 hb ?_
 have hsq:zyN 4 zbj:=⟨rfl,rfl,rfl,rfl,trivial⟩
 have hout:∀ {W:World} {KK:Nat->z0a},∀i t',[T.os 3 n0 cs0,t][i]? =some t'->z6i t'=true->∃t'',[T.dead,T.dead][i]? =some t''/\TRep W KK (col i) (vals.getD i undef) t'':=fun i t' hi hio=>by
  match i,hi with
  |0,_=>exact⟨_,rfl,.dead _ _⟩
  |1,hi=>cases hi;exact absurd hio htio
 split at h
 case h_3=>cases h
 ·
  rename_i fr hcode
  refine zuM hI hC hm 4 zbj hsq okp hent hIw hcode fun a8 w8 K8 R8 h8 s8=> ?_
  split at h
  case h_2=>cases h
  rename_i i hi
  split at h
  case h_2=>cases h
  rename_i fr' hfz
  rw[Yl] at h
  obtain⟨⟨r0,o0⟩,h1,h2⟩:=h
  obtain⟨rfl,rfl⟩:r0=r/\ [T.dead,T.dead]=outs:=by simpa using h2
  have h9:=(h8.freeze hfz).1
  obtain⟨v,K9,r1,r2,-,r4⟩:=znd h9 h1 (by simp)
  have s9:Step w8 K8 w8 (fun b=>fzK i [] (K8 b)):=⟨rfl,rfl,rfl,Z5 _,fun b hb hcc=>⟨by rcases hcc with q|q<;>rw[q]<;>simp[fzK],rfl⟩,.same rfl⟩
  exact⟨h8.df,v,r1,v,K9,rfl,r2,hout,(s8.trans s9).trans r4⟩
 · rename_i fr hcode
   split at h
   case h_2=>cases h
   rename_i i m hh0 hh5
   split at h
   case h_2=>cases h
   rename_i n cs hob
   split at h
   case isFalse=>cases h
   rename_i hcc
   obtain⟨hm0,hmn,hnt⟩:=hcc
   obtain⟨rfl,rfl⟩:T.sl m.toNat ((cs.take (m.toNat*3)).map z1P)=r/\ [T.dead,T.dead]=outs:=by simpa using h
   refine zuM hI hC hm 4 zbj hsq okp hent hIw hcode fun a8 w8 K8 R8 h8 s8=> ?_
   show(zq9 4 zbj).wp _ _ a8 w8
   rw[zDY]
   have hn8:a8.tmps.size=42:=h8.nt.trans hnt
   have e0:a8.eval (.tmp 0)=R8 i:=by
    have e1:=h8.opE (.tmp 0)
    have e2:opE fr (.tmp 0)= .one (.h i []):=by simp only[opE];rw[if_pos (show 0<fr.nt by omega),hh0]
    rw[e2] at e1
    obtain⟨e3,-⟩:=e1
    simpa[nav] using e3.symm
   have e5:a8.eval (.tmp 5)= .int .i64 m:=by
    have e1:=h8.opE (.tmp 5)
    have e2:opE fr (.tmp 5)= .one (.t none (.sc (.int .i64 m))):=by simp only[opE];rw[if_pos (show 5<fr.nt by omega),hh5]
    rw[e2] at e1
    exact e1.1.sc_eq
   have hrep:=h8.ob i _ hob
   generalize hu:R8 i=u at hrep e0
   generalize hT:T.os 3 n cs=tt at hrep
   cases hrep with
   |nil=>injection hT with _ e _;omega
   |own c g n' cap size cs' arr e fz F hfz hc0 hK hg hsz hl hz hn hcap hF hh=>
    injection hT with q1 q2 q3
    subst q1 q2 q3
    have hlt:=z0P hg
    have hcelA:∀j,j<n*3->∃x,arr[j]? =some x:=fun j hj=>⟨_,hF j (by omega)⟩
    obtain⟨o0,o1,o2,o3,r0,r1,r2,r3,T0,q17,p0,d0,g0,p1,d1,g1,p2,d2,g2,p3,g3,d3,q18,x0,y0,z0,x1,y1,z1,x2,y2,z2,x3,y3,z3,ht,hte,hzv⟩:∃(o0 o1 o2 o3 r0 r1 r2 r3:Oper) (T0:TypeId),(rgO rD).toList= [o0,o1,o2,o3]/\o0.op= .move (.tmp 0)/\o0.dst=some 36/\o0.guard=none/\o1.op= .move (.tmp 5)/\o1.dst=some 37/\o1.guard=none/\o2.op= .slice T0 (.tmp 36) (some (.tmp 37)) none none/\o2.dst=some 38/\o2.guard=none/\o3.op= .call {callee:=.builtin .clear,args:= #[.tmp 38],argTypes:= #[T0]}/\o3.guard=none/\o3.dst=none/\
     (rgO rF).toList= [r0,r1,r2,r3]/\r0.op= .move (.tmp 0)/\r0.dst=some 39/\r0.guard=none/\r1.op= .move (.tmp 5)/\r1.dst=some 40/\r1.guard=none/\r2.op= .slice T0 (.tmp 39) none (some (.tmp 40)) none/\r2.dst=some 41/\r2.guard=none/\r3.op= .assign (.tmp 41)/\r3.dst=some 4/\r3.guard=none/\
     Tryz.prog.underlying T0=some (.slice (elU Tryz.prog T0))/\(Tryz.prog.info? (elU Tryz.prog T0)).map (·.size)=some 3/\(Tryz.prog.info? (elU Tryz.prog T0)).bind (·.zero)=some (.agg #[.int .i64 0,.int .i64 0,.slice none 0 0]):=⟨_,_,_,_,_,_,_,_,_,rfl,rfl,rfl,rfl,rfl,rfl,rfl,rfl,rfl,rfl,rfl,rfl,rfl,rfl,rfl,rfl,rfl,rfl,rfl,rfl,rfl,rfl,rfl,rfl,rfl,rfl,by kernel_rfl,by kernel_rfl,by kernel_rfl⟩
    generalize elU Tryz.prog T0=T1 at ht hte hzv
    obtain⟨ii,hii,hisz⟩:∃i,Tryz.prog.info? T1=some i/\i.size=3:=Z4.1 hte
    have hz1:∀W:World,(zeroValue T1).run Tryz.prog W= .ok (.agg #[.int .i64 0,.int .i64 0,.slice none 0 0]) W:=fun W=>by
     rw[hii] at hzv
     simp only[Z0] at hzv
     simp[zeroValue,typeInfo,hii,hzv]
    have hsz1:∀W:World,(sizeOf T1).run Tryz.prog W= .ok 3 W:=fun W=>by simp[sizeOf,typeInfo,hii,hisz]
    have hu0:∀W:World,(underlying T0).run Tryz.prog W= .ok (.slice T1) W:=fun W=>by simp[underlying,ht]
    have hb1:∀W:World,(Instr.sliceBounds true n cap (some (.int .i64 m)) none none).run Tryz.prog W= .ok (m.toNat,n,cap) W:=fun W=>by simp[Instr.sliceBounds,z5f (P:=Tryz.prog) (k:=.i64) (i:=m) (y:=n) ⟨hm0,by omega⟩]
    have hb2:∀W:World,(Instr.sliceBounds true n cap none (some (.int .i64 m)) none).run Tryz.prog W= .ok (0,m.toNat,cap) W:=fun W=>by simp[Instr.sliceBounds,z5f (P:=Tryz.prog) (k:=.i64) (i:=m) (y:=cap) ⟨hm0,by omega⟩]
    refine wp_seq (wp_region_list ?_)
    rw[q17]
    refine z9Q (w':=w8) (v:=.slice (some ⟨g,0,none⟩) n cap) g0 (by simp[execOp,p0,e0]) ?_
    rw[d0]
    refine z9Q (w':=w8) (v:=.int .i64 m) g1 (by simp[execOp,p1,hn8,Act.put,Act.eval] at e5⊢;exact e5) ?_
    rw[d1]
    refine z9Q (w':=w8) (v:=.slice (some ⟨g,m.toNat*3,none⟩) (n-m.toNat) (cap-m.toNat)) g2 (by
     have hne:¬cap=m.toNat:=by omega
     simp[execOp,p2,hn8,Act.put,Act.eval,Instr.sliceAt,hu0,Instr.slice,hb1,hsz1,hne,z8B]) ?_
    rw[d2]
    have hcl:∀ty,(Builtin.clear_ #[T0] ty #[.slice (some ⟨g,m.toNat*3,none⟩) (n-m.toNat) (cap-m.toNat)]).run Tryz.prog w8= .ok (.tuple #[]) (w8.setCells g (m.toNat*3) (Builtin.zeroCells #[.int .i64 0,.int .i64 0,.slice none 0 0] (n-m.toNat)).toList):=fun ty=>by
     have hzl:((Builtin.zeroCells #[.int .i64 0,.int .i64 0,.slice none 0 0] (n-m.toNat)).toList).length=(n-m.toNat)*3:=by simp[Builtin.zeroCells]
     refine zq5 w8 T0 T1 ty _ _ ht hz1 g _ _ _ (by omega) rfl (fun v hv=> ?_) (fun j hj=> ?_) (fun j hj=> ?_)
     · simp only[Builtin.zeroCells,Array.toList_map,Zm] at hv
       obtain⟨k,_,rfl⟩:=hv
       have:k%3<3:=Nat.mod_lt _ (by decide)
       rcases(by omega:k%3=0∨k%3=1∨k%3=2) with e|e|e<;>simp[e]<;>rfl
     · rw[hzl] at hj
       rw[z1E hg]
       obtain⟨x,hx⟩:=hcelA (m.toNat*3+j) (by omega)
       rw[hx];rfl
     · rw[hzl] at hj
       unfold World.frozen?
       simp only[hg]
       have:=hfz (m.toNat*3+j) (by
        obtain⟨x,hx⟩:=hcelA (m.toNat*3+j) (by omega)
        exact(ZO.1 hx).1)
       obtain⟨lo,hi⟩:=fz
       simp only at this⊢
       simp only[YV,decide_eq_false_iff_not]
       omega
    refine z9Q (w':=w8.setCells g (m.toNat*3) (Builtin.zeroCells #[.int .i64 0,.int .i64 0,.slice none 0 0] (n-m.toNat)).toList) (v:=.tuple #[]) g3 (by
     simp[execOp,p3,hn8,Act.put,Act.eval,resolve,invoke,hcl]
     rw[show ∀ar,builtin Builtin.clear #[T0] o3.type #[false] ar=(do pure (.value (←Builtin.clear_ #[T0] o3.type ar))) from fun _=>rfl]
     simp[hcl]) ?_
    obtain⟨arr9,a1,a2,a3,a4,a5,a6,a7,a8'⟩:=zcl (Builtin.zeroCells #[.int .i64 0,.int .i64 0,.slice none 0 0] (n-m.toNat)).toList (m.toNat*3) w8 arr hg
    generalize w8.setCells g (m.toNat*3) (Builtin.zeroCells #[.int .i64 0,.int .i64 0,.slice none 0 0] (n-m.toNat)).toList=w9 at a1 a4 a5 a6 a7 a8'⊢
    rw[d3]
    refine wpList_nil ?_
    have n9:(((a8.put (some 36) (.slice (some ⟨g,0,none⟩) n cap)).put (some 37) (.int .i64 m)).put (some 38) (.slice (some ⟨g,m.toNat*3,none⟩) (n-m.toNat) (cap-m.toNat))).tmps.size=42:=by simp[Act.put,hn8]
    have v0:(((a8.put (some 36) (.slice (some ⟨g,0,none⟩) n cap)).put (some 37) (.int .i64 m)).put (some 38) (.slice (some ⟨g,m.toNat*3,none⟩) (n-m.toNat) (cap-m.toNat))).eval (.tmp 0)= .slice (some ⟨g,0,none⟩) n cap:=by
     rw[←e0];simp[Act.put,Act.eval,Z7]
    have v5:(((a8.put (some 36) (.slice (some ⟨g,0,none⟩) n cap)).put (some 37) (.int .i64 m)).put (some 38) (.slice (some ⟨g,m.toNat*3,none⟩) (n-m.toNat) (cap-m.toNat))).eval (.tmp 5)= .int .i64 m:=by
     rw[←e5];simp[Act.put,Act.eval,Z7]
    have f9:(((a8.put (some 36) (.slice (some ⟨g,0,none⟩) n cap)).put (some 37) (.int .i64 m)).put (some 38) (.slice (some ⟨g,m.toNat*3,none⟩) (n-m.toNat) (cap-m.toNat))).defers= []:=h8.df
    show(Code.seq _ _).wp _ _ (((a8.put (some 36) (.slice (some ⟨g,0,none⟩) n cap)).put (some 37) (.int .i64 m)).put (some 38) (.slice (some ⟨g,m.toNat*3,none⟩) (n-m.toNat) (cap-m.toNat))) w9
    generalize ((a8.put (some 36) (.slice (some ⟨g,0,none⟩) n cap)).put (some 37) (.int .i64 m)).put (some 38) (.slice (some ⟨g,m.toNat*3,none⟩) (n-m.toNat) (cap-m.toNat))=a9 at n9 v0 v5 f9⊢
    refine wp_seq (wp_region_list ?_)
    rw[q18]
    refine z9Q (w':=w9) (v:=.slice (some ⟨g,0,none⟩) n cap) z0 (by simp[execOp,x0,v0]) ?_
    rw[y0]
    refine z9Q (w':=w9) (v:=.int .i64 m) z1 (by simp[execOp,x1,Act.put,Act.eval,Z7] at v5⊢;exact v5) ?_
    rw[y1]
    refine z9Q (w':=w9) (v:=.slice (some ⟨g,0,none⟩) m.toNat cap) z2 (by
     simp[execOp,x2,n9,Act.put,Act.eval,Instr.sliceAt,hu0,Instr.slice,hb2,hsz1,z8B]) ?_
    rw[y2]
    refine z9Q (w':=w9) (v:=.slice (some ⟨g,0,none⟩) m.toNat cap) z3 (by simp[execOp,x3,n9,Act.put,Act.eval]) ?_
    rw[y3]
    refine wpList_nil ?_
    show(Code.ret).wp _ _ _ _
    refine wp_ret ?_
    have hK9:∀b,K8 b= []∨K8 b= [1]->b≠g:=fun b hb he=>by subst he;rw[hK] at hb;rcases hb with e|e<;>simp[col] at e
    refine⟨f9,.slice (some ⟨g,0,none⟩) m.toNat cap,?_,.slice (some ⟨g,0,none⟩) m.toNat cap,fun b=>fzK i [] (K8 b),rfl,?_,hout,⟨a6.trans s8.os,a7.trans s8.tape,a8'.trans s8.output,by rw[a5];exact s8.size,fun b hb hcb=> ?_,fun b arr0 e0 fz0 hb0=> ?_⟩⟩
    · rw[show ∀tm,(results Tryz.f200 tm).run Tryz.prog w9= .ok (tm.getD 4 undef) w9 from fun tm=>results_tmp rfl _ _ _]
      simp[Act.put,n9]
    · refine .fro _ g 0 m.toNat cap _ (fun j=>F j) (by rw[hK];simp[fzK,col]) (by rw[a5];exact hlt) (by omega) hcap (fun j hj=> ?_) (fun j t hj=> ?_)
      · simp only[Zh,Zq] at hj
        rw[Zp,z1E a1,a3 j (by omega),hF j (by omega)]
      · rw[Zd,Z4] at hj
        obtain⟨t1,ht1,rfl⟩:=hj
        rw[YF] at ht1
        split at ht1
        · have h2:=hh j t1 ht1
          refine h2.freeze (fun b s hb hcc hKb=> ?_) (fun b hb hKb=> ?_) (by rw[a5];exact Z5 _) []
          · have hbg:b≠g:=by rintro rfl;rw[hK] at hKb;simp[col] at hKb
            exact⟨by rw[hKb];simp[fzK,col,z5h],a4 b hbg⟩
          · exact⟨by rw[hKb];rfl,a4 b (hK9 b (.inl hKb))⟩
        · cases ht1
    · obtain⟨u1,u2⟩:=s8.old b hb hcb
      refine⟨by rw[u1];rcases hcb with q|q<;>rw[q]<;>simp[fzK],?_⟩
      rw[a4 b (hK9 b (by rw[u1];exact hcb))];exact u2
    · obtain⟨b1,c1,z1',h1,h2⟩:=s8.sz b arr0 e0 fz0 hb0
      by_cases hbg:b=g
      · subst hbg
        rw[hg] at h1
        cases h1
        exact⟨_,_,_,a1,by rw[a2];exact h2⟩
      · exact⟨_,_,_,(a4 b hbg).trans h1,h2⟩
   |_=>cases hT
end
section
open Go Go.RowKit
abbrev zbC:TypeId:=193
abbrev tPB:TypeId:=191
abbrev tBy:TypeId:=5
abbrev tBs:TypeId:=84
abbrev tUP:TypeId:=242
theorem ccU(b:Nat)(w:World)(h0:w.cell? ⟨b,0,none⟩=some (.pointer (some ⟨b,0,none⟩))):
 Calls Tryz.prog 207 #[.pointer (some ⟨b,0,none⟩)] w fun e w'=>e= .returned (.tuple #[])/\w'=w:=by
 obtain⟨j,hj,_⟩:∃j,Tryz.prog.info? zbC=some j/\j.size=2:=Z4.1 (show(Tryz.prog.info? zbC).map (·.size)=some 2 by kernel_rfl)
 have hu:Tryz.prog.underlying tPB=some (.pointer zbC):=by kernel_rfl
 go_enter Tryz.func207,Tryz.ntmps207
 go_wp2
 rw[Lib.run_neq_ptr_same w _ hu hj]
 go_wp2
 go_end0
 exact⟨rfl,rfl⟩
theorem ccF(b:Nat)(w:World)(h0:w.cell? ⟨b,0,none⟩=some (.pointer none))(hsh:w.shape? b=some (zbC,2))(hfz:w.frozen? ⟨b,0,none⟩=false):
 Calls Tryz.prog 207 #[.pointer (some ⟨b,0,none⟩)] w fun e w'=>e= .returned (.tuple #[])/\w'=w.setCell ⟨b,0,none⟩ (.pointer (some ⟨b,0,none⟩)):=by
 obtain⟨j,hj,hjs⟩:∃j,Tryz.prog.info? zbC=some j/\j.size=2:=Z4.1 (show(Tryz.prog.info? zbC).map (·.size)=some 2 by kernel_rfl)
 have hu:Tryz.prog.underlying tPB=some (.pointer zbC):=by kernel_rfl
 have hU:Tryz.prog.underlying tUP=some .unsafePointer:=by kernel_rfl
 go_enter Tryz.func207,Tryz.ntmps207
 go_wp2
 rw[Lib.run_to_unsafe w ⟨b,0,none⟩ hu hU hj (by rw[hjs];decide) hsh (Nat.zero_lt_succ 1)]
 simp only[Result.andThen]
 rw[Oper.upon_value]
 go_wp2
 rw[run_callFunc_extern Tryz.func217 (by kernel_rfl) (by kernel_rfl) (by kernel_rfl) (e:=Extern.AbiNoEscape.same) (by kernel_rfl)]
 rw[Lib.run_noEscape]
 simp only[Result.andThen]
 rw[Oper.upon_value]
 go_wp2
 rw[Lib.run_from_unsafe w ⟨b,0,none⟩ hU hu hj hsh (show liesAt Tryz.prog Tryz.prog.depth zbC (2/Tryz.prog.cellsOf zbC) 0 zbC 1=true by kernel_rfl)]
 simp only[Result.andThen]
 rw[Oper.upon_value]
 go_wp2
 go_end0
 exact⟨rfl,rfl⟩
theorem ccW(B b:Nat)(bs:List Value)(w:World)(h:Lib.IsBuilder zbC tBy B b bs w):
 Calls Tryz.prog 207 #[.pointer (some ⟨b,0,none⟩)] w fun e w'=>e= .returned (.tuple #[])/\Lib.BuilderAt zbC tBy B b (.pointer (some ⟨b,0,none⟩)) bs w'/\Below B w w'/\Lib.OthersKept tBy (some b) w w':=by
 rcases h with h|h
 · refine(ccF b w h.cell0 h.shape h.frozen0).mono ?_
   rintro e w' ⟨rfl,rfl⟩
   exact⟨rfl,h.used _,(Below.refl B w).setCell (p:=⟨b,0,none⟩) h.1 _,(Lib.OthersKept.refl _ _ w).setCell ⟨b,0,none⟩ rfl _⟩
 · refine(ccU b w h.cell0).mono ?_
   rintro e w' ⟨rfl,rfl⟩
   exact⟨rfl,h,Below.refl B _,Lib.OthersKept.refl _ _ _⟩
theorem zCS:∃i,Tryz.prog.info? tBy=some i/\i.zero=some (.int .u8 0)/\i.size=1/\i.bytes=1:=by
 obtain⟨i,h1,h2⟩:=Z4.1 (show(Tryz.prog.info? tBy).map (fun i=>(i.zero,i.size,i.bytes))=some (some (.int .u8 0),1,1) by kernel_rfl)
 simp only[Xb] at h2
 exact⟨i,h1,h2.1,h2.2.1,h2.2.2⟩
theorem wbW(B b:Nat)(bs:List Value)(c:Int)(w:World)(h:Lib.IsBuilder zbC tBy B b bs w)(hlen:bs.length+1<=140737488355328)(hBw:B<=w.heap.size):
 Calls Tryz.prog 187 #[.pointer (some ⟨b,0,none⟩),.int .u8 c] w fun e w'=>e= .returned .nilIface/\Lib.BuilderAt zbC tBy B b (.pointer (some ⟨b,0,none⟩)) (bs++ [.int .u8 c]) w'/\Below B w w'/\Lib.OthersKept tBy (some b) w w':=by
 obtain⟨i0,hi,hz0,hz1,hz2⟩:=zCS
 go_enter Tryz.func187,Tryz.ntmps187
 go_wp2_with (go_at_call 207;refine(ccW B b bs _ h).mono ?_)
 rintro e w1 ⟨rfl,h1,hb1,hk1⟩
 obtain⟨hB,v,hbk,hown,hne⟩:=h1
 have c0:w1.cell? ⟨b,0,none⟩=some (.pointer (some ⟨b,0,none⟩)):=by rw[Lib.cell_of_heap hbk];rfl
 have c1:w1.cell? ⟨b,1,none⟩=some v:=by rw[Lib.cell_of_heap hbk];rfl
 have hlt:b<w1.heap.size:=Lib.BuilderAt.lt ⟨hB,v,hbk,hown,hne⟩
 go_wp2_with (at_builtin;refine wpList_append_own _ rfl _ _ tBs rfl B tBy i0 (.int .u8 0) 1 1 (by kernel_rfl) hi hz0 hz1 hz2 rfl (by decide) v bs.length bs rfl (hown.alloc _) ⟨w1.heap.size,0,none⟩ 1 1 [.int .u8 c] rfl rfl ?c1 ?c2 ?c3 ?c4 ?c5 ?_)
 case c1=>
  intro j u hj
  match j,hj with
  |0,hj=>simp at hj;subst hj;simp[Addr.add]
 case c2=>intro u hu;simp at hu;subst hu;rfl
 case c3=>unfold maxLen;omega
 case c4=>omega
 case c5=>have:=hb1.size;simp;omega
 intro v' w2 hown' hgrow _
 have hb2:w2.heap[b]? =some (.cells #[.pointer (some ⟨b,0,none⟩),v] zbC (0,0)):=by
  rw[hgrow.block b (by simp;omega) (fun e=>hne e.symm),Lib.alloc_old w1 _ b hlt]
  exact hbk
 have d0:w2.cell? ⟨b,0,none⟩=some (.pointer (some ⟨b,0,none⟩)):=by rw[Lib.cell_of_heap hb2];rfl
 have d1:w2.cell? ⟨b,1,none⟩=some v:=by rw[Lib.cell_of_heap hb2];rfl
 have f1:w2.frozen? ⟨b,1,none⟩=false:=Lib.frozen_of_heap hb2 1
 obtain⟨g,cap,rfl⟩:∃g cap,v'= .slice (some ⟨g,0,none⟩) (bs.length+1) cap:=by
  rcases hown'.2 with⟨_,h0⟩|⟨g,cap,cur,hv,_⟩
  · omega
  · exact⟨g,cap,hv⟩
 go_wp2
 go_ret
 refine⟨rfl,?_,?_,((hk1.alloc _).grown hgrow (Lib.ownsRowF_kind (World.ownsRowF_of (hown.alloc _)))).setCell ⟨b,1,none⟩ rfl _⟩
 · exact Lib.BuilderAt.put hB hb2 (bs':=bs++ [.int .u8 c]) (by simpa using hown') (by decide)
 · exact((hb1.alloc (by have:=hb1.size;omega) _).grown hgrow (by have:=hb1.size;simp;omega) (fun k hk=>(hown.lt k hk).1)).setCell (p:=⟨b,1,none⟩) hB _
theorem wsW(B b:Nat)(bs:List Value)(s:ByteArray)(w:World)(h:Lib.IsBuilder zbC tBy B b bs w)(hlen:bs.length+s.size<=140737488355328)(hBw:B<=w.heap.size):
 Calls Tryz.prog 208 #[.pointer (some ⟨b,0,none⟩),.string s] w fun e w'=>e= .returned (.tuple #[.int .i64 s.size,.nilIface])/\Lib.BuilderAt zbC tBy B b (.pointer (some ⟨b,0,none⟩)) (bs++Lib.strCells s) w'/\Below B w w'/\Lib.OthersKept tBy (some b) w w':=by
 obtain⟨i0,hi,hz0,hz1,hz2⟩:=zCS
 go_enter Tryz.func208,Tryz.ntmps208
 go_wp2_with (go_at_call 207;refine(ccW B b bs _ h).mono ?_)
 rintro e w1 ⟨rfl,h1,hb1,hk1⟩
 obtain⟨hB,v,hbk,hown,hne⟩:=h1
 have c0:w1.cell? ⟨b,0,none⟩=some (.pointer (some ⟨b,0,none⟩)):=by rw[Lib.cell_of_heap hbk];rfl
 have c1:w1.cell? ⟨b,1,none⟩=some v:=by rw[Lib.cell_of_heap hbk];rfl
 have hlt:b<w1.heap.size:=Lib.BuilderAt.lt ⟨hB,v,hbk,hown,hne⟩
 go_wp2_with (at_builtin;refine Lib.wpList_append_own_string _ rfl _ _ tBs 9 rfl B tBy i0 (by kernel_rfl) (by kernel_rfl) hi hz0 hz1 hz2 v bs.length bs rfl hown s rfl ?c3 ?c4 ?c5 ?_)
 case c3=>unfold maxLen;omega
 case c4=>omega
 case c5=>have:=hb1.size;omega
 intro v' w2 hown' hgrow _
 have hb2:w2.heap[b]? =some (.cells #[.pointer (some ⟨b,0,none⟩),v] zbC (0,0)):=by
  rw[hgrow.block b hlt (fun e=>hne e.symm)]
  exact hbk
 have d0:w2.cell? ⟨b,0,none⟩=some (.pointer (some ⟨b,0,none⟩)):=by rw[Lib.cell_of_heap hb2];rfl
 have d1:w2.cell? ⟨b,1,none⟩=some v:=by rw[Lib.cell_of_heap hb2];rfl
 have f1:w2.frozen? ⟨b,1,none⟩=false:=Lib.frozen_of_heap hb2 1
 obtain⟨ao,n',cap,rfl⟩:∃ao n' cap,v'= .slice ao n' cap:=by
  rcases hown'.2 with⟨hv,_⟩|⟨g,cap,cur,hv,_⟩
  · exact⟨_,_,_,hv⟩
  · exact⟨_,_,_,hv⟩
 go_wp2
 go_ret2
 refine⟨rfl,?_,?_,(hk1.grown hgrow (Lib.ownsRowF_kind (World.ownsRowF_of hown))).setCell ⟨b,1,none⟩ rfl _⟩
 · exact Lib.BuilderAt.put hB hb2 (bs':=bs++Lib.strCells s) (by simpa[Lib.strCells_length] using hown') (by decide)
 · exact(hb1.grown hgrow (by have:=hb1.size;omega) (fun k hk=>(hown.lt k hk).1)).setCell (p:=⟨b,1,none⟩) hB _
theorem zF4(op:Int)(w:World):Calls Tryz.prog 209 #[.int .i64 op] w fun e w'=>e= .returned (.int .i64 (lvl op))/\w'=w:=by
 unfold lvl
 go_enter Tryz.func209,Tryz.ntmps209
 go_wp2
 all_goals go_ret
 all_goals first|(simp_all;done)|trace_state
end
section
open Go Go.RowKit
variable{cs:List T}{pre r:List UInt8}{B b k:Nat}{K:Nat->z0a}{e:TypeId}{v:Value}{W w:World}
theorem zEW{a b c:T}(h:TRep w K [] v (.agg [a,b,c])):∃x y z,v= .agg #[x,y,z]/\TRep w K [] x a/\TRep w K [] y b/\TRep w K [] z c:=by
 generalize hT:T.agg [a,b,c]=t at h
 cases h with
 |agg c0 vs cs F hl hF h=>
  cases hT
  obtain⟨l⟩:=vs
  match l,hl with
  | [x,y,z],_=>
    have e0:=hF 0 (by simp)
    have e1:=hF 1 (by simp)
    have e2:=hF 2 (by simp)
    simp at e0 e1 e2
    refine⟨x,y,z,rfl,?_,?_,?_⟩
    · rw[e0];exact h 0 a rfl
    · rw[e1];exact h 1 b rfl
    · rw[e2];exact h 2 c rfl
 |_=>cases hT
section
variable (w0:World) (K0:Nat->z0a)
def zEZ(k:Nat):Prop:=∀(cs:List T) (v:Value) (bs:List UInt8),zwS k cs=some bs->TRep w0 K0 [] v (.agg cs)->∀(b:Nat) (pre:List UInt8) (W:World),Below w0.heap.size w0 W->Lib.IsBuilder zbC tBy w0.heap.size b (Lib.byteCells pre) W->pre.length+bs.length<=100000->
 Calls Tryz.prog 146 #[.pointer (some ⟨b,0,none⟩),v] W fun e W'=>e= .returned (.tuple #[])/\Lib.IsBuilder zbC tBy w0.heap.size b (Lib.byteCells (pre++bs)) W'/\Below w0.heap.size w0 W'/\Lib.OthersKept tBy (some b) W W'
def zGp(k:Nat):Prop:=∀(zb6 n:Nat) (cs:List T) (v:Value) (bs:List UInt8),zvt k zb6 n cs=some bs->TRep w0 K0 [] v (.sl n cs)->∀(b:Nat) (pre:List UInt8) (W:World),Below w0.heap.size w0 W->Lib.IsBuilder zbC tBy w0.heap.size b (Lib.byteCells pre) W->pre.length+bs.length<=100000->
 Calls Tryz.prog 188 #[.pointer (some ⟨b,0,none⟩),v,.string ⟨#[]⟩,.int .i64 zb6] W fun e W'=>e= .returned (.tuple #[])/\Lib.IsBuilder zbC tBy w0.heap.size b (Lib.byteCells (pre++bs)) W'/\Below w0.heap.size w0 W'/\Lib.OthersKept tBy (some b) W W'
variable {w0 K0}
theorem z7s{T:TypeId}{bs:List Value}(h:Lib.IsBuilder T e B b bs W)(o:Obj):Lib.IsBuilder T e B b bs (W.alloc o):=by
 have key:∀p,Lib.BuilderAt T e B b p bs W->Lib.BuilderAt T e B b p bs (W.alloc o):=by
  rintro p ⟨hB,v,hbk,hown,hne⟩
  exact⟨hB,v,(Lib.alloc_old W _ b (Lib.BuilderAt.lt ⟨hB,v,hbk,hown,hne⟩)).trans hbk,hown.alloc _,hne⟩
 exact h.imp (key _) (key _)
theorem z5y(h:Below B w W)(hB:B=w.heap.size)(o:Obj):Below B w (W.alloc o):=h.alloc (by have:=h.size;omega) o
theorem z8w{b:Option Nat}{W':World}{o:Obj}(h:Lib.OthersKept e b (W.alloc o) W'):Lib.OthersKept e b W W':=((Lib.OthersKept.refl e b W).alloc o).trans h
theorem wrB(hb:Below w0.heap.size w0 W)(h:Lib.IsBuilder zbC tBy w0.heap.size b (Lib.byteCells pre) W)(x:UInt8){c:Int}(hc:c=(x.toNat:Int))(hl:pre.length<100000):
 Calls Tryz.prog 187 #[.pointer (some ⟨b,0,none⟩),.int .u8 c] W fun e W'=>e= .returned .nilIface/\Lib.IsBuilder zbC tBy w0.heap.size b (Lib.byteCells (pre++ [x])) W'/\Below w0.heap.size w0 W'/\Lib.OthersKept tBy (some b) W W':=by
 subst hc
 refine(wbW w0.heap.size b _ (x.toNat:Int) W h (by simp[Lib.byteCells];omega) hb.size).mono ?_
 rintro e W' ⟨rfl,h1,h2,h3⟩
 refine⟨rfl,.inr ?_,hb.trans h2,h3⟩
 have:Lib.byteCells (pre++ [x])=Lib.byteCells pre++ [.int .u8 (x.toNat:Int)]:=by simp[Lib.byteCells]
 rw[this];exact h1
abbrev tEx:TypeId:=74
theorem wrS(hb:Below w0.heap.size w0 W)(h:Lib.IsBuilder zbC tBy w0.heap.size b (Lib.byteCells pre) W)(hl:pre.length<=100000):
 Calls Tryz.prog 208 #[.pointer (some ⟨b,0,none⟩),.string ⟨#[]⟩] W fun e W'=>e= .returned (.tuple #[.int .i64 0,.nilIface])/\Lib.IsBuilder zbC tBy w0.heap.size b (Lib.byteCells pre) W'/\Below w0.heap.size w0 W'/\Lib.OthersKept tBy (some b) W W':=by
 refine(wsW w0.heap.size b _ ⟨#[]⟩ W h (by simp[Lib.byteCells];omega) hb.size).mono ?_
 rintro e W' ⟨rfl,h1,h2,h3⟩
 refine⟨rfl,.inr ?_,hb.trans h2,h3⟩
 have:Lib.strCells (⟨#[]⟩:ByteArray)= []:=rfl
 rw[this,Y1] at h1;exact h1
theorem z6c{wr Wx:World}{vs:Array Value}{pre:List Value}(hd:Lib.IsBuilder zbC tBy w0.heap.size b pre wr)(h:Lib.OthersKept tBy (some b) (wr.alloc (.cells vs tEx)) Wx)(j:Nat)(v:Value)(hv:vs[j]? =some v):Wx.cell? ⟨wr.heap.size,j,none⟩=some v:=by
 have hlt:b<wr.heap.size:=hd.elim (·.lt) (·.lt)
 have h1:(wr.alloc (.cells vs tEx)).heap[wr.heap.size]? =some (.cells vs tEx (0,0)):=heap_alloc_new wr _
 have h2:=h _ _ h1 (fun e=>by cases e;omega) (fun c fz e=>by cases e)
 rw[z1E h2];exact hv
theorem zym(hk:zGp w0 K0 k):zEZ w0 K0 (k+1):=by
 intro cs v bs hf hr b pre W hbl hbd hlen
 unfold zwS at hf
 split at hf
 case h_2=>cases hf
 rename_i k' op l n es he
 cases he
 obtain⟨x,y,z,rfl,hx,hy,hz⟩:=zEW hr
 rw[hx.sc_eq,hy.sc_eq]
 clear hx hy hr
 have HB:=Lib.hid hbl
 have HD:=Lib.hid hbd
 have HZ:=Lib.hid hz
 have HK:=Lib.hid hk
 clear hbl hbd hz hk
 split at hf
 · rename_i hop
   cases hf
   subst hop
   go_enter Tryz.func146,Tryz.ntmps146
   go_wp2_with (go_at_call 187;refine(wrB (z5y HB.out rfl _) (z7s HD.out _) 48 rfl (by simp at hlen;omega)).mono ?_;rintro e W' ⟨rfl,h1,h2,h5⟩;have H1:=Lib.hid h1;have H2:=Lib.hid h2;have H5:=Lib.hid h5;clear h1 h2 h5)
   go_end0
   exact⟨rfl,H1.out,H2.out,z8w H5.out⟩
 · rename_i hop1
   split at hf
   · rename_i hop
     split at hf
     case isFalse=>cases hf
     rename_i hl
     cases hf
     subst hop
     clear hop1
     obtain⟨m,rfl⟩:∃m:Nat,l=(m:Int):=⟨l.toNat,by omega⟩
     have hm:m<26:=by omega
     simp only[Z3] at hlen⊢
     have hcv:(97:Int)+(m:Int)=((UInt8.ofNat (97+m)).toNat:Int):=by
      rw[Xp]
      omega
     have HC:=Lib.hid hcv
     clear hcv hl
     go_enter Tryz.func146,Tryz.ntmps146
     go_wp2_with (go_at_call 187;refine(wrB (z5y HB.out rfl _) (z7s HD.out _) (UInt8.ofNat (97+m)) HC.out (by simp at hlen;omega)).mono ?_;rintro e W' ⟨rfl,h1,h2,h5⟩;have H1:=Lib.hid h1;have H2:=Lib.hid h2;have H5:=Lib.hid h5;clear h1 h2 h5)
     go_end0
     exact⟨rfl,H1.out,H2.out,z8w H5.out⟩
   · rename_i hop3
     split at hf
     · rename_i hop
       subst hop
       clear hop1 hop3
       go_enter Tryz.func146,Tryz.ntmps146
       go_wp2_with (go_at_call 188;refine(HK.out 4 _ _ _ _ hf HZ.out b pre _ (z5y HB.out rfl _) (z7s HD.out _) hlen).mono ?_;rintro e W' ⟨rfl,h1,h2,h5⟩;have H1:=Lib.hid h1;have H2:=Lib.hid h2;have H5:=Lib.hid h5;clear h1 h2 h5)
       go_end0
       exact⟨rfl,H1.out,H2.out,z8w H5.out⟩
     · rename_i hop5
       split at hf
       case isFalse=>cases hf
       rename_i hop
       subst hop
       rw[Z4] at hf
       obtain⟨bs',hf,rfl⟩:=hf
       rw[Za] at hlen
       clear hop1 hop3 hop5
       go_enter Tryz.func146,Tryz.ntmps146
       go_wp2_with (first|(go_at_call 188;refine(HK.out 5 _ _ _ _ hf HZ.out b pre _ (z5y HB.out rfl _) (z7s HD.out _) (by omega)).mono ?_;rintro e W' ⟨rfl,h1,h2,h5⟩;have H1:=Lib.hid h1;have H2:=Lib.hid h2;have H5:=Lib.hid h5;clear h1 h2 h5)|(go_at_call 187;refine(wrB H2.out H1.out 42 rfl (by simp at hlen⊢;omega)).mono ?_;rintro e W2 ⟨rfl,h1,h2,h6⟩;have H3:=Lib.hid h1;have H4:=Lib.hid h2;have H6:=Lib.hid h6;clear h1 h2 h6))
       go_end0
       exact⟨rfl,by rw[←Zo];exact H3.out,H4.out,z8w (H5.out.trans H6.out)⟩
theorem zuv{zb6 m:Nat}(h:zvt k zb6 (m+1) cs=some r):∃k' op b c l x y,k=k'+1/\cs= .sc (.int .i64 op)::b::c::l/\zwS k' [.sc (.int .i64 op),b,c]=some x/\zvt k' zb6 m l=some y/\r=(if zb6<=lvl op then x else [40]++x++ [41])++y:=by
 unfold zvt at h
 split at h
 · rename_i k' n' op b c l e2
   cases e2
   split at h
   · rename_i x y hx hy
     cases h
     exact⟨_,_,_,_,_,_,_,rfl,rfl,hx,hy,rfl⟩
   · cases h
 · rename_i e;cases e
 · cases h
theorem zqV{op:Int}{b c:T}{x:List UInt8}(h:zwS k [.sc (.int .i64 op),b,c]=some x):∃l n es,b= .sc (.int .i64 l)/\c= .sl n es:=by
 unfold zwS at h
 split at h
 · rename_i he
   cases he
   exact⟨_,_,_,rfl,rfl⟩
 · cases h
theorem zs6{n:Nat}(h:TRep w K [] v (.sl n cs)):∃a cap,v= .slice a n cap:=by
 generalize hT:T.sl n cs=t at h
 cases h with
 |emp c a cap hc=>cases hT;exact⟨_,_,rfl⟩
 |fro c g o n cap cs F hK hg hn hc hF h=>cases hT;exact⟨_,_,rfl⟩
 |_=>cases hT
theorem zwT{zb6:Nat}(h:zvt k zb6 0 cs=some r):r= []:=by
 unfold zvt at h
 split at h
 · rename_i e;cases e
 · cases h;rfl
 · cases h
theorem zzw(hw:∀j,j<k->zEZ w0 K0 j):zGp w0 K0 k:=by
 intro zb6 n cs v bs hf hr b pre W hbl hbd hlen
 obtain⟨a0,cap,rfl,hmx,hcell⟩:∃a0 cap,v= .slice a0 n cap/\n<=maxLen/\(0<n->∃(g o:Nat) (F:Nat->Value),a0=some ⟨g,o,none⟩/\ ∀j t,cs[j]? =some t->TRep w0 K0 [] (F j) t/\ ∀W,Below w0.heap.size w0 W->W.cell? ⟨g,o+j,none⟩=some (F j)):=by
  generalize hT:T.sl n cs=t at hr
  cases hr with
  |emp c a cap hc=>cases hT;exact⟨_,_,rfl,Yt _,fun hi=>by omega⟩
  |fro c g o n cap cs F hK hg hn hc hF h=>
   cases hT
   refine⟨_,_,rfl,ZJ hn hc,fun hi=>⟨g,o,F,rfl,fun j t ht=>⟨h _ t ht,fun W hW=> ?_⟩⟩⟩
   rw[z0Y (hW.block g hg)]
   exact hF _ (Z8.1 ht).1
  |_=>cases hT
 replace hmx:n<=9223372036854775807:=hmx
 have HW:=Lib.hid hw
 have HC:=Lib.hid hcell
 have HB:=Lib.hid hbl
 have HD:=Lib.hid hbd
 have HF:=Lib.hid hf
 clear hr hw hcell hbl hbd hf
 go_enter Tryz.func188,Tryz.ntmps188
 go_wp2_with fail
 go_loopw [12] (fun vi wr=>∃(i kk:Nat) (pre' rest:List UInt8),i<=n/\vi= .int .i64 i/\kk<=k/\zvt kk zb6 (n-i) (cs.drop (i*3))=some rest/\pre'++rest=pre++bs/\Lib.IsBuilder zbC tBy w0.heap.size b (Lib.byteCells pre') wr/\Below w0.heap.size w0 wr/\Lib.OthersKept tBy (some b) W wr) (fun vi _=>n-(intOf vi).toNat)
 case atStart=>exact⟨0,k,pre,bs,Yt _,rfl,Z5 _,by simpa using HF.out,rfl,HD.out,HB.out,Lib.OthersKept.refl _ _ _⟩
 case round=>
  obtain⟨i,kk,pre',rest,hi,rfl,hkk,hf,hpr,hbd,hbl,hok⟩:=hrel
  have HO:=Lib.hid hok
  clear hok
  have HB:=Lib.hid hbl
  have HD:=Lib.hid hbd
  clear hbl hbd
  by_cases hlt:i<n
  · obtain⟨m,hm⟩:∃m,n-i=m+1:=⟨n-i-1,by omega⟩
    rw[hm] at hf
    obtain⟨k',op,x1,x2,l,x,y,rfl,hcs,hx,hy,rfl⟩:=zuv hf
    have h0:cs[i*3+0]? =some (.sc (.int .i64 op)):=by rw[←Yo,hcs];rfl
    have h1:cs[i*3+1]? =some x1:=by rw[←Yo,hcs];rfl
    have h2:cs[i*3+2]? =some x2:=by rw[←Yo,hcs];rfl
    have hl:l=cs.drop ((i+1)*3):=by
     have:=congrArg (List.drop 3) hcs
     rw[List.drop_drop] at this
     rw[show(i+1)*3=i*3+3 by omega,this];rfl
    obtain⟨g,o,F,rfl,hF⟩:=HC.out (by omega)
    obtain⟨r0,d0⟩:=hF _ _ h0
    obtain⟨r1,d1⟩:=hF _ _ h1
    obtain⟨r2,d2⟩:=hF _ _ h2
    replace d0:=d0 _ HB.out
    replace d1:=d1 _ HB.out
    replace d2:=d2 _ HB.out
    have e0:=r0.sc_eq
    rw[e0] at d0 r0
    obtain⟨l1,n2,es2,rfl,rfl⟩:=zqV hx
    have e1:=r1.sc_eq
    obtain⟨a2,cap2,e2⟩:=zs6 r2
    rw[e1] at d1 r1
    rw[e2] at d2 r2
    have hag:TRep w0 K0 [] (.agg #[.int .i64 op,.int .i64 l1,.slice a2 n2 cap2]) (.agg [.sc (.int .i64 op),.sc (.int .i64 l1),.sl n2 es2]):=.agg _ _ _ (fun j=>match j with|0=>.int .i64 op|1=>.int .i64 l1|_=>.slice a2 n2 cap2) rfl (fun j hj=>by match j,hj with|0,_=>rfl|1,_=>rfl|2,_=>rfl) (fun j t ht=>by
     match j,ht with
     |0,ht=>cases ht;exact r0
     |1,ht=>cases ht;exact r1
     |2,ht=>cases ht;exact r2)
    have HA:=Lib.hid hag
    have HX:=Lib.hid hx
    have HY:=Lib.hid hy
    have HP:=Lib.hid hpr
    subst hl
    have H0:=Lib.hid h0
    clear hag hx hy hpr r0 r1 r2 e0 e1 e2 hF h1 h2 hcs hf h0
    have hlen2:=congrArg List.length HP.out
    simp only[Za] at hlen2
    rw[Yx] at d0
    rw[←Xd] at d1 d2
    by_cases hbig:zb6<=lvl op
    · rw[if_pos hbig] at HP hlen2
      go_wp2_with (first|(go_at_call 208;refine(wrS (z5y HB.out rfl _) (z7s HD.out _) (by omega)).mono ?_;rintro e Wa ⟨rfl,g1,g2,g5⟩;have:=z6c HD.out (g5) 0 _ rfl;have:=z6c HD.out (g5) 1 _ rfl;have:=z6c HD.out (g5) 2 _ rfl;have GWa1:=Lib.hid g1;have GWa2:=Lib.hid g2;have GWa5:=Lib.hid g5;clear g1 g2 g5)|(go_at_call 209;refine(zF4 op _).mono ?_;rintro e w' ⟨rfl,rfl⟩)|(go_at_call 146;refine(HW.out k' (by omega) _ _ _ HX.out HA.out b pre' _ GWa2.out GWa1.out (by omega)).mono ?_;rintro e Wb ⟨rfl,g1,g2,g5⟩;have GWb1:=Lib.hid g1;have GWb2:=Lib.hid g2;have GWb5:=Lib.hid g5;clear g1 g2 g5)|(go_at_call 146;refine(HW.out k' (by omega) _ _ _ HX.out HA.out b pre' _ (z5y HB.out rfl _) (z7s HD.out _) (by omega)).mono ?_;rintro e Wb ⟨rfl,g1,g2,g5⟩;have GWb1:=Lib.hid g1;have GWb2:=Lib.hid g2;have GWb5:=Lib.hid g5;clear g1 g2 g5))
      · refine⟨?_,?_⟩
        · refine⟨_,_,_,_,_,_,_,_,_,_,_,_,_,_,_,_,_,_,_,_,_,_,_,_,_,_,_,_,?_,rfl⟩
          exact⟨i+1,k',pre'++x,y,by omega,by go_num,by omega,by rw[show n-(i+1)=m by omega];exact HY.out,by rw[Zo];exact HP.out,GWb1.out,GWb2.out,HO.out.trans (z8w (GWa5.out.trans GWb5.out))⟩
        · simp[intOf];omega
      · refine⟨?_,?_⟩
        · refine⟨_,_,_,_,_,_,_,_,_,_,_,_,_,_,_,_,_,_,_,_,_,_,_,_,_,_,_,_,?_,rfl⟩
          exact⟨i+1,k',pre'++x,y,by omega,by go_num,by omega,by rw[show n-(i+1)=m by omega];exact HY.out,by rw[Zo];exact HP.out,GWb1.out,GWb2.out,HO.out.trans (z8w GWb5.out)⟩
        · simp[intOf];omega
    · rw[if_neg hbig] at HP hlen2
      simp only[Za,Zr,Ye] at hlen2
      go_wp2_with (first|(go_at_call 208;refine(wrS (z5y HB.out rfl _) (z7s HD.out _) (by omega)).mono ?_;rintro e Wa ⟨rfl,g1,g2,g5⟩;have:=z6c HD.out (g5) 0 _ rfl;have:=z6c HD.out (g5) 1 _ rfl;have:=z6c HD.out (g5) 2 _ rfl;have GWa1:=Lib.hid g1;have GWa2:=Lib.hid g2;have GWa5:=Lib.hid g5;clear g1 g2 g5)|(go_at_call 209;refine(zF4 op _).mono ?_;rintro e w' ⟨rfl,rfl⟩)|(go_at_call 187;refine(wrB GWc2.out GWc1.out 41 rfl (by simp;omega)).mono ?_;rintro e Wd ⟨rfl,g1,g2,g5⟩;have GWd1:=Lib.hid g1;have GWd2:=Lib.hid g2;have GWd5:=Lib.hid g5;clear g1 g2 g5)|(go_at_call 187;refine(wrB GWa2.out GWa1.out 40 rfl (by omega)).mono ?_;rintro e Wb ⟨rfl,g1,g2,g5⟩;have:=z6c HD.out (GWa5.out.trans g5) 0 _ rfl;have:=z6c HD.out (GWa5.out.trans g5) 1 _ rfl;have:=z6c HD.out (GWa5.out.trans g5) 2 _ rfl;have GWb1:=Lib.hid g1;have GWb2:=Lib.hid g2;have GWb5:=Lib.hid g5;clear g1 g2 g5)|(go_at_call 187;refine(wrB (z5y HB.out rfl _) (z7s HD.out _) 40 rfl (by omega)).mono ?_;rintro e Wb ⟨rfl,g1,g2,g5⟩;have:=z6c HD.out (g5) 0 _ rfl;have:=z6c HD.out (g5) 1 _ rfl;have:=z6c HD.out (g5) 2 _ rfl;have GWb1:=Lib.hid g1;have GWb2:=Lib.hid g2;have GWb5:=Lib.hid g5;clear g1 g2 g5)|(go_at_call 146;refine(HW.out k' (by omega) _ _ _ HX.out HA.out b (pre'++ [40]) _ GWb2.out GWb1.out (by simp;omega)).mono ?_;rintro e Wc ⟨rfl,g1,g2,g5⟩;have GWc1:=Lib.hid g1;have GWc2:=Lib.hid g2;have GWc5:=Lib.hid g5;clear g1 g2 g5))
      · refine⟨?_,?_⟩
        · refine⟨_,_,_,_,_,_,_,_,_,_,_,_,_,_,_,_,_,_,_,_,_,_,_,_,_,_,_,_,?_,rfl⟩
          exact⟨i+1,k',pre'++ [40]++x++ [41],y,by omega,by go_num,by omega,by rw[show n-(i+1)=m by omega];exact HY.out,by rw[←HP.out];simp,GWd1.out,GWd2.out,HO.out.trans (z8w ((GWa5.out.trans GWb5.out).trans (GWc5.out.trans GWd5.out)))⟩
        · simp[intOf];omega
      · refine⟨?_,?_⟩
        · refine⟨_,_,_,_,_,_,_,_,_,_,_,_,_,_,_,_,_,_,_,_,_,_,_,_,_,_,_,_,?_,rfl⟩
          exact⟨i+1,k',pre'++ [40]++x++ [41],y,by omega,by go_num,by omega,by rw[show n-(i+1)=m by omega];exact HY.out,by rw[←HP.out];simp,GWd1.out,GWd2.out,HO.out.trans (z8w (GWb5.out.trans (GWc5.out.trans GWd5.out)))⟩
        · simp[intOf];omega
  · obtain rfl:i=n:=by omega
    rw[XS] at hf
    obtain rfl:=zwT hf
    rw[Y1] at hpr
    have HP:=Lib.hid hpr
    clear hf hpr
    go_wp2
    go_end0
    exact⟨rfl,by rw[←HP.out];exact HD.out,HB.out,HO.out⟩
end
end
section
open Go Go.RowKit
theorem zyl{w0:World}{K0:Nat->z0a}:∀k,∀j,j<=k->zEZ w0 K0 j:=by
 intro k
 induction k with
 |zero=>
  intro j hj cs v bs hf
  obtain rfl:j=0:=by omega
  simp[zwS] at hf
 |succ k ih=>
  intro j hj
  rcases Yw k j with h|h
  · obtain rfl:j=k+1:=by omega
    exact zym (zzw fun i hi=>ih i (by omega))
  · exact ih j h
theorem zpm{I:World->(Nat->z0a)->Prop}{C:z0e}(hI:EnvS I)(hC:z7e Tryz.prog I C){args:List T}{r:T}{outs:List T}(h:zD1 C args=some (r,outs)):CallOk Tryz.prog I 109 args r outs:=by
 unfold zD1 at h
 split at h
 case h_2=>cases h
 rename_i cs
 split at h
 case h_2=>cases h
 rename_i o1 bs hv hf
 split at h
 case isFalse=>cases h
 rename_i hlen
 obtain⟨rfl,rfl⟩:T.sc (.string ⟨bs.toArray⟩)=r/\ [T.dead]=outs:=by simpa using h
 clear h
 refine⟨fun vals w=> ?_,fun w K vals hs ha hIw=> ?_⟩
 · have hb:∃c,Tryz.f109.body=some c:=⟨_,rfl⟩
   obtain⟨c,hb⟩:=hb
   have hname:Tryz.f109.name≠ "runtime.NumGoroutine" :=by decide
   simp[callFunc,program,Sem.run,Tryz.func109,hname,hb]
 obtain⟨v,rfl⟩:∃v,vals= #[v]:=by
  obtain⟨l⟩:=vals
  match l,hs with
  | [v],_=>exact⟨v,rfl⟩
 have hv0:TRep w K [] v (.agg cs):=ha 0 _ rfl
 obtain⟨op,l,n,es,rfl⟩:∃op l n es,cs= [.sc (.int .i64 op),.sc (.int .i64 l),.sl n es]:=by
  unfold zwS at hf
  split at hf
  · exact⟨_,_,_,_,rfl⟩
  · cases hf
 obtain⟨y0,y1,y2,rfl,r0,r1,r2⟩:=zEW hv0
 obtain⟨a2,cap2,rfl⟩:=zs6 r2
 have e0:=r0.sc_eq
 have e1:=r1.sc_eq
 subst e0 e1
 clear r0 r1 r2 ha hs
 have st1:Step w K (w.alloc (.cells #[.int .i64 op,.int .i64 l,.slice a2 n cap2] tEx)) (fun b=>if b<w.heap.size then K b else [1]):=by
  refine⟨rfl,rfl,rfl,(by show w.heap.size<=(w.heap.push _).size;rw[Array.size_push];omega),fun b hb _=>⟨by simp[hb],Lib.alloc_old w _ b hb⟩,.olds fun b hb=>Lib.alloc_old w _ b hb⟩
 have hI1:=hI.step hIw st1
 have keep:∀ {w':World} {K':Nat->z0a},Step w K w' K'->TRep w' K' [] (.agg #[.int .i64 op,.int .i64 l,.slice a2 n cap2]) (.agg [.sc (.int .i64 op),.sc (.int .i64 l),.sl n es]):=fun {w' K'} st=>hv0.move (fun b s hb hc=>absurd rfl hc) (fun b hb hk=>by
  obtain⟨u1,u2⟩:=st.old b hb (.inl hk)
  exact⟨u1.trans hk,u2⟩) YU st.size
 have hval:=(hC _ _ _ _ hv).calls _ _ #[.agg #[.int .i64 op,.int .i64 l,.slice a2 n cap2]] rfl (fun i t hi=>by
  match i,hi with
  |0,hi=>cases hi;exact keep st1) hI1
 have hb1:(w.alloc (.cells #[.int .i64 op,.int .i64 l,.slice a2 n cap2] tEx)).heap[w.heap.size]? =some (.cells #[.int .i64 op,.int .i64 l,.slice a2 n cap2] tEx (0,0)):=heap_alloc_new w _
 have hval2:Calls Tryz.prog 74 #[.agg #[.int .i64 op,.int .i64 l,.slice a2 n cap2]] (w.alloc (.cells #[.int .i64 op,.int .i64 l,.slice a2 n cap2] tEx)) fun e w2=>e= .returned (.bool true)/\ ∃K2,Step w K w2 K2/\w2.heap[w.heap.size]? =some (.cells #[.int .i64 op,.int .i64 l,.slice a2 n cap2] tEx (0,0)):=by
  refine hval.mono ?_
  rintro e w2 ⟨u,K2,rfl,hu,-,st⟩
  have:=hu.sc_eq
  subst this
  refine⟨rfl,K2,st1.trans st,?_⟩
  rw[(st.old w.heap.size (by show w.heap.size<(w.heap.push _).size;rw[Array.size_push];omega) (.inr (by rw[if_neg (Nat.lt_irrefl _)]))).2]
  exact hb1
 clear hval hb1 hI1
 have HV:=Lib.hid hval2
 have HKP:Hid (∀(w':World) (K':Nat->z0a),Step w K w' K'->TRep w' K' [] (.agg #[.int .i64 op,.int .i64 l,.slice a2 n cap2]) (.agg [.sc (.int .i64 op),.sc (.int .i64 l),.sl n es])):=⟨fun w' K' st=>keep st⟩
 have HF:=Lib.hid hf
 clear hval2 keep hv0 hf hv st1 hIw
 go_enter Tryz.func109,Tryz.ntmps109
 go_wp2_with (go_at_call 74;refine HV.out.mono ?_)
 rintro e w2 ⟨rfl,K2,st,hbx⟩
 have ST:=Lib.hid st
 have d0:w2.cell? ⟨w.heap.size,0,none⟩=some (.int .i64 op):=by rw[z1E hbx];rfl
 have d1:w2.cell? ⟨w.heap.size,1,none⟩=some (.int .i64 l):=by rw[z1E hbx];rfl
 have d2:w2.cell? ⟨w.heap.size,2,none⟩=some (.slice a2 n cap2):=by rw[z1E hbx];rfl
 have hlt2:w.heap.size<w2.heap.size:=z0P hbx
 have hne2:w.heap.size≠w2.heap.size:=by omega
 have hbs:Lib.IsBuilder zbC tBy w2.heap.size w2.heap.size (Lib.byteCells []) (w2.alloc (.cells #[.pointer none,.slice none 0 0] zbC)):=.inl ⟨Z5 _,.slice none 0 0,heap_alloc_new w2 _,World.ownsRow_nil _ _ _ _,by simp[Value.ownBlock]⟩
 have hbw:Below w2.heap.size w2 (w2.alloc (.cells #[.pointer none,.slice none 0 0] zbC)):=(Below.refl _ _).alloc (Z5 _) _
 have hwr:=zyl (w0:=w2) (K0:=K2) 40 40 (Z5 _) _ _ _ HF.out (HKP.out _ _ st) w2.heap.size [] _ hbw hbs (by simp;omega)
 have HW:=Lib.hid hwr
 clear st hbx hbs hbw hwr
 go_wp2_with (first|(go_at_call 146;refine HW.out.mono ?_;rintro e w3 ⟨rfl,g1,g2,g3⟩;have G1:=Lib.hid g1;have G2:=Lib.hid g2;clear g1 g2 g3)|(go_at_call 147;refine(Tryz.Builder_String_any w2.heap.size w2.heap.size bs w3 (by simpa using G1.out) G2.out.size).mono ?_;rintro e w4 ⟨rfl,g1⟩;have G4:=Lib.hid g1;clear g1))
 go_ret
 have hB:Below w2.heap.size w2 w4:=G2.out.trans G4.out
 have st:=ST.out
 refine⟨_,fun b=>if b<w2.heap.size then K2 b else [1],rfl,.sc _ _ rfl,fun i t hi hio=> ?_,st.trans ⟨hB.os,hB.tape,hB.output,hB.size,fun b hb _=>⟨by simp[hb],hB.block b hb⟩,.olds fun b hb=>hB.block b hb⟩⟩
 match i,hi with
 |0,hi=>cases hi;cases hio
end
section
open Go Go.RowKit
theorem zEX(g:Nat)(W:World)(hc:W.cell? ⟨g,0,none⟩=some (.int .u64 0))(hf:W.frozen? ⟨g,0,none⟩=false):
 Calls Tryz.prog 77 #[.slice (some ⟨g,0,none⟩) 1 1,.int .i64 1] W fun e w'=>e= .returned (.tuple #[])/\w'=(W.setCell ⟨g,0,none⟩ (.int .u64 2)).drew:=by
 have b1:bits BinOp.and IntKind.i64 1 63=1:=by decide+kernel
 have b2:bits BinOp.or IntKind.u64 0 2=2:=by decide+kernel
 go_enter Tryz.func77,Tryz.ntmps77
 go_wp2
 go_region
 go_end0
 exact⟨rfl,rfl⟩
theorem zEr:∃i,Tryz.prog.info? 147=some i/\i.zero=some (.int .u64 0)/\i.size=1/\i.bytes=8:=by
 obtain⟨i,h1,h2⟩:=Z4.1 (show(Tryz.prog.info? 147).map (fun i=>(i.zero,i.size,i.bytes))=some (some (.int .u64 0),1,8) by kernel_rfl)
 simp only[Xb] at h2
 exact⟨i,h1,h2.1,h2.2.1,h2.2.2⟩
theorem zEq:∃i,Tryz.prog.info? 136=some i/\i.zero=some (.slice none 0 0)/\i.size=1/\i.bytes=24:=by
 obtain⟨i,h1,h2⟩:=Z4.1 (show(Tryz.prog.info? 136).map (fun i=>(i.zero,i.size,i.bytes))=some (some (.slice none 0 0),1,24) by kernel_rfl)
 simp only[Xb] at h2
 exact⟨i,h1,h2.1,h2.2.1,h2.2.2⟩
theorem zBh(W:World):Calls Tryz.prog 76 #[.agg #[.string ⟨#[97]⟩]] W fun e w'=>e= .returned (.slice (some ⟨W.heap.size+1,0,none⟩) 1 1)/\w'=(W.alloc (.cells #[.string ⟨#[97]⟩] 134)).alloc (.cells #[.int .u64 0] 147):=by
 obtain⟨i1,h1,h2,h3,h4⟩:=zEr
 go_enter Tryz.func76,Tryz.ntmps76
 go_wp2_with (refine wpList_make_row _ rfl _ _ 136 rfl 147 i1 (.int .u64 0) (by kernel_rfl) h1 h2 h3 rfl .i64 .i64 1 rfl rfl (by omega) (by omega) ?_)
 go_ret
 exact⟨rfl,by rw[show madeCells #[Value.int .u64 0] 1= #[.int .u64 0] by kernel_rfl]⟩
structure After(W:World)(gr:Nat)(w':World):Prop where
 row:w'.heap[gr]? =some (.cells #[.slice (some ⟨W.heap.size+1,0,none⟩) 1 1,.slice none 0 0] 136 (0,0))
 new:w'.heap[W.heap.size+1]? =some (.cells #[.int .u64 2] 147 (0,0))
 old:∀b,b<W.heap.size->b≠gr->w'.heap[b]? =W.heap[b]?
 size:w'.heap.size=W.heap.size+2
 os:w'.os=W.os
 tape:w'.tape=W.tape
 output:w'.output=W.output
theorem z6m(W:World)(o:Obj):(W.alloc o).heap.size=W.heap.size+1:=by show(W.heap.push o).size=_;rw[Array.size_push]
theorem ziw(W:World)(p:Addr)(v:Value):(W.setCell p v).heap.size=W.heap.size:=by simp[World.setCell]
theorem zEh(V:World)(A:Obj)(cs:Array Value)(e:TypeId):((V.alloc A).alloc (.cells cs e)).heap[V.heap.size+1]? =some (.cells cs e (0,0)):=by
 have:=heap_alloc_new (V.alloc A) (.cells cs e)
 rwa [z6m] at this
theorem zeW{W:World}{gr:Nat}(hr:W.heap[gr]? =some (.cells #[.slice none 0 0,.slice none 0 0] 136 (0,0)))(A:Obj):After W gr (((W.setCell ⟨gr,0,none⟩ (.slice (some ⟨W.heap.size+1,0,none⟩) 1 1)).alloc A).alloc (.cells #[.int .u64 2] 147)):=by
 have hlt:=z0P hr
 have hs:=ziw W ⟨gr,0,none⟩ (.slice (some ⟨W.heap.size+1,0,none⟩) 1 1)
 have ho:∀b,b<W.heap.size->(((W.setCell ⟨gr,0,none⟩ (.slice (some ⟨W.heap.size+1,0,none⟩) 1 1)).alloc A).alloc (.cells #[.int .u64 2] 147)).heap[b]? =(W.setCell ⟨gr,0,none⟩ (.slice (some ⟨W.heap.size+1,0,none⟩) 1 1)).heap[b]? :=fun b hb=>by
  rw[Lib.alloc_old _ _ _ (by rw[z6m,hs];omega),Lib.alloc_old _ _ _ (by rw[hs];exact hb)]
 refine⟨?_,?_,fun b hb hne=> ?_,?_,rfl,rfl,rfl⟩
 · rw[ho _ hlt]
   simp[World.setCell,Y2,hr]
 · have:=zEh (W.setCell ⟨gr,0,none⟩ (.slice (some ⟨W.heap.size+1,0,none⟩) 1 1)) A #[.int .u64 2] 147
   rwa [hs] at this
 · rw[ho b hb,Below.heap_setCell _ _ _ _ hne]
 · rw[z6m,z6m,hs]
theorem zHa(b3 b4 b7 gr:Nat)(W:World)(c3:W.cell? ⟨b3,0,none⟩=some (.string ⟨#[97]⟩))(c40:W.cell? ⟨b4,0,none⟩=some (.int .i64 3))(c41:W.cell? ⟨b4,1,none⟩=some (.int .i64 0))(c7:W.cell? ⟨b7,0,none⟩=some (.slice (some ⟨gr,0,none⟩) 2 2))
 (hr:W.heap[gr]? =some (.cells #[.slice none 0 0,.slice none 0 0] 136 (0,0))) (l3:b3<W.heap.size) (l4:b4<W.heap.size) (l7:b7<W.heap.size) (n3:b3≠gr) (n4:b4≠gr) (n7:b7≠gr):
 Calls Tryz.prog 118 #[.int .i64 0,.pointer (some ⟨b3,0,none⟩),.pointer (some ⟨b7,0,none⟩),.pointer (some ⟨b4,0,none⟩)] W fun e w'=>e= .returned (.tuple #[])/\After W gr w':=by
 have lr:gr<W.heap.size:=z0P hr
 have cr:W.cell? ⟨gr,0,none⟩=some (.slice none 0 0):=by rw[z1E hr];rfl
 have fr:W.frozen? ⟨gr,0,none⟩=false:=by simp[World.frozen?,hr]
 have HR:=Lib.hid hr
 clear hr
 have k1:∀A,((((W.setCell ⟨gr,0,none⟩ (.slice (some ⟨W.heap.size+1,0,none⟩) 1 1)).alloc A).alloc (.cells #[.int .u64 0] 147)).drew.drew.cell? ⟨W.heap.size+1,0,none⟩)=some (.int .u64 0):=fun A=>by
  show(((W.setCell ⟨gr,0,none⟩ (.slice (some ⟨W.heap.size+1,0,none⟩) 1 1)).alloc A).alloc (.cells #[.int .u64 0] 147)).cell? ⟨W.heap.size+1,0,none⟩=_
  have:=zEh (W.setCell ⟨gr,0,none⟩ (.slice (some ⟨W.heap.size+1,0,none⟩) 1 1)) A #[.int .u64 0] 147
  rw[ziw] at this
  rw[z1E this];rfl
 have k2:∀A,((((W.setCell ⟨gr,0,none⟩ (.slice (some ⟨W.heap.size+1,0,none⟩) 1 1)).alloc A).alloc (.cells #[.int .u64 0] 147)).drew.drew.frozen? ⟨W.heap.size+1,0,none⟩)=false:=fun A=>by
  show(((W.setCell ⟨gr,0,none⟩ (.slice (some ⟨W.heap.size+1,0,none⟩) 1 1)).alloc A).alloc (.cells #[.int .u64 0] 147)).frozen? ⟨W.heap.size+1,0,none⟩=_
  have:=zEh (W.setCell ⟨gr,0,none⟩ (.slice (some ⟨W.heap.size+1,0,none⟩) 1 1)) A #[.int .u64 0] 147
  rw[ziw] at this
  unfold World.frozen?
  simp only[this]
  rfl
 have K1:=Lib.hid k1
 have K2:=Lib.hid k2
 clear k1 k2
 go_enter Tryz.func118,Tryz.ntmps118
 go_wp2
 go_region_with (go_at_call 76;refine(zBh _).mono ?_;rintro e w' ⟨rfl,rfl⟩)
 all_goals go_wp2
 all_goals go_region
 all_goals go_wp2_with (go_at_call 77;refine(zEX _ _ (K1.out _) (K2.out _)).mono ?_;rintro e w' ⟨rfl,rfl⟩)
 all_goals go_end0
 all_goals exact⟨rfl,show After W gr (World.drew (World.drew (World.drew _))) from⟨(zeW HR.out _).row,(zeW HR.out _).new,(zeW HR.out _).old,(zeW HR.out _).size,rfl,rfl,rfl⟩⟩
end
section
open Go Go.RowKit
theorem zDz(W:World)(hT:∀i:Nat,i<64->W.cell? ⟨1,i,none⟩=some (.int .u8 ((tab64.getD i 0:Nat):Int))):Calls Tryz.prog 91 #[.int .u64 1] W fun e w'=>e= .returned (.int .i64 0)/\w'=W:=by
 have h:=zxO 1 W (by omega) hT
 have e:tzN 1=0:=by decide+kernel
 rw[e] at h
 exact h
theorem zBM(b3 b4 b7 gr gf of capf:Nat)(W:World)(c3:W.cell? ⟨b3,0,none⟩=some (.string ⟨#[97]⟩))(c40:W.cell? ⟨b4,0,none⟩=some (.int .i64 3))(c41:W.cell? ⟨b4,1,none⟩=some (.int .i64 0))(c7:W.cell? ⟨b7,0,none⟩=some (.slice (some ⟨gr,0,none⟩) 2 2))
 (hr:W.heap[gr]? =some (.cells #[.slice none 0 0,.slice none 0 0] 136 (0,0))) (l3:b3<W.heap.size) (l4:b4<W.heap.size) (l7:b7<W.heap.size) (n3:b3≠gr) (n4:b4≠gr) (n7:b7≠gr)
 (cf:W.cell? ⟨gf,of,none⟩=some (.int .u64 1)) (hT:∀i:Nat,i<64->W.cell? ⟨1,i,none⟩=some (.int .u8 ((tab64.getD i 0:Nat):Int))):
 Calls Tryz.prog 117 #[.slice (some ⟨gf,of,none⟩) 1 capf,.func (.func 118) #[] #[.pointer (some ⟨b3,0,none⟩),.pointer (some ⟨b7,0,none⟩),.pointer (some ⟨b4,0,none⟩)]] W fun e w'=>e= .returned (.tuple #[])/\After W gr w':=by
 have HC:=Lib.hid (zHa b3 b4 b7 gr W c3 c40 c41 c7 hr l3 l4 l7 n3 n4 n7)
 have HT:=Lib.hid (zDz W hT)
 have q1:bits BinOp.and IntKind.u64 1 0=0:=by decide+kernel
 clear c3 c40 c41 c7 hr l3 l4 l7 n3 n4 n7 hT
 go_enter Tryz.func117,Tryz.ntmps117
 go_wp2_with fail
 refine wp_loop_rounds 2 ?_
 rw[rounds_succ]
 go_wp2_with fail
 refine wp_loop_rounds 2 ?_
 rw[rounds_succ]
 go_wp2_with (go_at_call 91;refine HT.out.mono ?_)
 rintro e w' ⟨rfl,rfl⟩
 go_wp2_with fail
 refine HC.out.mono ?_
 rintro e w2 ⟨rfl,ha⟩
 have HA:=Lib.hid ha
 clear ha HC HT cf
 go_wp2_with fail
 rw[rounds_succ]
 go_wp2_with fail
 rw[rounds_succ]
 go_wp2_with fail
 go_end0
 exact⟨rfl,HA.out⟩
theorem zH7(W:World)(A B C D:Obj):((((W.alloc A).alloc B).alloc C).alloc D).heap[W.heap.size]? =some A/\((((W.alloc A).alloc B).alloc C).alloc D).heap[W.heap.size+1]? =some B/\((((W.alloc A).alloc B).alloc C).alloc D).heap[W.heap.size+1+1]? =some C/\((((W.alloc A).alloc B).alloc C).alloc D).heap[W.heap.size+1+1+1]? =some D/\(∀b,b<W.heap.size->((((W.alloc A).alloc B).alloc C).alloc D).heap[b]? =W.heap[b]?)/\((((W.alloc A).alloc B).alloc C).alloc D).heap.size=W.heap.size+1+1+1+1:=by
 have s1:=z6m W A
 have s2:=z6m (W.alloc A) B
 have s3:=z6m ((W.alloc A).alloc B) C
 have s4:=z6m (((W.alloc A).alloc B).alloc C) D
 have n1:=heap_alloc_new W A
 have n2:=heap_alloc_new (W.alloc A) B
 have n3:=heap_alloc_new ((W.alloc A).alloc B) C
 have n4:=heap_alloc_new (((W.alloc A).alloc B).alloc C) D
 rw[s1] at n2
 rw[s2,s1] at n3
 rw[s3,s2,s1] at n4
 refine⟨?_,?_,?_,n4,fun b hb=> ?_,by rw[s4,s3,s2,s1]⟩
 · rw[Lib.alloc_old _ _ _ (by omega),Lib.alloc_old _ _ _ (by omega),Lib.alloc_old _ _ _ (by omega)];exact n1
 · rw[Lib.alloc_old _ _ _ (by omega),Lib.alloc_old _ _ _ (by omega)];exact n2
 · rw[Lib.alloc_old _ _ _ (by omega)];exact n3
 · rw[Lib.alloc_old _ _ _ (by omega),Lib.alloc_old _ _ _ (by omega),Lib.alloc_old _ _ _ (by omega),Lib.alloc_old _ _ _ hb]
theorem zBL(W:World)(a:Option Addr)(cap gf of capf:Nat)(cf:W.cell? ⟨gf,of,none⟩=some (.int .u64 1))(hT:∀i:Nat,i<64->W.cell? ⟨1,i,none⟩=some (.int .u8 ((tab64.getD i 0:Nat):Int))):
 Calls Tryz.prog 78 #[.agg #[.string ⟨#[97]⟩],.agg #[.int .i64 3,.int .i64 0,.slice a 0 cap],.slice (some ⟨gf,of,none⟩) 1 capf] W fun e w'=>∃g1 g2,e= .returned (.slice (some ⟨g1,0,none⟩) 2 2)/\Below W.heap.size W w'/\W.heap.size<=g1/\W.heap.size<=g2/\w'.heap[g1]? =some (.cells #[.slice (some ⟨g2,0,none⟩) 1 1,.slice none 0 0] 136 (0,0))/\w'.heap[g2]? =some (.cells #[.int .u64 2] 147 (0,0)):=by
 obtain⟨i1,h1,h2,h3,h4⟩:=zEq
 have HT:=Lib.hid hT
 clear hT
 go_enter Tryz.func78,Tryz.ntmps78
 go_wp2_with (refine wpList_make_row _ rfl _ _ 139 rfl 136 i1 (.slice none 0 0) (by kernel_rfl) h1 h2 h3 rfl .i64 .i64 2 rfl rfl (by omega) (by omega) ?_)
 rw[show madeCells #[Value.slice none 0 0] 2= #[.slice none 0 0,.slice none 0 0] by kernel_rfl]
 obtain⟨x1,x2,x3,x4,x5,x6⟩:=zH7 W (.cells #[.string ⟨#[97]⟩] 134) (.cells #[.int .i64 3,.int .i64 0,.slice a 0 cap] 74) (.cells #[.slice none 0 0,.slice none 0 0] 136) (.cells #[.slice (some ⟨W.heap.size+1+1,0,none⟩) 2 2] 139)
 have hb0:Below W.heap.size W ((((W.alloc (.cells #[.string ⟨#[97]⟩] 134)).alloc (.cells #[.int .i64 3,.int .i64 0,.slice a 0 cap] 74)).alloc (.cells #[.slice none 0 0,.slice none 0 0] 136)).alloc (.cells #[.slice (some ⟨W.heap.size+1+1,0,none⟩) 2 2] 139)):=⟨rfl,rfl,rfl,by omega,x5⟩
 have hlf:=World.block_lt_of_cell? W _ cf
 have hl1:=World.block_lt_of_cell? W _ (HT.out 0 (by omega))
 simp only at hlf hl1
 have cf':=cf
 rw[←z0Y (x5 _ hlf)] at cf'
 have hT':∀i:Nat,i<64->World.cell? _ ⟨1,i,none⟩=some (.int .u8 ((tab64.getD i 0:Nat):Int)):=fun i hi=>(z0Y (x5 _ hl1) i).trans (HT.out i hi)
 generalize ((((W.alloc (.cells #[.string ⟨#[97]⟩] 134)).alloc (.cells #[.int .i64 3,.int .i64 0,.slice a 0 cap] 74)).alloc (.cells #[.slice none 0 0,.slice none 0 0] 136)).alloc (.cells #[.slice (some ⟨W.heap.size+1+1,0,none⟩) 2 2] 139))=X at x1 x2 x3 x4 x5 x6 hb0 cf' hT'⊢
 refine(zBM W.heap.size (W.heap.size+1) (W.heap.size+1+1+1) (W.heap.size+1+1) gf of capf X (by rw[z1E x1];rfl) (by rw[z1E x2];rfl) (by rw[z1E x2];rfl) (by rw[z1E x4];rfl) x3 (by omega) (by omega) (by omega) (by omega) (by omega) (by omega) cf' hT').mono ?_
 rintro e w2 ⟨rfl,ha⟩
 have d0:w2.cell? ⟨W.heap.size+1+1+1,0,none⟩=some (.slice (some ⟨W.heap.size+1+1,0,none⟩) 2 2):=by
  rw[z0Y (ha.old _ (by omega) (by omega)),z1E x4];rfl
 have HA:=Lib.hid ha
 have HB0:=Lib.hid hb0
 clear ha x1 x2 x3 x4 x5 hb0 cf cf' hT' HT
 go_wp2_with fail
 go_ret
 refine⟨W.heap.size+1+1,X.heap.size+1,rfl,HB0.out.trans ⟨HA.out.os,HA.out.tape,HA.out.output,by rw[HA.out.size];omega,fun b hb=>HA.out.old b (by omega) (by omega)⟩,by omega,by omega,HA.out.row,HA.out.new⟩
end
section
open Go Go.RowKit
theorem zm0{args:List T}{r:T}{outs:List T}(h:zyk args=some (r,outs)):CallOk Tryz.prog znz 78 args r outs:=by
 unfold zyk at h
 split at h
 case h_2=>cases h
 rename_i s x y n z
 split at h
 case isFalse=>cases h
 rename_i hc
 obtain⟨hs0,rfl,rfl,rfl,rfl⟩:=hc
 obtain⟨rfl,rfl⟩:T.sl 2 [.sl 1 [.sc (.int .u64 2)],.sl 0 []]=r/\ [T.dead,T.dead,T.dead]=outs:=by simpa using h
 obtain rfl:s=⟨#[97]⟩:=by
  obtain⟨⟨l⟩⟩:=s
  simp only at hs0
  subst hs0;rfl
 clear h hs0
 refine⟨fun vals w=> ?_,fun w K vals hs ha hI=> ?_⟩
 · have hb:∃c,Tryz.f78.body=some c:=⟨_,rfl⟩
   obtain⟨c,hb⟩:=hb
   have hname:Tryz.f78.name≠ "runtime.NumGoroutine" :=by decide
   simp[callFunc,program,Sem.run,Tryz.func78,hname,hb]
 obtain⟨v0,v1,v2,rfl⟩:∃v0 v1 v2,vals= #[v0,v1,v2]:=by
  obtain⟨l⟩:=vals
  match l,hs with
  | [a,b,c],_=>exact⟨a,b,c,rfl⟩
 have r0:TRep w K [] v0 (.agg [.sc (.string ⟨#[97]⟩)]):=ha 0 _ rfl
 have r1:TRep w K [] v1 (.agg [.sc (.int .i64 3),.sc (.int .i64 0),.sl 0 []]):=ha 1 _ rfl
 have r2:TRep w K [] v2 (.sl 1 [.sc (.int .u64 1)]):=ha 2 _ rfl
 obtain rfl:v0= .agg #[.string ⟨#[97]⟩]:=by
  generalize hT:T.agg [.sc (.string ⟨#[97]⟩)]=t at r0
  cases r0 with
  |agg c0 vs cs F hl hF h=>
   cases hT
   obtain⟨l⟩:=vs
   match l,hl with
   | [x],_=>
     have e0:=hF 0 (by simp)
     simp at e0
     rw[e0,(h 0 _ rfl).sc_eq]
  |_=>cases hT
 obtain⟨y0,y1,y2,rfl,q0,q1,q2⟩:=zEW r1
 obtain⟨a2,cap2,rfl⟩:=zs6 q2
 have e0:=q0.sc_eq
 have e1:=q1.sc_eq
 subst e0 e1
 obtain⟨gf,of,capf,rfl,cf⟩:∃gf of capf,v2= .slice (some ⟨gf,of,none⟩) 1 capf/\w.cell? ⟨gf,of,none⟩=some (.int .u64 1):=by
  generalize hT:T.sl 1 [.sc (.int .u64 1)]=t at r2
  cases r2 with
  |fro c g o n cap cs F hK hg hn hc hF h=>
   cases hT
   have:=hF 0 (by simp)
   rw[(h 0 _ rfl).sc_eq,Yx] at this
   exact⟨_,_,_,rfl,this⟩
  |_=>cases hT
 clear r0 r1 r2 q0 q1 q2 ha
 refine(zBL w a2 cap2 gf of capf cf hI.2.2).mono ?_
 rintro e w' ⟨g1,g2,rfl,hB,l1,l2,h1,h2⟩
 refine⟨_,fun b=>if b<w.heap.size then K b else [],rfl,?_,fun i t hi hio=> ?_,hB.os,hB.tape,hB.output,hB.size,fun b hb _=>⟨by rw[if_pos hb],hB.block b hb⟩,.olds fun b hb=>hB.block b hb⟩
 · refine .fro _ g1 0 2 2 _ (fun j=>if j=0 then .slice (some ⟨g2,0,none⟩) 1 1 else .slice none 0 0) (by rw[if_neg (by omega)]) (z0P h1) (Z5 _) (by decide) (fun j hj=> ?_) (fun j t hj=> ?_)
   · rw[Zp,z1E h1]
     match j,hj with
     |0,_=>rfl
     |1,_=>rfl
   · match j,hj with
     |0,hj=>
      cases hj
      refine .fro _ g2 0 1 1 _ (fun _=>.int .u64 2) (by rw[if_neg (by omega)]) (z0P h2) (Z5 _) (by decide) (fun j hj=> ?_) (fun j t hj=> ?_)
      · rw[Zp,z1E h2]
        match j,hj with
        |0,_=>rfl
      · match j,hj with
        |0,hj=>cases hj;exact .sc _ _ rfl
     |1,hj=>cases hj;exact .emp _ _ _ (Yt _)
 · match i,hi with
   |0,hi=>cases hi;cases hio
   |1,hi=>cases hi;cases hio
   |2,hi=>cases hi;cases hio
theorem zxg{I:World->(Nat->z0a)->Prop}:z7e Tryz.prog I cS:=by
 intro f args r outs h
 unfold cS at h
 split at h
 case isTrue hf=>subst hf;exact zdY h
 cases h
theorem zq2{l1 l2:List (List Int×T)}(hp:l1.Perm l2)(hn:(l2.map (·.1)).Nodup):z4O l1=z4O l2:=
 zo1 ((((z6S l1).trans hp).map (·.1)).nodup_iff.2 hn) (((z6S l1).trans hp).trans (z6S l2).symm) (z8s l1) (z8s l2)
theorem zrn:∀C,z7e Tryz.prog znz C->z7e Tryz.prog znz (xtF C):=by
 intro C hC f args r outs h
 unfold xtF at h
 split at h
 case isTrue hf=>subst hf;exact zdY h
 split at h
 case isTrue hf=>subst hf;exact zjG zx3 hC zxg (fun _ _=>zq2) z6S h
 split at h
 case isTrue hf=>subst hf;exact zpn zx3 hC h
 split at h
 case isTrue hf=>subst hf;exact zm0 h
 split at h
 case isTrue hf=>subst hf;exact zpm zx3 hC h
 exact zro f args r outs h
end
section
open Go.ChangeShapes Go.WideShapes Go.ChangeAt Go.RowKit
theorem zqu{P:Program}{I:World->(Nat->z0a)->Prop}{Xc:z0e->z0e}{cf:FuncId->Option Cfg}{f:FuncId}{args:List T}{outs:List T}(hI:EnvS I)(hX:∀C,z7e P I C->z7e P I (Xc C))(hm:P.follows .mixedOrders=true)(hf:∀f c,cf f=some c->zdG P f c=true)
 (h:Lim P Xc cf f args=some (.sc (.bool true),outs)) (hio:args.all (fun t=> !z6i t)=true) (W:World) (hIW:I W KZ) (vals:Array Value) (hs:vals.size=args.length)
 (ha:∀i t,args[i]? =some t->TRep W KZ [] (vals.getD i undef) t):Calls P f vals W fun e W'=>e= .returned (.bool true)/\Below W.heap.size W W':=by
 have hc:=zBv (I:=I) hI hX hm hf h
 refine(hc.calls W KZ vals hs (fun i t hi=> ?_) hIW).mono fun e W' ⟨v,K',he,hv,_,hst⟩=> ?_
 · have h1:=Zn.1 hio t (ZM hi)
   unfold zil
   rw[if_neg (by simpa using h1)]
   exact ha i t hi
 · generalize hT:T.sc (.bool true)=t at hv
   cases hv with
   |sc c v hb=>cases hT;exact⟨he,hst.os,hst.tape,hst.output,hst.size,fun b hb=>(hst.old b hb (.inl rfl)).2⟩
   |_=>cases hT
theorem znV{W:World}(h:laidMetH Tryz.prog Rows.topCascadeSmallRow.laid W)(r:Nat)(hr:r<64):W.cell? ⟨1,r,none⟩=some (.int .u8 ((tab64.getD r 0:Nat):Int)):=by
 have h:=h.filter fun x=>x.1== "math/bits.deBruijn64tab"
 rw[MakeChecks.laidMetH_plain _ _ _ (by kernel_rfl)] at h
 obtain⟨ps,⟨g,t,cs,fuel,p,q,hg,ht,hv,hd,_,_⟩,_,_⟩:=h
 obtain rfl:=YD ((show Tryz.prog.globalNamed "math/bits.deBruijn64tab" =some 1 by kernel_rfl).symm.trans hg)
 obtain⟨t1,ht1,e,hu,hu5,hce⟩:∃t1,(Tryz.prog.globals[1]?).map (·.type)=some t1/\ ∃e,Tryz.prog.underlying t1=some (.array 64 e)/\Tryz.prog.underlying e=some (.int .u8)/\Tryz.prog.cellsOf e=1:=⟨175,by kernel_rfl,5,by kernel_rfl,by kernel_rfl,by kernel_rfl⟩
 obtain rfl:=YD (ht1.symm.trans ht)
 obtain⟨xs,m,_,ex,_,hl,hel⟩:=DataW.trod_array hu hd
 have hE:=hel r hr
 rw[hce,Nat.mul_one,Z1 (by omega)] at hE
 obtain⟨z,e1,e2,_⟩:=DataW.trod_int hu5 hE
 have hlen:tab64.length=64:=by kernel_rfl
 have e3:(xs.map (·.1))=tab64.map fun(n:Nat)=>.lit (.int .u8 (n:Int)):=(DataW.agg.inj (Prod.mk.inj ex).1).symm
 have e4:(xs.map (·.1))[r]? =(tab64.map fun(n:Nat)=>(DataW.lit (.int .u8 (n:Int)):DataW Unit))[r]? :=by rw[e3]
 rw[Zd,Zd,Z1 (by omega:r<xs.length),Z1 (by omega:r<tab64.length),e2] at e4
 have hz:z=((tab64.getD r 0:Nat):Int):=by
  simp only[ZP,Z9,DataW.lit.injEq,Lit.int.injEq,true_and] at e4
  rw[e4,List.getD,Z1 (by omega:r<tab64.length)];rfl
 rw[World.var?_cell hg hv r,←hz]
 have:cs.toList[r]? =some (.int .u8 z):=by
  have h0:((cs.toList.drop r).take 1)[0]? =some (.int .u8 z):=by rw[e1];rfl
  simpa using h0
 simpa using this
theorem zzQ{W:World}(h:laidMetH Tryz.prog Rows.topCascadeSmallRow.laid W):znz W KZ:=
 ⟨rfl,World.block_lt_of_cell? W _ (znV h 0 (by decide)),fun i hi=>znV h i hi⟩
end
section
structure StOk(ops:Array Oper)(t:SchT)(L:Array Bool)(d:Nat)(ns:List Nat):Prop where
 ord:z4z .any ops true t L=true
 dep:t.depth=d
 nx:∀z∈t.nexts,z∈ns
structure BrOk(ops:Array Oper)(t:SchT)(L:Array Bool)(d:Nat)(ns hs:List Nat):Prop where
 ord:z4z .any ops false t L=true
 dep:t.depth=d
 nx:∀z∈t.nexts,z∈ns
 hd:∀i∈hs,i∈t.heads
variable{L':Array Bool}{ops:Array Oper}{c:Code}{hs ns ns':List Nat}{d k m n:Nat}{a b rest:SchT}
theorem zs2{L:Array Bool}(h:decide (Region.ready .any ops L= [])=true):StOk ops .nil L 0 []:=⟨by simp only[z4z,h,XP],rfl,fun z hz=>by simp[SchT.nexts] at hz⟩
theorem zGE{L:Array Bool}(h:StOk ops rest L' d ns)(hL:L.setIfInBounds k true=L')
 (hc:((m==0||m==3)&&(Region.ready .any ops L).contains k&&Region.free .any ops L k&& !(ns.contains k)&&(m==3||ns.all fun z=>(zAb .any ops ops.size [z]).contains k))=true):StOk ops (.op k m rest) L (d+1) ns:=by
 simp only[Z6,Y7,Yb,beq_iff_eq] at hc
 obtain⟨⟨⟨⟨h1,h2⟩,h3⟩,h4⟩,h5⟩:=hc
 have hm2:¬m=2:=by omega
 have hk:k∉ns:=by simpa using h4
 refine⟨?_,by simp only[SchT.depth,h.dep],fun z hz=>h.nx z (by simpa only[SchT.nexts,if_neg hm2] using hz)⟩
 simp only[z4z]
 rw[if_pos (by simpa using h1),hL,h.ord,h2,h3]
 have h6:rest.nexts.contains k=false:=by
  rw[Bool.eq_false_iff]
  intro hh
  exact hk (h.nx k (by simpa using hh))
 rw[h6]
 simp only[XN,Bool.and_self,YN,XP,Y7,beq_iff_eq]
 rcases h5 with h5|h5
 · exact .inl h5
 · exact .inr (Zn.2 fun z hz=>Zn.1 h5 z (h.nx z hz))
theorem zGF{L:Array Bool}(h:StOk ops rest L' d ns)(hL:L.setIfInBounds k true=L')
 (hc:((m==1||m==2)&&decide (Region.ready .any ops L= [k]))=true) (hn:(if m=2 then [k] else ns)=ns'):StOk ops (.op k m rest) L (d+1) ns':=by
 subst hn
 simp only[Z6,Y7,beq_iff_eq] at hc
 obtain⟨h1,h2⟩:=hc
 refine⟨?_,by simp only[SchT.depth,h.dep],fun z hz=> ?_⟩
 · simp only[z4z]
   rw[if_neg (by omega),hL,h.ord,h2]
   simp[h1]
 · simp only[SchT.nexts] at hz
   split at hz
   · rename_i e;rw[if_pos e];exact hz
   · rename_i e;rw[if_neg e];exact h.nx z hz
theorem zHm{L:Array Bool}(h:StOk ops rest L' d ns)(hL:L.setIfInBounds k true=L')
 (hc:((m==1||m==2)&&(Region.ready .any ops L).contains k)=true) (hn:(if m=2 then [k] else ns)=ns'):BrOk ops (.op k m rest) L (d+1) ns' [k]:=by
 subst hn
 simp only[Z6,Y7,beq_iff_eq] at hc
 obtain⟨h1,h2⟩:=hc
 refine⟨?_,by simp only[SchT.depth,h.dep],fun z hz=> ?_,fun i hi=>by simpa[SchT.heads] using hi⟩
 · simp only[z4z]
   rw[if_neg (by simp),hL,h.ord,h2]
   simp[h1]
 · simp only[SchT.nexts] at hz
   split at hz
   · rename_i e;rw[if_pos e];exact hz
   · rename_i e;rw[if_neg e];exact h.nx z hz
theorem z0o{L:Array Bool}{n1 n2 h1 h2:List Nat}(ha:BrOk ops a L d n1 h1)(hb:BrOk ops b L d n2 h2):BrOk ops (.alt a b) L d (n1++n2) (h1++h2):=by
 refine⟨?_,by simp only[SchT.depth,ha.dep],fun z hz=> ?_,fun i hi=> ?_⟩
 · simp only[z4z,ha.ord,hb.ord,ha.dep,hb.dep];simp
 · simp only[SchT.nexts,Ze] at hz⊢
   exact hz.imp (ha.nx z) (hb.nx z)
 · simp only[SchT.heads,Ze] at hi⊢
   exact hi.imp (ha.hd i) (hb.hd i)
theorem zAO{L:Array Bool}(h:BrOk ops (.alt a b) L d ns hs)(hc:((Region.ready .any ops L).all fun i=>hs.contains i)=true)(hn:(ns.all fun z=>ns'.contains z)=true):StOk ops (.alt a b) L d ns':=by
 refine⟨?_,h.dep,fun z hz=>by simpa using Zn.1 hn z (h.nx z hz)⟩
 have:=h.ord
 simp only[z4z,Z6,decide_eq_true_eq] at this⊢
 obtain⟨⟨⟨h1,h2⟩,h3⟩,h4⟩:=this
 refine⟨⟨⟨?_,h2⟩,h3⟩,h4⟩
 simp only[Xe,Xf,decide_eq_true_eq]
 intro i hi
 have:=Zn.1 hc i hi
 exact h.hd i (by simpa using this)
def zgL:Nat->Nat->List Bool
 |0,_=> []
 |n+1,k=>(k%2==1)::zgL n (k/2)
def mB(n k:Nat):Array Bool:=⟨zgL n k⟩
theorem zp7:∀n k,(zgL n k).length=n
 |0,_=>rfl
 |n+1,k=>by simp[zgL,zp7 n]
theorem zjs:∀n k i (h:i<(zgL n k).length),(zgL n k)[i]=k.testBit i
 |0,k,i,h=>by simp[zgL] at h
 |n+1,k,0,h=>by simp only[zgL,List.getElem_cons_zero,Nat.testBit_zero];rfl
 |n+1,k,i+1,h=>by
  simp only[zgL,List.getElem_cons_succ]
  rw[zjs n (k/2) i,Nat.testBit_succ]
theorem zsc{a:Nat}:(mB n a).setIfInBounds k true=mB n (a|||2^k):=by
 apply Array.ext
 · simp[mB,zp7]
 · intro i h1 h2
   have e1:i<(zgL n a).length:=by simpa[mB] using h1
   have e2:i<(zgL n (a|||2^k)).length:=by simpa[mB] using h2
   have b1:=zjs n a i e1
   have b2:=zjs n (a|||2^k) i e2
   rw[Array.getElem_setIfInBounds]
   simp only[mB,List.getElem_toArray] at b1 b2⊢
   rw[b1,b2,YE,Yh]
   · by_cases h:k=i
     · simp[h]
     · simp[h]
   · simpa[mB] using e1
theorem sq{a:Nat}(h:StOk ops rest (mB n (a|||2^k)) d ns)
 (hc:((m==0||m==3)&&(Region.ready .any ops (mB n a)).contains k&&Region.free .any ops (mB n a) k&& !(ns.contains k)&&(m==3||ns.all fun z=>(zAb .any ops ops.size [z]).contains k))=true:=by kernel_rfl):StOk ops (.op k m rest) (mB n a) (d+1) ns:=zGE h zsc hc
theorem se{a:Nat}(h:StOk ops rest (mB n (a|||2^k)) d ns)
 (hc:((m==1||m==2)&&decide (Region.ready .any ops (mB n a)= [k]))=true:=by kernel_rfl) (hn:(if m=2 then [k] else ns)=ns':=by rfl):StOk ops (.op k m rest) (mB n a) (d+1) ns':=zGF h zsc hc hn
theorem be{a:Nat}(h:StOk ops rest (mB n (a|||2^k)) d ns)
 (hc:((m==1||m==2)&&(Region.ready .any ops (mB n a)).contains k)=true:=by kernel_rfl) (hn:(if m=2 then [k] else ns)=ns':=by rfl):BrOk ops (.op k m rest) (mB n a) (d+1) ns' [k]:=zHm h zsc hc hn
theorem sa{L:Array Bool}(h:BrOk ops (.alt a b) L d ns hs)(hc:((Region.ready .any ops L).all fun i=>hs.contains i)=true:=by kernel_rfl)(hn:(ns.all fun z=>ns'.contains z)=true:=by rfl):StOk ops (.alt a b) L d ns':=zAO h hc hn
def zmN(cf:Cfg)(sk:Nat->Bool):Code->Bool
 | .region id ops draw=>sk id||(!draw||(match cf.dt id with|some t=>zbI ops t|none=>(match cf.dr id with|some sch=>zsO ops sch|none=>true)))
 | .seq a b=>zmN cf sk a&&zmN cf sk b
 | .cond _ x y=>zmN cf sk x&&zmN cf sk y
 | .block _ c=>zmN cf sk c
 | .loop c=>zmN cf sk c
 | .scope c=>zmN cf sk c
 |_=>true
def z5T(i:Nat):Code->List (Array Oper)
 | .region id ops _=>if Nat.beq id i then [ops] else []
 | .seq a b=>z5T i a++z5T i b
 | .cond _ x y=>z5T i x++z5T i y
 | .block _ c=>z5T i c
 | .loop c=>z5T i c
 | .scope c=>z5T i c
 |_=> []
noncomputable def ziC(i:Nat)(c:Code):Array Oper:=match z5T i c with|x::_=>x| []=> #[]
theorem zef{cf:Cfg}{sk:Nat->Bool}:∀(c:Code),zmN cf sk c=true->(∀i,sk i=true->∃t,cf.dt i=some t/\ ∀o∈z5T i c,zbI o t=true)->okC cf c=true
 | .region id ops draw,h,hs=>by
   simp only[zmN,Y7] at h
   simp only[okC,Y7]
   rcases h with h|h
   · right
     obtain⟨t,h1,h2⟩:=hs id h
     rw[h1]
     exact h2 ops (by simp[z5T])
   · exact h
 | .seq a b,h,hs=>by
   simp only[zmN,Z6] at h
   simp only[okC,Z6]
   exact⟨zef a h.1 fun i hi=>by obtain⟨t,h1,h2⟩:=hs i hi;exact⟨t,h1,fun o ho=>h2 o (by simp only[z5T,Ze];exact .inl ho)⟩,
    zef b h.2 fun i hi=>by obtain⟨t,h1,h2⟩:=hs i hi;exact⟨t,h1,fun o ho=>h2 o (by simp only[z5T,Ze];exact .inr ho)⟩⟩
 | .cond _ a b,h,hs=>by
   simp only[zmN,Z6] at h
   simp only[okC,Z6]
   exact⟨zef a h.1 fun i hi=>by obtain⟨t,h1,h2⟩:=hs i hi;exact⟨t,h1,fun o ho=>h2 o (by simp only[z5T,Ze];exact .inl ho)⟩,
    zef b h.2 fun i hi=>by obtain⟨t,h1,h2⟩:=hs i hi;exact⟨t,h1,fun o ho=>h2 o (by simp only[z5T,Ze];exact .inr ho)⟩⟩
 | .block _ c,h,hs=>by simp only[okC];exact zef c (by simpa only[zmN] using h) (by simpa only[z5T] using hs)
 | .loop c,h,hs=>by simp only[okC];exact zef c (by simpa only[zmN] using h) (by simpa only[z5T] using hs)
 | .scope c,h,hs=>by simp only[okC];exact zef c (by simpa only[zmN] using h) (by simpa only[z5T] using hs)
 | .skip,_,_=>rfl
 | .label ..,_,_=>rfl
 | .exit ..,_,_=>rfl
 | .ret,_,_=>rfl
 | .rangeFunc ..,_,_=>rfl
 | .goto _,_,_=>rfl
 | .refuse _,_,_=>rfl
theorem zmu{i:Nat}{t:SchT}{L:Array Bool}(hr:(z5T i c).length=1)(hs:StOk (ziC i c) t L n ns)(hL:L=Array.replicate (ziC i c).toList.length false)(hd:(decide (n=(ziC i c).toList.length)&&Region.noSelect (ziC i c))=true):∀o∈z5T i c,zbI o t=true:=by
 intro o ho
 obtain⟨x,hx⟩:∃x,z5T i c= [x]:=XE.1 hr
 have e:ziC i c=x:=by unfold ziC;rw[hx]
 rw[hx] at ho
 obtain rfl:o=x:=by simpa using ho
 rw[e] at hs hL hd
 subst hL
 simp only[Z6,decide_eq_true_eq] at hd
 unfold zbI
 simp only[Z6,decide_eq_true_eq]
 exact⟨⟨hs.dep.trans hd.1,hd.2⟩,hs.ord⟩
theorem zmM{P:Program}{f:FuncId}{cf:Cfg}{fn:Func}(l:List Nat)(hf:P.funcs[f]? =some fn)(hb:fn.body=some c)(hn:(fn.name != "runtime.NumGoroutine")=true)(h2:zmN cf l.contains c=true)
 (ht:∀i∈l,∃t,cf.dt i=some t/\ ∀o∈z5T i c,zbI o t=true):zdG P f cf=true:=by
 unfold zdG
 simp only[hf,hb,hn,YN]
 exact zef c h2 fun j hj=>ht j (by simpa using hj)
end
section
open Go
noncomputable abbrev z0E:Array Oper:=(ziC 10 (zlJ Tryz.f20))
theorem zm9:StOk z0E zhw (mB 14 16383) 0 []:=zs2 (by kernel_rfl)
theorem zfi:StOk z0E zdh (mB 14 8191) 1 [13]:=se zm9
theorem z9k:StOk z0E z8H (mB 14 6143) 2 [13]:=sq zfi
theorem zma:StOk z0E zhx (mB 14 4095) 2 [13]:=se zfi
theorem z9l:StOk z0E z8I (mB 14 6127) 3 [13]:=se z9k
theorem z9m:StOk z0E z8J (mB 14 6079) 3 [13]:=se z9k
theorem z9n:StOk z0E z8K (mB 14 5887) 3 [13]:=se z9k
theorem z9o:StOk z0E z8L (mB 14 5119) 3 [13]:=se z9k
theorem z9p:StOk z0E z8M (mB 14 2047) 3 [13]:=sq zma
theorem zbk:StOk z0E zat (mB 14 6063) 4 [13]:=sa (z0o (be z9m) (be z9l))
theorem zbl:StOk z0E zau (mB 14 5871) 4 [13]:=sa (z0o (be z9n) (be z9l))
theorem zbm:StOk z0E zav (mB 14 5103) 4 [13]:=sa (z0o (be z9o) (be z9l))
theorem zbn:StOk z0E zaw (mB 14 2031) 4 [13]:=sa (z0o (be z9p) (be z9l))
theorem zbo:StOk z0E zax (mB 14 5823) 4 [13]:=sa (z0o (be z9n) (be z9m))
theorem zbp:StOk z0E zay (mB 14 5055) 4 [13]:=sa (z0o (be z9o) (be z9m))
theorem zbq:StOk z0E zaz (mB 14 1983) 4 [13]:=sa (z0o (be z9p) (be z9m))
theorem zbr:StOk z0E zaA (mB 14 4863) 4 [13]:=sa (z0o (be z9o) (be z9n))
theorem zbs:StOk z0E zaB (mB 14 1791) 4 [13]:=sa (z0o (be z9p) (be z9n))
theorem zbt:StOk z0E zaC (mB 14 1023) 4 [13]:=sa (z0o (be z9p) (be z9o))
theorem zfj:StOk z0E zdi (mB 14 5807) 5 [13]:=sa (z0o (be zbo) (z0o (be zbl) (be zbk)))
theorem zfk:StOk z0E zdj (mB 14 5039) 5 [13]:=sa (z0o (be zbp) (z0o (be zbm) (be zbk)))
theorem zfl:StOk z0E zdk (mB 14 1967) 5 [13]:=sa (z0o (be zbq) (z0o (be zbn) (be zbk)))
theorem zfm:StOk z0E zdl (mB 14 4847) 5 [13]:=sa (z0o (be zbr) (z0o (be zbm) (be zbl)))
theorem zfn:StOk z0E zdm (mB 14 1775) 5 [13]:=sa (z0o (be zbs) (z0o (be zbn) (be zbl)))
theorem zfo:StOk z0E zdn (mB 14 1007) 5 [13]:=sa (z0o (be zbt) (z0o (be zbn) (be zbm)))
theorem zfp:StOk z0E zdo (mB 14 4799) 5 [13]:=sa (z0o (be zbr) (z0o (be zbp) (be zbo)))
theorem zfq:StOk z0E zdp (mB 14 1727) 5 [13]:=sa (z0o (be zbs) (z0o (be zbq) (be zbo)))
theorem zfr:StOk z0E zdq (mB 14 959) 5 [13]:=sa (z0o (be zbt) (z0o (be zbq) (be zbp)))
theorem zfs:StOk z0E zdr (mB 14 767) 5 [13]:=sa (z0o (be zbt) (z0o (be zbs) (be zbr)))
theorem zmb:StOk z0E zhy (mB 14 4783) 6 [13]:=sa (z0o (be zfp) (z0o (be zfm) (z0o (be zfk) (be zfj))))
theorem zmc:StOk z0E zhz (mB 14 1711) 6 [13]:=sa (z0o (be zfq) (z0o (be zfn) (z0o (be zfl) (be zfj))))
theorem zmd:StOk z0E zhA (mB 14 943) 6 [13]:=sa (z0o (be zfr) (z0o (be zfo) (z0o (be zfl) (be zfk))))
theorem zpM:StOk z0E zk9 (mB 14 751) 6 [13]:=sa (z0o (be zfs) (z0o (be zfo) (z0o (be zfn) (be zfm))))
theorem zpN:StOk z0E zka (mB 14 703) 6 [13]:=sa (z0o (be zfs) (z0o (be zfr) (z0o (be zfq) (be zfp))))
theorem zpO:StOk z0E zkb (mB 14 687) 7 [13]:=sa (z0o (be zpN) (z0o (be zpM) (z0o (be zmd) (z0o (be zmc) (be zmb)))))
theorem zpP:StOk z0E zkc (mB 14 175) 8 [13]:=sq zpO
theorem zpQ:StOk z0E zkd (mB 14 47) 9 [13]:=sq zpP
theorem zpR:StOk z0E zke (mB 14 15) 10 [13]:=sq zpQ
theorem zpS:StOk z0E zkf (mB 14 7) 11 [13]:=sq zpR
theorem zpT:StOk z0E zkg (mB 14 3) 12 [13]:=sq zpS
theorem zpU:StOk z0E zkh (mB 14 1) 13 [13]:=sq zpT
theorem zpV:StOk z0E zki (mB 14 0) 14 [13]:=sq zpU
set_option maxHeartbeats 0 in
theorem zEJ:zdG Tryz.prog 20 zET=true:=zmM [10] Tryz.func20 (bdy Tryz.f20 rfl) rfl (by kernel_rfl) (by simp only[XM];exact⟨⟨_,rfl,zmu (by kernel_rfl) zpV (by kernel_rfl) (by kernel_rfl)⟩,fun _ h=>by cases h⟩)
noncomputable abbrev z0q:Array Oper:=(ziC 7 (zlJ Tryz.f30))
theorem zpt:StOk z0q zjQ (mB 17 131071) 0 []:=zs2 (by kernel_rfl)
theorem zpu:StOk z0q zjR (mB 17 65535) 1 [16]:=se zpt
theorem zpv:StOk z0q zjS (mB 17 32767) 2 [16]:=sq zpu
theorem zpw:StOk z0q zjT (mB 17 16383) 3 [14]:=se zpv
theorem zhc:StOk z0q zeY (mB 17 12287) 4 [12]:=se zpw
theorem zhd:StOk z0q zeZ (mB 17 10239) 5 [12]:=se zhc
theorem zhe:StOk z0q zf0 (mB 17 4095) 5 [12]:=sq zhc
theorem zap:StOk z0q z9T (mB 17 4031) 6 [6]:=se zhe
theorem zhf:StOk z0q zf1 (mB 17 3839) 6 [8]:=se zhe
theorem zpx:StOk z0q zjU (mB 17 9215) 6 [12]:=se zhd
theorem zhg:StOk z0q zf2 (mB 17 2047) 6 [12]:=sq zhd
theorem zd5:StOk z0q zc1 (mB 17 4029) 7 [1]:=se zap
theorem zaq:StOk z0q z9U (mB 17 3999) 7 [6]:=se zap
theorem zd6:StOk z0q zc2 (mB 17 3775) 7 [6,8]:=sa (z0o (be zhf) (be zap))
theorem zar:StOk z0q z9V (mB 17 1983) 7 [6]:=sa (z0o (be zhg) (be zap))
theorem zhh:StOk z0q zf3 (mB 17 1791) 7 [8]:=sa (z0o (be zhg) (be zhf))
theorem zhi:StOk z0q zf4 (mB 17 1023) 7 [12]:=sq zpx
theorem zd7:StOk z0q zc3 (mB 17 3997) 8 [1]:=sa (z0o (be zaq) (be zd5))
theorem zhj:StOk z0q zf5 (mB 17 3773) 8 [1,8]:=sa (z0o (be zd6) (be zd5))
theorem zd8:StOk z0q zc4 (mB 17 1981) 8 [1]:=sa (z0o (be zar) (be zd5))
theorem zpy:StOk z0q zjV (mB 17 3983) 8 [6]:=sq zaq
theorem zd9:StOk z0q zc5 (mB 17 3743) 8 [6,8]:=sa (z0o (be zd6) (be zaq))
theorem zas:StOk z0q z9W (mB 17 1951) 8 [6]:=sa (z0o (be zar) (be zaq))
theorem zda:StOk z0q zc6 (mB 17 1727) 8 [6,8]:=sa (z0o (be zhh) (z0o (be zar) (be zd6)))
theorem zdb:StOk z0q zc7 (mB 17 959) 8 [6]:=sa (z0o (be zhi) (be zar))
theorem zpz:StOk z0q zjW (mB 17 767) 8 [8]:=sa (z0o (be zhi) (be zhh))
theorem zpA:StOk z0q zjX (mB 17 3981) 9 [1]:=sq zd7
theorem zhk:StOk z0q zf6 (mB 17 3741) 9 [1,8]:=sa (z0o (be zd9) (z0o (be zhj) (be zd7)))
theorem zdc:StOk z0q zc8 (mB 17 1949) 9 [1]:=sa (z0o (be zas) (z0o (be zd8) (be zd7)))
theorem zhl:StOk z0q zf7 (mB 17 1725) 9 [1,8]:=sa (z0o (be zda) (z0o (be zd8) (be zhj)))
theorem zhm:StOk z0q zf8 (mB 17 957) 9 [1]:=sa (z0o (be zdb) (be zd8))
theorem zdd:StOk z0q zc9 (mB 17 3975) 9 [6]:=se zpy
theorem zpB:StOk z0q zjY (mB 17 3727) 9 [6,8]:=sq zd9
theorem zpC:StOk z0q zjZ (mB 17 1935) 9 [6]:=sq zas
theorem zde:StOk z0q zca (mB 17 1695) 9 [6,8]:=sa (z0o (be zda) (z0o (be zas) (be zd9)))
theorem zdf:StOk z0q zcb (mB 17 927) 9 [6]:=sa (z0o (be zdb) (be zas))
theorem zhn:StOk z0q zf9 (mB 17 703) 9 [6,8]:=sa (z0o (be zpz) (z0o (be zdb) (be zda)))
theorem zho:StOk z0q zfa (mB 17 3973) 10 [1]:=sa (z0o (be zdd) (be zpA))
theorem zpD:StOk z0q zk0 (mB 17 3725) 10 [1,8]:=sq zhk
theorem zpE:StOk z0q zk1 (mB 17 1933) 10 [1]:=sq zdc
theorem zhp:StOk z0q zfb (mB 17 1693) 10 [1,8]:=sa (z0o (be zde) (z0o (be zhl) (z0o (be zdc) (be zhk))))
theorem zhq:StOk z0q zfc (mB 17 925) 10 [1]:=sa (z0o (be zdf) (z0o (be zhm) (be zdc)))
theorem zpF:StOk z0q zk2 (mB 17 701) 10 [1,8]:=sa (z0o (be zhn) (z0o (be zhm) (be zhl)))
theorem zhr:StOk z0q zfd (mB 17 3719) 10 [6,8]:=sa (z0o (be zpB) (be zdd))
theorem zdg:StOk z0q zcc (mB 17 1927) 10 [6]:=sa (z0o (be zpC) (be zdd))
theorem zpG:StOk z0q zk3 (mB 17 1679) 10 [6,8]:=sq zde
theorem zpH:StOk z0q zk4 (mB 17 911) 10 [6]:=sq zdf
theorem zhs:StOk z0q zfe (mB 17 671) 10 [6,8]:=sa (z0o (be zhn) (z0o (be zdf) (be zde)))
theorem zpI:StOk z0q zk5 (mB 17 3717) 11 [1,8]:=sa (z0o (be zhr) (z0o (be zpD) (be zho)))
theorem zht:StOk z0q zff (mB 17 1925) 11 [1]:=sa (z0o (be zdg) (z0o (be zpE) (be zho)))
theorem zpJ:StOk z0q zk6 (mB 17 1677) 11 [1,8]:=sq zhp
theorem zpK:StOk z0q zk7 (mB 17 909) 11 [1]:=sq zhq
theorem zpL:StOk z0q zk8 (mB 17 669) 11 [1,8]:=sa (z0o (be zhs) (z0o (be zpF) (z0o (be zhq) (be zhp))))
theorem zhu:StOk z0q zfg (mB 17 1671) 11 [6,8]:=sa (z0o (be zpG) (z0o (be zdg) (be zhr)))
theorem zhv:StOk z0q zfh (mB 17 903) 11 [6]:=sa (z0o (be zpH) (be zdg))
theorem zrz:StOk z0q znG (mB 17 655) 11 [6,8]:=sq zhs
theorem zrA:StOk z0q znH (mB 17 1669) 12 [1,8]:=sa (z0o (be zhu) (z0o (be zpJ) (z0o (be zht) (be zpI))))
theorem zrB:StOk z0q znI (mB 17 901) 12 [1]:=sa (z0o (be zhv) (z0o (be zpK) (be zht)))
theorem zrC:StOk z0q znJ (mB 17 653) 12 [1,8]:=sq zpL
theorem zrD:StOk z0q znK (mB 17 647) 12 [6,8]:=sa (z0o (be zrz) (z0o (be zhv) (be zhu)))
theorem zrE:StOk z0q znL (mB 17 645) 13 [1,8]:=sa (z0o (be zrD) (z0o (be zrC) (z0o (be zrB) (be zrA))))
theorem zrF:StOk z0q znM (mB 17 133) 14 [1,8]:=sq zrE
theorem zrG:StOk z0q znN (mB 17 5) 15 [1,8]:=sq zrF
theorem zrH:StOk z0q znO (mB 17 1) 16 [1,8]:=sq zrG
theorem zrI:StOk z0q znP (mB 17 0) 17 [1,8]:=sq zrH
set_option maxHeartbeats 0 in
theorem zEI:zdG Tryz.prog 30 zES=true:=zmM [7] Tryz.func30 (bdy Tryz.f30 rfl) rfl (by kernel_rfl) (by simp only[XM];exact⟨⟨_,rfl,zmu (by kernel_rfl) zrI (by kernel_rfl) (by kernel_rfl)⟩,fun _ h=>by cases h⟩)
noncomputable abbrev z1f:Array Oper:=(ziC 10 (zlJ Tryz.f186))
theorem zkj:StOk z1f zft (mB 15 32767) 0 []:=zs2 (by kernel_rfl)
theorem ze0:StOk z1f zbu (mB 15 16383) 1 []:=sq zkj
theorem zkk:StOk z1f zfu (mB 15 15359) 2 []:=se ze0
theorem ze1:StOk z1f zbv (mB 15 8191) 2 [13]:=se ze0
theorem zkl:StOk z1f zfv (mB 15 7167) 3 [13]:=sa (z0o (be ze1) (be zkk))
theorem ze2:StOk z1f zbw (mB 15 4095) 3 [13]:=sq ze1
theorem ze3:StOk z1f zbx (mB 15 3839) 4 [13]:=se ze2
theorem ze4:StOk z1f zby (mB 15 3071) 4 [13]:=sq zkl
theorem zkm:StOk z1f zfw (mB 15 2047) 4 [13]:=sq ze2
theorem z9X:StOk z1f z9q (mB 15 1983) 5 [6]:=se zkm
theorem zkn:StOk z1f zfx (mB 15 2815) 5 [13]:=sa (z0o (be ze4) (be ze3))
theorem zko:StOk z1f zfy (mB 15 1791) 5 [13]:=sq ze3
theorem zkp:StOk z1f zfz (mB 15 1023) 5 [13]:=sq ze4
theorem ze5:StOk z1f zbz (mB 15 1951) 6 [6]:=se z9X
theorem ze6:StOk z1f zbA (mB 15 1727) 6 [6]:=sa (z0o (be zko) (be z9X))
theorem ze7:StOk z1f zbB (mB 15 959) 6 [6]:=sa (z0o (be zkp) (be z9X))
theorem zkq:StOk z1f zfA (mB 15 767) 6 [13]:=sq zkn
theorem zkr:StOk z1f zfB (mB 15 1695) 7 [6]:=sa (z0o (be ze6) (be ze5))
theorem zme:StOk z1f zhB (mB 15 927) 7 [6]:=sa (z0o (be ze7) (be ze5))
theorem zmf:StOk z1f zhC (mB 15 703) 7 [6]:=sa (z0o (be zkq) (z0o (be ze7) (be ze6)))
theorem zmg:StOk z1f zhD (mB 15 671) 8 [6]:=sa (z0o (be zmf) (z0o (be zme) (be zkr)))
theorem zmh:StOk z1f zhE (mB 15 159) 9 [6]:=sq zmg
theorem zmi:StOk z1f zhF (mB 15 31) 10 [6]:=sq zmh
theorem zmj:StOk z1f zhG (mB 15 15) 11 [6]:=sq zmi
theorem zmk:StOk z1f zhH (mB 15 7) 12 [6]:=sq zmj
theorem zml:StOk z1f zhI (mB 15 3) 13 [6]:=sq zmk
theorem zmm:StOk z1f zhJ (mB 15 1) 14 [6]:=sq zml
theorem zmn:StOk z1f zhK (mB 15 0) 15 [6]:=sq zmm
set_option maxHeartbeats 0 in
theorem zBQ:zdG Tryz.prog 186 zA5=true:=zmM [10] Tryz.func186 (bdy Tryz.f186 rfl) rfl (by kernel_rfl) (by simp only[XM];exact⟨⟨_,rfl,zmu (by kernel_rfl) zmn (by kernel_rfl) (by kernel_rfl)⟩,fun _ h=>by cases h⟩)
theorem zHk:(cg0.all fun x=>zdG Tryz.prog x.1 x.2)=true:=by kernel_rfl
theorem zHj:(cg1.all fun x=>zdG Tryz.prog x.1 x.2)=true:=by kernel_rfl
theorem zHi:(cg2.all fun x=>zdG Tryz.prog x.1 x.2)=true:=by kernel_rfl
theorem zHh:(cg3.all fun x=>zdG Tryz.prog x.1 x.2)=true:=by kernel_rfl
theorem zHg:(cg4.all fun x=>zdG Tryz.prog x.1 x.2)=true:=by kernel_rfl
theorem zHf:(cg5.all fun x=>zdG Tryz.prog x.1 x.2)=true:=by kernel_rfl
theorem zHe:(cg6.all fun x=>zdG Tryz.prog x.1 x.2)=true:=by kernel_rfl
theorem zHd:(cg7.all fun x=>zdG Tryz.prog x.1 x.2)=true:=by kernel_rfl
theorem zHc:(cg8.all fun x=>zdG Tryz.prog x.1 x.2)=true:=by kernel_rfl
theorem zHb:(cg9.all fun x=>zdG Tryz.prog x.1 x.2)=true:=by kernel_rfl
theorem zER:(cg10.all fun x=>zdG Tryz.prog x.1 x.2)=true:=by kernel_rfl
theorem zEQ:(cg11.all fun x=>zdG Tryz.prog x.1 x.2)=true:=by kernel_rfl
theorem zEP:(cg12.all fun x=>zdG Tryz.prog x.1 x.2)=true:=by kernel_rfl
theorem zEO:(cg13.all fun x=>zdG Tryz.prog x.1 x.2)=true:=by kernel_rfl
theorem zEN:(cg14.all fun x=>zdG Tryz.prog x.1 x.2)=true:=by
 simp only[cg14,Xx,List.all_nil,XP,Z6]
 exact⟨zEJ,zEI,zBQ⟩
theorem zHl:∀f c,zlA f=some c->zdG Tryz.prog f c=true:=by
 intro f c h
 unfold zlA at h
 rw[Z4] at h
 obtain⟨x,h1,rfl⟩:=h
 have h2:=List.mem_of_find?_eq_some h1
 have h3:=List.find?_some h1
 simp only[beq_iff_eq] at h3
 subst h3
 have key:((cg0++cg1++cg2++cg3++cg4++cg5++cg6++cg7++cg8++cg9++cg10++cg11++cg12++cg13++cg14).all fun x=>zdG Tryz.prog x.1 x.2)=true:=by simp only[List.all_append,Z6];exact⟨⟨⟨⟨⟨⟨⟨⟨⟨⟨⟨⟨⟨⟨zHk,zHj⟩,zHi⟩,zHh⟩,zHg⟩,zHf⟩,zHe⟩,zHd⟩,zHc⟩,zHb⟩,zER⟩,zEQ⟩,zEP⟩,zEO⟩,zEN⟩
 exact Zn.1 key x h2
end
end Go.Proofs.YtianakjpgmmflaaGreatDoor
