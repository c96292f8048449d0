/- Proved here: the law DecomposeMinimal returns true for every input, and its arguments read afterwards as before; the row's listed tables are tied to the program's text by the given tie. No other condition. -/
import Derived.Test.YtiobkcdgggbljaaGreatDoorMMI6
import Derived.Test.YtiobkcdgggbljaaGreatDoorCards
import Derived.Test.YtiobkcdgggbljaaGreatDoorTie
set_option linter.unusedVariables false
set_option linter.unusedSimpArgs false
set_option linter.unusedSectionVars false
set_option maxRecDepth 100000
set_option maxHeartbeats 6000000
section

namespace Go.Proofs.YtiobkcdgggbljaaGreatDoor.decomposeMinimal
open Go.ChangeShapes Go.WideShapes Go.ChangeAt Go.RowKit
open Go.ChangeMaps (open_string shut_string)
theorem own:ownKnob Tryz.prog.godebug=none:=by kernel_rfl
set_option maxRecDepth 100000 in
theorem zyf(H:Type)(enc:TypeId×Value->H)(W:World)(base:Nat)(args:Array Value)(ds gs:List (DataW H))(before:List MemPlace)
 (hval0:∀(j:Nat) t v,Tryz.f8.params[j]? =some t->args[j]? =some v->Value.okWide Tryz.prog W .any base t v)
 (hW:DataW.Whole enc Tryz.prog Tryz.f8.params.toList Rows.decomposeMinimalSpec.vars false W args.toList ds gs before) (hL:laidMetH Tryz.prog Rows.decomposeMinimalRow.laid W):
 Calls Tryz.prog 8 args W fun e W'=>∃v,e= .returned v/\Rows.decomposeMinimalSpec.post enc Tryz.prog Tryz.f8 false true false false W args v W':=by
 have hW':=hW
 obtain⟨p,q,hA0,hV,rfl,hfz,hnd⟩:=hW
 have hval:=hval0
 have hA:DataW.TrodAll enc Tryz.prog W 0 (fun _=>true) true Tryz.f8.params.toList args.toList ds p:=hA0
 rw[Tryz.params8] at hA hval
 obtain⟨v0,vs0,d0,ds0,p0,q0,hargs,rfl,rfl,h0,r0⟩:=trodAll_cons hA
 obtain⟨v1,vs1,d1,ds1,p1,q1,rfl,rfl,rfl,h1,r1⟩:=trodAll_cons r0
 obtain⟨rfl,rfl,rfl⟩:=trodAll_nil r1
 obtain rfl:args= #[v0,v1]:=by cases args;simp_all
 obtain⟨rfl,rfl⟩:=trodVars_none hV
 obtain⟨a0,t0,w0,z0⟩:=zlz Tryz.underlying22 Tryz.underlying3 (by kernel_rfl) (hval 0 22 v0 rfl rfl) h0
 obtain⟨a1,t1,w1,z1⟩:=zlz Tryz.underlying22 Tryz.underlying3 (by kernel_rfl) (hval 1 22 v1 rfl rfl) h1
 obtain⟨outs,hlaw⟩:=zCS a0 w0 z0 a1 w1 z1
 refine(zr2 zD8 zrW (by kernel_rfl) zHN hlaw rfl W (zB5 hL) _ rfl (fun i t hi=> ?_)).mono fun e W' ⟨he,bel⟩=> ?_
 · match i,hi with
   |0,hi=>cases hi;exact t0
   |1,hi=>cases hi;exact t1
 · subst he
   exact⟨_,rfl,_,_,_,[],_,[],hW',trodAll_mk1 (shut_bool Tryz.underlying4 _),zcL 12 bel (by kernel_rfl) hA0,rfl,bel.frame _,fun h=>by cases h⟩
noncomputable def zgQ(os:Os):World:=
 {World.holding Tryz.prog os ⟨#[],#[],[]⟩ with heap:=(((World.holding Tryz.prog os ⟨#[],#[],[]⟩).heap.modify 0 fun| .cells _ t frozen=>.cells #[.int .u8 0,.int .u8 1,.int .u8 28,.int .u8 2,.int .u8 29,.int .u8 14,.int .u8 24,.int .u8 3,.int .u8 30,.int .u8 22,.int .u8 20,.int .u8 15,.int .u8 25,.int .u8 17,.int .u8 4,.int .u8 8,.int .u8 31,.int .u8 27,.int .u8 13,.int .u8 23,.int .u8 21,.int .u8 19,.int .u8 16,.int .u8 7,.int .u8 26,.int .u8 12,.int .u8 18,.int .u8 6,.int .u8 11,.int .u8 5,.int .u8 10,.int .u8 9] t frozen|o=>o).modify 1 fun| .cells _ t frozen=>.cells #[.int .u8 0,.int .u8 1,.int .u8 56,.int .u8 2,.int .u8 57,.int .u8 49,.int .u8 28,.int .u8 3,.int .u8 61,.int .u8 58,.int .u8 42,.int .u8 50,.int .u8 38,.int .u8 29,.int .u8 17,.int .u8 4,.int .u8 62,.int .u8 47,.int .u8 59,.int .u8 36,.int .u8 45,.int .u8 43,.int .u8 51,.int .u8 22,.int .u8 53,.int .u8 39,.int .u8 33,.int .u8 30,.int .u8 24,.int .u8 18,.int .u8 12,.int .u8 5,.int .u8 63,.int .u8 55,.int .u8 48,.int .u8 27,.int .u8 60,.int .u8 41,.int .u8 37,.int .u8 16,.int .u8 46,.int .u8 35,.int .u8 44,.int .u8 21,.int .u8 52,.int .u8 32,.int .u8 23,.int .u8 11,.int .u8 54,.int .u8 26,.int .u8 40,.int .u8 15,.int .u8 34,.int .u8 20,.int .u8 31,.int .u8 10,.int .u8 25,.int .u8 14,.int .u8 19,.int .u8 9,.int .u8 13,.int .u8 8,.int .u8 7,.int .u8 6] t frozen|o=>o)}
theorem zxB(os:Os):laidMet Tryz.prog Rows.decomposeMinimalRow.laid ((zgQ os).forCall (fun _ _=>0) ⟨#[],#[.slice none 0 0,.slice none 0 0],[]⟩).memory:=
 laidMet_of_run' 8 (by kernel_rfl) (by kernel_rfl)
theorem zF7(os:Os){H:Type}(enc:TypeId×Value->H):∃places,DataW.whole enc Tryz.prog ((zgQ os).forCall (fun _ _=>0) ⟨#[],#[.slice none 0 0,.slice none 0 0],[]⟩).memory Tryz.f8.params.toList Rows.decomposeMinimalSpec.vars false (#[.slice none 0 0,.slice none 0 0]:Array Value).toList 8=some ([.nil,.nil],[],places):=
 ⟨[],by kernel_rfl⟩
set_option maxRecDepth 100000 in
theorem zCR(os:Os)(started:os.Started)(H:Type)(enc:TypeId×Value->H)(F:Stop.Interp):
 ReturnsInHanded {} Tryz.checked os 8 .any ((OpenSpec.ofChange Rows.decomposeMinimalSpec).preRow enc Tryz.prog Tryz.f8 Rows.decomposeMinimalRow.domain false Rows.decomposeMinimalRow.laid) (((OpenSpec.ofChange Rows.decomposeMinimalSpec).at F).post enc Tryz.prog Tryz.f8 false true false false):=by
 obtain⟨places,hx⟩:=zF7 os enc
 refine returnsInHanded_of_row (C:=Tryz.checked) (s:=(OpenSpec.ofChange Rows.decomposeMinimalSpec)) own started (by kernel_rfl) Tryz.func8
  (witness_row_at (enc:=enc) (C:=Tryz.checked) false (zgQ os) #[.slice none 0 0,.slice none 0 0] rfl (by kernel_rfl) (by kernel_rfl) (by kernel_rfl)
    (OpenSpec.preRow_of_cond 8 hx (by kernel_rfl) (fun k hk=>by cases hk) (by kernel_rfl) (zxB os))) ?_
 intro W base args ds gs before hval hW _ _ _ hL _ _
 exact zyf H enc W base args ds gs before hval hW hL
theorem zcG{a b:Bool}(h:a=true)(k:b=true):(a&&b)=true:=by rw[h,k];rfl
set_option maxRecDepth 100000 in
set_option maxHeartbeats 4000000 in
theorem zFE:joinedFacts Tryz.checked.prog 8 Tryz.f8 ((OpenSpec.ofChange Rows.decomposeMinimalSpec)).bare Rows.decomposeMinimalRow=true:=by
 refine zcG (zcG (zcG (zcG (zcG (zcG (zcG (zcG (zcG (zcG (zcG (zcG (zcG (zcG (zcG (zcG (zcG (zcG (zcG (zcG (zcG (zcG (zcG (zcG (zcG (zcG (zcG (zcG (zcG (zcG (zcG ?_ ?_) ?_) ?_) ?_) ?_) ?_) ?_) ?_) ?_) ?_) ?_) ?_) ?_) ?_) ?_) ?_) ?_) ?_) ?_) ?_) ?_) ?_) ?_) ?_) ?_) ?_) ?_) ?_) ?_) ?_) ?_
 all_goals as_aux_lemma=>kernel_rfl
theorem zHi:Rows.DecomposeMinimalSaid:=
 OpenClaim.holds_of_cond 8 Tryz.f8 rfl rfl rfl rfl rfl rfl rfl ⟨rfl,rfl,rfl,rfl,rfl⟩ rfl rfl rfl rfl rfl (by kernel_rfl) Tryz.func8 zFE
  (of_decide_eq_true (by kernel_rfl)) (by unfold Func.isWrapper;first|(rw[if_pos (by decide+kernel)];kernel_rfl)|(rw[if_neg (by decide+kernel)];exact⟨rfl,rfl⟩))
  (fun os started H enc _ F=>by rw[OpenClaim.pre_eq_preRow];exact zCR os started H enc F)
theorem zFa(f:FuncId)(fn:Func)(hf:Tryz.pinned.checked.prog.funcNamed "semigroup/semigrouplaw27.DecomposeMinimal" =some f)(hfn:Tryz.pinned.checked.prog.funcs[f]? =some fn):
 false=Tryz.pinned.checked.prog.looks []/\ ∀(j:Nat) t,fn.params[j]? =some t->Tryz.pinned.checked.prog.wantsStandIn t=false:=by
 obtain rfl:f=8:=Option.some.inj ((show Tryz.prog.funcNamed "semigroup/semigrouplaw27.DecomposeMinimal" =some 8 by kernel_rfl).symm.trans hf)|>.symm
 obtain rfl:fn=Tryz.f8:=(Option.some.inj (Tryz.func8.symm.trans hfn)).symm
 refine⟨by kernel_rfl,fun j t ht=> ?_⟩
 rw[Tryz.params8] at ht
 obtain rfl:t=22:=by simpa using Array.mem_of_getElem? ht
 kernel_rfl
theorem proved:Rows.DecomposeMinimalCardSaid:=
 Claim7.holds_tied_plain_at .later [] _ _ _ _ zHi (fun _ h=>by cases h) (by kernel_rfl) (fun _ h=>by cases h) decomposeMinimal_row_tie rfl ⟨rfl,rfl⟩ (by kernel_rfl) rfl zFa (by kernel_rfl)
#print axioms proved
end Go.Proofs.YtiobkcdgggbljaaGreatDoor.decomposeMinimal
end
