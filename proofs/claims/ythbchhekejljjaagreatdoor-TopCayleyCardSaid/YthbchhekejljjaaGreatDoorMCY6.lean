/- Proved here: the law TopCayley returns true for every input, and its arguments read afterwards as before; the row's listed tables are tied to the program's text by the given tie. No other condition. -/
import Derived.Test.YthbchhekejljjaaGreatDoorMCY5
import Derived.KernelRfl
import Derived.ChangeOld
import Derived.ChangeReads
import Derived.Below
import Derived.ChangeSlices
import Derived.Deep.Grids
import Derived.WideShapes
import Derived.WalkKit
import Derived.ProofKit
import Derived.WalkSpells
import Derived.WalkLawsBesides
import Derived.Lib.Hide
import Derived.Deep.OwnRows
import Derived.Deep.RegionLaw
import Derived.Shelf.Strings.Builder1
import Derived.Shelf.Small.Bits
import Derived.Shelf.Small.Strs
import Derived.Shelf.Small.Wraps
import Derived.Shelf.Strings.BuilderF
import Derived.Shelf.Strings.BuilderK
import Derived.Shelf.Strconv.Itoa0
import Derived.Shelf.Strings.Search1
import Derived.Shelf.Strings.Search2
import Derived.Shelf.Strings.Search3
import Derived.Shelf.LaysM
import Derived.Shelf.Strings.Shaped
import Derived.Shelf.Sort.Plain
import Derived.Shelf.Strings.Prefix
import Derived.Shelf.Slices.Equal
import Derived.Ground.Names2Prog
import Derived.Shelf.Slices.Clone
import Derived.Shelf.Slices.In.SortNone
import Derived.Test.YthbchhekejljjaaGreatDoorProg
import Derived.Shelf.Strings.BuilderX
import Derived.Lib.AppendStr
import Derived.Lib.OthersKept
import Derived.LoopN
import Derived.Laws.StructEq
import Derived.Shelf.GgSortFunc.Insertion
import Derived.RangeFuncBox
import Derived.Deep.AppendLies
import Derived.StillTailTactics
import Derived.Test.YthbchhekejljjaaGreatDoorRows
import Derived.OpenShut
import Derived.LaidMore
import Derived.LaidSub
import Derived.Lay
import Derived.ChangeArms
import Derived.Test.YthbchhekejljjaaGreatDoorCards
import Derived.Test.YthbchhekejljjaaGreatDoorTie
import Derived.ShutString
import Derived.Deep.DeepHandedRow
set_option linter.unusedVariables false
set_option linter.unusedSimpArgs false
set_option linter.unusedSectionVars false
section
/- Proved here: the law TopCayley returns true for every input, and its arguments read afterwards as before; the row's listed tables are tied to the program's text by the given tie. No other condition. -/
namespace Go.Proofs.YthbchhekejljjaaGreatDoor.topCayley
open Go.ChangeShapes Go.WideShapes Go.ChangeAt Go.RowKit
open Go.ChangeMaps (open_string shut_string)
theorem own : ownKnob Tryz.prog.godebug = none := by kernel_rfl
set_option maxRecDepth 100000 in
theorem zgA (H : Type) (enc : TypeId × Value -> H) (W : World) (base : Nat) (args : Array Value) (ds gs : List (DataW H)) (before : List MemPlace)
    (hval0 : ∀ (j : Nat) t v, Tryz.f6.params[j]? = some t -> args[j]? = some v -> Value.okWide Tryz.prog W .any base t v)
    (hW : DataW.Whole enc Tryz.prog Tryz.f6.params.toList Rows.topCayleySpec.vars false W args.toList ds gs before) (hL : laidMetH Tryz.prog Rows.topCayleyRow.laid W) :
    Calls Tryz.prog 6 args W fun e W' => ∃ v, e = .returned v /\ Rows.topCayleySpec.post enc Tryz.prog Tryz.f6 false true false false W args v W' := by
  have hW' := hW
  obtain ⟨p, q, hA0, hV, rfl, hfz, hnd⟩ := hW
  have hval := hval0
  have hA : DataW.TrodAll enc Tryz.prog W 0 (fun _ => true) true Tryz.f6.params.toList args.toList ds p := hA0
  rw [Tryz.params6] at hA hval
  obtain ⟨v0, vs0, d0, ds0, p0, q0, hargs, rfl, rfl, h0, r0⟩ := trodAll_cons hA
  obtain ⟨v1, vs1, d1, ds1, p1, q1, rfl, rfl, rfl, h1, r1⟩ := trodAll_cons r0
  obtain ⟨rfl, rfl, rfl⟩ := trodAll_nil r1
  obtain rfl : args = #[v0, v1] := by cases args; simp_all
  obtain ⟨rfl, rfl⟩ := trodVars_none hV
  obtain ⟨ga0, na0, ca0, rfl⟩ := okWide_slice Tryz.underlying22 (hval 0 22 v0 rfl rfl)
  obtain ⟨a0, t0⟩ := zg4 zg2 rfl h0
  obtain ⟨a1, rfl, rfl, rfl⟩ := open_bool Tryz.underlying4 (hval 1 4 v1 rfl rfl) h1
  obtain ⟨outs, hlaw⟩ := zlK a0 a1
  refine (zd8 zfb zdH (by kernel_rfl) zov hlaw rfl W (zil hL) _ rfl (fun i t hi => ?_)).mono fun e W' ⟨he, bel⟩ => ?_
  · match i, hi with
    | 0, hi => cases hi; exact t0
    | 1, hi => cases hi; exact .sc _ _ rfl
  · subst he
    exact ⟨_, rfl, _, _, _, [], _, [], hW', trodAll_mk1 (shut_bool Tryz.underlying4 _), z5g 12 bel (by kernel_rfl) hA0, rfl, bel.frame _, fun h => by cases h⟩
noncomputable def z7i (os : Os) : World :=
  { World.holding Tryz.prog os ⟨#[], #[], []⟩ with heap := ((World.holding Tryz.prog os ⟨#[], #[], []⟩).heap.modify 1 fun | .cells _ t frozen => .cells #[.int .u8 0, .int .u8 1, .int .u8 56, .int .u8 2, .int .u8 57, .int .u8 49, .int .u8 28, .int .u8 3, .int .u8 61, .int .u8 58, .int .u8 42, .int .u8 50, .int .u8 38, .int .u8 29, .int .u8 17, .int .u8 4, .int .u8 62, .int .u8 47, .int .u8 59, .int .u8 36, .int .u8 45, .int .u8 43, .int .u8 51, .int .u8 22, .int .u8 53, .int .u8 39, .int .u8 33, .int .u8 30, .int .u8 24, .int .u8 18, .int .u8 12, .int .u8 5, .int .u8 63, .int .u8 55, .int .u8 48, .int .u8 27, .int .u8 60, .int .u8 41, .int .u8 37, .int .u8 16, .int .u8 46, .int .u8 35, .int .u8 44, .int .u8 21, .int .u8 52, .int .u8 32, .int .u8 23, .int .u8 11, .int .u8 54, .int .u8 26, .int .u8 40, .int .u8 15, .int .u8 34, .int .u8 20, .int .u8 31, .int .u8 10, .int .u8 25, .int .u8 14, .int .u8 19, .int .u8 9, .int .u8 13, .int .u8 8, .int .u8 7, .int .u8 6] t frozen | o => o) }
theorem zgb (os : Os) : laidMet Tryz.prog Rows.topCayleyRow.laid ((z7i os).forCall (fun _ _ => 0) ⟨#[], #[.slice none 0 0, .bool false], []⟩).memory :=
  laidMet_of_run' 8 (by kernel_rfl) (by kernel_rfl)
theorem zlj (os : Os) {H : Type} (enc : TypeId × Value -> H) : ∃ places, DataW.whole enc Tryz.prog ((z7i os).forCall (fun _ _ => 0) ⟨#[], #[.slice none 0 0, .bool false], []⟩).memory Tryz.f6.params.toList Rows.topCayleySpec.vars false (#[.slice none 0 0, .bool false] : Array Value).toList 8 = some ([.nil, .lit (.bool false)], [], places) :=
  ⟨[], by kernel_rfl⟩
set_option maxRecDepth 100000 in
theorem zjC (os : Os) (started : os.Started) (H : Type) (enc : TypeId × Value -> H) (F : Stop.Interp) :
    ReturnsInHanded {} Tryz.checked os 6 .any ((OpenSpec.ofChange Rows.topCayleySpec).preRow enc Tryz.prog Tryz.f6 Rows.topCayleyRow.domain false Rows.topCayleyRow.laid) (((OpenSpec.ofChange Rows.topCayleySpec).at F).post enc Tryz.prog Tryz.f6 false true false false) := by
  obtain ⟨places, hx⟩ := zlj os enc
  refine returnsInHanded_of_row (C := Tryz.checked) (s := (OpenSpec.ofChange Rows.topCayleySpec)) own started (by kernel_rfl) Tryz.func6
    (witness_row_at (enc := enc) (C := Tryz.checked) false (z7i os) #[.slice none 0 0, .bool false] rfl (by kernel_rfl) (by kernel_rfl) (by kernel_rfl)
      (OpenSpec.preRow_of_cond 8 hx (by kernel_rfl) (fun k hk => by cases hk) (by kernel_rfl) (zgb os))) ?_
  intro W base args ds gs before hval hW _ _ _ hL _ _
  exact zgA H enc W base args ds gs before hval hW hL
theorem z5c {a b : Bool} (h : a = true) (k : b = true) : (a && b) = true := by rw [h, k]; rfl
set_option maxRecDepth 100000 in
set_option maxHeartbeats 4000000 in
theorem zlX : joinedFacts Tryz.checked.prog 6 Tryz.f6 ((OpenSpec.ofChange Rows.topCayleySpec)).bare Rows.topCayleyRow = true := by
  refine z5c (z5c (z5c (z5c (z5c (z5c (z5c (z5c (z5c (z5c (z5c (z5c (z5c (z5c (z5c (z5c (z5c (z5c (z5c (z5c (z5c (z5c (z5c (z5c (z5c (z5c (z5c (z5c (z5c (z5c (z5c ?_ ?_) ?_) ?_) ?_) ?_) ?_) ?_) ?_) ?_) ?_) ?_) ?_) ?_) ?_) ?_) ?_) ?_) ?_) ?_) ?_) ?_) ?_) ?_) ?_) ?_) ?_) ?_) ?_) ?_) ?_) ?_
  all_goals as_aux_lemma => kernel_rfl
theorem znF : Rows.TopCayleySaid :=
  OpenClaim.holds_of_cond 6 Tryz.f6 rfl rfl rfl rfl rfl rfl rfl ⟨rfl, rfl, rfl, rfl, rfl⟩ rfl rfl rfl rfl rfl (by kernel_rfl) Tryz.func6 zlX
    (of_decide_eq_true (by kernel_rfl)) (by unfold Func.isWrapper; first | (rw [if_pos (by decide +kernel)]; kernel_rfl) | (rw [if_neg (by decide +kernel)]; exact ⟨rfl, rfl⟩))
    (fun os started H enc _ F => by rw [OpenClaim.pre_eq_preRow]; exact zjC os started H enc F)
theorem zlr (f : FuncId) (fn : Func) (hf : Tryz.pinned.checked.prog.funcNamed "semigroup/semigrouptop.TopCayley" = some f) (hfn : Tryz.pinned.checked.prog.funcs[f]? = some fn) :
    false = Tryz.pinned.checked.prog.looks [] /\ ∀ (j : Nat) t, fn.params[j]? = some t -> Tryz.pinned.checked.prog.wantsStandIn t = false := by
  obtain rfl : f = 6 := Option.some.inj ((show Tryz.prog.funcNamed "semigroup/semigrouptop.TopCayley" = some 6 by kernel_rfl).symm.trans hf) |>.symm
  obtain rfl : fn = Tryz.f6 := (Option.some.inj (Tryz.func6.symm.trans hfn)).symm
  refine ⟨by kernel_rfl, fun j t ht => ?_⟩
  rw [Tryz.params6] at ht
  have ht2 : t = 22 ∨ t = 4 := by simpa using Array.mem_of_getElem? ht
  rcases ht2 with h | h
  · exact (congrArg (fun t => Tryz.pinned.checked.prog.wantsStandIn t) h).trans (show Tryz.pinned.checked.prog.wantsStandIn 22 = false by kernel_rfl)
  · exact (congrArg (fun t => Tryz.pinned.checked.prog.wantsStandIn t) h).trans (show Tryz.pinned.checked.prog.wantsStandIn 4 = false by kernel_rfl)
theorem proved : Rows.TopCayleyCardSaid :=
  Claim7.holds_tied_plain_at .later [] _ _ _ _ znF (fun _ h => by cases h) (by kernel_rfl) (fun _ h => by cases h) topCayley_row_tie rfl ⟨rfl, rfl⟩ (by kernel_rfl) rfl zlr (by kernel_rfl)
#print axioms proved
end Go.Proofs.YthbchhekejljjaaGreatDoor.topCayley
end
