/- Proved here: the law WordSuccessors returns true for every input, and its arguments read afterwards as before. No condition. -/
import Derived.Test.YtndgafhdeddbjaaSucc
import Derived.Test.YtndgafhdeddbjaaFacts
import Derived.WalkKit
import Derived.ProofKit
import Derived.OpenShut
import Derived.ShutString
import Derived.ChangeOld
import Derived.Below
namespace Go.Proofs.Ytndgafhdeddbjaa.wordSuccessors
open Go.ChangeShapes Go.WideShapes Go.ChangeAt Go.RowKit
open Go.ChangeMaps (open_string shut_string)
set_option linter.unusedVariables false

set_option maxHeartbeats 4000000 in
theorem facts : joinedFacts Try.checked.prog 15 Try.f15 Rows.wordSuccessorsSpec Rows.wordSuccessorsRow = true :=
  (band (band (band (band (band (band (band (band (band (band (band (band (band (band (band (band (band (band (band (band (band (band (band (band (band (band (band (band (band (band (band (by as_aux_lemma => kernel_rfl)
    Try.fLaid)
    Try.fMaps)
    (by as_aux_lemma => kernel_rfl))
    (by as_aux_lemma => kernel_rfl))
    (by as_aux_lemma => kernel_rfl))
    (by rw [Try.fStops]; rfl))
    (by as_aux_lemma => kernel_rfl))
    (by rw [Try.fStopKnobs]; rfl))
    (by as_aux_lemma => kernel_rfl))
    (by as_aux_lemma => kernel_rfl))
    (by as_aux_lemma => kernel_rfl))
    (by as_aux_lemma => kernel_rfl))
    (by as_aux_lemma => kernel_rfl))
    (by as_aux_lemma => kernel_rfl))
    (by as_aux_lemma => kernel_rfl))
    (by as_aux_lemma => kernel_rfl))
    (by as_aux_lemma => kernel_rfl))
    (by as_aux_lemma => kernel_rfl))
    (by as_aux_lemma => kernel_rfl))
    (by as_aux_lemma => kernel_rfl))
    (by as_aux_lemma => kernel_rfl))
    (by rw [Try.fPlainKeys]; rfl))
    (by as_aux_lemma => kernel_rfl))
    Try.fHeard)
    Try.fMayEnter)
    (by rw [Try.fLifts]; rfl))
    (by rw [Try.fMake]; rfl))
    (by as_aux_lemma => kernel_rfl))
    (by as_aux_lemma => kernel_rfl))
    (by as_aux_lemma => kernel_rfl))
    (by as_aux_lemma => kernel_rfl))

set_option maxRecDepth 100000 in
theorem lifted (os : Os) (started : os.Started) (H : Type) (enc : TypeId × Value → H) :
    ReturnsInHanded {} Try.checked os 15 .any (Rows.wordSuccessorsSpec.pre6 enc Try.prog Try.f15 Rows.wordSuccessorsRow.domain false) (Rows.wordSuccessorsSpec.post enc Try.prog Try.f15 false true false false) := by
  refine returnsInHanded_of_change (C := Try.checked) Try.fOwn started (by kernel_rfl) Try.func15
    (ChangeSpec.witness6 (enc := enc) (C := Try.checked) false ⟨#[], #[.int .i64 0, .int .i64 0, .string ByteArray.empty], []⟩ 8 (by kernel_rfl) (by kernel_rfl) (by kernel_rfl) (by kernel_rfl)) ?_
  intro W base args ds gs before hval0 hW hcnd _
  have hval : ∀ (j : Nat) t v, Try.f15.params[j]? = some t → args[j]? = some v → Value.okWide Try.prog W .any base t v := hval0
  have hW' := hW
  obtain ⟨p, q, hA0, hV, rfl, hfz, hnd⟩ := hW
  have hA : DataW.TrodAll enc Try.prog W 0 (fun _ => true) true Try.f15.params.toList args.toList ds p := hA0
  rw [Try.params15] at hA hval
  obtain ⟨v0, vs0, d0, ds0, p0, q0, hargs, rfl, rfl, h0, r0⟩ := trodAll_cons hA
  obtain ⟨v1, vs1, d1, ds1, p1, q1, rfl, rfl, rfl, h1, r1⟩ := trodAll_cons r0
  obtain ⟨v2, vs2, d2, ds2, p2, q2, rfl, rfl, rfl, h2, r2⟩ := trodAll_cons r1
  obtain ⟨rfl, rfl, rfl⟩ := trodAll_nil r2
  obtain rfl : args = #[v0, v1, v2] := by cases args; simp_all
  obtain ⟨rfl, rfl⟩ := trodVars_none hV
  obtain ⟨a0, rfl, rfl, rfl, w0⟩ := open_int Try.underlying3 (hval 0 3 v0 rfl rfl) h0
  obtain ⟨a1, rfl, rfl, rfl, w1⟩ := open_int Try.underlying3 (hval 1 3 v1 rfl rfl) h1
  obtain ⟨a2, rfl, rfl, rfl, w2⟩ := open_string Try.underlying9 (hval 2 9 v2 rfl rfl) h2
  clear hA0 hval0
  refine (WordSuccessors_walk a0 a1 a2 W w0 w1 w2).mono fun e W' ⟨he, bel⟩ => ?_
  subst he
  exact ⟨_, rfl, _, _, _, [], _, [], hW', trodAll_mk1 (shut_bool Try.underlying4 _), (trodAll_cons_mk (shut_int Try.underlying3 w0) (trodAll_cons_mk (shut_int Try.underlying3 w1) (trodAll_cons_mk (shut_string Try.underlying9 w2) trodAll_mk0))), rfl, bel.frame _, fun h => by cases h⟩

theorem over : Rows.wordSuccessorsRow.holds Try.pinned (OpenSpec.ofChange Rows.wordSuccessorsSpec) :=
  OpenClaim.holds_of_wide 15 Try.f15 rfl rfl rfl rfl rfl rfl rfl ⟨rfl, rfl, rfl, rfl, rfl⟩ rfl rfl rfl rfl rfl (by kernel_rfl) Try.func15 facts
    (of_decide_eq_true (by kernel_rfl)) (by unfold Func.isWrapper; first | (rw [if_pos (by decide +kernel)]; kernel_rfl) | (rw [if_neg (by decide +kernel)]; exact ⟨rfl, rfl⟩))
    (fun os started H enc _ => lifted os started H enc)

/-- The given statement. -/
theorem proved : Rows.WordSuccessorsSaid :=
  over
#print axioms proved
end Go.Proofs.Ytndgafhdeddbjaa.wordSuccessors
