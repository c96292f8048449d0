/-
  No cell of these rows narrows 'for every input' (looked for: loops, veiled, ifaces, maps, wideKeys, modest, calm, conditions, laid).
  DERIVED. THE GIVEN ROWS OF THIS SEAT. 3 by the template 'for every input the law returns true; each argument reads behind the call as it read before'; 0 by the template 'total and deterministic' (their statements: YtodliknibbafeaaGreatTotals.lean).
  GIVEN WITH THE SEED: the statements are not yours to turn. If you find one false, say at which input.
  Laid BY PROGRAM, IN A SANDBOX (cutbox-rows.mjs): the forced cells as the released guide's own fill.sh prints them over the translation 6a030577adac46a5… (all of the seat's roots in one cut). By AI agents, Wed Nov 11 2026. No macro, syntax, notation, axiom, sorry.
-/
import Derived.Test.YtodliknibbafeaaGreatChecked
import GoSem.Claim
import GoSem.ClaimJoined
import GoSem.ClaimMapViews
import Derived.JoinedTies
import Derived.KernelRfl
namespace Go.Proofs.YtodliknibbafeaaGreat
/- THE CELL 'sum', in the pinned program and in every row, IS THE sha256 OF THE DUMP (.gsa) THAT YtodliknibbafeaaGreatProg.lean LOADS. Nothing in Lean hashes anything: it is a label: what it is worth is what the hold of that sum in a sandbox is worth. -/
noncomputable def Tryz.pinned : Pinned := { name := "ytodliknibbafeaagreat", sum := "6a030577adac46a5b391b62588820c90806b43a4699111c064b33c5d298eb4be", checked := Tryz.checked }
namespace Rows
def none {H : Type} : Left H := { results := [], args := [] }

/-- 'semigrouplaw25.HolonomyElements': WHATEVER THE INPUT: true; the input reads as it did. -/
def holonomyElementsSpec : ChangeSpec := { name := "holonomyElements", fn := fun _ => fun
  | [d] => { results := [.lit (.bool true)], args := [d] }
  | _ => none }
def holonomyElementsRow : OpenClaim := { program := "ytodliknibbafeaagreat", sum := "6a030577adac46a5b391b62588820c90806b43a4699111c064b33c5d298eb4be", func := "semigroup/semigrouplaw25.HolonomyElements", spec := "holonomyElements", unfollowed := true, recurses := true, apart := false }
def HolonomyElementsSaid : Prop := holonomyElementsRow.holds Tryz.pinned (OpenSpec.ofChange holonomyElementsSpec)

/-- ITS FALSE NEIGHBOUR: 'it returns false'. Refute it at one input. -/
def holonomyElementsWrong : ChangeSpec := { name := "holonomyElements", fn := fun _ => fun
  | [d] => { results := [.lit (.bool false)], args := [d] }
  | _ => none }
def HolonomyElementsWrongFalsely : Prop := holonomyElementsRow.holds Tryz.pinned (OpenSpec.ofChange holonomyElementsWrong)

/-- 'semigrouplaw25.HolonomyClosed': WHATEVER THE INPUT: true; the input reads as it did. -/
def holonomyClosedSpec : ChangeSpec := { name := "holonomyClosed", fn := fun _ => fun
  | [d1, d2, d3] => { results := [.lit (.bool true)], args := [d1, d2, d3] }
  | _ => none }
def holonomyClosedRow : OpenClaim := { program := "ytodliknibbafeaagreat", sum := "6a030577adac46a5b391b62588820c90806b43a4699111c064b33c5d298eb4be", func := "semigroup/semigrouplaw25.HolonomyClosed", spec := "holonomyClosed", unfollowed := true, recurses := true, apart := false }
def HolonomyClosedSaid : Prop := holonomyClosedRow.holds Tryz.pinned (OpenSpec.ofChange holonomyClosedSpec)

/-- ITS FALSE NEIGHBOUR: 'it returns false'. Refute it at one input. -/
def holonomyClosedWrong : ChangeSpec := { name := "holonomyClosed", fn := fun _ => fun
  | [d1, d2, d3] => { results := [.lit (.bool false)], args := [d1, d2, d3] }
  | _ => none }
def HolonomyClosedWrongFalsely : Prop := holonomyClosedRow.holds Tryz.pinned (OpenSpec.ofChange holonomyClosedWrong)

/-- 'semigrouplaw25.HolonomyWords': WHATEVER THE INPUT: true; the input reads as it did. -/
def holonomyWordsSpec : ChangeSpec := { name := "holonomyWords", fn := fun _ => fun
  | [d1, d2] => { results := [.lit (.bool true)], args := [d1, d2] }
  | _ => none }
def holonomyWordsRow : OpenClaim := { program := "ytodliknibbafeaagreat", sum := "6a030577adac46a5b391b62588820c90806b43a4699111c064b33c5d298eb4be", func := "semigroup/semigrouplaw25.HolonomyWords", spec := "holonomyWords", unfollowed := true, recurses := true, apart := false }
def HolonomyWordsSaid : Prop := holonomyWordsRow.holds Tryz.pinned (OpenSpec.ofChange holonomyWordsSpec)

/-- ITS FALSE NEIGHBOUR: 'it returns false'. Refute it at one input. -/
def holonomyWordsWrong : ChangeSpec := { name := "holonomyWords", fn := fun _ => fun
  | [d1, d2] => { results := [.lit (.bool false)], args := [d1, d2] }
  | _ => none }
def HolonomyWordsWrongFalsely : Prop := holonomyWordsRow.holds Tryz.pinned (OpenSpec.ofChange holonomyWordsWrong)

/- THE SECOND FORM. 'bulk': how many values and letters a reading holds, each counted each time it is reached (what is shared counts as often as it is met; a slice's spare places count too). A statement '..UptoSaid' is the law's where the arguments, and the package variables that the reading takes, are together of bulk at most 1048576: NARROWER than '..Said'. Prove '..Said' where nothing that the law and all that it calls make is longer than what came in: it says more and counts as full. Else prove '..UptoSaid'. A law counts once. -/
mutual
def uptoBulk {H : Type} : DataW H → Nat
  | .lit (.string bytes) => bytes.length + 1
  | .lit _ => 1
  | .nil => 1
  | .ptr d => uptoBulk d + 1
  | .slice elems spare => uptoBulkAll elems + uptoBulkAll spare + 1
  | .agg parts => uptoBulkAll parts + 1
  | .iface _ d => uptoBulk d + 1
  | .map entries => uptoBulkEntries entries + 1
  | .held _ => 1
def uptoBulkAll {H : Type} : List (DataW H) → Nat
  | [] => 0
  | d :: r => uptoBulk d + uptoBulkAll r
def uptoBulkEntries {H : Type} : List (Lit × DataW H) → Nat
  | [] => 0
  | x :: r => uptoBulkEntry x + uptoBulkEntries r
def uptoBulkEntry {H : Type} : Lit × DataW H → Nat
  | (.string bytes, d) => bytes.length + uptoBulk d + 1
  | (_, d) => uptoBulk d + 1
 end
def uptoSmall : (H : Type) → List (DataW H) → Bool := fun _ ds => decide (uptoBulkAll ds ≤ 1048576)
def OpenSpec.upto (s : _root_.Go.ChangeSpec) : _root_.Go.OpenSpec := { _root_.Go.OpenSpec.ofChange s with cond := some uptoSmall }

/-- 'semigrouplaw25.HolonomyElements', WHERE WHAT IT READS IS OF BULK AT MOST 1048576: true; the input reads as it did. -/
def holonomyElementsUptoRow : OpenClaim := { program := "ytodliknibbafeaagreat", sum := "6a030577adac46a5b391b62588820c90806b43a4699111c064b33c5d298eb4be", func := "semigroup/semigrouplaw25.HolonomyElements", spec := "holonomyElements", unfollowed := true, recurses := true, apart := false, narrowed := true }
def HolonomyElementsUptoSaid : Prop := holonomyElementsUptoRow.holds Tryz.pinned (OpenSpec.upto holonomyElementsSpec)

/-- 'semigrouplaw25.HolonomyClosed', WHERE WHAT IT READS IS OF BULK AT MOST 1048576: true; the input reads as it did. -/
def holonomyClosedUptoRow : OpenClaim := { program := "ytodliknibbafeaagreat", sum := "6a030577adac46a5b391b62588820c90806b43a4699111c064b33c5d298eb4be", func := "semigroup/semigrouplaw25.HolonomyClosed", spec := "holonomyClosed", unfollowed := true, recurses := true, apart := false, narrowed := true }
def HolonomyClosedUptoSaid : Prop := holonomyClosedUptoRow.holds Tryz.pinned (OpenSpec.upto holonomyClosedSpec)

/-- 'semigrouplaw25.HolonomyWords', WHERE WHAT IT READS IS OF BULK AT MOST 1048576: true; the input reads as it did. -/
def holonomyWordsUptoRow : OpenClaim := { program := "ytodliknibbafeaagreat", sum := "6a030577adac46a5b391b62588820c90806b43a4699111c064b33c5d298eb4be", func := "semigroup/semigrouplaw25.HolonomyWords", spec := "holonomyWords", unfollowed := true, recurses := true, apart := false, narrowed := true }
def HolonomyWordsUptoSaid : Prop := holonomyWordsUptoRow.holds Tryz.pinned (OpenSpec.upto holonomyWordsSpec)

end Rows
end Go.Proofs.YtodliknibbafeaaGreat
