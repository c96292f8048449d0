/-
  No cell of these rows narrows 'for every input' (looked for: loops, veiled, ifaces, maps, wideKeys, modest, calm, conditions, laid).
  DERIVED. THE GIVEN ROWS OF THIS SEAT. 3 by the template 'for every input the law returns true; each argument reads behind the call as it read before'; 0 by the template 'total and deterministic' (their statements: YtodliknibbafeaaTotals.lean).
  GIVEN WITH THE SEED: the statements are not yours to turn. If you find one false, say at which input.
  Laid BY PROGRAM, IN A SANDBOX (cutbox-rows.mjs): the forced cells as the released guide's own fill.sh prints them over the translation c81af6a34781fd7a… (all of the seat's roots in one cut). By AI agents, Wed Nov 11 2026. No macro, syntax, notation, axiom, sorry.
-/
import Derived.Test.YtodliknibbafeaaChecked
import GoSem.Claim
import GoSem.ClaimJoined
import GoSem.ClaimMapViews
import Derived.JoinedTies
import Derived.KernelRfl
namespace Go.Proofs.Ytodliknibbafeaa
/- THE CELL 'sum', in the pinned program and in every row, IS THE sha256 OF THE DUMP (.gsa) THAT YtodliknibbafeaaProg.lean LOADS. Nothing in Lean hashes anything: it is a label: what it is worth is what the hold of that sum in a sandbox is worth. -/
noncomputable def Try.pinned : Pinned := { name := "ytodliknibbafeaa", sum := "c81af6a34781fd7a5ad9342e9b2afa968cf2a00b35dbd66c7160dc43cb7422e8", checked := Try.checked }
namespace Rows
def none {H : Type} : Left H := { results := [], args := [] }

/-- 'semigrouplaw25.HolonomyOf': WHATEVER THE INPUT: true; the input reads as it did. -/
def holonomyOfSpec : ChangeSpec := { name := "holonomyOf", fn := fun _ => fun
  | [d] => { results := [.lit (.bool true)], args := [d] }
  | _ => none }
def holonomyOfRow : OpenClaim := { program := "ytodliknibbafeaa", sum := "c81af6a34781fd7a5ad9342e9b2afa968cf2a00b35dbd66c7160dc43cb7422e8", func := "semigroup/semigrouplaw25.HolonomyOf", spec := "holonomyOf", unfollowed := true, recurses := true, apart := false }
def HolonomyOfSaid : Prop := holonomyOfRow.holds Try.pinned (OpenSpec.ofChange holonomyOfSpec)

/-- ITS FALSE NEIGHBOUR: 'it returns false'. Refute it at one input. -/
def holonomyOfWrong : ChangeSpec := { name := "holonomyOf", fn := fun _ => fun
  | [d] => { results := [.lit (.bool false)], args := [d] }
  | _ => none }
def HolonomyOfWrongFalsely : Prop := holonomyOfRow.holds Try.pinned (OpenSpec.ofChange holonomyOfWrong)

/-- 'semigrouplaw25.HolonomyOrdered': WHATEVER THE INPUT: true; the input reads as it did. -/
def holonomyOrderedSpec : ChangeSpec := { name := "holonomyOrdered", fn := fun _ => fun
  | [d] => { results := [.lit (.bool true)], args := [d] }
  | _ => none }
def holonomyOrderedRow : OpenClaim := { program := "ytodliknibbafeaa", sum := "c81af6a34781fd7a5ad9342e9b2afa968cf2a00b35dbd66c7160dc43cb7422e8", func := "semigroup/semigrouplaw25.HolonomyOrdered", spec := "holonomyOrdered", unfollowed := true, recurses := true, apart := false }
def HolonomyOrderedSaid : Prop := holonomyOrderedRow.holds Try.pinned (OpenSpec.ofChange holonomyOrderedSpec)

/-- ITS FALSE NEIGHBOUR: 'it returns false'. Refute it at one input. -/
def holonomyOrderedWrong : ChangeSpec := { name := "holonomyOrdered", fn := fun _ => fun
  | [d] => { results := [.lit (.bool false)], args := [d] }
  | _ => none }
def HolonomyOrderedWrongFalsely : Prop := holonomyOrderedRow.holds Try.pinned (OpenSpec.ofChange holonomyOrderedWrong)

/-- 'semigrouplaw25.HolonomyChecks': WHATEVER THE INPUT: true; the input reads as it did. -/
def holonomyChecksSpec : ChangeSpec := { name := "holonomyChecks", fn := fun _ => fun
  | [d1, d2, d3, d4] => { results := [.lit (.bool true)], args := [d1, d2, d3, d4] }
  | _ => none }
def holonomyChecksRow : OpenClaim := { program := "ytodliknibbafeaa", sum := "c81af6a34781fd7a5ad9342e9b2afa968cf2a00b35dbd66c7160dc43cb7422e8", func := "semigroup/semigrouplaw25.HolonomyChecks", spec := "holonomyChecks", unfollowed := true, recurses := true, apart := false }
def HolonomyChecksSaid : Prop := holonomyChecksRow.holds Try.pinned (OpenSpec.ofChange holonomyChecksSpec)

/-- ITS FALSE NEIGHBOUR: 'it returns false'. Refute it at one input. -/
def holonomyChecksWrong : ChangeSpec := { name := "holonomyChecks", fn := fun _ => fun
  | [d1, d2, d3, d4] => { results := [.lit (.bool false)], args := [d1, d2, d3, d4] }
  | _ => none }
def HolonomyChecksWrongFalsely : Prop := holonomyChecksRow.holds Try.pinned (OpenSpec.ofChange holonomyChecksWrong)

/- THE SECOND FORM. 'bulk': how many values and letters a reading holds, each counted each time it is reached (what is shared counts as often as it is met; a slice's spare places count too). A statement '..UptoSaid' is the law's where the arguments, and the package variables that the reading takes, are together of bulk at most 1048576: NARROWER than '..Said'. Prove '..Said' where nothing that the law and all that it calls make is longer than what came in: it says more and counts as full. Else prove '..UptoSaid'. A law counts once. -/
mutual
def uptoBulk {H : Type} : DataW H → Nat
  | .lit (.string bytes) => bytes.length + 1
  | .lit _ => 1
  | .nil => 1
  | .ptr d => uptoBulk d + 1
  | .slice elems spare => uptoBulkAll elems + uptoBulkAll spare + 1
  | .agg parts => uptoBulkAll parts + 1
  | .iface _ d => uptoBulk d + 1
  | .map entries => uptoBulkEntries entries + 1
  | .held _ => 1
def uptoBulkAll {H : Type} : List (DataW H) → Nat
  | [] => 0
  | d :: r => uptoBulk d + uptoBulkAll r
def uptoBulkEntries {H : Type} : List (Lit × DataW H) → Nat
  | [] => 0
  | x :: r => uptoBulkEntry x + uptoBulkEntries r
def uptoBulkEntry {H : Type} : Lit × DataW H → Nat
  | (.string bytes, d) => bytes.length + uptoBulk d + 1
  | (_, d) => uptoBulk d + 1
 end
def uptoSmall : (H : Type) → List (DataW H) → Bool := fun _ ds => decide (uptoBulkAll ds ≤ 1048576)
def OpenSpec.upto (s : _root_.Go.ChangeSpec) : _root_.Go.OpenSpec := { _root_.Go.OpenSpec.ofChange s with cond := some uptoSmall }

/-- 'semigrouplaw25.HolonomyOf', WHERE WHAT IT READS IS OF BULK AT MOST 1048576: true; the input reads as it did. -/
def holonomyOfUptoRow : OpenClaim := { program := "ytodliknibbafeaa", sum := "c81af6a34781fd7a5ad9342e9b2afa968cf2a00b35dbd66c7160dc43cb7422e8", func := "semigroup/semigrouplaw25.HolonomyOf", spec := "holonomyOf", unfollowed := true, recurses := true, apart := false, narrowed := true }
def HolonomyOfUptoSaid : Prop := holonomyOfUptoRow.holds Try.pinned (OpenSpec.upto holonomyOfSpec)

/-- 'semigrouplaw25.HolonomyOrdered', WHERE WHAT IT READS IS OF BULK AT MOST 1048576: true; the input reads as it did. -/
def holonomyOrderedUptoRow : OpenClaim := { program := "ytodliknibbafeaa", sum := "c81af6a34781fd7a5ad9342e9b2afa968cf2a00b35dbd66c7160dc43cb7422e8", func := "semigroup/semigrouplaw25.HolonomyOrdered", spec := "holonomyOrdered", unfollowed := true, recurses := true, apart := false, narrowed := true }
def HolonomyOrderedUptoSaid : Prop := holonomyOrderedUptoRow.holds Try.pinned (OpenSpec.upto holonomyOrderedSpec)

/-- 'semigrouplaw25.HolonomyChecks', WHERE WHAT IT READS IS OF BULK AT MOST 1048576: true; the input reads as it did. -/
def holonomyChecksUptoRow : OpenClaim := { program := "ytodliknibbafeaa", sum := "c81af6a34781fd7a5ad9342e9b2afa968cf2a00b35dbd66c7160dc43cb7422e8", func := "semigroup/semigrouplaw25.HolonomyChecks", spec := "holonomyChecks", unfollowed := true, recurses := true, apart := false, narrowed := true }
def HolonomyChecksUptoSaid : Prop := holonomyChecksUptoRow.holds Try.pinned (OpenSpec.upto holonomyChecksSpec)

end Rows
end Go.Proofs.Ytodliknibbafeaa
