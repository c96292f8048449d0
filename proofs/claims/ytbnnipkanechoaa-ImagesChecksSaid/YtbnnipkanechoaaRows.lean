/-
  No cell of these rows narrows 'for every input' (looked for: loops, veiled, ifaces, maps, wideKeys, modest, calm, conditions, laid).
  DERIVED. THE GIVEN ROWS OF THIS SEAT. 8 by the template 'for every input the law returns true; each argument reads behind the call as it read before'; 0 by the template 'total and deterministic' (their statements: YtbnnipkanechoaaTotals.lean).
  GIVEN WITH THE SEED: the statements are not yours to turn. If you find one false, say at which input.
  Laid BY PROGRAM, IN A SANDBOX (cutbox-rows.mjs): the forced cells as the released guide's own fill.sh prints them over the translation 1296cafbf983e348… (all of the seat's roots in one cut). By AI agents, Wed Nov 11 2026. No macro, syntax, notation, axiom, sorry.
-/
import Derived.Test.YtbnnipkanechoaaChecked
import GoSem.Claim
import GoSem.ClaimJoined
import GoSem.ClaimMapViews
import Derived.JoinedTies
import Derived.KernelRfl
namespace Go.Proofs.Ytbnnipkanechoaa
/- THE CELL 'sum', in the pinned program and in every row, IS THE sha256 OF THE DUMP (.gsa) THAT YtbnnipkanechoaaProg.lean LOADS. Nothing in Lean hashes anything: it is a label: what it is worth is what the hold of that sum in a sandbox is worth. -/
noncomputable def Try.pinned : Pinned := { name := "ytbnnipkanechoaa", sum := "1296cafbf983e348696a46df5f1ad44360c67b4d2488cd6643f91031172004d5", checked := Try.checked }
namespace Rows
def none {H : Type} : Left H := { results := [], args := [] }

/-- 'semigrouplaw24.ImagesOf': WHATEVER THE INPUT: true; the input reads as it did. -/
def imagesOfSpec : ChangeSpec := { name := "imagesOf", fn := fun _ => fun
  | [d] => { results := [.lit (.bool true)], args := [d] }
  | _ => none }
def imagesOfRow : OpenClaim := { program := "ytbnnipkanechoaa", sum := "1296cafbf983e348696a46df5f1ad44360c67b4d2488cd6643f91031172004d5", func := "semigroup/semigrouplaw24.ImagesOf", spec := "imagesOf", unfollowed := true, recurses := true, apart := false }
def ImagesOfSaid : Prop := imagesOfRow.holds Try.pinned (OpenSpec.ofChange imagesOfSpec)

/-- ITS FALSE NEIGHBOUR: 'it returns false'. Refute it at one input. -/
def imagesOfWrong : ChangeSpec := { name := "imagesOf", fn := fun _ => fun
  | [d] => { results := [.lit (.bool false)], args := [d] }
  | _ => none }
def ImagesOfWrongFalsely : Prop := imagesOfRow.holds Try.pinned (OpenSpec.ofChange imagesOfWrong)

/-- 'semigrouplaw24.ImagesCover': WHATEVER THE INPUT: true; the input reads as it did. -/
def imagesCoverSpec : ChangeSpec := { name := "imagesCover", fn := fun _ => fun
  | [d] => { results := [.lit (.bool true)], args := [d] }
  | _ => none }
def imagesCoverRow : OpenClaim := { program := "ytbnnipkanechoaa", sum := "1296cafbf983e348696a46df5f1ad44360c67b4d2488cd6643f91031172004d5", func := "semigroup/semigrouplaw24.ImagesCover", spec := "imagesCover", unfollowed := true, recurses := true, apart := false }
def ImagesCoverSaid : Prop := imagesCoverRow.holds Try.pinned (OpenSpec.ofChange imagesCoverSpec)

/-- ITS FALSE NEIGHBOUR: 'it returns false'. Refute it at one input. -/
def imagesCoverWrong : ChangeSpec := { name := "imagesCover", fn := fun _ => fun
  | [d] => { results := [.lit (.bool false)], args := [d] }
  | _ => none }
def ImagesCoverWrongFalsely : Prop := imagesCoverRow.holds Try.pinned (OpenSpec.ofChange imagesCoverWrong)

/-- 'semigrouplaw24.ImagesClasses': WHATEVER THE INPUT: true; the input reads as it did. -/
def imagesClassesSpec : ChangeSpec := { name := "imagesClasses", fn := fun _ => fun
  | [d] => { results := [.lit (.bool true)], args := [d] }
  | _ => none }
def imagesClassesRow : OpenClaim := { program := "ytbnnipkanechoaa", sum := "1296cafbf983e348696a46df5f1ad44360c67b4d2488cd6643f91031172004d5", func := "semigroup/semigrouplaw24.ImagesClasses", spec := "imagesClasses", unfollowed := true, recurses := true, apart := false }
def ImagesClassesSaid : Prop := imagesClassesRow.holds Try.pinned (OpenSpec.ofChange imagesClassesSpec)

/-- ITS FALSE NEIGHBOUR: 'it returns false'. Refute it at one input. -/
def imagesClassesWrong : ChangeSpec := { name := "imagesClasses", fn := fun _ => fun
  | [d] => { results := [.lit (.bool false)], args := [d] }
  | _ => none }
def ImagesClassesWrongFalsely : Prop := imagesClassesRow.holds Try.pinned (OpenSpec.ofChange imagesClassesWrong)

/-- 'semigrouplaw24.ImagesHeights': WHATEVER THE INPUT: true; the input reads as it did. -/
def imagesHeightsSpec : ChangeSpec := { name := "imagesHeights", fn := fun _ => fun
  | [d1, d2] => { results := [.lit (.bool true)], args := [d1, d2] }
  | _ => none }
def imagesHeightsRow : OpenClaim := { program := "ytbnnipkanechoaa", sum := "1296cafbf983e348696a46df5f1ad44360c67b4d2488cd6643f91031172004d5", func := "semigroup/semigrouplaw24.ImagesHeights", spec := "imagesHeights", unfollowed := true, recurses := true, apart := false }
def ImagesHeightsSaid : Prop := imagesHeightsRow.holds Try.pinned (OpenSpec.ofChange imagesHeightsSpec)

/-- ITS FALSE NEIGHBOUR: 'it returns false'. Refute it at one input. -/
def imagesHeightsWrong : ChangeSpec := { name := "imagesHeights", fn := fun _ => fun
  | [d1, d2] => { results := [.lit (.bool false)], args := [d1, d2] }
  | _ => none }
def ImagesHeightsWrongFalsely : Prop := imagesHeightsRow.holds Try.pinned (OpenSpec.ofChange imagesHeightsWrong)

/-- 'semigrouplaw24.ImagesChecks': WHATEVER THE INPUT: true; the input reads as it did. -/
def imagesChecksSpec : ChangeSpec := { name := "imagesChecks", fn := fun _ => fun
  | [d1, d2, d3, d4] => { results := [.lit (.bool true)], args := [d1, d2, d3, d4] }
  | _ => none }
def imagesChecksRow : OpenClaim := { program := "ytbnnipkanechoaa", sum := "1296cafbf983e348696a46df5f1ad44360c67b4d2488cd6643f91031172004d5", func := "semigroup/semigrouplaw24.ImagesChecks", spec := "imagesChecks", unfollowed := true, recurses := true, apart := false }
def ImagesChecksSaid : Prop := imagesChecksRow.holds Try.pinned (OpenSpec.ofChange imagesChecksSpec)

/-- ITS FALSE NEIGHBOUR: 'it returns false'. Refute it at one input. -/
def imagesChecksWrong : ChangeSpec := { name := "imagesChecks", fn := fun _ => fun
  | [d1, d2, d3, d4] => { results := [.lit (.bool false)], args := [d1, d2, d3, d4] }
  | _ => none }
def ImagesChecksWrongFalsely : Prop := imagesChecksRow.holds Try.pinned (OpenSpec.ofChange imagesChecksWrong)

/-- 'semigrouplaw24.ImagesQueries': WHATEVER THE INPUT: true; the input reads as it did. -/
def imagesQueriesSpec : ChangeSpec := { name := "imagesQueries", fn := fun _ => fun
  | [d1, d2, d3] => { results := [.lit (.bool true)], args := [d1, d2, d3] }
  | _ => none }
def imagesQueriesRow : OpenClaim := { program := "ytbnnipkanechoaa", sum := "1296cafbf983e348696a46df5f1ad44360c67b4d2488cd6643f91031172004d5", func := "semigroup/semigrouplaw24.ImagesQueries", spec := "imagesQueries", unfollowed := true, recurses := true, apart := false }
def ImagesQueriesSaid : Prop := imagesQueriesRow.holds Try.pinned (OpenSpec.ofChange imagesQueriesSpec)

/-- ITS FALSE NEIGHBOUR: 'it returns false'. Refute it at one input. -/
def imagesQueriesWrong : ChangeSpec := { name := "imagesQueries", fn := fun _ => fun
  | [d1, d2, d3] => { results := [.lit (.bool false)], args := [d1, d2, d3] }
  | _ => none }
def ImagesQueriesWrongFalsely : Prop := imagesQueriesRow.holds Try.pinned (OpenSpec.ofChange imagesQueriesWrong)

/-- 'semigrouplaw24.ImagesBelow': WHATEVER THE INPUT: true; the input reads as it did. -/
def imagesBelowSpec : ChangeSpec := { name := "imagesBelow", fn := fun _ => fun
  | [d1, d2, d3, d4] => { results := [.lit (.bool true)], args := [d1, d2, d3, d4] }
  | _ => none }
def imagesBelowRow : OpenClaim := { program := "ytbnnipkanechoaa", sum := "1296cafbf983e348696a46df5f1ad44360c67b4d2488cd6643f91031172004d5", func := "semigroup/semigrouplaw24.ImagesBelow", spec := "imagesBelow", unfollowed := true, recurses := true, apart := false }
def ImagesBelowSaid : Prop := imagesBelowRow.holds Try.pinned (OpenSpec.ofChange imagesBelowSpec)

/-- ITS FALSE NEIGHBOUR: 'it returns false'. Refute it at one input. -/
def imagesBelowWrong : ChangeSpec := { name := "imagesBelow", fn := fun _ => fun
  | [d1, d2, d3, d4] => { results := [.lit (.bool false)], args := [d1, d2, d3, d4] }
  | _ => none }
def ImagesBelowWrongFalsely : Prop := imagesBelowRow.holds Try.pinned (OpenSpec.ofChange imagesBelowWrong)

/-- 'semigrouplaw24.ImagesRaw': WHATEVER THE INPUT: true; the input reads as it did. -/
def imagesRawSpec : ChangeSpec := { name := "imagesRaw", fn := fun _ => fun
  | [d1, d2, d3, d4, d5] => { results := [.lit (.bool true)], args := [d1, d2, d3, d4, d5] }
  | _ => none }
def imagesRawRow : OpenClaim := { program := "ytbnnipkanechoaa", sum := "1296cafbf983e348696a46df5f1ad44360c67b4d2488cd6643f91031172004d5", func := "semigroup/semigrouplaw24.ImagesRaw", spec := "imagesRaw", unfollowed := true, recurses := true, apart := false }
def ImagesRawSaid : Prop := imagesRawRow.holds Try.pinned (OpenSpec.ofChange imagesRawSpec)

/-- ITS FALSE NEIGHBOUR: 'it returns false'. Refute it at one input. -/
def imagesRawWrong : ChangeSpec := { name := "imagesRaw", fn := fun _ => fun
  | [d1, d2, d3, d4, d5] => { results := [.lit (.bool false)], args := [d1, d2, d3, d4, d5] }
  | _ => none }
def ImagesRawWrongFalsely : Prop := imagesRawRow.holds Try.pinned (OpenSpec.ofChange imagesRawWrong)

/- THE SECOND FORM. 'bulk': how many values and letters a reading holds, each counted each time it is reached (what is shared counts as often as it is met; a slice's spare places count too). A statement '..UptoSaid' is the law's where the arguments, and the package variables that the reading takes, are together of bulk at most 1048576: NARROWER than '..Said'. Prove '..Said' where nothing that the law and all that it calls make is longer than what came in: it says more and counts as full. Else prove '..UptoSaid'. A law counts once. -/
mutual
def uptoBulk {H : Type} : DataW H → Nat
  | .lit (.string bytes) => bytes.length + 1
  | .lit _ => 1
  | .nil => 1
  | .ptr d => uptoBulk d + 1
  | .slice elems spare => uptoBulkAll elems + uptoBulkAll spare + 1
  | .agg parts => uptoBulkAll parts + 1
  | .iface _ d => uptoBulk d + 1
  | .map entries => uptoBulkEntries entries + 1
  | .held _ => 1
def uptoBulkAll {H : Type} : List (DataW H) → Nat
  | [] => 0
  | d :: r => uptoBulk d + uptoBulkAll r
def uptoBulkEntries {H : Type} : List (Lit × DataW H) → Nat
  | [] => 0
  | x :: r => uptoBulkEntry x + uptoBulkEntries r
def uptoBulkEntry {H : Type} : Lit × DataW H → Nat
  | (.string bytes, d) => bytes.length + uptoBulk d + 1
  | (_, d) => uptoBulk d + 1
 end
def uptoSmall : (H : Type) → List (DataW H) → Bool := fun _ ds => decide (uptoBulkAll ds ≤ 1048576)
def OpenSpec.upto (s : _root_.Go.ChangeSpec) : _root_.Go.OpenSpec := { _root_.Go.OpenSpec.ofChange s with cond := some uptoSmall }

/-- 'semigrouplaw24.ImagesOf', WHERE WHAT IT READS IS OF BULK AT MOST 1048576: true; the input reads as it did. -/
def imagesOfUptoRow : OpenClaim := { program := "ytbnnipkanechoaa", sum := "1296cafbf983e348696a46df5f1ad44360c67b4d2488cd6643f91031172004d5", func := "semigroup/semigrouplaw24.ImagesOf", spec := "imagesOf", unfollowed := true, recurses := true, apart := false, narrowed := true }
def ImagesOfUptoSaid : Prop := imagesOfUptoRow.holds Try.pinned (OpenSpec.upto imagesOfSpec)

/-- 'semigrouplaw24.ImagesCover', WHERE WHAT IT READS IS OF BULK AT MOST 1048576: true; the input reads as it did. -/
def imagesCoverUptoRow : OpenClaim := { program := "ytbnnipkanechoaa", sum := "1296cafbf983e348696a46df5f1ad44360c67b4d2488cd6643f91031172004d5", func := "semigroup/semigrouplaw24.ImagesCover", spec := "imagesCover", unfollowed := true, recurses := true, apart := false, narrowed := true }
def ImagesCoverUptoSaid : Prop := imagesCoverUptoRow.holds Try.pinned (OpenSpec.upto imagesCoverSpec)

/-- 'semigrouplaw24.ImagesClasses', WHERE WHAT IT READS IS OF BULK AT MOST 1048576: true; the input reads as it did. -/
def imagesClassesUptoRow : OpenClaim := { program := "ytbnnipkanechoaa", sum := "1296cafbf983e348696a46df5f1ad44360c67b4d2488cd6643f91031172004d5", func := "semigroup/semigrouplaw24.ImagesClasses", spec := "imagesClasses", unfollowed := true, recurses := true, apart := false, narrowed := true }
def ImagesClassesUptoSaid : Prop := imagesClassesUptoRow.holds Try.pinned (OpenSpec.upto imagesClassesSpec)

/-- 'semigrouplaw24.ImagesHeights', WHERE WHAT IT READS IS OF BULK AT MOST 1048576: true; the input reads as it did. -/
def imagesHeightsUptoRow : OpenClaim := { program := "ytbnnipkanechoaa", sum := "1296cafbf983e348696a46df5f1ad44360c67b4d2488cd6643f91031172004d5", func := "semigroup/semigrouplaw24.ImagesHeights", spec := "imagesHeights", unfollowed := true, recurses := true, apart := false, narrowed := true }
def ImagesHeightsUptoSaid : Prop := imagesHeightsUptoRow.holds Try.pinned (OpenSpec.upto imagesHeightsSpec)

/-- 'semigrouplaw24.ImagesChecks', WHERE WHAT IT READS IS OF BULK AT MOST 1048576: true; the input reads as it did. -/
def imagesChecksUptoRow : OpenClaim := { program := "ytbnnipkanechoaa", sum := "1296cafbf983e348696a46df5f1ad44360c67b4d2488cd6643f91031172004d5", func := "semigroup/semigrouplaw24.ImagesChecks", spec := "imagesChecks", unfollowed := true, recurses := true, apart := false, narrowed := true }
def ImagesChecksUptoSaid : Prop := imagesChecksUptoRow.holds Try.pinned (OpenSpec.upto imagesChecksSpec)

/-- 'semigrouplaw24.ImagesQueries', WHERE WHAT IT READS IS OF BULK AT MOST 1048576: true; the input reads as it did. -/
def imagesQueriesUptoRow : OpenClaim := { program := "ytbnnipkanechoaa", sum := "1296cafbf983e348696a46df5f1ad44360c67b4d2488cd6643f91031172004d5", func := "semigroup/semigrouplaw24.ImagesQueries", spec := "imagesQueries", unfollowed := true, recurses := true, apart := false, narrowed := true }
def ImagesQueriesUptoSaid : Prop := imagesQueriesUptoRow.holds Try.pinned (OpenSpec.upto imagesQueriesSpec)

/-- 'semigrouplaw24.ImagesBelow', WHERE WHAT IT READS IS OF BULK AT MOST 1048576: true; the input reads as it did. -/
def imagesBelowUptoRow : OpenClaim := { program := "ytbnnipkanechoaa", sum := "1296cafbf983e348696a46df5f1ad44360c67b4d2488cd6643f91031172004d5", func := "semigroup/semigrouplaw24.ImagesBelow", spec := "imagesBelow", unfollowed := true, recurses := true, apart := false, narrowed := true }
def ImagesBelowUptoSaid : Prop := imagesBelowUptoRow.holds Try.pinned (OpenSpec.upto imagesBelowSpec)

/-- 'semigrouplaw24.ImagesRaw', WHERE WHAT IT READS IS OF BULK AT MOST 1048576: true; the input reads as it did. -/
def imagesRawUptoRow : OpenClaim := { program := "ytbnnipkanechoaa", sum := "1296cafbf983e348696a46df5f1ad44360c67b4d2488cd6643f91031172004d5", func := "semigroup/semigrouplaw24.ImagesRaw", spec := "imagesRaw", unfollowed := true, recurses := true, apart := false, narrowed := true }
def ImagesRawUptoSaid : Prop := imagesRawUptoRow.holds Try.pinned (OpenSpec.upto imagesRawSpec)

end Rows
end Go.Proofs.Ytbnnipkanechoaa
