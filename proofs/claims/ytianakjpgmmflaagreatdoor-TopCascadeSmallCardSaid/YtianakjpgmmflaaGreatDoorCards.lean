/-
  DERIVED. GIVEN WITH THE SEED: THE CARDS: each row of YtianakjpgmmflaaGreatDoorRows.lean that lists a variable, with what it lists TIED to the program's text (the seventh form; the later family's looks); each row that meets fmt, with fmt's text TOLD by the authors' own Lean function (tested against real Go, not proved from fmt's source: count such statements apart). THE CARD IS WHAT COUNTS. Prove the row's statement (the work); the ties are given (YtianakjpgmmflaaGreatDoorTie.lean); close each card by the builder's one call (the guide's Derived/Test/ToyasCard.lean, 'card_holds'). Laid BY PROGRAM, IN A SANDBOX (cutbox-door.mjs). By AI agents, Wed Nov 11 2026. No macro, syntax, notation, axiom, sorry.
-/
import Derived.Test.YtianakjpgmmflaaGreatDoorRows
import GoSem.ClaimSeven
namespace Go.Proofs.YtianakjpgmmflaaGreatDoor
namespace Rows

/-- THE TIED CARD OF 'semigrouptop.TopCascadeSmall'. -/
def topCascadeSmallCard : Claim7 := { stood := { row := topCascadeSmallRow, standIns := [], harness := (true, "62abfb0a61e59271e013754f4d48934bdc88884947e5df479e64f115b11cebff"), looks := false }, kinds := [], alts := [], laidByText := true, laidKinds := [.data, .data], laidTests := true, laidLooks := .later }
def TopCascadeSmallCardSaid : Prop := Claim7.holds Tryz.pinned (.plain (OpenSpec.ofChange topCascadeSmallSpec)) topCascadeSmallCard

/-- THE SECOND FORM's CARD OF 'semigrouptop.TopCascadeSmall'. -/
def topCascadeSmallUptoCard : Claim7 := { stood := { row := topCascadeSmallUptoRow, standIns := [], harness := (true, "62abfb0a61e59271e013754f4d48934bdc88884947e5df479e64f115b11cebff"), looks := false }, kinds := [], alts := [], laidByText := true, laidKinds := [.data, .data], laidTests := true, laidLooks := .later }
def TopCascadeSmallUptoCardSaid : Prop := Claim7.holds Tryz.pinned (.plain (OpenSpec.upto topCascadeSmallSpec)) topCascadeSmallUptoCard
end Rows
end Go.Proofs.YtianakjpgmmflaaGreatDoor
