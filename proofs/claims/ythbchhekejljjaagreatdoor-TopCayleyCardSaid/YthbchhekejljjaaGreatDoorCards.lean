/-
  DERIVED. GIVEN WITH THE SEED: THE CARDS: each row of YthbchhekejljjaaGreatDoorRows.lean that lists a variable, with what it lists TIED to the program's text (the seventh form; the later family's looks); each row that meets fmt, with fmt's text TOLD by the authors' own Lean function (tested against real Go, not proved from fmt's source: count such statements apart). THE CARD IS WHAT COUNTS. Prove the row's statement (the work); the ties are given (YthbchhekejljjaaGreatDoorTie.lean); close each card by the builder's one call (the guide's Derived/Test/ToyasCard.lean, 'card_holds'). Laid BY PROGRAM, IN A SANDBOX (cutbox-door.mjs). By AI agents, Wed Nov 11 2026. No macro, syntax, notation, axiom, sorry.
-/
import Derived.Test.YthbchhekejljjaaGreatDoorRows
import GoSem.ClaimSeven
namespace Go.Proofs.YthbchhekejljjaaGreatDoor
namespace Rows

/-- THE TIED CARD OF 'semigrouptop.TopRewrites'. -/
def topRewritesCard : Claim7 := { stood := { row := topRewritesRow, standIns := [], harness := (true, "0a25f5eac10ba0372658607782ec88292d8ee4a18658c4ac16976ac5a43569c8"), looks := false }, kinds := [], alts := [], laidByText := true, laidKinds := [.data], laidTests := true, laidLooks := .later }
def TopRewritesCardSaid : Prop := Claim7.holds Tryz.pinned (.plain (OpenSpec.ofChange topRewritesSpec)) topRewritesCard

/-- THE TIED CARD OF 'semigrouptop.TopTableWords'. -/
def topTableWordsCard : Claim7 := { stood := { row := topTableWordsRow, standIns := [], harness := (true, "0a25f5eac10ba0372658607782ec88292d8ee4a18658c4ac16976ac5a43569c8"), looks := false }, kinds := [], alts := [], laidByText := true, laidKinds := [.data], laidTests := true, laidLooks := .later }
def TopTableWordsCardSaid : Prop := Claim7.holds Tryz.pinned (.plain (OpenSpec.ofChange topTableWordsSpec)) topTableWordsCard

/-- THE TIED CARD OF 'semigrouptop.TopPresents'. -/
def topPresentsCard : Claim7 := { stood := { row := topPresentsRow, standIns := [], harness := (true, "0a25f5eac10ba0372658607782ec88292d8ee4a18658c4ac16976ac5a43569c8"), looks := false }, kinds := [], alts := [], laidByText := true, laidKinds := [.data], laidTests := true, laidLooks := .later }
def TopPresentsCardSaid : Prop := Claim7.holds Tryz.pinned (.plain (OpenSpec.ofChange topPresentsSpec)) topPresentsCard

/-- THE TIED CARD OF 'semigrouptop.TopCayley'. -/
def topCayleyCard : Claim7 := { stood := { row := topCayleyRow, standIns := [], harness := (true, "0a25f5eac10ba0372658607782ec88292d8ee4a18658c4ac16976ac5a43569c8"), looks := false }, kinds := [], alts := [], laidByText := true, laidKinds := [.data], laidTests := true, laidLooks := .later }
def TopCayleyCardSaid : Prop := Claim7.holds Tryz.pinned (.plain (OpenSpec.ofChange topCayleySpec)) topCayleyCard

/-- THE SECOND FORM's CARD OF 'semigrouptop.TopRewrites'. -/
def topRewritesUptoCard : Claim7 := { stood := { row := topRewritesUptoRow, standIns := [], harness := (true, "0a25f5eac10ba0372658607782ec88292d8ee4a18658c4ac16976ac5a43569c8"), looks := false }, kinds := [], alts := [], laidByText := true, laidKinds := [.data], laidTests := true, laidLooks := .later }
def TopRewritesUptoCardSaid : Prop := Claim7.holds Tryz.pinned (.plain (OpenSpec.upto topRewritesSpec)) topRewritesUptoCard

/-- THE SECOND FORM's CARD OF 'semigrouptop.TopTableWords'. -/
def topTableWordsUptoCard : Claim7 := { stood := { row := topTableWordsUptoRow, standIns := [], harness := (true, "0a25f5eac10ba0372658607782ec88292d8ee4a18658c4ac16976ac5a43569c8"), looks := false }, kinds := [], alts := [], laidByText := true, laidKinds := [.data], laidTests := true, laidLooks := .later }
def TopTableWordsUptoCardSaid : Prop := Claim7.holds Tryz.pinned (.plain (OpenSpec.upto topTableWordsSpec)) topTableWordsUptoCard

/-- THE SECOND FORM's CARD OF 'semigrouptop.TopPresents'. -/
def topPresentsUptoCard : Claim7 := { stood := { row := topPresentsUptoRow, standIns := [], harness := (true, "0a25f5eac10ba0372658607782ec88292d8ee4a18658c4ac16976ac5a43569c8"), looks := false }, kinds := [], alts := [], laidByText := true, laidKinds := [.data], laidTests := true, laidLooks := .later }
def TopPresentsUptoCardSaid : Prop := Claim7.holds Tryz.pinned (.plain (OpenSpec.upto topPresentsSpec)) topPresentsUptoCard

/-- THE SECOND FORM's CARD OF 'semigrouptop.TopCayley'. -/
def topCayleyUptoCard : Claim7 := { stood := { row := topCayleyUptoRow, standIns := [], harness := (true, "0a25f5eac10ba0372658607782ec88292d8ee4a18658c4ac16976ac5a43569c8"), looks := false }, kinds := [], alts := [], laidByText := true, laidKinds := [.data], laidTests := true, laidLooks := .later }
def TopCayleyUptoCardSaid : Prop := Claim7.holds Tryz.pinned (.plain (OpenSpec.upto topCayleySpec)) topCayleyUptoCard
end Rows
end Go.Proofs.YthbchhekejljjaaGreatDoor
