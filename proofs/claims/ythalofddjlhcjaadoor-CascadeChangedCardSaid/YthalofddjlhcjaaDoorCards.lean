/-
  DERIVED. GIVEN WITH THE SEED: THE CARDS: each row of YthalofddjlhcjaaDoorRows.lean that lists a variable, with what it lists TIED to the program's text (the seventh form; the later family's looks); each row that meets fmt, with fmt's text TOLD by the authors' own Lean function (tested against real Go, not proved from fmt's source: count such statements apart). THE CARD IS WHAT COUNTS. Prove the row's statement (the work); the ties are given (YthalofddjlhcjaaDoorTie.lean); close each card by the builder's one call (the guide's Derived/Test/ToyasCard.lean, 'card_holds'). Laid BY PROGRAM, IN A SANDBOX (cutbox-door.mjs). By AI agents, Wed Nov 11 2026. No macro, syntax, notation, axiom, sorry.
-/
import Derived.Test.YthalofddjlhcjaaDoorRows
import GoSem.ClaimSeven
namespace Go.Proofs.YthalofddjlhcjaaDoor
namespace Rows

/-- THE TIED CARD OF 'semigrouplaw26.CascadeOrder'. -/
def cascadeOrderCard : Claim7 := { stood := { row := cascadeOrderRow, standIns := [], harness := (true, "32a56299d34bfcb3b49ea5f15a25d5c5f8603688367be6e6991b72b88bb1f06e"), looks := false }, kinds := [], alts := [], laidByText := true, laidKinds := [.data, .data, .data], laidTests := true, laidLooks := .later }
def CascadeOrderCardSaid : Prop := Claim7.holds Tryd.pinned (.plain (OpenSpec.ofChange cascadeOrderSpec)) cascadeOrderCard

/-- THE TIED CARD OF 'semigrouplaw26.CascadeRuns'. -/
def cascadeRunsCard : Claim7 := { stood := { row := cascadeRunsRow, standIns := [], harness := (true, "32a56299d34bfcb3b49ea5f15a25d5c5f8603688367be6e6991b72b88bb1f06e"), looks := false }, kinds := [], alts := [], laidByText := true, laidKinds := [.data, .data, .data], laidTests := true, laidLooks := .later }
def CascadeRunsCardSaid : Prop := Claim7.holds Tryd.pinned (.plain (OpenSpec.ofChange cascadeRunsSpec)) cascadeRunsCard

/-- THE TIED CARD OF 'semigrouplaw26.CascadeFlat'. -/
def cascadeFlatCard : Claim7 := { stood := { row := cascadeFlatRow, standIns := [], harness := (true, "32a56299d34bfcb3b49ea5f15a25d5c5f8603688367be6e6991b72b88bb1f06e"), looks := false }, kinds := [], alts := [], laidByText := true, laidKinds := [.data, .data, .data], laidTests := true, laidLooks := .later }
def CascadeFlatCardSaid : Prop := Claim7.holds Tryd.pinned (.plain (OpenSpec.ofChange cascadeFlatSpec)) cascadeFlatCard

/-- THE TIED CARD OF 'semigrouplaw26.CascadeRaw'. -/
def cascadeRawCard : Claim7 := { stood := { row := cascadeRawRow, standIns := [], harness := (true, "32a56299d34bfcb3b49ea5f15a25d5c5f8603688367be6e6991b72b88bb1f06e"), looks := false }, kinds := [], alts := [], laidByText := true, laidKinds := [.data, .data, .data], laidTests := true, laidLooks := .later }
def CascadeRawCardSaid : Prop := Claim7.holds Tryd.pinned (.plain (OpenSpec.ofChange cascadeRawSpec)) cascadeRawCard

/-- THE TIED CARD OF 'semigrouplaw26.CascadeMade'. -/
def cascadeMadeCard : Claim7 := { stood := { row := cascadeMadeRow, standIns := [], harness := (true, "32a56299d34bfcb3b49ea5f15a25d5c5f8603688367be6e6991b72b88bb1f06e"), looks := false }, kinds := [], alts := [], laidByText := true, laidKinds := [.data, .data, .data], laidTests := true, laidLooks := .later }
def CascadeMadeCardSaid : Prop := Claim7.holds Tryd.pinned (.plain (OpenSpec.ofChange cascadeMadeSpec)) cascadeMadeCard

/-- THE TIED CARD OF 'semigrouplaw26.CascadeChanged'. -/
def cascadeChangedCard : Claim7 := { stood := { row := cascadeChangedRow, standIns := [], harness := (true, "32a56299d34bfcb3b49ea5f15a25d5c5f8603688367be6e6991b72b88bb1f06e"), looks := false }, kinds := [], alts := [], laidByText := true, laidKinds := [.data, .data, .data], laidTests := true, laidLooks := .later }
def CascadeChangedCardSaid : Prop := Claim7.holds Tryd.pinned (.plain (OpenSpec.ofChange cascadeChangedSpec)) cascadeChangedCard

/-- THE TIED CARD OF 'semigrouplaw26.CascadeText'. -/
def cascadeTextCard : Claim7 := { stood := { row := cascadeTextRow, standIns := [], harness := (true, "32a56299d34bfcb3b49ea5f15a25d5c5f8603688367be6e6991b72b88bb1f06e"), looks := false }, kinds := [], alts := [], laidByText := true, laidKinds := [.data, .data, .data, .data, .pinned], laidTests := true, laidLooks := .later }
def CascadeTextCardSaid : Prop := Claim7.holds Tryd.pinned (.plain (OpenSpec.ofChange cascadeTextSpec)) cascadeTextCard

/-- THE TIED CARD OF 'semigrouplaw26.CascadeBack'. -/
def cascadeBackCard : Claim7 := { stood := { row := cascadeBackRow, standIns := [], harness := (true, "32a56299d34bfcb3b49ea5f15a25d5c5f8603688367be6e6991b72b88bb1f06e"), looks := false }, kinds := [], alts := [], laidByText := true, laidKinds := [.data, .data, .data, .data, .pinned], laidTests := true, laidLooks := .later }
def CascadeBackCardSaid : Prop := Claim7.holds Tryd.pinned (.plain (OpenSpec.ofChange cascadeBackSpec)) cascadeBackCard

/-- THE SECOND FORM's CARD OF 'semigrouplaw26.CascadeOrder'. -/
def cascadeOrderUptoCard : Claim7 := { stood := { row := cascadeOrderUptoRow, standIns := [], harness := (true, "32a56299d34bfcb3b49ea5f15a25d5c5f8603688367be6e6991b72b88bb1f06e"), looks := false }, kinds := [], alts := [], laidByText := true, laidKinds := [.data, .data, .data], laidTests := true, laidLooks := .later }
def CascadeOrderUptoCardSaid : Prop := Claim7.holds Tryd.pinned (.plain (OpenSpec.upto cascadeOrderSpec)) cascadeOrderUptoCard

/-- THE SECOND FORM's CARD OF 'semigrouplaw26.CascadeRuns'. -/
def cascadeRunsUptoCard : Claim7 := { stood := { row := cascadeRunsUptoRow, standIns := [], harness := (true, "32a56299d34bfcb3b49ea5f15a25d5c5f8603688367be6e6991b72b88bb1f06e"), looks := false }, kinds := [], alts := [], laidByText := true, laidKinds := [.data, .data, .data], laidTests := true, laidLooks := .later }
def CascadeRunsUptoCardSaid : Prop := Claim7.holds Tryd.pinned (.plain (OpenSpec.upto cascadeRunsSpec)) cascadeRunsUptoCard

/-- THE SECOND FORM's CARD OF 'semigrouplaw26.CascadeFlat'. -/
def cascadeFlatUptoCard : Claim7 := { stood := { row := cascadeFlatUptoRow, standIns := [], harness := (true, "32a56299d34bfcb3b49ea5f15a25d5c5f8603688367be6e6991b72b88bb1f06e"), looks := false }, kinds := [], alts := [], laidByText := true, laidKinds := [.data, .data, .data], laidTests := true, laidLooks := .later }
def CascadeFlatUptoCardSaid : Prop := Claim7.holds Tryd.pinned (.plain (OpenSpec.upto cascadeFlatSpec)) cascadeFlatUptoCard

/-- THE SECOND FORM's CARD OF 'semigrouplaw26.CascadeRaw'. -/
def cascadeRawUptoCard : Claim7 := { stood := { row := cascadeRawUptoRow, standIns := [], harness := (true, "32a56299d34bfcb3b49ea5f15a25d5c5f8603688367be6e6991b72b88bb1f06e"), looks := false }, kinds := [], alts := [], laidByText := true, laidKinds := [.data, .data, .data], laidTests := true, laidLooks := .later }
def CascadeRawUptoCardSaid : Prop := Claim7.holds Tryd.pinned (.plain (OpenSpec.upto cascadeRawSpec)) cascadeRawUptoCard

/-- THE SECOND FORM's CARD OF 'semigrouplaw26.CascadeMade'. -/
def cascadeMadeUptoCard : Claim7 := { stood := { row := cascadeMadeUptoRow, standIns := [], harness := (true, "32a56299d34bfcb3b49ea5f15a25d5c5f8603688367be6e6991b72b88bb1f06e"), looks := false }, kinds := [], alts := [], laidByText := true, laidKinds := [.data, .data, .data], laidTests := true, laidLooks := .later }
def CascadeMadeUptoCardSaid : Prop := Claim7.holds Tryd.pinned (.plain (OpenSpec.upto cascadeMadeSpec)) cascadeMadeUptoCard

/-- THE SECOND FORM's CARD OF 'semigrouplaw26.CascadeChanged'. -/
def cascadeChangedUptoCard : Claim7 := { stood := { row := cascadeChangedUptoRow, standIns := [], harness := (true, "32a56299d34bfcb3b49ea5f15a25d5c5f8603688367be6e6991b72b88bb1f06e"), looks := false }, kinds := [], alts := [], laidByText := true, laidKinds := [.data, .data, .data], laidTests := true, laidLooks := .later }
def CascadeChangedUptoCardSaid : Prop := Claim7.holds Tryd.pinned (.plain (OpenSpec.upto cascadeChangedSpec)) cascadeChangedUptoCard

/-- THE SECOND FORM's CARD OF 'semigrouplaw26.CascadeText'. -/
def cascadeTextUptoCard : Claim7 := { stood := { row := cascadeTextUptoRow, standIns := [], harness := (true, "32a56299d34bfcb3b49ea5f15a25d5c5f8603688367be6e6991b72b88bb1f06e"), looks := false }, kinds := [], alts := [], laidByText := true, laidKinds := [.data, .data, .data, .data, .pinned], laidTests := true, laidLooks := .later }
def CascadeTextUptoCardSaid : Prop := Claim7.holds Tryd.pinned (.plain (OpenSpec.upto cascadeTextSpec)) cascadeTextUptoCard

/-- THE SECOND FORM's CARD OF 'semigrouplaw26.CascadeBack'. -/
def cascadeBackUptoCard : Claim7 := { stood := { row := cascadeBackUptoRow, standIns := [], harness := (true, "32a56299d34bfcb3b49ea5f15a25d5c5f8603688367be6e6991b72b88bb1f06e"), looks := false }, kinds := [], alts := [], laidByText := true, laidKinds := [.data, .data, .data, .data, .pinned], laidTests := true, laidLooks := .later }
def CascadeBackUptoCardSaid : Prop := Claim7.holds Tryd.pinned (.plain (OpenSpec.upto cascadeBackSpec)) cascadeBackUptoCard
end Rows
end Go.Proofs.YthalofddjlhcjaaDoor
