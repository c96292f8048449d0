/-
  DERIVED. GIVEN WITH THE SEED: THE CARDS: each row of YtiobkcdgggbljaaGreatDoorRows.lean that lists a variable, with what it lists TIED to the program's text (the seventh form; the later family's looks); each row that meets fmt, with fmt's text TOLD by the authors' own Lean function (tested against real Go, not proved from fmt's source: count such statements apart). THE CARD IS WHAT COUNTS. Prove the row's statement (the work); the ties are given (YtiobkcdgggbljaaGreatDoorTie.lean); close each card by the builder's one call (the guide's Derived/Test/ToyasCard.lean, 'card_holds'). Laid BY PROGRAM, IN A SANDBOX (cutbox-door.mjs). By AI agents, Wed Nov 11 2026. No macro, syntax, notation, axiom, sorry.
-/
import Derived.Test.YtiobkcdgggbljaaGreatDoorRows
import GoSem.ClaimSeven
namespace Go.Proofs.YtiobkcdgggbljaaGreatDoor
namespace Rows

/-- THE TIED CARD OF 'semigrouplaw27.DecomposeOf'. -/
def decomposeOfCard : Claim7 := { stood := { row := decomposeOfRow, standIns := [], harness := (true, "037f3e184ef62b8746d2e4e1459995ceba7aef0e29c04e89942d9a4ea57c0da9"), looks := false }, kinds := [], alts := [], laidByText := true, laidKinds := [.data, .data], laidTests := true, laidLooks := .later }
def DecomposeOfCardSaid : Prop := Claim7.holds Tryz.pinned (.plain (OpenSpec.ofChange decomposeOfSpec)) decomposeOfCard

/-- THE TIED CARD OF 'semigrouplaw27.DecomposeSimulateRaw'. -/
def decomposeSimulateRawCard : Claim7 := { stood := { row := decomposeSimulateRawRow, standIns := [], harness := (true, "037f3e184ef62b8746d2e4e1459995ceba7aef0e29c04e89942d9a4ea57c0da9"), looks := false }, kinds := [], alts := [], laidByText := true, laidKinds := [.data, .data], laidTests := true, laidLooks := .later }
def DecomposeSimulateRawCardSaid : Prop := Claim7.holds Tryz.pinned (.plain (OpenSpec.ofChange decomposeSimulateRawSpec)) decomposeSimulateRawCard

/-- THE TIED CARD OF 'semigrouplaw27.DecomposeRaw'. -/
def decomposeRawCard : Claim7 := { stood := { row := decomposeRawRow, standIns := [], harness := (true, "037f3e184ef62b8746d2e4e1459995ceba7aef0e29c04e89942d9a4ea57c0da9"), looks := false }, kinds := [], alts := [], laidByText := true, laidKinds := [.data, .data], laidTests := true, laidLooks := .later }
def DecomposeRawCardSaid : Prop := Claim7.holds Tryz.pinned (.plain (OpenSpec.ofChange decomposeRawSpec)) decomposeRawCard

/-- THE TIED CARD OF 'semigrouplaw27.DecomposeChains'. -/
def decomposeChainsCard : Claim7 := { stood := { row := decomposeChainsRow, standIns := [], harness := (true, "037f3e184ef62b8746d2e4e1459995ceba7aef0e29c04e89942d9a4ea57c0da9"), looks := false }, kinds := [], alts := [], laidByText := true, laidKinds := [.data, .data], laidTests := true, laidLooks := .later }
def DecomposeChainsCardSaid : Prop := Claim7.holds Tryz.pinned (.plain (OpenSpec.ofChange decomposeChainsSpec)) decomposeChainsCard

/-- THE TIED CARD OF 'semigrouplaw27.DecomposeKinds'. -/
def decomposeKindsCard : Claim7 := { stood := { row := decomposeKindsRow, standIns := [], harness := (true, "037f3e184ef62b8746d2e4e1459995ceba7aef0e29c04e89942d9a4ea57c0da9"), looks := false }, kinds := [], alts := [], laidByText := true, laidKinds := [.data, .data], laidTests := true, laidLooks := .later }
def DecomposeKindsCardSaid : Prop := Claim7.holds Tryz.pinned (.plain (OpenSpec.ofChange decomposeKindsSpec)) decomposeKindsCard

/-- THE TIED CARD OF 'semigrouplaw27.DecomposeMinimal'. -/
def decomposeMinimalCard : Claim7 := { stood := { row := decomposeMinimalRow, standIns := [], harness := (true, "037f3e184ef62b8746d2e4e1459995ceba7aef0e29c04e89942d9a4ea57c0da9"), looks := false }, kinds := [], alts := [], laidByText := true, laidKinds := [.data, .data], laidTests := true, laidLooks := .later }
def DecomposeMinimalCardSaid : Prop := Claim7.holds Tryz.pinned (.plain (OpenSpec.ofChange decomposeMinimalSpec)) decomposeMinimalCard

/-- THE TIED CARD OF 'semigrouplaw27.DecomposeChecks'. -/
def decomposeChecksCard : Claim7 := { stood := { row := decomposeChecksRow, standIns := [], harness := (true, "037f3e184ef62b8746d2e4e1459995ceba7aef0e29c04e89942d9a4ea57c0da9"), looks := false }, kinds := [], alts := [], laidByText := true, laidKinds := [.data, .data], laidTests := true, laidLooks := .later }
def DecomposeChecksCardSaid : Prop := Claim7.holds Tryz.pinned (.plain (OpenSpec.ofChange decomposeChecksSpec)) decomposeChecksCard

/-- THE TIED CARD OF 'semigrouplaw27.DecomposeLetters'. -/
def decomposeLettersCard : Claim7 := { stood := { row := decomposeLettersRow, standIns := [], harness := (true, "037f3e184ef62b8746d2e4e1459995ceba7aef0e29c04e89942d9a4ea57c0da9"), looks := false }, kinds := [], alts := [], laidByText := true, laidKinds := [.data, .data], laidTests := true, laidLooks := .later }
def DecomposeLettersCardSaid : Prop := Claim7.holds Tryz.pinned (.plain (OpenSpec.ofChange decomposeLettersSpec)) decomposeLettersCard

/-- THE TIED CARD OF 'semigrouplaw27.DecomposeSimulates'. -/
def decomposeSimulatesCard : Claim7 := { stood := { row := decomposeSimulatesRow, standIns := [], harness := (true, "037f3e184ef62b8746d2e4e1459995ceba7aef0e29c04e89942d9a4ea57c0da9"), looks := false }, kinds := [], alts := [], laidByText := true, laidKinds := [.data, .data], laidTests := true, laidLooks := .later }
def DecomposeSimulatesCardSaid : Prop := Claim7.holds Tryz.pinned (.plain (OpenSpec.ofChange decomposeSimulatesSpec)) decomposeSimulatesCard

/-- THE SECOND FORM's CARD OF 'semigrouplaw27.DecomposeOf'. -/
def decomposeOfUptoCard : Claim7 := { stood := { row := decomposeOfUptoRow, standIns := [], harness := (true, "037f3e184ef62b8746d2e4e1459995ceba7aef0e29c04e89942d9a4ea57c0da9"), looks := false }, kinds := [], alts := [], laidByText := true, laidKinds := [.data, .data], laidTests := true, laidLooks := .later }
def DecomposeOfUptoCardSaid : Prop := Claim7.holds Tryz.pinned (.plain (OpenSpec.upto decomposeOfSpec)) decomposeOfUptoCard

/-- THE SECOND FORM's CARD OF 'semigrouplaw27.DecomposeSimulateRaw'. -/
def decomposeSimulateRawUptoCard : Claim7 := { stood := { row := decomposeSimulateRawUptoRow, standIns := [], harness := (true, "037f3e184ef62b8746d2e4e1459995ceba7aef0e29c04e89942d9a4ea57c0da9"), looks := false }, kinds := [], alts := [], laidByText := true, laidKinds := [.data, .data], laidTests := true, laidLooks := .later }
def DecomposeSimulateRawUptoCardSaid : Prop := Claim7.holds Tryz.pinned (.plain (OpenSpec.upto decomposeSimulateRawSpec)) decomposeSimulateRawUptoCard

/-- THE SECOND FORM's CARD OF 'semigrouplaw27.DecomposeRaw'. -/
def decomposeRawUptoCard : Claim7 := { stood := { row := decomposeRawUptoRow, standIns := [], harness := (true, "037f3e184ef62b8746d2e4e1459995ceba7aef0e29c04e89942d9a4ea57c0da9"), looks := false }, kinds := [], alts := [], laidByText := true, laidKinds := [.data, .data], laidTests := true, laidLooks := .later }
def DecomposeRawUptoCardSaid : Prop := Claim7.holds Tryz.pinned (.plain (OpenSpec.upto decomposeRawSpec)) decomposeRawUptoCard

/-- THE SECOND FORM's CARD OF 'semigrouplaw27.DecomposeChains'. -/
def decomposeChainsUptoCard : Claim7 := { stood := { row := decomposeChainsUptoRow, standIns := [], harness := (true, "037f3e184ef62b8746d2e4e1459995ceba7aef0e29c04e89942d9a4ea57c0da9"), looks := false }, kinds := [], alts := [], laidByText := true, laidKinds := [.data, .data], laidTests := true, laidLooks := .later }
def DecomposeChainsUptoCardSaid : Prop := Claim7.holds Tryz.pinned (.plain (OpenSpec.upto decomposeChainsSpec)) decomposeChainsUptoCard

/-- THE SECOND FORM's CARD OF 'semigrouplaw27.DecomposeKinds'. -/
def decomposeKindsUptoCard : Claim7 := { stood := { row := decomposeKindsUptoRow, standIns := [], harness := (true, "037f3e184ef62b8746d2e4e1459995ceba7aef0e29c04e89942d9a4ea57c0da9"), looks := false }, kinds := [], alts := [], laidByText := true, laidKinds := [.data, .data], laidTests := true, laidLooks := .later }
def DecomposeKindsUptoCardSaid : Prop := Claim7.holds Tryz.pinned (.plain (OpenSpec.upto decomposeKindsSpec)) decomposeKindsUptoCard

/-- THE SECOND FORM's CARD OF 'semigrouplaw27.DecomposeMinimal'. -/
def decomposeMinimalUptoCard : Claim7 := { stood := { row := decomposeMinimalUptoRow, standIns := [], harness := (true, "037f3e184ef62b8746d2e4e1459995ceba7aef0e29c04e89942d9a4ea57c0da9"), looks := false }, kinds := [], alts := [], laidByText := true, laidKinds := [.data, .data], laidTests := true, laidLooks := .later }
def DecomposeMinimalUptoCardSaid : Prop := Claim7.holds Tryz.pinned (.plain (OpenSpec.upto decomposeMinimalSpec)) decomposeMinimalUptoCard

/-- THE SECOND FORM's CARD OF 'semigrouplaw27.DecomposeChecks'. -/
def decomposeChecksUptoCard : Claim7 := { stood := { row := decomposeChecksUptoRow, standIns := [], harness := (true, "037f3e184ef62b8746d2e4e1459995ceba7aef0e29c04e89942d9a4ea57c0da9"), looks := false }, kinds := [], alts := [], laidByText := true, laidKinds := [.data, .data], laidTests := true, laidLooks := .later }
def DecomposeChecksUptoCardSaid : Prop := Claim7.holds Tryz.pinned (.plain (OpenSpec.upto decomposeChecksSpec)) decomposeChecksUptoCard

/-- THE SECOND FORM's CARD OF 'semigrouplaw27.DecomposeLetters'. -/
def decomposeLettersUptoCard : Claim7 := { stood := { row := decomposeLettersUptoRow, standIns := [], harness := (true, "037f3e184ef62b8746d2e4e1459995ceba7aef0e29c04e89942d9a4ea57c0da9"), looks := false }, kinds := [], alts := [], laidByText := true, laidKinds := [.data, .data], laidTests := true, laidLooks := .later }
def DecomposeLettersUptoCardSaid : Prop := Claim7.holds Tryz.pinned (.plain (OpenSpec.upto decomposeLettersSpec)) decomposeLettersUptoCard

/-- THE SECOND FORM's CARD OF 'semigrouplaw27.DecomposeSimulates'. -/
def decomposeSimulatesUptoCard : Claim7 := { stood := { row := decomposeSimulatesUptoRow, standIns := [], harness := (true, "037f3e184ef62b8746d2e4e1459995ceba7aef0e29c04e89942d9a4ea57c0da9"), looks := false }, kinds := [], alts := [], laidByText := true, laidKinds := [.data, .data], laidTests := true, laidLooks := .later }
def DecomposeSimulatesUptoCardSaid : Prop := Claim7.holds Tryz.pinned (.plain (OpenSpec.upto decomposeSimulatesSpec)) decomposeSimulatesUptoCard
end Rows
end Go.Proofs.YtiobkcdgggbljaaGreatDoor
