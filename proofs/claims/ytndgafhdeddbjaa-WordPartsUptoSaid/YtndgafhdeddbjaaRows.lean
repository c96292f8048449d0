/-
  No cell of these rows narrows 'for every input' (looked for: loops, veiled, ifaces, maps, wideKeys, modest, calm, conditions, laid).
  DERIVED. THE GIVEN ROWS OF THIS SEAT. 19 by the template 'for every input the law returns true; each argument reads behind the call as it read before'; 0 by the template 'total and deterministic' (their statements: YtndgafhdeddbjaaTotals.lean).
  GIVEN WITH THE SEED: the statements are not yours to turn. If you find one false, say at which input.
  Laid BY PROGRAM, IN A SANDBOX (cutbox-rows.mjs): the forced cells as the released guide's own fill.sh prints them over the translation 50a948a45cf359cb… (all of the seat's roots in one cut). By AI agents, Wed Nov 11 2026. No macro, syntax, notation, axiom, sorry.
-/
import Derived.Test.YtndgafhdeddbjaaChecked
import GoSem.Claim
import GoSem.ClaimJoined
import GoSem.ClaimMapViews
import Derived.JoinedTies
import Derived.KernelRfl
namespace Go.Proofs.Ytndgafhdeddbjaa
/- THE CELL 'sum', in the pinned program and in every row, IS THE sha256 OF THE DUMP (.gsa) THAT YtndgafhdeddbjaaProg.lean LOADS. Nothing in Lean hashes anything: it is a label: what it is worth is what the hold of that sum in a sandbox is worth. -/
noncomputable def Try.pinned : Pinned := { name := "ytndgafhdeddbjaa", sum := "50a948a45cf359cb9f741ee4df7724f81dd6372c5aabbc2c24ffcf11a2e0c8a7", checked := Try.checked }
namespace Rows
def none {H : Type} : Left H := { results := [], args := [] }

/-- 'semigrouplaw01.WordValid': WHATEVER THE INPUT: true; the input reads as it did. -/
def wordValidSpec : ChangeSpec := { name := "wordValid", fn := fun _ => fun
  | [d1, d2] => { results := [.lit (.bool true)], args := [d1, d2] }
  | _ => none }
def wordValidRow : OpenClaim := { program := "ytndgafhdeddbjaa", sum := "50a948a45cf359cb9f741ee4df7724f81dd6372c5aabbc2c24ffcf11a2e0c8a7", func := "semigroup/semigrouplaw01.WordValid", spec := "wordValid", plainKeys := false, apart := false }
def WordValidSaid : Prop := wordValidRow.holds Try.pinned (OpenSpec.ofChange wordValidSpec)

/-- ITS FALSE NEIGHBOUR: 'it returns false'. Refute it at one input. -/
def wordValidWrong : ChangeSpec := { name := "wordValid", fn := fun _ => fun
  | [d1, d2] => { results := [.lit (.bool false)], args := [d1, d2] }
  | _ => none }
def WordValidWrongFalsely : Prop := wordValidRow.holds Try.pinned (OpenSpec.ofChange wordValidWrong)

/-- 'semigrouplaw01.WordRanks': WHATEVER THE INPUT: true; the input reads as it did. -/
def wordRanksSpec : ChangeSpec := { name := "wordRanks", fn := fun _ => fun
  | [d1, d2] => { results := [.lit (.bool true)], args := [d1, d2] }
  | _ => none }
def wordRanksRow : OpenClaim := { program := "ytndgafhdeddbjaa", sum := "50a948a45cf359cb9f741ee4df7724f81dd6372c5aabbc2c24ffcf11a2e0c8a7", func := "semigroup/semigrouplaw01.WordRanks", spec := "wordRanks", plainKeys := false, apart := false }
def WordRanksSaid : Prop := wordRanksRow.holds Try.pinned (OpenSpec.ofChange wordRanksSpec)

/-- ITS FALSE NEIGHBOUR: 'it returns false'. Refute it at one input. -/
def wordRanksWrong : ChangeSpec := { name := "wordRanks", fn := fun _ => fun
  | [d1, d2] => { results := [.lit (.bool false)], args := [d1, d2] }
  | _ => none }
def WordRanksWrongFalsely : Prop := wordRanksRow.holds Try.pinned (OpenSpec.ofChange wordRanksWrong)

/-- 'semigrouplaw01.WordUnranks': WHATEVER THE INPUT: true; the input reads as it did. -/
def wordUnranksSpec : ChangeSpec := { name := "wordUnranks", fn := fun _ => fun
  | [d1, d2] => { results := [.lit (.bool true)], args := [d1, d2] }
  | _ => none }
def wordUnranksRow : OpenClaim := { program := "ytndgafhdeddbjaa", sum := "50a948a45cf359cb9f741ee4df7724f81dd6372c5aabbc2c24ffcf11a2e0c8a7", func := "semigroup/semigrouplaw01.WordUnranks", spec := "wordUnranks", plainKeys := false, apart := false }
def WordUnranksSaid : Prop := wordUnranksRow.holds Try.pinned (OpenSpec.ofChange wordUnranksSpec)

/-- ITS FALSE NEIGHBOUR: 'it returns false'. Refute it at one input. -/
def wordUnranksWrong : ChangeSpec := { name := "wordUnranks", fn := fun _ => fun
  | [d1, d2] => { results := [.lit (.bool false)], args := [d1, d2] }
  | _ => none }
def WordUnranksWrongFalsely : Prop := wordUnranksRow.holds Try.pinned (OpenSpec.ofChange wordUnranksWrong)

/-- 'semigrouplaw01.WordOccurrences': WHATEVER THE INPUT: true; the input reads as it did. -/
def wordOccurrencesSpec : ChangeSpec := { name := "wordOccurrences", fn := fun _ => fun
  | [d1, d2, d3] => { results := [.lit (.bool true)], args := [d1, d2, d3] }
  | _ => none }
def wordOccurrencesRow : OpenClaim := { program := "ytndgafhdeddbjaa", sum := "50a948a45cf359cb9f741ee4df7724f81dd6372c5aabbc2c24ffcf11a2e0c8a7", func := "semigroup/semigrouplaw01.WordOccurrences", spec := "wordOccurrences", plainKeys := false, apart := false }
def WordOccurrencesSaid : Prop := wordOccurrencesRow.holds Try.pinned (OpenSpec.ofChange wordOccurrencesSpec)

/-- ITS FALSE NEIGHBOUR: 'it returns false'. Refute it at one input. -/
def wordOccurrencesWrong : ChangeSpec := { name := "wordOccurrences", fn := fun _ => fun
  | [d1, d2, d3] => { results := [.lit (.bool false)], args := [d1, d2, d3] }
  | _ => none }
def WordOccurrencesWrongFalsely : Prop := wordOccurrencesRow.holds Try.pinned (OpenSpec.ofChange wordOccurrencesWrong)

/-- 'semigrouplaw01.WordPascal': WHATEVER THE INPUT: true; the input reads as it did. -/
def wordPascalSpec : ChangeSpec := { name := "wordPascal", fn := fun _ => fun
  | [d1, d2, d3, d4, d5] => { results := [.lit (.bool true)], args := [d1, d2, d3, d4, d5] }
  | _ => none }
def wordPascalRow : OpenClaim := { program := "ytndgafhdeddbjaa", sum := "50a948a45cf359cb9f741ee4df7724f81dd6372c5aabbc2c24ffcf11a2e0c8a7", func := "semigroup/semigrouplaw01.WordPascal", spec := "wordPascal", plainKeys := false, apart := false }
def WordPascalSaid : Prop := wordPascalRow.holds Try.pinned (OpenSpec.ofChange wordPascalSpec)

/-- ITS FALSE NEIGHBOUR: 'it returns false'. Refute it at one input. -/
def wordPascalWrong : ChangeSpec := { name := "wordPascal", fn := fun _ => fun
  | [d1, d2, d3, d4, d5] => { results := [.lit (.bool false)], args := [d1, d2, d3, d4, d5] }
  | _ => none }
def WordPascalWrongFalsely : Prop := wordPascalRow.holds Try.pinned (OpenSpec.ofChange wordPascalWrong)

/-- 'semigrouplaw01.WordConvolves': WHATEVER THE INPUT: true; the input reads as it did. -/
def wordConvolvesSpec : ChangeSpec := { name := "wordConvolves", fn := fun _ => fun
  | [d1, d2, d3, d4] => { results := [.lit (.bool true)], args := [d1, d2, d3, d4] }
  | _ => none }
def wordConvolvesRow : OpenClaim := { program := "ytndgafhdeddbjaa", sum := "50a948a45cf359cb9f741ee4df7724f81dd6372c5aabbc2c24ffcf11a2e0c8a7", func := "semigroup/semigrouplaw01.WordConvolves", spec := "wordConvolves", plainKeys := false, apart := false }
def WordConvolvesSaid : Prop := wordConvolvesRow.holds Try.pinned (OpenSpec.ofChange wordConvolvesSpec)

/-- ITS FALSE NEIGHBOUR: 'it returns false'. Refute it at one input. -/
def wordConvolvesWrong : ChangeSpec := { name := "wordConvolves", fn := fun _ => fun
  | [d1, d2, d3, d4] => { results := [.lit (.bool false)], args := [d1, d2, d3, d4] }
  | _ => none }
def WordConvolvesWrongFalsely : Prop := wordConvolvesRow.holds Try.pinned (OpenSpec.ofChange wordConvolvesWrong)

/-- 'semigrouplaw01.WordBorders': WHATEVER THE INPUT: true; the input reads as it did. -/
def wordBordersSpec : ChangeSpec := { name := "wordBorders", fn := fun _ => fun
  | [d] => { results := [.lit (.bool true)], args := [d] }
  | _ => none }
def wordBordersRow : OpenClaim := { program := "ytndgafhdeddbjaa", sum := "50a948a45cf359cb9f741ee4df7724f81dd6372c5aabbc2c24ffcf11a2e0c8a7", func := "semigroup/semigrouplaw01.WordBorders", spec := "wordBorders", plainKeys := false, apart := false }
def WordBordersSaid : Prop := wordBordersRow.holds Try.pinned (OpenSpec.ofChange wordBordersSpec)

/-- ITS FALSE NEIGHBOUR: 'it returns false'. Refute it at one input. -/
def wordBordersWrong : ChangeSpec := { name := "wordBorders", fn := fun _ => fun
  | [d] => { results := [.lit (.bool false)], args := [d] }
  | _ => none }
def WordBordersWrongFalsely : Prop := wordBordersRow.holds Try.pinned (OpenSpec.ofChange wordBordersWrong)

/-- 'semigrouplaw01.WordRoots': WHATEVER THE INPUT: true; the input reads as it did. -/
def wordRootsSpec : ChangeSpec := { name := "wordRoots", fn := fun _ => fun
  | [d] => { results := [.lit (.bool true)], args := [d] }
  | _ => none }
def wordRootsRow : OpenClaim := { program := "ytndgafhdeddbjaa", sum := "50a948a45cf359cb9f741ee4df7724f81dd6372c5aabbc2c24ffcf11a2e0c8a7", func := "semigroup/semigrouplaw01.WordRoots", spec := "wordRoots", plainKeys := false, apart := false }
def WordRootsSaid : Prop := wordRootsRow.holds Try.pinned (OpenSpec.ofChange wordRootsSpec)

/-- ITS FALSE NEIGHBOUR: 'it returns false'. Refute it at one input. -/
def wordRootsWrong : ChangeSpec := { name := "wordRoots", fn := fun _ => fun
  | [d] => { results := [.lit (.bool false)], args := [d] }
  | _ => none }
def WordRootsWrongFalsely : Prop := wordRootsRow.holds Try.pinned (OpenSpec.ofChange wordRootsWrong)

/-- 'semigrouplaw01.WordPowers': WHATEVER THE INPUT: true; the input reads as it did. -/
def wordPowersSpec : ChangeSpec := { name := "wordPowers", fn := fun _ => fun
  | [d1, d2] => { results := [.lit (.bool true)], args := [d1, d2] }
  | _ => none }
def wordPowersRow : OpenClaim := { program := "ytndgafhdeddbjaa", sum := "50a948a45cf359cb9f741ee4df7724f81dd6372c5aabbc2c24ffcf11a2e0c8a7", func := "semigroup/semigrouplaw01.WordPowers", spec := "wordPowers", plainKeys := false, apart := false }
def WordPowersSaid : Prop := wordPowersRow.holds Try.pinned (OpenSpec.ofChange wordPowersSpec)

/-- ITS FALSE NEIGHBOUR: 'it returns false'. Refute it at one input. -/
def wordPowersWrong : ChangeSpec := { name := "wordPowers", fn := fun _ => fun
  | [d1, d2] => { results := [.lit (.bool false)], args := [d1, d2] }
  | _ => none }
def WordPowersWrongFalsely : Prop := wordPowersRow.holds Try.pinned (OpenSpec.ofChange wordPowersWrong)

/-- 'semigrouplaw01.WordPeriods': WHATEVER THE INPUT: true; the input reads as it did. -/
def wordPeriodsSpec : ChangeSpec := { name := "wordPeriods", fn := fun _ => fun
  | [d] => { results := [.lit (.bool true)], args := [d] }
  | _ => none }
def wordPeriodsRow : OpenClaim := { program := "ytndgafhdeddbjaa", sum := "50a948a45cf359cb9f741ee4df7724f81dd6372c5aabbc2c24ffcf11a2e0c8a7", func := "semigroup/semigrouplaw01.WordPeriods", spec := "wordPeriods", plainKeys := false, apart := false }
def WordPeriodsSaid : Prop := wordPeriodsRow.holds Try.pinned (OpenSpec.ofChange wordPeriodsSpec)

/-- ITS FALSE NEIGHBOUR: 'it returns false'. Refute it at one input. -/
def wordPeriodsWrong : ChangeSpec := { name := "wordPeriods", fn := fun _ => fun
  | [d] => { results := [.lit (.bool false)], args := [d] }
  | _ => none }
def WordPeriodsWrongFalsely : Prop := wordPeriodsRow.holds Try.pinned (OpenSpec.ofChange wordPeriodsWrong)

/-- 'semigrouplaw01.WordCompares': WHATEVER THE INPUT: true; the input reads as it did. -/
def wordComparesSpec : ChangeSpec := { name := "wordCompares", fn := fun _ => fun
  | [d1, d2] => { results := [.lit (.bool true)], args := [d1, d2] }
  | _ => none }
def wordComparesRow : OpenClaim := { program := "ytndgafhdeddbjaa", sum := "50a948a45cf359cb9f741ee4df7724f81dd6372c5aabbc2c24ffcf11a2e0c8a7", func := "semigroup/semigrouplaw01.WordCompares", spec := "wordCompares", inPlace := ["internal/bytealg.abigen_runtime_cmpstring"], plainKeys := false, apart := false }
def WordComparesSaid : Prop := wordComparesRow.holds Try.pinned (OpenSpec.ofChange wordComparesSpec)

/-- ITS FALSE NEIGHBOUR: 'it returns false'. Refute it at one input. -/
def wordComparesWrong : ChangeSpec := { name := "wordCompares", fn := fun _ => fun
  | [d1, d2] => { results := [.lit (.bool false)], args := [d1, d2] }
  | _ => none }
def WordComparesWrongFalsely : Prop := wordComparesRow.holds Try.pinned (OpenSpec.ofChange wordComparesWrong)

/-- 'semigrouplaw01.WordChains': WHATEVER THE INPUT: true; the input reads as it did. -/
def wordChainsSpec : ChangeSpec := { name := "wordChains", fn := fun _ => fun
  | [d1, d2, d3] => { results := [.lit (.bool true)], args := [d1, d2, d3] }
  | _ => none }
def wordChainsRow : OpenClaim := { program := "ytndgafhdeddbjaa", sum := "50a948a45cf359cb9f741ee4df7724f81dd6372c5aabbc2c24ffcf11a2e0c8a7", func := "semigroup/semigrouplaw01.WordChains", spec := "wordChains", inPlace := ["internal/bytealg.abigen_runtime_cmpstring"], plainKeys := false, apart := false }
def WordChainsSaid : Prop := wordChainsRow.holds Try.pinned (OpenSpec.ofChange wordChainsSpec)

/-- ITS FALSE NEIGHBOUR: 'it returns false'. Refute it at one input. -/
def wordChainsWrong : ChangeSpec := { name := "wordChains", fn := fun _ => fun
  | [d1, d2, d3] => { results := [.lit (.bool false)], args := [d1, d2, d3] }
  | _ => none }
def WordChainsWrongFalsely : Prop := wordChainsRow.holds Try.pinned (OpenSpec.ofChange wordChainsWrong)

/-- 'semigrouplaw01.WordSuccessors': WHATEVER THE INPUT: true; the input reads as it did. -/
def wordSuccessorsSpec : ChangeSpec := { name := "wordSuccessors", fn := fun _ => fun
  | [d1, d2, d3] => { results := [.lit (.bool true)], args := [d1, d2, d3] }
  | _ => none }
def wordSuccessorsRow : OpenClaim := { program := "ytndgafhdeddbjaa", sum := "50a948a45cf359cb9f741ee4df7724f81dd6372c5aabbc2c24ffcf11a2e0c8a7", func := "semigroup/semigrouplaw01.WordSuccessors", spec := "wordSuccessors", inPlace := ["internal/bytealg.abigen_runtime_cmpstring"], plainKeys := false, apart := false }
def WordSuccessorsSaid : Prop := wordSuccessorsRow.holds Try.pinned (OpenSpec.ofChange wordSuccessorsSpec)

/-- ITS FALSE NEIGHBOUR: 'it returns false'. Refute it at one input. -/
def wordSuccessorsWrong : ChangeSpec := { name := "wordSuccessors", fn := fun _ => fun
  | [d1, d2, d3] => { results := [.lit (.bool false)], args := [d1, d2, d3] }
  | _ => none }
def WordSuccessorsWrongFalsely : Prop := wordSuccessorsRow.holds Try.pinned (OpenSpec.ofChange wordSuccessorsWrong)

/-- 'semigrouplaw01.WordParts': WHATEVER THE INPUT: true; the input reads as it did. -/
def wordPartsSpec : ChangeSpec := { name := "wordParts", fn := fun _ => fun
  | [d1, d2] => { results := [.lit (.bool true)], args := [d1, d2] }
  | _ => none }
def wordPartsRow : OpenClaim := { program := "ytndgafhdeddbjaa", sum := "50a948a45cf359cb9f741ee4df7724f81dd6372c5aabbc2c24ffcf11a2e0c8a7", func := "semigroup/semigrouplaw01.WordParts", spec := "wordParts", inPlace := ["internal/bytealg.IndexByteString", "internal/bytealg.IndexString"], named := ["internal/bytealg.MaxLen"], plainKeys := false, apart := false }
def WordPartsSaid : Prop := wordPartsRow.holds Try.pinned (OpenSpec.ofChange wordPartsSpec)

/-- ITS FALSE NEIGHBOUR: 'it returns false'. Refute it at one input. -/
def wordPartsWrong : ChangeSpec := { name := "wordParts", fn := fun _ => fun
  | [d1, d2] => { results := [.lit (.bool false)], args := [d1, d2] }
  | _ => none }
def WordPartsWrongFalsely : Prop := wordPartsRow.holds Try.pinned (OpenSpec.ofChange wordPartsWrong)

/-- 'semigrouplaw01.WordDeletes': WHATEVER THE INPUT: true; the input reads as it did. -/
def wordDeletesSpec : ChangeSpec := { name := "wordDeletes", fn := fun _ => fun
  | [d1, d2, d3, d4] => { results := [.lit (.bool true)], args := [d1, d2, d3, d4] }
  | _ => none }
def wordDeletesRow : OpenClaim := { program := "ytndgafhdeddbjaa", sum := "50a948a45cf359cb9f741ee4df7724f81dd6372c5aabbc2c24ffcf11a2e0c8a7", func := "semigroup/semigrouplaw01.WordDeletes", spec := "wordDeletes", inPlace := ["internal/bytealg.IndexByteString", "internal/bytealg.IndexString"], named := ["internal/bytealg.MaxLen"], plainKeys := false, apart := false }
def WordDeletesSaid : Prop := wordDeletesRow.holds Try.pinned (OpenSpec.ofChange wordDeletesSpec)

/-- ITS FALSE NEIGHBOUR: 'it returns false'. Refute it at one input. -/
def wordDeletesWrong : ChangeSpec := { name := "wordDeletes", fn := fun _ => fun
  | [d1, d2, d3, d4] => { results := [.lit (.bool false)], args := [d1, d2, d3, d4] }
  | _ => none }
def WordDeletesWrongFalsely : Prop := wordDeletesRow.holds Try.pinned (OpenSpec.ofChange wordDeletesWrong)

/-- 'semigrouplaw01.WordConjugates': WHATEVER THE INPUT: true; the input reads as it did. -/
def wordConjugatesSpec : ChangeSpec := { name := "wordConjugates", fn := fun _ => fun
  | [d1, d2, d3, d4] => { results := [.lit (.bool true)], args := [d1, d2, d3, d4] }
  | _ => none }
def wordConjugatesRow : OpenClaim := { program := "ytndgafhdeddbjaa", sum := "50a948a45cf359cb9f741ee4df7724f81dd6372c5aabbc2c24ffcf11a2e0c8a7", func := "semigroup/semigrouplaw01.WordConjugates", spec := "wordConjugates", inPlace := ["internal/bytealg.IndexByteString", "internal/bytealg.IndexString"], named := ["internal/bytealg.MaxLen"], plainKeys := false, apart := false }
def WordConjugatesSaid : Prop := wordConjugatesRow.holds Try.pinned (OpenSpec.ofChange wordConjugatesSpec)

/-- ITS FALSE NEIGHBOUR: 'it returns false'. Refute it at one input. -/
def wordConjugatesWrong : ChangeSpec := { name := "wordConjugates", fn := fun _ => fun
  | [d1, d2, d3, d4] => { results := [.lit (.bool false)], args := [d1, d2, d3, d4] }
  | _ => none }
def WordConjugatesWrongFalsely : Prop := wordConjugatesRow.holds Try.pinned (OpenSpec.ofChange wordConjugatesWrong)

/-- 'semigrouplaw01.WordFactors': WHATEVER THE INPUT: true; the input reads as it did. -/
def wordFactorsSpec : ChangeSpec := { name := "wordFactors", fn := fun _ => fun
  | [d1, d2] => { results := [.lit (.bool true)], args := [d1, d2] }
  | _ => none }
def wordFactorsRow : OpenClaim := { program := "ytndgafhdeddbjaa", sum := "50a948a45cf359cb9f741ee4df7724f81dd6372c5aabbc2c24ffcf11a2e0c8a7", func := "semigroup/semigrouplaw01.WordFactors", spec := "wordFactors", unfollowed := true, recurses := true, plainKeys := false, apart := false }
def WordFactorsSaid : Prop := wordFactorsRow.holds Try.pinned (OpenSpec.ofChange wordFactorsSpec)

/-- ITS FALSE NEIGHBOUR: 'it returns false'. Refute it at one input. -/
def wordFactorsWrong : ChangeSpec := { name := "wordFactors", fn := fun _ => fun
  | [d1, d2] => { results := [.lit (.bool false)], args := [d1, d2] }
  | _ => none }
def WordFactorsWrongFalsely : Prop := wordFactorsRow.holds Try.pinned (OpenSpec.ofChange wordFactorsWrong)

/-- 'semigrouplaw01.WordSubwords': WHATEVER THE INPUT: true; the input reads as it did. -/
def wordSubwordsSpec : ChangeSpec := { name := "wordSubwords", fn := fun _ => fun
  | [d1, d2] => { results := [.lit (.bool true)], args := [d1, d2] }
  | _ => none }
def wordSubwordsRow : OpenClaim := { program := "ytndgafhdeddbjaa", sum := "50a948a45cf359cb9f741ee4df7724f81dd6372c5aabbc2c24ffcf11a2e0c8a7", func := "semigroup/semigrouplaw01.WordSubwords", spec := "wordSubwords", inPlace := ["internal/bytealg.abigen_runtime_cmpstring"], unfollowed := true, recurses := true, plainKeys := false, apart := false }
def WordSubwordsSaid : Prop := wordSubwordsRow.holds Try.pinned (OpenSpec.ofChange wordSubwordsSpec)

/-- ITS FALSE NEIGHBOUR: 'it returns false'. Refute it at one input. -/
def wordSubwordsWrong : ChangeSpec := { name := "wordSubwords", fn := fun _ => fun
  | [d1, d2] => { results := [.lit (.bool false)], args := [d1, d2] }
  | _ => none }
def WordSubwordsWrongFalsely : Prop := wordSubwordsRow.holds Try.pinned (OpenSpec.ofChange wordSubwordsWrong)

/-- 'semigrouplaw01.WordListed': WHATEVER THE INPUT: true; the input reads as it did. -/
def wordListedSpec : ChangeSpec := { name := "wordListed", fn := fun _ => fun
  | [d1, d2, d3] => { results := [.lit (.bool true)], args := [d1, d2, d3] }
  | _ => none }
def wordListedRow : OpenClaim := { program := "ytndgafhdeddbjaa", sum := "50a948a45cf359cb9f741ee4df7724f81dd6372c5aabbc2c24ffcf11a2e0c8a7", func := "semigroup/semigrouplaw01.WordListed", spec := "wordListed", inPlace := ["internal/bytealg.abigen_runtime_cmpstring"], unfollowed := true, recurses := true, plainKeys := false, apart := false }
def WordListedSaid : Prop := wordListedRow.holds Try.pinned (OpenSpec.ofChange wordListedSpec)

/-- ITS FALSE NEIGHBOUR: 'it returns false'. Refute it at one input. -/
def wordListedWrong : ChangeSpec := { name := "wordListed", fn := fun _ => fun
  | [d1, d2, d3] => { results := [.lit (.bool false)], args := [d1, d2, d3] }
  | _ => none }
def WordListedWrongFalsely : Prop := wordListedRow.holds Try.pinned (OpenSpec.ofChange wordListedWrong)

/- THE SECOND FORM. 'bulk': how many values and letters a reading holds, each counted each time it is reached (what is shared counts as often as it is met; a slice's spare places count too). A statement '..UptoSaid' is the law's where the arguments, and the package variables that the reading takes, are together of bulk at most 1048576: NARROWER than '..Said'. Prove '..Said' where nothing that the law and all that it calls make is longer than what came in: it says more and counts as full. Else prove '..UptoSaid'. A law counts once. -/
mutual
def uptoBulk {H : Type} : DataW H → Nat
  | .lit (.string bytes) => bytes.length + 1
  | .lit _ => 1
  | .nil => 1
  | .ptr d => uptoBulk d + 1
  | .slice elems spare => uptoBulkAll elems + uptoBulkAll spare + 1
  | .agg parts => uptoBulkAll parts + 1
  | .iface _ d => uptoBulk d + 1
  | .map entries => uptoBulkEntries entries + 1
  | .held _ => 1
def uptoBulkAll {H : Type} : List (DataW H) → Nat
  | [] => 0
  | d :: r => uptoBulk d + uptoBulkAll r
def uptoBulkEntries {H : Type} : List (Lit × DataW H) → Nat
  | [] => 0
  | x :: r => uptoBulkEntry x + uptoBulkEntries r
def uptoBulkEntry {H : Type} : Lit × DataW H → Nat
  | (.string bytes, d) => bytes.length + uptoBulk d + 1
  | (_, d) => uptoBulk d + 1
 end
def uptoSmall : (H : Type) → List (DataW H) → Bool := fun _ ds => decide (uptoBulkAll ds ≤ 1048576)
def OpenSpec.upto (s : _root_.Go.ChangeSpec) : _root_.Go.OpenSpec := { _root_.Go.OpenSpec.ofChange s with cond := some uptoSmall }

/-- 'semigrouplaw01.WordValid', WHERE WHAT IT READS IS OF BULK AT MOST 1048576: true; the input reads as it did. -/
def wordValidUptoRow : OpenClaim := { program := "ytndgafhdeddbjaa", sum := "50a948a45cf359cb9f741ee4df7724f81dd6372c5aabbc2c24ffcf11a2e0c8a7", func := "semigroup/semigrouplaw01.WordValid", spec := "wordValid", plainKeys := false, apart := false, narrowed := true }
def WordValidUptoSaid : Prop := wordValidUptoRow.holds Try.pinned (OpenSpec.upto wordValidSpec)

/-- 'semigrouplaw01.WordRanks', WHERE WHAT IT READS IS OF BULK AT MOST 1048576: true; the input reads as it did. -/
def wordRanksUptoRow : OpenClaim := { program := "ytndgafhdeddbjaa", sum := "50a948a45cf359cb9f741ee4df7724f81dd6372c5aabbc2c24ffcf11a2e0c8a7", func := "semigroup/semigrouplaw01.WordRanks", spec := "wordRanks", plainKeys := false, apart := false, narrowed := true }
def WordRanksUptoSaid : Prop := wordRanksUptoRow.holds Try.pinned (OpenSpec.upto wordRanksSpec)

/-- 'semigrouplaw01.WordUnranks', WHERE WHAT IT READS IS OF BULK AT MOST 1048576: true; the input reads as it did. -/
def wordUnranksUptoRow : OpenClaim := { program := "ytndgafhdeddbjaa", sum := "50a948a45cf359cb9f741ee4df7724f81dd6372c5aabbc2c24ffcf11a2e0c8a7", func := "semigroup/semigrouplaw01.WordUnranks", spec := "wordUnranks", plainKeys := false, apart := false, narrowed := true }
def WordUnranksUptoSaid : Prop := wordUnranksUptoRow.holds Try.pinned (OpenSpec.upto wordUnranksSpec)

/-- 'semigrouplaw01.WordOccurrences', WHERE WHAT IT READS IS OF BULK AT MOST 1048576: true; the input reads as it did. -/
def wordOccurrencesUptoRow : OpenClaim := { program := "ytndgafhdeddbjaa", sum := "50a948a45cf359cb9f741ee4df7724f81dd6372c5aabbc2c24ffcf11a2e0c8a7", func := "semigroup/semigrouplaw01.WordOccurrences", spec := "wordOccurrences", plainKeys := false, apart := false, narrowed := true }
def WordOccurrencesUptoSaid : Prop := wordOccurrencesUptoRow.holds Try.pinned (OpenSpec.upto wordOccurrencesSpec)

/-- 'semigrouplaw01.WordPascal', WHERE WHAT IT READS IS OF BULK AT MOST 1048576: true; the input reads as it did. -/
def wordPascalUptoRow : OpenClaim := { program := "ytndgafhdeddbjaa", sum := "50a948a45cf359cb9f741ee4df7724f81dd6372c5aabbc2c24ffcf11a2e0c8a7", func := "semigroup/semigrouplaw01.WordPascal", spec := "wordPascal", plainKeys := false, apart := false, narrowed := true }
def WordPascalUptoSaid : Prop := wordPascalUptoRow.holds Try.pinned (OpenSpec.upto wordPascalSpec)

/-- 'semigrouplaw01.WordConvolves', WHERE WHAT IT READS IS OF BULK AT MOST 1048576: true; the input reads as it did. -/
def wordConvolvesUptoRow : OpenClaim := { program := "ytndgafhdeddbjaa", sum := "50a948a45cf359cb9f741ee4df7724f81dd6372c5aabbc2c24ffcf11a2e0c8a7", func := "semigroup/semigrouplaw01.WordConvolves", spec := "wordConvolves", plainKeys := false, apart := false, narrowed := true }
def WordConvolvesUptoSaid : Prop := wordConvolvesUptoRow.holds Try.pinned (OpenSpec.upto wordConvolvesSpec)

/-- 'semigrouplaw01.WordBorders', WHERE WHAT IT READS IS OF BULK AT MOST 1048576: true; the input reads as it did. -/
def wordBordersUptoRow : OpenClaim := { program := "ytndgafhdeddbjaa", sum := "50a948a45cf359cb9f741ee4df7724f81dd6372c5aabbc2c24ffcf11a2e0c8a7", func := "semigroup/semigrouplaw01.WordBorders", spec := "wordBorders", plainKeys := false, apart := false, narrowed := true }
def WordBordersUptoSaid : Prop := wordBordersUptoRow.holds Try.pinned (OpenSpec.upto wordBordersSpec)

/-- 'semigrouplaw01.WordRoots', WHERE WHAT IT READS IS OF BULK AT MOST 1048576: true; the input reads as it did. -/
def wordRootsUptoRow : OpenClaim := { program := "ytndgafhdeddbjaa", sum := "50a948a45cf359cb9f741ee4df7724f81dd6372c5aabbc2c24ffcf11a2e0c8a7", func := "semigroup/semigrouplaw01.WordRoots", spec := "wordRoots", plainKeys := false, apart := false, narrowed := true }
def WordRootsUptoSaid : Prop := wordRootsUptoRow.holds Try.pinned (OpenSpec.upto wordRootsSpec)

/-- 'semigrouplaw01.WordPowers', WHERE WHAT IT READS IS OF BULK AT MOST 1048576: true; the input reads as it did. -/
def wordPowersUptoRow : OpenClaim := { program := "ytndgafhdeddbjaa", sum := "50a948a45cf359cb9f741ee4df7724f81dd6372c5aabbc2c24ffcf11a2e0c8a7", func := "semigroup/semigrouplaw01.WordPowers", spec := "wordPowers", plainKeys := false, apart := false, narrowed := true }
def WordPowersUptoSaid : Prop := wordPowersUptoRow.holds Try.pinned (OpenSpec.upto wordPowersSpec)

/-- 'semigrouplaw01.WordPeriods', WHERE WHAT IT READS IS OF BULK AT MOST 1048576: true; the input reads as it did. -/
def wordPeriodsUptoRow : OpenClaim := { program := "ytndgafhdeddbjaa", sum := "50a948a45cf359cb9f741ee4df7724f81dd6372c5aabbc2c24ffcf11a2e0c8a7", func := "semigroup/semigrouplaw01.WordPeriods", spec := "wordPeriods", plainKeys := false, apart := false, narrowed := true }
def WordPeriodsUptoSaid : Prop := wordPeriodsUptoRow.holds Try.pinned (OpenSpec.upto wordPeriodsSpec)

/-- 'semigrouplaw01.WordCompares', WHERE WHAT IT READS IS OF BULK AT MOST 1048576: true; the input reads as it did. -/
def wordComparesUptoRow : OpenClaim := { program := "ytndgafhdeddbjaa", sum := "50a948a45cf359cb9f741ee4df7724f81dd6372c5aabbc2c24ffcf11a2e0c8a7", func := "semigroup/semigrouplaw01.WordCompares", spec := "wordCompares", inPlace := ["internal/bytealg.abigen_runtime_cmpstring"], plainKeys := false, apart := false, narrowed := true }
def WordComparesUptoSaid : Prop := wordComparesUptoRow.holds Try.pinned (OpenSpec.upto wordComparesSpec)

/-- 'semigrouplaw01.WordChains', WHERE WHAT IT READS IS OF BULK AT MOST 1048576: true; the input reads as it did. -/
def wordChainsUptoRow : OpenClaim := { program := "ytndgafhdeddbjaa", sum := "50a948a45cf359cb9f741ee4df7724f81dd6372c5aabbc2c24ffcf11a2e0c8a7", func := "semigroup/semigrouplaw01.WordChains", spec := "wordChains", inPlace := ["internal/bytealg.abigen_runtime_cmpstring"], plainKeys := false, apart := false, narrowed := true }
def WordChainsUptoSaid : Prop := wordChainsUptoRow.holds Try.pinned (OpenSpec.upto wordChainsSpec)

/-- 'semigrouplaw01.WordSuccessors', WHERE WHAT IT READS IS OF BULK AT MOST 1048576: true; the input reads as it did. -/
def wordSuccessorsUptoRow : OpenClaim := { program := "ytndgafhdeddbjaa", sum := "50a948a45cf359cb9f741ee4df7724f81dd6372c5aabbc2c24ffcf11a2e0c8a7", func := "semigroup/semigrouplaw01.WordSuccessors", spec := "wordSuccessors", inPlace := ["internal/bytealg.abigen_runtime_cmpstring"], plainKeys := false, apart := false, narrowed := true }
def WordSuccessorsUptoSaid : Prop := wordSuccessorsUptoRow.holds Try.pinned (OpenSpec.upto wordSuccessorsSpec)

/-- 'semigrouplaw01.WordParts', WHERE WHAT IT READS IS OF BULK AT MOST 1048576: true; the input reads as it did. -/
def wordPartsUptoRow : OpenClaim := { program := "ytndgafhdeddbjaa", sum := "50a948a45cf359cb9f741ee4df7724f81dd6372c5aabbc2c24ffcf11a2e0c8a7", func := "semigroup/semigrouplaw01.WordParts", spec := "wordParts", inPlace := ["internal/bytealg.IndexByteString", "internal/bytealg.IndexString"], named := ["internal/bytealg.MaxLen"], plainKeys := false, apart := false, narrowed := true }
def WordPartsUptoSaid : Prop := wordPartsUptoRow.holds Try.pinned (OpenSpec.upto wordPartsSpec)

/-- 'semigrouplaw01.WordDeletes', WHERE WHAT IT READS IS OF BULK AT MOST 1048576: true; the input reads as it did. -/
def wordDeletesUptoRow : OpenClaim := { program := "ytndgafhdeddbjaa", sum := "50a948a45cf359cb9f741ee4df7724f81dd6372c5aabbc2c24ffcf11a2e0c8a7", func := "semigroup/semigrouplaw01.WordDeletes", spec := "wordDeletes", inPlace := ["internal/bytealg.IndexByteString", "internal/bytealg.IndexString"], named := ["internal/bytealg.MaxLen"], plainKeys := false, apart := false, narrowed := true }
def WordDeletesUptoSaid : Prop := wordDeletesUptoRow.holds Try.pinned (OpenSpec.upto wordDeletesSpec)

/-- 'semigrouplaw01.WordConjugates', WHERE WHAT IT READS IS OF BULK AT MOST 1048576: true; the input reads as it did. -/
def wordConjugatesUptoRow : OpenClaim := { program := "ytndgafhdeddbjaa", sum := "50a948a45cf359cb9f741ee4df7724f81dd6372c5aabbc2c24ffcf11a2e0c8a7", func := "semigroup/semigrouplaw01.WordConjugates", spec := "wordConjugates", inPlace := ["internal/bytealg.IndexByteString", "internal/bytealg.IndexString"], named := ["internal/bytealg.MaxLen"], plainKeys := false, apart := false, narrowed := true }
def WordConjugatesUptoSaid : Prop := wordConjugatesUptoRow.holds Try.pinned (OpenSpec.upto wordConjugatesSpec)

/-- 'semigrouplaw01.WordFactors', WHERE WHAT IT READS IS OF BULK AT MOST 1048576: true; the input reads as it did. -/
def wordFactorsUptoRow : OpenClaim := { program := "ytndgafhdeddbjaa", sum := "50a948a45cf359cb9f741ee4df7724f81dd6372c5aabbc2c24ffcf11a2e0c8a7", func := "semigroup/semigrouplaw01.WordFactors", spec := "wordFactors", unfollowed := true, recurses := true, plainKeys := false, apart := false, narrowed := true }
def WordFactorsUptoSaid : Prop := wordFactorsUptoRow.holds Try.pinned (OpenSpec.upto wordFactorsSpec)

/-- 'semigrouplaw01.WordSubwords', WHERE WHAT IT READS IS OF BULK AT MOST 1048576: true; the input reads as it did. -/
def wordSubwordsUptoRow : OpenClaim := { program := "ytndgafhdeddbjaa", sum := "50a948a45cf359cb9f741ee4df7724f81dd6372c5aabbc2c24ffcf11a2e0c8a7", func := "semigroup/semigrouplaw01.WordSubwords", spec := "wordSubwords", inPlace := ["internal/bytealg.abigen_runtime_cmpstring"], unfollowed := true, recurses := true, plainKeys := false, apart := false, narrowed := true }
def WordSubwordsUptoSaid : Prop := wordSubwordsUptoRow.holds Try.pinned (OpenSpec.upto wordSubwordsSpec)

/-- 'semigrouplaw01.WordListed', WHERE WHAT IT READS IS OF BULK AT MOST 1048576: true; the input reads as it did. -/
def wordListedUptoRow : OpenClaim := { program := "ytndgafhdeddbjaa", sum := "50a948a45cf359cb9f741ee4df7724f81dd6372c5aabbc2c24ffcf11a2e0c8a7", func := "semigroup/semigrouplaw01.WordListed", spec := "wordListed", inPlace := ["internal/bytealg.abigen_runtime_cmpstring"], unfollowed := true, recurses := true, plainKeys := false, apart := false, narrowed := true }
def WordListedUptoSaid : Prop := wordListedUptoRow.holds Try.pinned (OpenSpec.upto wordListedSpec)

end Rows
end Go.Proofs.Ytndgafhdeddbjaa
