/-
  NARROWER THAN 'FOR EVERY INPUT', by the rows' own cells (each row's printed sentence says how): DecomposeOf: laid · DecomposeSimulateRaw: laid · DecomposeRaw: laid · DecomposeChains: laid · DecomposeKinds: laid · DecomposeMinimal: laid · DecomposeChecks: laid · DecomposeLetters: laid · DecomposeSimulates: laid.
  DERIVED. THE GIVEN ROWS OF THIS SEAT. 9 by the template 'for every input the law returns true; each argument reads behind the call as it read before'; 0 by the template 'total and deterministic' (their statements: YtiobkcdgggbljaaGreatDoorTotals.lean).
  GIVEN WITH THE SEED: the statements are not yours to turn. If you find one false, say at which input.
  Laid BY PROGRAM, IN A SANDBOX (cutbox-rows.mjs): the forced cells as the released guide's own fill.sh prints them over the translation 057c4f78ed676b5b… (all of the seat's roots in one cut). By AI agents, Wed Nov 11 2026. No macro, syntax, notation, axiom, sorry.
-/
import Derived.Test.YtiobkcdgggbljaaGreatDoorChecked
import GoSem.Claim
import GoSem.ClaimJoined
import GoSem.ClaimMapViews
import Derived.JoinedTies
import Derived.KernelRfl
namespace Go.Proofs.YtiobkcdgggbljaaGreatDoor
/- THE CELL 'sum', in the pinned program and in every row, IS THE sha256 OF THE DUMP (.gsa) THAT YtiobkcdgggbljaaGreatDoorProg.lean LOADS. Nothing in Lean hashes anything: it is a label: what it is worth is what the hold of that sum in a sandbox is worth. -/
noncomputable def Tryz.pinned : Pinned := { name := "ytiobkcdgggbljaagreatdoor", sum := "057c4f78ed676b5bd46779c7184cc072b7999f10853e63bbe9d415865a73d630", checked := Tryz.checked }
namespace Rows
def none {H : Type} : Left H := { results := [], args := [] }

/- WHAT THE LISTED PACKAGE-LEVEL VARIABLES READ AS WHEN THE CALL BEGINS. Each datum BY PROGRAM (the guide's laid-datum.mjs) off the statement by which the dump's own 'gosem.cut.vars' lays the variable. In a bare row this is a premise. The card (YtiobkcdgggbljaaGreatDoorCards.lean) ties it to the program's text. -/
def laid_math_bits_deBruijn32tab {H : Type} : DataW H := .agg [.lit (.int .u8 0), .lit (.int .u8 1), .lit (.int .u8 28), .lit (.int .u8 2), .lit (.int .u8 29), .lit (.int .u8 14), .lit (.int .u8 24), .lit (.int .u8 3), .lit (.int .u8 30), .lit (.int .u8 22), .lit (.int .u8 20), .lit (.int .u8 15), .lit (.int .u8 25), .lit (.int .u8 17), .lit (.int .u8 4), .lit (.int .u8 8), .lit (.int .u8 31), .lit (.int .u8 27), .lit (.int .u8 13), .lit (.int .u8 23), .lit (.int .u8 21), .lit (.int .u8 19), .lit (.int .u8 16), .lit (.int .u8 7), .lit (.int .u8 26), .lit (.int .u8 12), .lit (.int .u8 18), .lit (.int .u8 6), .lit (.int .u8 11), .lit (.int .u8 5), .lit (.int .u8 10), .lit (.int .u8 9)]
def laid_math_bits_deBruijn64tab {H : Type} : DataW H := .agg [.lit (.int .u8 0), .lit (.int .u8 1), .lit (.int .u8 56), .lit (.int .u8 2), .lit (.int .u8 57), .lit (.int .u8 49), .lit (.int .u8 28), .lit (.int .u8 3), .lit (.int .u8 61), .lit (.int .u8 58), .lit (.int .u8 42), .lit (.int .u8 50), .lit (.int .u8 38), .lit (.int .u8 29), .lit (.int .u8 17), .lit (.int .u8 4), .lit (.int .u8 62), .lit (.int .u8 47), .lit (.int .u8 59), .lit (.int .u8 36), .lit (.int .u8 45), .lit (.int .u8 43), .lit (.int .u8 51), .lit (.int .u8 22), .lit (.int .u8 53), .lit (.int .u8 39), .lit (.int .u8 33), .lit (.int .u8 30), .lit (.int .u8 24), .lit (.int .u8 18), .lit (.int .u8 12), .lit (.int .u8 5), .lit (.int .u8 63), .lit (.int .u8 55), .lit (.int .u8 48), .lit (.int .u8 27), .lit (.int .u8 60), .lit (.int .u8 41), .lit (.int .u8 37), .lit (.int .u8 16), .lit (.int .u8 46), .lit (.int .u8 35), .lit (.int .u8 44), .lit (.int .u8 21), .lit (.int .u8 52), .lit (.int .u8 32), .lit (.int .u8 23), .lit (.int .u8 11), .lit (.int .u8 54), .lit (.int .u8 26), .lit (.int .u8 40), .lit (.int .u8 15), .lit (.int .u8 34), .lit (.int .u8 20), .lit (.int .u8 31), .lit (.int .u8 10), .lit (.int .u8 25), .lit (.int .u8 14), .lit (.int .u8 19), .lit (.int .u8 9), .lit (.int .u8 13), .lit (.int .u8 8), .lit (.int .u8 7), .lit (.int .u8 6)]

/-- 'semigrouplaw27.DecomposeOf': WHATEVER THE INPUT: true; the input reads as it did. -/
def decomposeOfSpec : ChangeSpec := { name := "decomposeOf", fn := fun _ => fun
  | [d] => { results := [.lit (.bool true)], args := [d] }
  | _ => none }
def decomposeOfRow : OpenClaim := { program := "ytiobkcdgggbljaagreatdoor", sum := "057c4f78ed676b5bd46779c7184cc072b7999f10853e63bbe9d415865a73d630", func := "semigroup/semigrouplaw27.DecomposeOf", spec := "decomposeOf", unfollowed := true, recurses := true, named := ["math/bits.deBruijn32tab", "math/bits.deBruijn64tab"], plainKeys := false, apart := false, laid := [("math/bits.deBruijn32tab", laid_math_bits_deBruijn32tab), ("math/bits.deBruijn64tab", laid_math_bits_deBruijn64tab)] }
def DecomposeOfSaid : Prop := decomposeOfRow.holds Tryz.pinned (OpenSpec.ofChange decomposeOfSpec)

/-- ITS FALSE NEIGHBOUR: 'it returns false'. Refute it at one input. -/
def decomposeOfWrong : ChangeSpec := { name := "decomposeOf", fn := fun _ => fun
  | [d] => { results := [.lit (.bool false)], args := [d] }
  | _ => none }
def DecomposeOfWrongFalsely : Prop := decomposeOfRow.holds Tryz.pinned (OpenSpec.ofChange decomposeOfWrong)

/-- 'semigrouplaw27.DecomposeSimulateRaw': WHATEVER THE INPUT: true; the input reads as it did. -/
def decomposeSimulateRawSpec : ChangeSpec := { name := "decomposeSimulateRaw", fn := fun _ => fun
  | [d1, d2, d3, d4, d5] => { results := [.lit (.bool true)], args := [d1, d2, d3, d4, d5] }
  | _ => none }
def decomposeSimulateRawRow : OpenClaim := { program := "ytiobkcdgggbljaagreatdoor", sum := "057c4f78ed676b5bd46779c7184cc072b7999f10853e63bbe9d415865a73d630", func := "semigroup/semigrouplaw27.DecomposeSimulateRaw", spec := "decomposeSimulateRaw", unfollowed := true, recurses := true, named := ["math/bits.deBruijn32tab", "math/bits.deBruijn64tab"], plainKeys := false, apart := false, laid := [("math/bits.deBruijn32tab", laid_math_bits_deBruijn32tab), ("math/bits.deBruijn64tab", laid_math_bits_deBruijn64tab)] }
def DecomposeSimulateRawSaid : Prop := decomposeSimulateRawRow.holds Tryz.pinned (OpenSpec.ofChange decomposeSimulateRawSpec)

/-- ITS FALSE NEIGHBOUR: 'it returns false'. Refute it at one input. -/
def decomposeSimulateRawWrong : ChangeSpec := { name := "decomposeSimulateRaw", fn := fun _ => fun
  | [d1, d2, d3, d4, d5] => { results := [.lit (.bool false)], args := [d1, d2, d3, d4, d5] }
  | _ => none }
def DecomposeSimulateRawWrongFalsely : Prop := decomposeSimulateRawRow.holds Tryz.pinned (OpenSpec.ofChange decomposeSimulateRawWrong)

/-- 'semigrouplaw27.DecomposeRaw': WHATEVER THE INPUT: true; the input reads as it did. -/
def decomposeRawSpec : ChangeSpec := { name := "decomposeRaw", fn := fun _ => fun
  | [d1, d2] => { results := [.lit (.bool true)], args := [d1, d2] }
  | _ => none }
def decomposeRawRow : OpenClaim := { program := "ytiobkcdgggbljaagreatdoor", sum := "057c4f78ed676b5bd46779c7184cc072b7999f10853e63bbe9d415865a73d630", func := "semigroup/semigrouplaw27.DecomposeRaw", spec := "decomposeRaw", unfollowed := true, recurses := true, named := ["math/bits.deBruijn32tab", "math/bits.deBruijn64tab"], plainKeys := false, apart := false, laid := [("math/bits.deBruijn32tab", laid_math_bits_deBruijn32tab), ("math/bits.deBruijn64tab", laid_math_bits_deBruijn64tab)] }
def DecomposeRawSaid : Prop := decomposeRawRow.holds Tryz.pinned (OpenSpec.ofChange decomposeRawSpec)

/-- ITS FALSE NEIGHBOUR: 'it returns false'. Refute it at one input. -/
def decomposeRawWrong : ChangeSpec := { name := "decomposeRaw", fn := fun _ => fun
  | [d1, d2] => { results := [.lit (.bool false)], args := [d1, d2] }
  | _ => none }
def DecomposeRawWrongFalsely : Prop := decomposeRawRow.holds Tryz.pinned (OpenSpec.ofChange decomposeRawWrong)

/-- 'semigrouplaw27.DecomposeChains': WHATEVER THE INPUT: true; the input reads as it did. -/
def decomposeChainsSpec : ChangeSpec := { name := "decomposeChains", fn := fun _ => fun
  | [d1, d2] => { results := [.lit (.bool true)], args := [d1, d2] }
  | _ => none }
def decomposeChainsRow : OpenClaim := { program := "ytiobkcdgggbljaagreatdoor", sum := "057c4f78ed676b5bd46779c7184cc072b7999f10853e63bbe9d415865a73d630", func := "semigroup/semigrouplaw27.DecomposeChains", spec := "decomposeChains", unfollowed := true, recurses := true, named := ["math/bits.deBruijn32tab", "math/bits.deBruijn64tab"], plainKeys := false, apart := false, laid := [("math/bits.deBruijn32tab", laid_math_bits_deBruijn32tab), ("math/bits.deBruijn64tab", laid_math_bits_deBruijn64tab)] }
def DecomposeChainsSaid : Prop := decomposeChainsRow.holds Tryz.pinned (OpenSpec.ofChange decomposeChainsSpec)

/-- ITS FALSE NEIGHBOUR: 'it returns false'. Refute it at one input. -/
def decomposeChainsWrong : ChangeSpec := { name := "decomposeChains", fn := fun _ => fun
  | [d1, d2] => { results := [.lit (.bool false)], args := [d1, d2] }
  | _ => none }
def DecomposeChainsWrongFalsely : Prop := decomposeChainsRow.holds Tryz.pinned (OpenSpec.ofChange decomposeChainsWrong)

/-- 'semigrouplaw27.DecomposeKinds': WHATEVER THE INPUT: true; the input reads as it did. -/
def decomposeKindsSpec : ChangeSpec := { name := "decomposeKinds", fn := fun _ => fun
  | [d1, d2] => { results := [.lit (.bool true)], args := [d1, d2] }
  | _ => none }
def decomposeKindsRow : OpenClaim := { program := "ytiobkcdgggbljaagreatdoor", sum := "057c4f78ed676b5bd46779c7184cc072b7999f10853e63bbe9d415865a73d630", func := "semigroup/semigrouplaw27.DecomposeKinds", spec := "decomposeKinds", unfollowed := true, recurses := true, named := ["math/bits.deBruijn32tab", "math/bits.deBruijn64tab"], plainKeys := false, apart := false, laid := [("math/bits.deBruijn32tab", laid_math_bits_deBruijn32tab), ("math/bits.deBruijn64tab", laid_math_bits_deBruijn64tab)] }
def DecomposeKindsSaid : Prop := decomposeKindsRow.holds Tryz.pinned (OpenSpec.ofChange decomposeKindsSpec)

/-- ITS FALSE NEIGHBOUR: 'it returns false'. Refute it at one input. -/
def decomposeKindsWrong : ChangeSpec := { name := "decomposeKinds", fn := fun _ => fun
  | [d1, d2] => { results := [.lit (.bool false)], args := [d1, d2] }
  | _ => none }
def DecomposeKindsWrongFalsely : Prop := decomposeKindsRow.holds Tryz.pinned (OpenSpec.ofChange decomposeKindsWrong)

/-- 'semigrouplaw27.DecomposeMinimal': WHATEVER THE INPUT: true; the input reads as it did. -/
def decomposeMinimalSpec : ChangeSpec := { name := "decomposeMinimal", fn := fun _ => fun
  | [d1, d2] => { results := [.lit (.bool true)], args := [d1, d2] }
  | _ => none }
def decomposeMinimalRow : OpenClaim := { program := "ytiobkcdgggbljaagreatdoor", sum := "057c4f78ed676b5bd46779c7184cc072b7999f10853e63bbe9d415865a73d630", func := "semigroup/semigrouplaw27.DecomposeMinimal", spec := "decomposeMinimal", unfollowed := true, recurses := true, named := ["math/bits.deBruijn32tab", "math/bits.deBruijn64tab"], plainKeys := false, apart := false, laid := [("math/bits.deBruijn32tab", laid_math_bits_deBruijn32tab), ("math/bits.deBruijn64tab", laid_math_bits_deBruijn64tab)] }
def DecomposeMinimalSaid : Prop := decomposeMinimalRow.holds Tryz.pinned (OpenSpec.ofChange decomposeMinimalSpec)

/-- ITS FALSE NEIGHBOUR: 'it returns false'. Refute it at one input. -/
def decomposeMinimalWrong : ChangeSpec := { name := "decomposeMinimal", fn := fun _ => fun
  | [d1, d2] => { results := [.lit (.bool false)], args := [d1, d2] }
  | _ => none }
def DecomposeMinimalWrongFalsely : Prop := decomposeMinimalRow.holds Tryz.pinned (OpenSpec.ofChange decomposeMinimalWrong)

/-- 'semigrouplaw27.DecomposeChecks': WHATEVER THE INPUT: true; the input reads as it did. -/
def decomposeChecksSpec : ChangeSpec := { name := "decomposeChecks", fn := fun _ => fun
  | [d1, d2, d3, d4] => { results := [.lit (.bool true)], args := [d1, d2, d3, d4] }
  | _ => none }
def decomposeChecksRow : OpenClaim := { program := "ytiobkcdgggbljaagreatdoor", sum := "057c4f78ed676b5bd46779c7184cc072b7999f10853e63bbe9d415865a73d630", func := "semigroup/semigrouplaw27.DecomposeChecks", spec := "decomposeChecks", unfollowed := true, recurses := true, named := ["math/bits.deBruijn32tab", "math/bits.deBruijn64tab"], plainKeys := false, apart := false, laid := [("math/bits.deBruijn32tab", laid_math_bits_deBruijn32tab), ("math/bits.deBruijn64tab", laid_math_bits_deBruijn64tab)] }
def DecomposeChecksSaid : Prop := decomposeChecksRow.holds Tryz.pinned (OpenSpec.ofChange decomposeChecksSpec)

/-- ITS FALSE NEIGHBOUR: 'it returns false'. Refute it at one input. -/
def decomposeChecksWrong : ChangeSpec := { name := "decomposeChecks", fn := fun _ => fun
  | [d1, d2, d3, d4] => { results := [.lit (.bool false)], args := [d1, d2, d3, d4] }
  | _ => none }
def DecomposeChecksWrongFalsely : Prop := decomposeChecksRow.holds Tryz.pinned (OpenSpec.ofChange decomposeChecksWrong)

/-- 'semigrouplaw27.DecomposeLetters': WHATEVER THE INPUT: true; the input reads as it did. -/
def decomposeLettersSpec : ChangeSpec := { name := "decomposeLetters", fn := fun _ => fun
  | [d1, d2, d3, d4] => { results := [.lit (.bool true)], args := [d1, d2, d3, d4] }
  | _ => none }
def decomposeLettersRow : OpenClaim := { program := "ytiobkcdgggbljaagreatdoor", sum := "057c4f78ed676b5bd46779c7184cc072b7999f10853e63bbe9d415865a73d630", func := "semigroup/semigrouplaw27.DecomposeLetters", spec := "decomposeLetters", unfollowed := true, recurses := true, named := ["math/bits.deBruijn32tab", "math/bits.deBruijn64tab"], plainKeys := false, apart := false, laid := [("math/bits.deBruijn32tab", laid_math_bits_deBruijn32tab), ("math/bits.deBruijn64tab", laid_math_bits_deBruijn64tab)] }
def DecomposeLettersSaid : Prop := decomposeLettersRow.holds Tryz.pinned (OpenSpec.ofChange decomposeLettersSpec)

/-- ITS FALSE NEIGHBOUR: 'it returns false'. Refute it at one input. -/
def decomposeLettersWrong : ChangeSpec := { name := "decomposeLetters", fn := fun _ => fun
  | [d1, d2, d3, d4] => { results := [.lit (.bool false)], args := [d1, d2, d3, d4] }
  | _ => none }
def DecomposeLettersWrongFalsely : Prop := decomposeLettersRow.holds Tryz.pinned (OpenSpec.ofChange decomposeLettersWrong)

/-- 'semigrouplaw27.DecomposeSimulates': WHATEVER THE INPUT: true; the input reads as it did. -/
def decomposeSimulatesSpec : ChangeSpec := { name := "decomposeSimulates", fn := fun _ => fun
  | [d1, d2] => { results := [.lit (.bool true)], args := [d1, d2] }
  | _ => none }
def decomposeSimulatesRow : OpenClaim := { program := "ytiobkcdgggbljaagreatdoor", sum := "057c4f78ed676b5bd46779c7184cc072b7999f10853e63bbe9d415865a73d630", func := "semigroup/semigrouplaw27.DecomposeSimulates", spec := "decomposeSimulates", unfollowed := true, recurses := true, named := ["math/bits.deBruijn32tab", "math/bits.deBruijn64tab"], plainKeys := false, apart := false, laid := [("math/bits.deBruijn32tab", laid_math_bits_deBruijn32tab), ("math/bits.deBruijn64tab", laid_math_bits_deBruijn64tab)] }
def DecomposeSimulatesSaid : Prop := decomposeSimulatesRow.holds Tryz.pinned (OpenSpec.ofChange decomposeSimulatesSpec)

/-- ITS FALSE NEIGHBOUR: 'it returns false'. Refute it at one input. -/
def decomposeSimulatesWrong : ChangeSpec := { name := "decomposeSimulates", fn := fun _ => fun
  | [d1, d2] => { results := [.lit (.bool false)], args := [d1, d2] }
  | _ => none }
def DecomposeSimulatesWrongFalsely : Prop := decomposeSimulatesRow.holds Tryz.pinned (OpenSpec.ofChange decomposeSimulatesWrong)

/- THE SECOND FORM. 'bulk': how many values and letters a reading holds, each counted each time it is reached (what is shared counts as often as it is met; a slice's spare places count too). A statement '..UptoSaid' is the law's where the arguments, and the package variables that the reading takes, are together of bulk at most 1048576: NARROWER than '..Said'. Prove '..Said' where nothing that the law and all that it calls make is longer than what came in: it says more and counts as full. Else prove '..UptoSaid'. A law counts once. -/
mutual
def uptoBulk {H : Type} : DataW H → Nat
  | .lit (.string bytes) => bytes.length + 1
  | .lit _ => 1
  | .nil => 1
  | .ptr d => uptoBulk d + 1
  | .slice elems spare => uptoBulkAll elems + uptoBulkAll spare + 1
  | .agg parts => uptoBulkAll parts + 1
  | .iface _ d => uptoBulk d + 1
  | .map entries => uptoBulkEntries entries + 1
  | .held _ => 1
def uptoBulkAll {H : Type} : List (DataW H) → Nat
  | [] => 0
  | d :: r => uptoBulk d + uptoBulkAll r
def uptoBulkEntries {H : Type} : List (Lit × DataW H) → Nat
  | [] => 0
  | x :: r => uptoBulkEntry x + uptoBulkEntries r
def uptoBulkEntry {H : Type} : Lit × DataW H → Nat
  | (.string bytes, d) => bytes.length + uptoBulk d + 1
  | (_, d) => uptoBulk d + 1
 end
def uptoSmall : (H : Type) → List (DataW H) → Bool := fun _ ds => decide (uptoBulkAll ds ≤ 1048576)
def OpenSpec.upto (s : _root_.Go.ChangeSpec) : _root_.Go.OpenSpec := { _root_.Go.OpenSpec.ofChange s with cond := some uptoSmall }

/-- 'semigrouplaw27.DecomposeOf', WHERE WHAT IT READS IS OF BULK AT MOST 1048576: true; the input reads as it did. -/
def decomposeOfUptoRow : OpenClaim := { program := "ytiobkcdgggbljaagreatdoor", sum := "057c4f78ed676b5bd46779c7184cc072b7999f10853e63bbe9d415865a73d630", func := "semigroup/semigrouplaw27.DecomposeOf", spec := "decomposeOf", unfollowed := true, recurses := true, named := ["math/bits.deBruijn32tab", "math/bits.deBruijn64tab"], plainKeys := false, apart := false, laid := [("math/bits.deBruijn32tab", laid_math_bits_deBruijn32tab), ("math/bits.deBruijn64tab", laid_math_bits_deBruijn64tab)], narrowed := true }
def DecomposeOfUptoSaid : Prop := decomposeOfUptoRow.holds Tryz.pinned (OpenSpec.upto decomposeOfSpec)

/-- 'semigrouplaw27.DecomposeSimulateRaw', WHERE WHAT IT READS IS OF BULK AT MOST 1048576: true; the input reads as it did. -/
def decomposeSimulateRawUptoRow : OpenClaim := { program := "ytiobkcdgggbljaagreatdoor", sum := "057c4f78ed676b5bd46779c7184cc072b7999f10853e63bbe9d415865a73d630", func := "semigroup/semigrouplaw27.DecomposeSimulateRaw", spec := "decomposeSimulateRaw", unfollowed := true, recurses := true, named := ["math/bits.deBruijn32tab", "math/bits.deBruijn64tab"], plainKeys := false, apart := false, laid := [("math/bits.deBruijn32tab", laid_math_bits_deBruijn32tab), ("math/bits.deBruijn64tab", laid_math_bits_deBruijn64tab)], narrowed := true }
def DecomposeSimulateRawUptoSaid : Prop := decomposeSimulateRawUptoRow.holds Tryz.pinned (OpenSpec.upto decomposeSimulateRawSpec)

/-- 'semigrouplaw27.DecomposeRaw', WHERE WHAT IT READS IS OF BULK AT MOST 1048576: true; the input reads as it did. -/
def decomposeRawUptoRow : OpenClaim := { program := "ytiobkcdgggbljaagreatdoor", sum := "057c4f78ed676b5bd46779c7184cc072b7999f10853e63bbe9d415865a73d630", func := "semigroup/semigrouplaw27.DecomposeRaw", spec := "decomposeRaw", unfollowed := true, recurses := true, named := ["math/bits.deBruijn32tab", "math/bits.deBruijn64tab"], plainKeys := false, apart := false, laid := [("math/bits.deBruijn32tab", laid_math_bits_deBruijn32tab), ("math/bits.deBruijn64tab", laid_math_bits_deBruijn64tab)], narrowed := true }
def DecomposeRawUptoSaid : Prop := decomposeRawUptoRow.holds Tryz.pinned (OpenSpec.upto decomposeRawSpec)

/-- 'semigrouplaw27.DecomposeChains', WHERE WHAT IT READS IS OF BULK AT MOST 1048576: true; the input reads as it did. -/
def decomposeChainsUptoRow : OpenClaim := { program := "ytiobkcdgggbljaagreatdoor", sum := "057c4f78ed676b5bd46779c7184cc072b7999f10853e63bbe9d415865a73d630", func := "semigroup/semigrouplaw27.DecomposeChains", spec := "decomposeChains", unfollowed := true, recurses := true, named := ["math/bits.deBruijn32tab", "math/bits.deBruijn64tab"], plainKeys := false, apart := false, laid := [("math/bits.deBruijn32tab", laid_math_bits_deBruijn32tab), ("math/bits.deBruijn64tab", laid_math_bits_deBruijn64tab)], narrowed := true }
def DecomposeChainsUptoSaid : Prop := decomposeChainsUptoRow.holds Tryz.pinned (OpenSpec.upto decomposeChainsSpec)

/-- 'semigrouplaw27.DecomposeKinds', WHERE WHAT IT READS IS OF BULK AT MOST 1048576: true; the input reads as it did. -/
def decomposeKindsUptoRow : OpenClaim := { program := "ytiobkcdgggbljaagreatdoor", sum := "057c4f78ed676b5bd46779c7184cc072b7999f10853e63bbe9d415865a73d630", func := "semigroup/semigrouplaw27.DecomposeKinds", spec := "decomposeKinds", unfollowed := true, recurses := true, named := ["math/bits.deBruijn32tab", "math/bits.deBruijn64tab"], plainKeys := false, apart := false, laid := [("math/bits.deBruijn32tab", laid_math_bits_deBruijn32tab), ("math/bits.deBruijn64tab", laid_math_bits_deBruijn64tab)], narrowed := true }
def DecomposeKindsUptoSaid : Prop := decomposeKindsUptoRow.holds Tryz.pinned (OpenSpec.upto decomposeKindsSpec)

/-- 'semigrouplaw27.DecomposeMinimal', WHERE WHAT IT READS IS OF BULK AT MOST 1048576: true; the input reads as it did. -/
def decomposeMinimalUptoRow : OpenClaim := { program := "ytiobkcdgggbljaagreatdoor", sum := "057c4f78ed676b5bd46779c7184cc072b7999f10853e63bbe9d415865a73d630", func := "semigroup/semigrouplaw27.DecomposeMinimal", spec := "decomposeMinimal", unfollowed := true, recurses := true, named := ["math/bits.deBruijn32tab", "math/bits.deBruijn64tab"], plainKeys := false, apart := false, laid := [("math/bits.deBruijn32tab", laid_math_bits_deBruijn32tab), ("math/bits.deBruijn64tab", laid_math_bits_deBruijn64tab)], narrowed := true }
def DecomposeMinimalUptoSaid : Prop := decomposeMinimalUptoRow.holds Tryz.pinned (OpenSpec.upto decomposeMinimalSpec)

/-- 'semigrouplaw27.DecomposeChecks', WHERE WHAT IT READS IS OF BULK AT MOST 1048576: true; the input reads as it did. -/
def decomposeChecksUptoRow : OpenClaim := { program := "ytiobkcdgggbljaagreatdoor", sum := "057c4f78ed676b5bd46779c7184cc072b7999f10853e63bbe9d415865a73d630", func := "semigroup/semigrouplaw27.DecomposeChecks", spec := "decomposeChecks", unfollowed := true, recurses := true, named := ["math/bits.deBruijn32tab", "math/bits.deBruijn64tab"], plainKeys := false, apart := false, laid := [("math/bits.deBruijn32tab", laid_math_bits_deBruijn32tab), ("math/bits.deBruijn64tab", laid_math_bits_deBruijn64tab)], narrowed := true }
def DecomposeChecksUptoSaid : Prop := decomposeChecksUptoRow.holds Tryz.pinned (OpenSpec.upto decomposeChecksSpec)

/-- 'semigrouplaw27.DecomposeLetters', WHERE WHAT IT READS IS OF BULK AT MOST 1048576: true; the input reads as it did. -/
def decomposeLettersUptoRow : OpenClaim := { program := "ytiobkcdgggbljaagreatdoor", sum := "057c4f78ed676b5bd46779c7184cc072b7999f10853e63bbe9d415865a73d630", func := "semigroup/semigrouplaw27.DecomposeLetters", spec := "decomposeLetters", unfollowed := true, recurses := true, named := ["math/bits.deBruijn32tab", "math/bits.deBruijn64tab"], plainKeys := false, apart := false, laid := [("math/bits.deBruijn32tab", laid_math_bits_deBruijn32tab), ("math/bits.deBruijn64tab", laid_math_bits_deBruijn64tab)], narrowed := true }
def DecomposeLettersUptoSaid : Prop := decomposeLettersUptoRow.holds Tryz.pinned (OpenSpec.upto decomposeLettersSpec)

/-- 'semigrouplaw27.DecomposeSimulates', WHERE WHAT IT READS IS OF BULK AT MOST 1048576: true; the input reads as it did. -/
def decomposeSimulatesUptoRow : OpenClaim := { program := "ytiobkcdgggbljaagreatdoor", sum := "057c4f78ed676b5bd46779c7184cc072b7999f10853e63bbe9d415865a73d630", func := "semigroup/semigrouplaw27.DecomposeSimulates", spec := "decomposeSimulates", unfollowed := true, recurses := true, named := ["math/bits.deBruijn32tab", "math/bits.deBruijn64tab"], plainKeys := false, apart := false, laid := [("math/bits.deBruijn32tab", laid_math_bits_deBruijn32tab), ("math/bits.deBruijn64tab", laid_math_bits_deBruijn64tab)], narrowed := true }
def DecomposeSimulatesUptoSaid : Prop := decomposeSimulatesUptoRow.holds Tryz.pinned (OpenSpec.upto decomposeSimulatesSpec)

end Rows
end Go.Proofs.YtiobkcdgggbljaaGreatDoor
