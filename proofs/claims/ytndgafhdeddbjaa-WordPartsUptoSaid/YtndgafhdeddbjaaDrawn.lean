/- Regions that draw their order and whose calls make memory: the class of worlds to walk them in. -/
import Derived.BigQuiet
import Derived.Below
namespace Go.Proofs.Ytndgafhdeddbjaa
set_option linter.unusedVariables false
open Go.RowKit

/-- Worlds that have kept all blocks below number B of w. -/
def Kept (B : Nat) (w w' : World) : Prop := Below B w w'

theorem Kept.out {B : Nat} {w w' : World} (h : Kept B w w') : Below B w w' := h

/-- A callee that makes memory, in a world of the class. -/
theorem kept_of {P : Program} {f : FuncId} {args : Array Value} {B : Nat} {w w1 : World} {v : Value} (hk : Kept B w w1) (hB : B ≤ w.heap.size)
    (h : Calls P f args w1 fun e w' => e = .returned v ∧ Below w1.heap.size w1 w') : Calls P f args w1 fun e w' => e = .returned v ∧ Kept B w w' :=
  h.mono fun _ _ ⟨he, hb⟩ => ⟨he, Below.trans hk (hb.mono (Nat.le_trans hB hk.size))⟩

/-- A callee that leaves the world alone. -/
theorem kept_of_same {P : Program} {f : FuncId} {args : Array Value} {B : Nat} {w w1 : World} {v : Value} (hk : Kept B w w1)
    (h : Calls P f args w1 fun e w' => e = .returned v ∧ w1 = w') : Calls P f args w1 fun e w' => e = .returned v ∧ Kept B w w' :=
  h.mono fun _ _ ⟨he, hb⟩ => ⟨he, hb ▸ hk⟩

/-- A region that draws, walked once in the order of the text, in the class of worlds that keep the blocks below B. -/
theorem wp_region_kept {P : Program} {id : Nat} {Q : Exit → Act → World → Prop} {a : Act} {w : World} {l : List Oper} (B : Nat) (w0 : World) (hm : P.follows .mixedOrders = true) (hB : Region.lexB .any l.toArray = true)
    (hC : Below B w0 w)
    (h : wpQuiet P l.toArray (Kept B w0) (fun a' => ∀ w', Kept B w0 w' → Q .normal a' w') l a) : (Code.region id l.toArray true).wp P Q a w :=
  wp_region_quiet (C := Kept B w0) hm hB (hC.trans (Below.refl _ _).drew) (by simpa using h)
end Go.Proofs.Ytndgafhdeddbjaa
