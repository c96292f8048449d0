/- Closed facts of the whole program, each asked once. -/
import Derived.Test.YtndgafhdeddbjaaRows
import Derived.WalkKit
import Derived.ProofKit
namespace Go.Proofs.Ytndgafhdeddbjaa
theorem band {a b : Bool} (h : a = true) (k : b = true) : (a && b) = true := by rw [h, k]; rfl
theorem Try.fLaid : laidOutB Try.checked.prog = true := by kernel_rfl
theorem Try.fMaps : mapsRowed Try.checked.prog = true := by kernel_rfl
theorem Try.fStops : Try.checked.prog.stops = [] := by kernel_rfl
theorem Try.fStopKnobs : Try.checked.prog.stopKnobs = [] := by kernel_rfl
theorem Try.fPlainKeys : Try.checked.prog.plainKeys = false := by kernel_rfl
theorem Try.fHeard : Try.checked.prog.stopsHeard = true := by kernel_rfl
theorem Try.fMayEnter : Try.checked.prog.mayEnter = true := by kernel_rfl
theorem Try.fLifts : Try.checked.prog.liftsFinal = false := by kernel_rfl
theorem Try.fMake : Try.checked.prog.make = some .cut := by kernel_rfl
theorem Try.fOwn : ownKnob Try.prog.godebug = none := by kernel_rfl
end Go.Proofs.Ytndgafhdeddbjaa
