/- What all laws of this program share: facts of its table of types and of how it was laid. -/
import Derived.Test.YtdodgbhodkcckaaRows
import Derived.Test.YtdodgbhodkcckaaChecked
import Derived.Test.YtdodgbhodkcckaaPv3
import Derived.Test.YtdodgbhodkcckaaPla
set_option maxRecDepth 100000
namespace Go.Proofs.Ytdodgbhodkcckaa
open Go Go.ChangeShapes Go.WideShapes Go.ChangeAt Go.RowKit Pv

theorem Try.own : ownKnob Try.prog.godebug = none := by kernel_rfl
theorem Try.laidOut : laidOutB Try.prog = true := by kernel_rfl
theorem Try.rowed : mapsRowed Try.prog = true := by kernel_rfl
theorem Try.kids : Kids Try.prog (· < Try.prog.types.size) := kids_rows Try.laidOut Try.rowed
theorem Try.full : ∀ t e, t < Try.prog.types.size → Try.prog.underlying t = some (.slice e) → 0 < Try.prog.cellsOf e := slices_full_of Try.prog (by kernel_rfl)
theorem Try.stops0 : (Try.prog.stops == []) = true := by kernel_rfl
theorem Try.stopKnobs0 : (Try.prog.stopKnobs == []) = true := by kernel_rfl
theorem Try.heard : Try.prog.stopsHeard = true := by kernel_rfl
theorem Try.later0 : Try.prog.laysLater = false := by kernel_rfl
theorem Try.reflect0 : Try.prog.bearsReflect = false := by kernel_rfl
theorem Try.doors0 : Try.prog.doorRows = [] := by kernel_rfl
theorem Try.enters : Try.prog.mayEnter = true := by
  obtain ⟨rest, h⟩ := Try.cut
  exact mayEnter_cut h Try.later0 Try.reflect0 Try.doors0
theorem Try.lifted0 : (false == Try.prog.liftsFinal) = true := by
  obtain ⟨rest, h⟩ := Try.cut
  rw [liftsFinal_cut h]; rfl
theorem Try.made : (Try.prog.make == some Make.cut) = true := by
  obtain ⟨rest, h⟩ := Try.cut
  rw [make_cut h]; kernel_rfl
theorem Try.keys0 : (false == Try.prog.plainKeys) = true := by kernel_rfl
theorem and_of {a b : Bool} (ha : a = true) (hb : b = true) : (a && b) = true := by rw [ha, hb]; rfl

end Go.Proofs.Ytdodgbhodkcckaa
