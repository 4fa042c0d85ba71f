/- One more: of all data of their kinds. -/
import Derived.Test.YtdodgbhodkcckaaPyk
set_option linter.unusedVariables false
set_option autoImplicit false
namespace Go.Proofs.Ytdodgbhodkcckaa.Pv
open Go Go.RowKit

theorem run12k (xs : List D) (h : okArgs [(false, [.slc true itemCL]), (true, itemCL)] xs) : Runs Try.prog 12 (xs.map .d) [] (.d (.v (.bool true))) [] := by
  simp only [okArgs, okL] at h
  obtain ⟨_, _, rfl, ⟨_, _, rfl, h1, rfl⟩, _, _, rfl, h2, rfl⟩ := h
  obtain ⟨l, rfl, hl⟩ := items_of h1
  obtain ⟨x, rfl, hx⟩ := item_of h2
  exact run12 l x
end Go.Proofs.Ytdodgbhodkcckaa.Pv
