/- The statement that no item is in two cycles at once, of all data of its kinds. -/
import Derived.Test.YtdodgbhodkcckaaPor
import Derived.Test.YtdodgbhodkcckaaPos
set_option autoImplicit false
namespace Go.Proofs.Ytdodgbhodkcckaa.Pv
open Go Go.RowKit

theorem run22k (xs : List D) (h : okArgs [(false, [.slc true itemVL]), (false, [.slc true wordVL])] xs) : Runs Try.prog 22 (xs.map .d) [] (.d (.v (.bool true))) [] := by
  simp only [okArgs, okL] at h
  obtain ⟨_, _, rfl, ⟨_, _, rfl, h1, rfl⟩, _, _, rfl, ⟨_, _, rfl, h2, rfl⟩, rfl⟩ := h
  obtain ⟨a, rfl, _⟩ := itemsV_of h1
  obtain ⟨ws, rfl, _⟩ := wordsV_of h2
  exact run22 a ws
end Go.Proofs.Ytdodgbhodkcckaa.Pv
