/- The statement that what is voted for stays, of all data of its kinds. -/
import Derived.Test.YtdodgbhodkcckaaPow
import Derived.Test.YtdodgbhodkcckaaPos
set_option autoImplicit false
namespace Go.Proofs.Ytdodgbhodkcckaa.Pv
open Go Go.RowKit

theorem run21k (xs : List D) (h : okArgs [(false, [.slc true itemVL]), (false, [.slc true wordVL]), (false, [.bool])] xs) : Runs Try.prog 21 (xs.map .d) [] (.d (.v (.bool true))) [] := by
  simp only [okArgs, okL] at h
  obtain ⟨_, _, rfl, ⟨_, _, rfl, h1, rfl⟩, _, _, rfl, ⟨_, _, rfl, h2, rfl⟩, _, _, rfl, ⟨_, _, rfl, h3, rfl⟩, rfl⟩ := h
  obtain ⟨a, rfl, _⟩ := itemsV_of h1
  obtain ⟨ws, rfl, _⟩ := wordsV_of h2
  simp only [okD] at h3
  obtain ⟨b, rfl⟩ := h3
  exact run21 a ws b
end Go.Proofs.Ytdodgbhodkcckaa.Pv
