/- Looking: of all data of their kinds. -/
import Derived.Test.YtdodgbhodkcckaaPyl
set_option linter.unusedVariables false
set_option autoImplicit false
namespace Go.Proofs.Ytdodgbhodkcckaa.Pv
open Go Go.RowKit

theorem run9k (xs : List D) (h : okArgs [(false, [.slc true itemCL]), (false, [.slc true itemCL]), (false, [.int .i64])] xs) : Runs Try.prog 9 (xs.map .d) [] (.d (.v (.bool true))) [] := by
  simp only [okArgs, okL] at h
  obtain ⟨_, _, rfl, ⟨_, _, rfl, h1, rfl⟩, _, _, rfl, ⟨_, _, rfl, h2, rfl⟩, _, _, rfl, ⟨_, _, rfl, ⟨a, rfl, ha⟩, rfl⟩, rfl⟩ := h
  obtain ⟨l, rfl, hl⟩ := items_of h1
  obtain ⟨r, rfl, hr⟩ := items_of h2
  exact run9 l r a
end Go.Proofs.Ytdodgbhodkcckaa.Pv
