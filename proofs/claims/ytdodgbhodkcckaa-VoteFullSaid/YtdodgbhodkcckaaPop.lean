/- The statement of how many items are offered, of all data of its kinds. -/
import Derived.Test.YtdodgbhodkcckaaPoo
set_option autoImplicit false
namespace Go.Proofs.Ytdodgbhodkcckaa.Pv
open Go Go.RowKit

theorem run23k (xs : List D) (h : okArgs [(false, [.int .i64])] xs) : Runs Try.prog 23 (xs.map .d) [] (.d (.v (.bool true))) [] := by
  simp only [okArgs, okL] at h
  obtain ⟨_, _, rfl, ⟨_, _, rfl, ⟨a, rfl, ha⟩, rfl⟩, rfl⟩ := h
  exact run23 a
end Go.Proofs.Ytdodgbhodkcckaa.Pv
