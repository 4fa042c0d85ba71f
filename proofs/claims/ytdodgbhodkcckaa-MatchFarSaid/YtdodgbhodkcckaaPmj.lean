/- The statement of what is taken at first, of all data of its kinds. -/
import Derived.Test.YtdodgbhodkcckaaPmi
set_option autoImplicit false
namespace Go.Proofs.Ytdodgbhodkcckaa.Pv
open Go Go.RowKit

theorem lit_inM {n : Int} (h : (Lit.int .i64 n).wf = true) : In64 n := by
  simp only [Lit.wf, Bool.and_eq_true, decide_eq_true_eq] at h
  exact h
theorem run17k (xs : List D) (h : okArgs [(false, [.int .i64]), (false, [.int .i64]), (false, [.int .i64])] xs) : Runs Try.prog 17 (xs.map .d) [] (.d (.v (.bool true))) [] := by
  simp only [okArgs, okL] at h
  obtain ⟨_, _, rfl, ⟨_, _, rfl, ⟨a, rfl, ha⟩, rfl⟩, _, _, rfl, ⟨_, _, rfl, ⟨b, rfl, _⟩, rfl⟩, _, _, rfl, ⟨_, _, rfl, ⟨c, rfl, _⟩, rfl⟩, rfl⟩ := h
  exact run17 a b c (lit_inM ha)
end Go.Proofs.Ytdodgbhodkcckaa.Pv
