/- The statement of what an entity is part of, of all data of its kind. -/
import Derived.Test.YtdodgbhodkcckaaPcr
set_option linter.unusedVariables false
set_option autoImplicit false
namespace Go.Proofs.Ytdodgbhodkcckaa.Pv
open Go Go.RowKit

abbrev lxnCL : List CL := [.int .i64, .int .i64, .int .i64, .int .i64]
theorem lxn_of {ds : List D} (h : okL lxnCL ds) : ∃ x : Line, ds = x.cells := by
  simp only [okL, okD] at h
  obtain ⟨_, _, rfl, ⟨a, rfl, _⟩, _, _, rfl, ⟨b, rfl, _⟩, _, _, rfl, ⟨c, rfl, _⟩, _, _, rfl, ⟨d, rfl, _⟩, rfl⟩ := h
  exact ⟨⟨a, b, c, d⟩, rfl⟩
theorem lxns_of {d : D} (h : okD (.slc true lxnCL) d) : ∃ l : List Line, d = .slc 4 (linesD l) := by
  simp only [okD] at h
  obtain ⟨els, rfl, _, h⟩ := h
  obtain ⟨l, rfl, _⟩ := els_of Line.d (fun _ => True) (els := els) fun el he => by
    obtain ⟨ds, rfl, h2⟩ := h el he
    obtain ⟨x, rfl⟩ := lxn_of h2
    exact ⟨x, rfl, True.intro⟩
  exact ⟨l, by simp [linesD]⟩
theorem run27k (xs : List D) (h : okArgs [(false, [.int .i64]), (false, [.slc true lxnCL])] xs) : Runs Try.prog 27 (xs.map .d) [] (.d (.v (.bool true))) [] := by
  simp only [okArgs, okL] at h
  obtain ⟨_, _, rfl, ⟨_, _, rfl, ⟨a, rfl, _⟩, rfl⟩, _, _, rfl, ⟨_, _, rfl, h1, rfl⟩, rfl⟩ := h
  obtain ⟨l, rfl⟩ := lxns_of h1
  exact run27 a l
end Go.Proofs.Ytdodgbhodkcckaa.Pv
