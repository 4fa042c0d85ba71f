/- The statement of what both have offered, of all data of its kind. -/
import Derived.Test.YtdodgbhodkcckaaPcp
set_option linter.unusedVariables false
set_option autoImplicit false
namespace Go.Proofs.Ytdodgbhodkcckaa.Pv
open Go Go.RowKit

abbrev linCL : List CL := [.int .i64, .int .i64, .int .i64, .int .i64]
theorem lin_of {ds : List D} (h : okL linCL ds) : ∃ x : Line, ds = x.cells := by
  simp only [okL, okD] at h
  obtain ⟨_, _, rfl, ⟨a, rfl, _⟩, _, _, rfl, ⟨b, rfl, _⟩, _, _, rfl, ⟨c, rfl, _⟩, _, _, rfl, ⟨d, rfl, _⟩, rfl⟩ := h
  exact ⟨⟨a, b, c, d⟩, rfl⟩
theorem lins_of {d : D} (h : okD (.slc true linCL) d) : ∃ l : List Line, d = .slc 4 (linesD l) := by
  simp only [okD] at h
  obtain ⟨els, rfl, _, h⟩ := h
  obtain ⟨l, rfl, _⟩ := els_of Line.d (fun _ => True) (els := els) fun el he => by
    obtain ⟨ds, rfl, h2⟩ := h el he
    obtain ⟨x, rfl⟩ := lin_of h2
    exact ⟨x, rfl, True.intro⟩
  exact ⟨l, by simp [linesD]⟩
theorem offers_of {d : D} (h : okD (.slc false [.slc true linCL]) d) : ∃ offs : List (List Line), d = .slc 1 (offersD offs) := by
  rw [okD] at h
  obtain ⟨els, rfl, _, h⟩ := h
  obtain ⟨l, rfl, _⟩ := els_of (fun o : List Line => D.slc 4 (linesD o)) (fun _ => True) (els := els) fun el he => by
    obtain ⟨ds, rfl, h2⟩ := h el he
    simp only [okL] at h2
    obtain ⟨a, _, rfl, h3, rfl⟩ := h2
    obtain ⟨o, rfl⟩ := lins_of h3
    exact ⟨o, rfl, True.intro⟩
  exact ⟨l, by simp [offersD]⟩
theorem run26k (xs : List D) (h : okArgs [(false, [.slc false [.slc true linCL]])] xs) : Runs Try.prog 26 (xs.map .d) [] (.d (.v (.bool true))) [] := by
  simp only [okArgs, okL] at h
  obtain ⟨_, _, rfl, ⟨_, _, rfl, h1, rfl⟩, rfl⟩ := h
  obtain ⟨offs, rfl⟩ := offers_of h1
  exact run26 offs
end Go.Proofs.Ytdodgbhodkcckaa.Pv
