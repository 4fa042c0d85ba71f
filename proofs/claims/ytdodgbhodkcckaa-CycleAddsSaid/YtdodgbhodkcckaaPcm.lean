/- The statements of cycles, of all data of their kinds. -/
import Derived.Test.YtdodgbhodkcckaaPcl
set_option linter.unusedVariables false
set_option autoImplicit false
namespace Go.Proofs.Ytdodgbhodkcckaa.Pv
open Go Go.RowKit

theorem lit_inC {n : Int} (h : (Lit.int .i64 n).wf = true) : In64 n := by
  simp only [Lit.wf, Bool.and_eq_true, decide_eq_true_eq] at h
  exact h
abbrev putCL : List CL := [.int .i64, .int .i64, .int .i64]
abbrev lineCL : List CL := [.int .i64, .int .i64, .int .i64, .int .i64]
theorem line_of {ds : List D} (h : okL lineCL ds) : ∃ x : Line, ds = x.cells := by
  simp only [okL, okD] at h
  obtain ⟨_, _, rfl, ⟨a, rfl, ha⟩, _, _, rfl, ⟨b, rfl, hb⟩, _, _, rfl, ⟨c, rfl, hc⟩, _, _, rfl, ⟨d, rfl, hd⟩, rfl⟩ := h
  exact ⟨⟨a, b, c, d⟩, rfl⟩
theorem lines_of {d : D} (h : okD (.slc true lineCL) d) : ∃ l : List Line, d = .slc 4 (linesD l) := by
  simp only [okD] at h
  obtain ⟨els, rfl, _, h⟩ := h
  obtain ⟨l, rfl, hl⟩ := els_of Line.d (fun _ => True) (els := els) fun el he => by
    obtain ⟨ds, rfl, h2⟩ := h el he
    obtain ⟨x, rfl⟩ := line_of h2
    exact ⟨x, rfl, True.intro⟩
  exact ⟨l, by simp [linesD, Line.d, Function.comp_def]⟩
theorem run24k (xs : List D) (h : okArgs [(false, [.int .i64]), (false, [.slc true lineCL])] xs) : Runs Try.prog 24 (xs.map .d) [] (.d (.v (.bool true))) [] := by
  simp only [okArgs, okL] at h
  obtain ⟨_, _, rfl, ⟨_, _, rfl, ⟨a, rfl, ha⟩, rfl⟩, _, _, rfl, ⟨_, _, rfl, h1, rfl⟩, rfl⟩ := h
  obtain ⟨l, rfl⟩ := lines_of h1
  exact run24 a l
theorem run25k (xs : List D) (h : okArgs [(false, [.int .i64]), (false, [.slc true lineCL]), (true, [.int .i64, .int .i64])] xs) : Runs Try.prog 25 (xs.map .d) [] (.d (.v (.bool true))) [] := by
  simp only [okArgs, okL] at h
  obtain ⟨_, _, rfl, ⟨_, _, rfl, ⟨a, rfl, ha⟩, rfl⟩, _, _, rfl, ⟨_, _, rfl, h1, rfl⟩, _, _, rfl, ⟨_, _, rfl, ⟨b, rfl, hb⟩, _, _, rfl, ⟨c, rfl, hc⟩, rfl⟩, rfl⟩ := h
  obtain ⟨l, rfl⟩ := lines_of h1
  exact run25 a l b c (lit_inC hb) (lit_inC hc)
theorem run28k (xs : List D) (h : okArgs [(false, [.int .i64]), (false, [.slc true lineCL]), (false, [.int .i64])] xs) : Runs Try.prog 28 (xs.map .d) [] (.d (.v (.bool true))) [] := by
  simp only [okArgs, okL] at h
  obtain ⟨_, _, rfl, ⟨_, _, rfl, ⟨a, rfl, ha⟩, rfl⟩, _, _, rfl, ⟨_, _, rfl, h1, rfl⟩, _, _, rfl, ⟨_, _, rfl, ⟨b, rfl, hb⟩, rfl⟩, rfl⟩ := h
  obtain ⟨l, rfl⟩ := lines_of h1
  exact run28 a l b
end Go.Proofs.Ytdodgbhodkcckaa.Pv
