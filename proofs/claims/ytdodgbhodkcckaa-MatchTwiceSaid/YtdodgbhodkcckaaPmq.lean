/- The statements of who isn't a party, and of what is heard twice, of all data of their kinds. -/
import Derived.Test.YtdodgbhodkcckaaPmo
set_option autoImplicit false
namespace Go.Proofs.Ytdodgbhodkcckaa.Pv
open Go Go.RowKit

theorem lit_inW {n : Int} (h : (Lit.int .i64 n).wf = true) : In64 n := by
  simp only [Lit.wf, Bool.and_eq_true, decide_eq_true_eq] at h
  exact h
abbrev wordCL : List CL := [.int .i64, .int .i64, .int .i64, .int .i64, .int .i64, .int .i64, .int .i64, .int .i64, .int .i64, .bool, .slc true [.int .i64, .int .i64, .int .i64, .int .i64], .slc false [.int .i64]]
def okW (w : Word) : Prop := In64 w.msg.amount ∧ D.one w.msg.lines = true ∧ D.one w.msg.nets = true
theorem word_of {ds : List D} (h : okL wordCL ds) : ∃ w : Word, ds = I64 w.from' :: w.msg.cells ∧ okW w := by
  simp only [okL, okD] at h
  obtain ⟨_, _, rfl, ⟨a, rfl, _⟩, _, _, rfl, ⟨b, rfl, _⟩, _, _, rfl, ⟨c, rfl, _⟩, _, _, rfl, ⟨d, rfl, _⟩, _, _, rfl, ⟨e, rfl, _⟩, _, _, rfl, ⟨f, rfl, _⟩, _, _, rfl, ⟨g, rfl, _⟩, _, _, rfl, ⟨i, rfl, _⟩, _, _, rfl, ⟨j, rfl, hj⟩, _, _, rfl, ⟨k, rfl⟩, _, _, rfl, ⟨l, rfl, _⟩, _, _, rfl, ⟨m, rfl, _⟩, rfl⟩ := h
  exact ⟨⟨a, ⟨b, c, d, e, f, g, i, j, k, .slc 4 l, .slc 1 m⟩⟩, rfl, lit_inW hj, rfl, rfl⟩
theorem words_of {d : D} (h : okD (.slc true wordCL) d) : ∃ ws : List Word, d = .slc 12 (wordsD ws) ∧ ∀ w ∈ ws, okW w := by
  rw [okD] at h
  obtain ⟨els, rfl, _, h⟩ := h
  obtain ⟨l, rfl, hl⟩ := els_of Word.d okW (els := els) fun el he => by
    obtain ⟨ds, rfl, h2⟩ := h el he
    obtain ⟨x, rfl, hx⟩ := word_of h2
    exact ⟨x, rfl, hx⟩
  exact ⟨l, rfl, hl⟩
theorem run18k (xs : List D) (h : okArgs [(false, [.slc true wordCL]), (true, wordCL)] xs) : Runs Try.prog 18 (xs.map .d) [] (.d (.v (.bool true))) [] := by
  simp only [okArgs, okL] at h
  obtain ⟨_, _, rfl, ⟨_, _, rfl, h1, rfl⟩, _, _, rfl, h2, rfl⟩ := h
  obtain ⟨ws, rfl, hw⟩ := words_of h1
  obtain ⟨w, rfl, hx⟩ := word_of h2
  exact run18 ws w (fun x hx => (hw x hx).1) (fun x hx => (hw x hx).2) hx.1
theorem run16k (xs : List D) (h : okArgs [(false, [.int .i64]), (false, [.slc true wordCL]), (true, wordCL)] xs) : Runs Try.prog 16 (xs.map .d) [] (.d (.v (.bool true))) [] := by
  simp only [okArgs, okL] at h
  obtain ⟨_, _, rfl, ⟨_, _, rfl, ⟨a, rfl, _⟩, rfl⟩, _, _, rfl, ⟨_, _, rfl, h1, rfl⟩, _, _, rfl, h2, rfl⟩ := h
  obtain ⟨ws, rfl, hw⟩ := words_of h1
  obtain ⟨w, rfl, hx⟩ := word_of h2
  exact run16 a ws w (fun x hx => (hw x hx).1) (fun x hx => (hw x hx).2) hx.1
end Go.Proofs.Ytdodgbhodkcckaa.Pv
