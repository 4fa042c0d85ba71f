/- The statement that a desk plays as the document says, of all data of its kinds. -/
import Derived.Test.YtdodgbhodkcckaaPng
set_option autoImplicit false
namespace Go.Proofs.Ytdodgbhodkcckaa.Pv
open Go Go.RowKit

theorem lit_inP {n : Int} (h : (Lit.int .i64 n).wf = true) : In64 n := by
  simp only [Lit.wf, Bool.and_eq_true, decide_eq_true_eq] at h
  exact h
abbrev wordPL : List CL := [.int .i64, .int .i64, .int .i64, .int .i64, .int .i64, .int .i64, .int .i64, .int .i64, .int .i64, .bool, .slc true [.int .i64, .int .i64, .int .i64, .int .i64], .slc false [.int .i64]]
def okP (w : Word) : Prop := In64 w.msg.amount ∧ In64 w.msg.number ∧ D.one w.msg.lines = true ∧ D.one w.msg.nets = true
theorem wordP_of {ds : List D} (h : okL wordPL ds) : ∃ w : Word, ds = I64 w.from' :: w.msg.cells ∧ okP w := by
  simp only [okL, okD] at h
  obtain ⟨_, _, rfl, ⟨a, rfl, _⟩, _, _, rfl, ⟨b, rfl, _⟩, _, _, rfl, ⟨c, rfl, _⟩, _, _, rfl, ⟨d, rfl, hd⟩, _, _, rfl, ⟨e, rfl, _⟩, _, _, rfl, ⟨f, rfl, _⟩, _, _, rfl, ⟨g, rfl, _⟩, _, _, rfl, ⟨i, rfl, _⟩, _, _, rfl, ⟨j, rfl, hj⟩, _, _, rfl, ⟨k, rfl⟩, _, _, rfl, ⟨l, rfl, _⟩, _, _, rfl, ⟨m, rfl, _⟩, rfl⟩ := h
  exact ⟨⟨a, ⟨b, c, d, e, f, g, i, j, k, .slc 4 l, .slc 1 m⟩⟩, rfl, lit_inP hj, lit_inP hd, rfl, rfl⟩
theorem wordsP_of {d : D} (h : okD (.slc true wordPL) d) : ∃ ws : List Word, d = .slc 12 (wordsD ws) ∧ ∀ w ∈ ws, okP w := by
  rw [okD] at h
  obtain ⟨els, rfl, _, h⟩ := h
  obtain ⟨l, rfl, hl⟩ := els_of Word.d okP (els := els) fun el he => by
    obtain ⟨ds, rfl, h2⟩ := h el he
    obtain ⟨x, rfl, hx⟩ := wordP_of h2
    exact ⟨x, rfl, hx⟩
  exact ⟨l, rfl, hl⟩
theorem run14k (xs : List D) (h : okArgs [(false, [.int .i64]), (false, [.int .i64]), (false, [.slc true wordPL])] xs) : Runs Try.prog 14 (xs.map .d) [] (.d (.v (.bool true))) [] := by
  simp only [okArgs, okL] at h
  obtain ⟨_, _, rfl, ⟨_, _, rfl, ⟨a, rfl, _⟩, rfl⟩, _, _, rfl, ⟨_, _, rfl, ⟨b, rfl, hb⟩, rfl⟩, _, _, rfl, ⟨_, _, rfl, h1, rfl⟩, rfl⟩ := h
  obtain ⟨ws, rfl, hw⟩ := wordsP_of h1
  exact run14 a b ws (lit_inP hb) (fun x hx => (hw x hx).1) (fun x hx => (hw x hx).2.1) (fun x hx => (hw x hx).2.2)
end Go.Proofs.Ytdodgbhodkcckaa.Pv
