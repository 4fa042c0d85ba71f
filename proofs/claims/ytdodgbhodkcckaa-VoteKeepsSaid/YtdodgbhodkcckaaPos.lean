/- Items, lines and words of cycles out of data of their kinds. -/
import Derived.Test.YtdodgbhodkcckaaPol
set_option linter.unusedVariables false
set_option autoImplicit false
namespace Go.Proofs.Ytdodgbhodkcckaa.Pv
open Go Go.RowKit

theorem lit_inV {n : Int} (h : (Lit.int .i64 n).wf = true) : In64 n := by
  simp only [Lit.wf, Bool.and_eq_true, decide_eq_true_eq] at h
  exact h
abbrev itemVL : List CL := [.int .i64, .int .i64, .int .i64, .int .i64, .int .i64, .int .i64, .int .i64, .int .i64]
abbrev lineVL : List CL := [.int .i64, .int .i64, .int .i64, .int .i64]
abbrev wordVL : List CL := [.int .i64, .int .i64, .int .i64, .int .i64, .int .i64, .int .i64, .int .i64, .int .i64, .int .i64, .bool, .slc true lineVL, .slc false [.int .i64]]
theorem itemV_of {ds : List D} (h : okL itemVL ds) : ∃ x : Item, ds = x.cells ∧ In64 x.number := by
  simp only [okL, okD] at h
  obtain ⟨_, _, rfl, ⟨a, rfl, ha⟩, _, _, rfl, ⟨b, rfl, hb⟩, _, _, rfl, ⟨c, rfl, hc⟩, _, _, rfl, ⟨d, rfl, hd⟩, _, _, rfl, ⟨e, rfl, he⟩, _, _, rfl, ⟨f, rfl, hf⟩, _, _, rfl, ⟨g, rfl, hg⟩, _, _, rfl, ⟨i, rfl, hi⟩, rfl⟩ := h
  exact ⟨⟨a, b, c, d, e, f, g, i⟩, rfl, lit_inV hb⟩
theorem itemsV_of {d : D} (h : okD (.slc true itemVL) d) : ∃ l : List Item, d = .slc 8 (itemsD l) ∧ ∀ x ∈ l, In64 x.number := by
  simp only [okD] at h
  obtain ⟨els, rfl, _, h⟩ := h
  obtain ⟨l, rfl, hl⟩ := els_of Item.d (fun x => In64 x.number) (els := els) fun el he => by
    obtain ⟨ds, rfl, h2⟩ := h el he
    obtain ⟨x, rfl, hx⟩ := itemV_of h2
    exact ⟨x, rfl, hx⟩
  exact ⟨l, by simp [itemsD, Item.d, Function.comp_def], hl⟩
theorem lineV_of {ds : List D} (h : okL lineVL ds) : ∃ x : Line, ds = x.cells ∧ In64 x.number := by
  simp only [okL, okD] at h
  obtain ⟨_, _, rfl, ⟨a, rfl, ha⟩, _, _, rfl, ⟨b, rfl, hb⟩, _, _, rfl, ⟨c, rfl, hc⟩, _, _, rfl, ⟨d, rfl, hd⟩, rfl⟩ := h
  exact ⟨⟨a, b, c, d⟩, rfl, lit_inV hb⟩
theorem linesV_of {d : D} (h : okD (.slc true lineVL) d) : ∃ l : List Line, d = .slc 4 (linesD l) ∧ ∀ x ∈ l, In64 x.number := by
  simp only [okD] at h
  obtain ⟨els, rfl, _, h⟩ := h
  obtain ⟨l, rfl, hl⟩ := els_of Line.d (fun x => In64 x.number) (els := els) fun el he => by
    obtain ⟨ds, rfl, h2⟩ := h el he
    obtain ⟨x, rfl, hx⟩ := lineV_of h2
    exact ⟨x, rfl, hx⟩
  exact ⟨l, by simp [linesD], hl⟩
theorem numsV_of {d : D} (h : okD (.slc false [.int .i64]) d) : ∃ l : List Int, d = .slc 1 (l.map I64) := by
  simp only [okD] at h
  obtain ⟨els, rfl, _, h⟩ := h
  obtain ⟨l, rfl, _⟩ := els_of I64 (fun _ => True) (els := els) fun el he => by
    obtain ⟨ds, rfl, h2⟩ := h el he
    simp only [okL, okD] at h2
    obtain ⟨_, _, rfl, ⟨a, rfl, _⟩, rfl⟩ := h2
    exact ⟨a, rfl, True.intro⟩
  exact ⟨l, rfl⟩
/-- A word whose numbers are such. -/
structure OkVW (w : VW) : Prop where
  cy : In64 w.m.cycle
  ln : ∀ x ∈ w.m.ls, In64 x.number
theorem wordV_of {ds : List D} (h : okL wordVL ds) : ∃ w : VW, ds = I64 w.from' :: w.m.msg.cells ∧ OkVW w := by
  rw [okL] at h
  obtain ⟨_, _, rfl, h0, h⟩ := h
  rw [okL] at h; obtain ⟨_, _, rfl, h1, h⟩ := h
  rw [okL] at h; obtain ⟨_, _, rfl, h2, h⟩ := h
  rw [okL] at h; obtain ⟨_, _, rfl, h3, h⟩ := h
  rw [okL] at h; obtain ⟨_, _, rfl, h4, h⟩ := h
  rw [okL] at h; obtain ⟨_, _, rfl, h5, h⟩ := h
  rw [okL] at h; obtain ⟨_, _, rfl, h6, h⟩ := h
  rw [okL] at h; obtain ⟨_, _, rfl, h7, h⟩ := h
  rw [okL] at h; obtain ⟨_, _, rfl, h8, h⟩ := h
  rw [okL] at h; obtain ⟨_, _, rfl, h9, h⟩ := h
  rw [okL] at h; obtain ⟨_, _, rfl, ha, h⟩ := h
  rw [okL] at h; obtain ⟨_, _, rfl, hb, h⟩ := h
  rw [okL] at h; subst h
  obtain ⟨ls, rfl, hls⟩ := linesV_of ha
  obtain ⟨ns, rfl⟩ := numsV_of hb
  simp only [okD] at h0 h1 h2 h3 h4 h5 h6 h7 h8 h9
  obtain ⟨a0, rfl, _⟩ := h0
  obtain ⟨a1, rfl, _⟩ := h1
  obtain ⟨a2, rfl, _⟩ := h2
  obtain ⟨a3, rfl, _⟩ := h3
  obtain ⟨a4, rfl, _⟩ := h4
  obtain ⟨a5, rfl, _⟩ := h5
  obtain ⟨a6, rfl, _⟩ := h6
  obtain ⟨a7, rfl, k7⟩ := h7
  obtain ⟨a8, rfl, _⟩ := h8
  obtain ⟨a9, rfl⟩ := h9
  exact ⟨⟨a0, ⟨a1, a2, a3, a4, a5, a6, a7, a8, a9, ls, ns⟩⟩, rfl, lit_inV k7, hls⟩
theorem wordsV_of {d : D} (h : okD (.slc true wordVL) d) : ∃ ws : List VW, d = .slc 12 (vwsD ws) ∧ ∀ w ∈ ws, OkVW w := by
  rw [okD] at h
  obtain ⟨els, rfl, _, h⟩ := h
  obtain ⟨l, rfl, hl⟩ := els_of VW.d OkVW (els := els) fun el he => by
    obtain ⟨ds, rfl, h2⟩ := h el he
    obtain ⟨x, rfl, hx⟩ := wordV_of h2
    exact ⟨x, rfl, hx⟩
  exact ⟨l, rfl, hl⟩
end Go.Proofs.Ytdodgbhodkcckaa.Pv
