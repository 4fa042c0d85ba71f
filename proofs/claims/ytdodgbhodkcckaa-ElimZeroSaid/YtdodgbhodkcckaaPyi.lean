/- The statements of books against each other, of all data of their kinds. -/
import Derived.Test.YtdodgbhodkcckaaPyh
set_option linter.unusedVariables false
set_option autoImplicit false
namespace Go.Proofs.Ytdodgbhodkcckaa.Pv
open Go Go.RowKit

theorem lit_in {n : Int} (h : (Lit.int .i64 n).wf = true) : In64 n := by
  simp only [Lit.wf, Bool.and_eq_true, decide_eq_true_eq] at h
  exact h
/-- An item out of memory. -/
structure okItem (x : Item) : Prop where
  s : In64 x.seller
  n : In64 x.number
  b : In64 x.buyer
  c : In64 x.currency
  a : In64 x.amount
  r : In64 x.round
  t : In64 x.state
  y : In64 x.cycle
abbrev itemCL : List CL := [.int .i64, .int .i64, .int .i64, .int .i64, .int .i64, .int .i64, .int .i64, .int .i64]
theorem item_of {ds : List D} (h : okL itemCL ds) : ∃ x : Item, ds = x.cells ∧ okItem x := by
  simp only [okL, okD] at h
  obtain ⟨_, _, rfl, ⟨a, rfl, ha⟩, _, _, rfl, ⟨b, rfl, hb⟩, _, _, rfl, ⟨c, rfl, hc⟩, _, _, rfl, ⟨d, rfl, hd⟩, _, _, rfl, ⟨e, rfl, he⟩, _, _, rfl, ⟨f, rfl, hf⟩, _, _, rfl, ⟨g, rfl, hg⟩, _, _, rfl, ⟨i, rfl, hi⟩, rfl⟩ := h
  exact ⟨⟨a, b, c, d, e, f, g, i⟩, rfl, ⟨lit_in ha, lit_in hb, lit_in hc, lit_in hd, lit_in he, lit_in hf, lit_in hg, lit_in hi⟩⟩
theorem items_of {d : D} (h : okD (.slc true itemCL) d) : ∃ l : List Item, d = .slc 8 (itemsD l) ∧ ∀ x ∈ l, okItem x := by
  simp only [okD] at h
  obtain ⟨els, rfl, _, h⟩ := h
  obtain ⟨l, rfl, hl⟩ := els_of Item.d okItem (els := els) fun el he => by
    obtain ⟨ds, rfl, h2⟩ := h el he
    obtain ⟨x, rfl, hx⟩ := item_of h2
    exact ⟨x, rfl, hx⟩
  exact ⟨l, by simp [itemsD, Item.d, Function.comp_def], hl⟩
theorem run13k (xs : List D) (h : okArgs [(false, [.slc true itemCL]), (false, [.slc true itemCL]), (false, [.int .i64])] xs) : Runs Try.prog 13 (xs.map .d) [] (.d (.v (.bool true))) [] := by
  simp only [okArgs, okL] at h
  obtain ⟨_, _, rfl, ⟨_, _, rfl, h1, rfl⟩, _, _, rfl, ⟨_, _, rfl, h2, rfl⟩, _, _, rfl, ⟨_, _, rfl, ⟨a, rfl, ha⟩, rfl⟩, rfl⟩ := h
  obtain ⟨l, rfl, hl⟩ := items_of h1
  obtain ⟨r, rfl, hr⟩ := items_of h2
  exact run13 l r a (lit_in ha)
theorem run11k (xs : List D) (h : okArgs [(false, [.slc true itemCL]), (false, [.slc true itemCL]), (false, [.int .i64])] xs) : Runs Try.prog 11 (xs.map .d) [] (.d (.v (.bool true))) [] := by
  simp only [okArgs, okL] at h
  obtain ⟨_, _, rfl, ⟨_, _, rfl, h1, rfl⟩, _, _, rfl, ⟨_, _, rfl, h2, rfl⟩, _, _, rfl, ⟨_, _, rfl, ⟨a, rfl, ha⟩, rfl⟩, rfl⟩ := h
  obtain ⟨l, rfl, hl⟩ := items_of h1
  obtain ⟨r, rfl, hr⟩ := items_of h2
  exact run11 l r a
theorem run10k (xs : List D) (h : okArgs [(false, [.slc true itemCL]), (false, [.int .i64]), (false, [.int .i64])] xs) : Runs Try.prog 10 (xs.map .d) [] (.d (.v (.bool true))) [] := by
  simp only [okArgs, okL] at h
  obtain ⟨_, _, rfl, ⟨_, _, rfl, h1, rfl⟩, _, _, rfl, ⟨_, _, rfl, ⟨a, rfl, ha⟩, rfl⟩, _, _, rfl, ⟨_, _, rfl, ⟨b, rfl, hb⟩, rfl⟩, rfl⟩ := h
  obtain ⟨l, rfl, hl⟩ := items_of h1
  exact run10 l a b
end Go.Proofs.Ytdodgbhodkcckaa.Pv
