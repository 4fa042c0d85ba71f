/- The statements of vectors, of all data of their kinds. -/
import Derived.Test.YtdodgbhodkcckaaPv3
import Derived.Test.YtdodgbhodkcckaaPxp
import Derived.Test.YtdodgbhodkcckaaPxr
set_option linter.unusedVariables false
set_option autoImplicit false
namespace Go.Proofs.Ytdodgbhodkcckaa.Pv
open Go Go.RowKit

theorem lit_in {n : Int} (h : (Lit.int .i64 n).wf = true) : In64 n := by
  simp only [Lit.wf, Bool.and_eq_true, decide_eq_true_eq] at h
  exact h
abbrev putCL : List CL := [.int .i64, .int .i64, .int .i64]
theorem puts_of {d : D} (h : okD (.slc true putCL) d) : ∃ l : List Put, d = .slc 3 (putsD l) ∧ ∀ p ∈ l, okPut p := by
  simp only [okD] at h
  obtain ⟨els, rfl, _, h⟩ := h
  obtain ⟨l, rfl, hl⟩ := els_of Put.d okPut (els := els) fun el he => by
    obtain ⟨ds, rfl, h2⟩ := h el he
    simp only [okL, okD] at h2
    obtain ⟨_, _, rfl, ⟨a, rfl, ha⟩, _, _, rfl, ⟨b, rfl, hb⟩, _, _, rfl, ⟨c, rfl, hc⟩, rfl⟩ := h2
    exact ⟨⟨a, b, c⟩, rfl, lit_in ha, lit_in hb, lit_in hc⟩
  exact ⟨l, rfl, hl⟩

theorem run3k (xs : List D) (h : okArgs [(false, [.slc true putCL]), (true, [.int .i64, .int .i64])] xs) : Runs Try.prog 3 (xs.map .d) [] (.d (.v (.bool true))) [] := by
  simp only [okArgs, okL] at h
  obtain ⟨_, _, rfl, ⟨_, _, rfl, h1, rfl⟩, _, _, rfl, ⟨_, _, rfl, h2, _, _, rfl, h3, rfl⟩, rfl⟩ := h
  obtain ⟨l, rfl, hl⟩ := puts_of h1
  obtain ⟨a, rfl, ha⟩ := h2
  obtain ⟨b, rfl, hb⟩ := h3
  exact run3 l a b hl (lit_in ha) (lit_in hb)
theorem run4k (xs : List D) (h : okArgs [(false, [.slc true putCL]), (true, putCL)] xs) : Runs Try.prog 4 (xs.map .d) [] (.d (.v (.bool true))) [] := by
  simp only [okArgs, okL] at h
  obtain ⟨_, _, rfl, ⟨_, _, rfl, h1, rfl⟩, _, _, rfl, ⟨_, _, rfl, ⟨a, rfl, ha⟩, _, _, rfl, ⟨b, rfl, hb⟩, _, _, rfl, ⟨c, rfl, hc⟩, rfl⟩, rfl⟩ := h
  obtain ⟨l, rfl, hl⟩ := puts_of h1
  exact run4 l ⟨a, b, c⟩ hl ⟨lit_in ha, lit_in hb, lit_in hc⟩
theorem run5k (xs : List D) (h : okArgs [(false, [.slc true putCL]), (false, [.int .i64])] xs) : Runs Try.prog 5 (xs.map .d) [] (.d (.v (.bool true))) [] := by
  simp only [okArgs, okL] at h
  obtain ⟨_, _, rfl, ⟨_, _, rfl, h1, rfl⟩, _, _, rfl, ⟨_, _, rfl, ⟨a, rfl, ha⟩, rfl⟩, rfl⟩ := h
  obtain ⟨l, rfl, hl⟩ := puts_of h1
  exact run5 l a hl
theorem run6k (xs : List D) (h : okArgs [(false, [.slc true putCL]), (false, [.slc true putCL])] xs) : Runs Try.prog 6 (xs.map .d) [] (.d (.v (.bool true))) [] := by
  simp only [okArgs, okL] at h
  obtain ⟨_, _, rfl, ⟨_, _, rfl, h1, rfl⟩, _, _, rfl, ⟨_, _, rfl, h2, rfl⟩, rfl⟩ := h
  obtain ⟨l, rfl, hl⟩ := puts_of h1
  obtain ⟨r, rfl, hr⟩ := puts_of h2
  exact run6 l r hl hr
theorem run7k (xs : List D) (h : okArgs [(false, [.slc true putCL]), (false, [.slc true putCL]), (false, [.int .i64])] xs) : Runs Try.prog 7 (xs.map .d) [] (.d (.v (.bool true))) [] := by
  simp only [okArgs, okL] at h
  obtain ⟨_, _, rfl, ⟨_, _, rfl, h1, rfl⟩, _, _, rfl, ⟨_, _, rfl, h2, rfl⟩, _, _, rfl, ⟨_, _, rfl, ⟨a, rfl, ha⟩, rfl⟩, rfl⟩ := h
  obtain ⟨l, rfl, hl⟩ := puts_of h1
  obtain ⟨r, rfl, hr⟩ := puts_of h2
  exact run7 l r a hl hr (lit_in ha)
end Go.Proofs.Ytdodgbhodkcckaa.Pv
