/- Matching: each act does what the document's does, plain laws. -/
import Derived.Test.YtdodgbhodkcckaaPnb
import Derived.Test.YtdodgbhodkcckaaPmn
set_option linter.unusedVariables false
set_option linter.unusedSimpArgs false
set_option autoImplicit false
set_option maxRecDepth 100000
namespace Go.Proofs.Ytdodgbhodkcckaa.Pv
open Go Go.RowKit

theorem same_err {e : Int} (he : e ≠ 0) (d : Desk) (w : RDesk) : SameO w ⟨e, d, none⟩ ⟨e, w, none⟩ := ⟨rfl, fun _ => rfl, fun _ => rfl, fun h => absurd h he⟩
theorem same_put {d : Desk} {w : RDesk} (h : RelD d w) {y : Item} (hf : Fine y) (hm : y.seller = d.me ∨ y.buyer = d.me) (hl : d.items.length < 1000) (o : Option D) : SameO w ⟨putE d.me d.items y, d.put y, o⟩ ⟨0, w.keep y, o⟩ := by
  obtain ⟨he, hr⟩ := rel_put h hf hm hl
  exact ⟨he, fun _ => rfl, fun h => absurd rfl h, fun _ => hr⟩
theorem mine_same {d : Desk} {w : RDesk} (h : RelD d w) {m : Msg} (hn : In64 m.number) (hk : m.kind ≠ 16) : rMine w m = mineE d m.seller m.number := by
  obtain ⟨hh, hg⟩ := rel_at h (s := m.seller) hn
  unfold rMine mineE
  rw [hh]
  cases hi : isIn d.items m.seller m.number with
  | false => simp
  | true =>
    obtain ⟨g, _⟩ := hg hi
    rw [g, h.me]
    by_cases h1 : (getI d.items m.seller m.number).seller = d.me <;> simp [h1, hk]
theorem ans_same {d : Desk} {w : RDesk} (h : RelD d w) {m : Msg} (hn : In64 m.number) (f : Int) : rAns w m f = ansE d m f := by
  obtain ⟨hh, hg⟩ := rel_at h (s := m.seller) hn
  unfold rAns ansE mineE
  rw [hh]
  cases hi : isIn d.items m.seller m.number with
  | false => simp
  | true =>
    obtain ⟨g, _⟩ := hg hi
    rw [g, h.me]
    by_cases h1 : (getI d.items m.seller m.number).seller = d.me <;> by_cases h2 : f = (getI d.items m.seller m.number).buyer <;> by_cases h3 : (getI d.items m.seller m.number).round = m.round <;> simp [h1, h2, h3]
theorem confirm_same {d : Desk} {w : RDesk} (h : RelD d w) {m : Msg} (hn : In64 m.number) (hl : d.items.length < 1000) (f : Int) : SameO w (confirmR d m f) (rConfirm w m f) := by
  obtain ⟨hh, hg⟩ := rel_at h (s := m.seller) hn
  unfold confirmR rConfirm
  rw [ans_same h hn]
  by_cases h0 : ansE d m f = 0
  · obtain ⟨g, hf, hm⟩ := hg (ans_in h0)
    simp only [h0, ne_eq, not_true_eq_false, if_false, g]
    by_cases h1 : stepE (getI d.items m.seller m.number) 1 = 0
    · simp only [h1, ne_eq, not_true_eq_false, if_false]
      have p := step_party (getI d.items m.seller m.number) 1 3
      exact same_put h (fine_step hf h1 (.inl rfl) (by omega)) (by rw [p.1, p.2]; exact hm) hl _
    · simp only [ne_eq, h1, not_false_eq_true, if_true]; exact same_err h1 _ _
  · simp only [ne_eq, h0, not_false_eq_true, if_true]; exact same_err h0 _ _
theorem dispute_same {d : Desk} {w : RDesk} (h : RelD d w) {m : Msg} (hn : In64 m.number) (hl : d.items.length < 1000) (f : Int) : SameO w (disputeR d m f) (rDispute w m f) := by
  obtain ⟨hh, hg⟩ := rel_at h (s := m.seller) hn
  unfold disputeR rDispute
  rw [ans_same h hn]
  by_cases h0 : ansE d m f = 0
  · obtain ⟨g, hf, hm⟩ := hg (ans_in h0)
    simp only [h0, ne_eq, not_true_eq_false, if_false, g]
    by_cases h1 : stepE (getI d.items m.seller m.number) 1 = 0
    · simp only [h1, ne_eq, not_true_eq_false, if_false]
      have p := step_party (getI d.items m.seller m.number) 1 2
      have hs := step_state (t := 2) h1
      have hf2 := fine_step (t := 2) hf h1 (.inl rfl) (by omega)
      have hm2 : (stepI (getI d.items m.seller m.number) 1 2).seller = d.me ∨ (stepI (getI d.items m.seller m.number) 1 2).buyer = d.me := by rw [p.1, p.2]; exact hm
      generalize stepI (getI d.items m.seller m.number) 1 2 = y at *
      have e2 : stepE y 2 = 0 := by unfold stepE; rw [if_pos hs]
      have ez : stepI y 2 4 = goneI y := by unfold stepI goneI; rw [if_pos hs]
      by_cases h3 : y.round = 3
      · simp only [h3, if_true, ez]
        have hf3 := fine_step (t := 4) hf2 e2 (.inr rfl) (by omega)
        rw [ez] at hf3
        exact same_put h hf3 hm2 hl _
      · simp only [h3, if_false]; exact same_put h hf2 hm2 hl _
    · simp only [ne_eq, h1, not_false_eq_true, if_true]; exact same_err h1 _ _
  · simp only [ne_eq, h0, not_false_eq_true, if_true]; exact same_err h0 _ _
theorem cancel_same {d : Desk} {w : RDesk} (h : RelD d w) {m : Msg} (hn : In64 m.number) (hl : d.items.length < 1000) (f : Int) : SameO w (cancelR d m f) (rCancel w m f) := by
  obtain ⟨hh, hg⟩ := rel_at h (s := m.seller) hn
  unfold cancelR rCancel rCanc
  rw [hh]
  cases hi : isIn d.items m.seller m.number with
  | false =>
    rw [if_pos rfl, if_pos rfl, if_pos (by decide)]; exact same_err (by decide) _ _
  | true =>
    obtain ⟨g, hf, hm⟩ := hg hi
    rw [g, h.me]
    generalize getI d.items m.seller m.number = x at *
    simp only [Bool.true_eq_false, if_false]
    cases hc : (f != x.seller || x.buyer != d.me) with
    | true =>
      simp only [if_true]
      rw [if_pos (by decide)]; exact same_err (by decide) _ _
    | false =>
      simp only [Bool.false_eq_true, if_false]
      by_cases h3 : x.round = m.round
      · simp only [h3, ne_eq, not_true_eq_false, if_false]
        by_cases h1 : stepE x 2 = 0
        · simp only [h1, ne_eq, not_true_eq_false, if_false]
          have p := step_party x 2 4
          exact same_put h (fine_step hf h1 (.inr rfl) (by omega)) (by rw [p.1, p.2]; exact hm) hl _
        · simp only [ne_eq, h1, not_false_eq_true, if_true]; exact same_err h1 _ _
      · simp only [ne_eq, h3, not_false_eq_true, if_true]
        first | exact same_err (by decide) _ _ | (rw [if_pos (by decide)]; exact same_err (by decide) _ _)
theorem withdraw_same {d : Desk} {w : RDesk} (h : RelD d w) {m : Msg} (hn : In64 m.number) (hk : m.kind ≠ 16) (hl : d.items.length < 1000) (f : Int) : SameO w (withdrawR d m f) (rGive w m) := by
  obtain ⟨hh, hg⟩ := rel_at h (s := m.seller) hn
  unfold withdrawR rGive
  rw [mine_same h hn hk]
  by_cases h0 : mineE d m.seller m.number = 0
  · obtain ⟨g, hf, hm⟩ := hg (mine_in h0)
    simp only [h0, ne_eq, not_true_eq_false, if_false, g]
    by_cases h1 : stepE (getI d.items m.seller m.number) 2 = 0
    · simp only [h1, ne_eq, not_true_eq_false, if_false]
      have p := step_party (getI d.items m.seller m.number) 2 4
      exact same_put h (fine_step hf h1 (.inr rfl) (by omega)) (by rw [p.1, p.2]; exact hm) hl _
    · simp only [ne_eq, h1, not_false_eq_true, if_true]; exact same_err h1 _ _
  · simp only [ne_eq, h0, not_false_eq_true, if_true]; exact same_err h0 _ _
theorem adjust_same {d : Desk} {w : RDesk} (h : RelD d w) {m : Msg} (hn : In64 m.number) (hk : m.kind ≠ 16) (hl : d.items.length < 1000) (f : Int) : SameO w (adjustR d m f) (rAdjust w m) := by
  obtain ⟨hh, hg⟩ := rel_at h (s := m.seller) hn
  unfold adjustR rAdjust
  rw [mine_same h hn hk]
  by_cases h0 : mineE d m.seller m.number = 0
  · obtain ⟨g, hf, hm⟩ := hg (mine_in h0)
    simp only [h0, ne_eq, not_true_eq_false, if_false, g]
    by_cases h1 : adjE (getI d.items m.seller m.number) m.amount = 0
    · simp only [h1, ne_eq, not_true_eq_false, if_false]
      have p := adj_party (getI d.items m.seller m.number) m.amount
      exact same_put h (fine_adj hf h1) (by rw [p.1, p.2]; exact hm) hl _
    · simp only [ne_eq, h1, not_false_eq_true, if_true]; exact same_err h1 _ _
  · simp only [ne_eq, h0, not_false_eq_true, if_true]; exact same_err h0 _ _

end Go.Proofs.Ytdodgbhodkcckaa.Pv
