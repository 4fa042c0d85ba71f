/- Matching: a desk does what the document's does, plain laws. -/
import Derived.Test.YtdodgbhodkcckaaPnc
set_option linter.unusedVariables false
set_option linter.unusedSimpArgs false
set_option autoImplicit false
set_option maxRecDepth 100000
namespace Go.Proofs.Ytdodgbhodkcckaa.Pv
open Go Go.RowKit

theorem due_same {d : Desk} {w : RDesk} (h : RelD d w) {m : Msg} (hn : In64 m.number) (hk : m.kind = 16) (hl : d.items.length < 1000) (f : Int) : SameO w (dueR d m f) (rGive w m) := by
  obtain ⟨hh, hg⟩ := rel_at h (s := m.seller) hn
  unfold dueR rGive rMine mineE
  rw [hh]
  cases hi : isIn d.items m.seller m.number with
  | false => simp; exact same_err (by decide) _ _
  | true =>
    obtain ⟨g, hf, hm⟩ := hg hi
    rw [g, h.me]
    generalize getI d.items m.seller m.number = x at *
    by_cases h1 : x.seller = d.me
    · by_cases h3 : x.round = m.round
      · simp only [h1, h3, ne_eq, not_true_eq_false, and_false, if_true, if_false, Bool.true_eq_false, reduceIte]
        by_cases h2 : stepE x 2 = 0
        · simp only [h2, not_true_eq_false, if_false]
          have p := step_party x 2 4
          exact same_put h (fine_step hf h2 (.inr rfl) (by omega)) (by rw [p.1, p.2]; exact hm) hl _
        · simp only [h2, not_false_eq_true, if_true]; exact same_err h2 _ _
      · simp [h1, h3, hk]; exact same_err (by decide) _ _
    · simp [h1]; exact same_err (by decide) _ _
theorem issue_same {d : Desk} {w : RDesk} (h : RelD d w) {m : Msg} (hn : In64 m.number) (hl : d.items.length < 1000) : SameO w (issueR d m) (rIssue w m) := by
  obtain ⟨hh, hg⟩ := rel_at h (s := m.seller) hn
  unfold issueR rIssue issueI
  rw [hh, h.me]
  by_cases h0 : m.seller = d.me
  · simp only [h0, ne_eq, not_true_eq_false, if_false]
    rw [← h0]
    cases hi : isIn d.items m.seller m.number with
    | true => simp; exact same_err (by decide) _ _
    | false =>
      simp only [Bool.false_eq_true, if_false]
      by_cases h1 : chk (newI m.seller m.number m.buyer m.currency m.amount 0) = 0
      · simp only [h1, not_true_eq_false, if_false]
        have hf := chk_fine.1 h1
        obtain ⟨he, hr⟩ := rel_put h hf (.inl h0) hl
        rw [← h0] at he
        simp only [he, not_true_eq_false, if_false]
        exact ⟨rfl, fun _ => rfl, fun e => absurd rfl e, fun _ => hr⟩
      · simp only [h1, not_false_eq_true, if_true]; exact same_err h1 _ _
  · simp only [h0, ne_eq, not_false_eq_true, if_true]; exact same_err (by decide) _ _
theorem order_same {d : Desk} {w : RDesk} (h : RelD d w) {m : Msg} (hn : In64 m.number) (hl : d.orders.length < 1000) : SameO w (orderR d m) (rOrder w m) := by
  have e : expE d.me d.orders ⟨m.seller, m.number, m.amount⟩ = if ordC w m.seller m.number m.amount = true then 1 else 0 := by
    have h3 : decide (1024 ≤ (d.orders.length : Int)) = false := by rw [decide_eq_false_iff_not]; omega
    unfold expE ordC
    rw [h.me, h3, Bool.and_false]
    simp only [Bool.or_eq_true, decide_eq_true_eq, beq_iff_eq, Bool.false_eq_true, if_false]
    repeat' split
    all_goals (first | rfl | omega)
  unfold orderR rOrder
  rw [e]
  cases hc : ordC w m.seller m.number m.amount with
  | true => simp; exact same_err (by decide) _ _
  | false =>
    simp only [Bool.false_eq_true, if_false, if_true]
    have ha : 0 ≤ m.amount ∧ m.amount ≤ 1125899906842624 := by
      unfold ordC at hc
      simp only [Bool.or_eq_false_iff, decide_eq_false_iff_not] at hc
      omega
    exact ⟨rfl, fun _ => rfl, fun e => absurd rfl e, fun _ => ⟨h.me, h.far, h.it, order_perm h.od (x := ⟨m.seller, m.number, m.amount⟩) hn ha⟩⟩
theorem propose_same {d : Desk} {w : RDesk} (h : RelD d w) {m : Msg} (hn : In64 m.number) (hl : d.items.length < 1000) (f : Int) : SameO w (proposeR d m f) (rPropose w m f) := by
  obtain ⟨hh, hg⟩ := rel_at h (s := m.seller) hn
  have hN : nearL m.seller m.number m.amount w.far w.orders = propN d m := by rw [near_same h.od hn, h.far]; rfl
  have hS : rPropS w m = propS d m := by
    unfold rPropS propS
    rw [hh]
    cases hi : isIn d.items m.seller m.number with
    | false => simp
    | true => rw [(hg hi).1]; simp
  have hY : rPropY w m = propY d m := by
    unfold rPropY propY propI newI stepI
    rw [hN]
    cases propN d m <;> simp
  unfold proposeR rPropose
  rw [hN, hS, hY, h.me]
  by_cases h0 : chk (propI m) = 0
  · have h0' : chk (newI m.seller m.number m.buyer m.currency m.amount m.round) = 0 := h0
    simp only [h0, h0', ne_eq, not_true_eq_false, if_false]
    cases hc : (f != m.seller || m.buyer != d.me) with
    | true => simp; exact same_err (by decide) _ _
    | false =>
      simp only [Bool.false_eq_true, if_false]
      cases hs : propS d m with
      | true => simp; exact same_err (by decide) _ _
      | false =>
        simp only [Bool.false_eq_true, if_false]
        have hf0 := chk_fine.1 h0
        have hme : m.buyer = d.me := by
          rw [Bool.or_eq_false_iff] at hc
          simpa using hc.2
        have hf : Fine (propY d m) := by
          unfold propY
          split
          · exact fine_step hf0 rfl (.inl rfl) (by omega)
          · exact fine_step hf0 rfl (.inl rfl) (by omega)
        have hb : (propY d m).buyer = d.me := by
          unfold propY
          split
          · rw [(step_party _ _ _).2]; exact hme
          · rw [(step_party _ _ _).2]; exact hme
        obtain ⟨he, hr⟩ := rel_put h hf (.inr hb) hl
        simp only [he, not_true_eq_false, if_false]
        exact ⟨rfl, fun _ => rfl, fun e => absurd rfl e, fun _ => hr⟩
  · have h0' : ¬ chk (newI m.seller m.number m.buyer m.currency m.amount m.round) = 0 := h0
    simp only [h0, h0', ne_eq, not_false_eq_true, if_true]; exact same_err h0 _ _

end Go.Proofs.Ytdodgbhodkcckaa.Pv
