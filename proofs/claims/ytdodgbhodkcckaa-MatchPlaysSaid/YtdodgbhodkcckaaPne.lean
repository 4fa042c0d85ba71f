/- Walks of matching: the statement that a desk plays as the document says. -/
import Derived.Test.YtdodgbhodkcckaaPnd
import Derived.Test.YtdodgbhodkcckaaPmz
import Derived.Test.YtdodgbhodkcckaaPml
set_option linter.unusedVariables false
set_option linter.unusedSimpArgs false
set_option autoImplicit false
set_option maxRecDepth 100000
namespace Go.Proofs.Ytdodgbhodkcckaa.Pv
open Go Go.RowKit

structure Same3 (R : Out) (S : ROut) : Prop where
  e : R.e = S.e
  o : R.o = S.o
  d : RelD R.d S.d
theorem of_same {d : Desk} {w : RDesk} (h : RelD d w) {R : Out} {S : ROut} (hs : SameO w R S) (cl : Bool) (f : Int) : Same3 (Out.of d cl f R) (rOf w cl f S) := by
  unfold Out.of rOf
  by_cases hc : cl = (f == -1)
  · rw [if_pos hc, if_pos hc]
    by_cases he : R.e = 0
    · rw [if_pos he]; exact ⟨hs.e, hs.o he, hs.d he⟩
    · rw [if_neg he]
      have h2 := hs.no (by rw [← hs.e]; exact he)
      rw [h2]
      exact ⟨hs.e, rfl, h⟩
  · rw [if_neg hc, if_neg hc]; exact ⟨rfl, rfl, h⟩
theorem do_same {d : Desk} {w : RDesk} (h : RelD d w) {m : Msg} (hn : In64 m.number) (hl : d.items.length < 1000) (hlo : d.orders.length < 1000) (f : Int) : Same3 (doR d m f) (rDo w m f) := by
  unfold doR rDo
  by_cases k1 : m.kind = 1
  · rw [if_pos k1, if_pos k1]; exact of_same h (issue_same h hn hl) _ _
  rw [if_neg k1, if_neg k1]
  by_cases k2 : m.kind = 2
  · rw [if_pos k2, if_pos k2]; exact of_same h (order_same h hn hlo) _ _
  rw [if_neg k2, if_neg k2]
  by_cases k3 : m.kind = 3
  · rw [if_pos k3, if_pos k3]; exact of_same h (adjust_same h hn (by omega) hl f) _ _
  rw [if_neg k3, if_neg k3]
  by_cases k4 : m.kind = 4
  · rw [if_pos k4, if_pos k4]; exact of_same h (withdraw_same h hn (by omega) hl f) _ _
  rw [if_neg k4, if_neg k4]
  by_cases k16 : m.kind = 16
  · rw [if_pos k16, if_pos k16]; exact of_same h (due_same h hn k16 hl f) _ _
  rw [if_neg k16, if_neg k16]
  by_cases k6 : m.kind = 6
  · rw [if_pos k6, if_pos k6]; exact of_same h (propose_same h hn hl f) _ _
  rw [if_neg k6, if_neg k6]
  by_cases k7 : m.kind = 7
  · rw [if_pos k7, if_pos k7]; exact of_same h (confirm_same h hn hl f) _ _
  rw [if_neg k7, if_neg k7]
  by_cases k8 : m.kind = 8
  · rw [if_pos k8, if_pos k8]; exact of_same h (dispute_same h hn hl f) _ _
  rw [if_neg k8, if_neg k8]
  by_cases k9 : m.kind = 9
  · rw [if_pos k9, if_pos k9]; exact of_same h (cancel_same h hn hl f) _ _
  rw [if_neg k9, if_neg k9]
  exact ⟨rfl, rfl, h⟩
theorem len_putO (l : List Order) (x : Order) : (putO l x).length ≤ l.length + 1 := by
  unfold putO
  split
  · split
    · rw [List.length_set]; omega
    · omega
  · simp only [List.length_append, List.length_cons, List.length_take, List.length_drop]; omega
theorem put_len (d : Desk) (x : Item) : (d.put x).items.length ≤ d.items.length + 1 ∧ (d.put x).orders.length ≤ d.orders.length + 1 := by
  unfold Desk.put
  split
  · exact ⟨len_putIn _ _, Nat.le_succ _⟩
  · exact ⟨Nat.le_succ _, Nat.le_succ _⟩
abbrev lenUp (d e : Desk) : Prop := e.items.length ≤ d.items.length + 1 ∧ e.orders.length ≤ d.orders.length + 1
theorem of_len {d : Desk} {b : Bool} {f : Int} {R : Out} (hR : lenUp d R.d) : lenUp d (Out.of d b f R).d := by
  unfold Out.of; split
  · split
    · exact hR
    · exact ⟨Nat.le_succ _, Nat.le_succ _⟩
  · exact ⟨Nat.le_succ _, Nat.le_succ _⟩
theorem do_len (d : Desk) (m : Msg) (f : Int) : lenUp d (doR d m f).d := by
  have h0 : lenUp d d := ⟨Nat.le_succ _, Nat.le_succ _⟩
  unfold doR
  repeat' split
  · refine of_len ?_; unfold issueR; repeat' split
    all_goals (first | exact h0 | exact put_len d _)
  · refine of_len ?_; unfold orderR; simp only; split
    · exact ⟨Nat.le_succ _, len_putO _ _⟩
    · exact h0
  · refine of_len ?_; unfold adjustR; repeat' split
    all_goals (first | exact h0 | exact put_len d _)
  · refine of_len ?_; unfold withdrawR; repeat' split
    all_goals (first | exact h0 | exact put_len d _)
  · refine of_len ?_; unfold dueR; repeat' split
    all_goals (first | exact h0 | exact put_len d _)
  · refine of_len ?_; unfold proposeR; repeat' split
    all_goals (first | exact h0 | exact put_len d _)
  · refine of_len ?_; unfold confirmR; repeat' split
    all_goals (first | exact h0 | exact put_len d _)
  · refine of_len ?_; unfold disputeR; repeat' split
    all_goals (first | exact h0 | exact put_len d _)
  · refine of_len ?_; unfold cancelR; repeat' split
    all_goals (first | exact h0 | exact put_len d _)
  · exact h0
/-- Where both are, behind i words. -/
structure At14 (d : Desk) (w : RDesk) (i : Nat) : Prop where
  rel : RelD d w
  far : In64 d.far
  li : d.items.length ≤ i
  lo : d.orders.length ≤ i
theorem at_ok {d : Desk} {w : RDesk} {i : Nat} (h : At14 d w i) (hi : i ≤ 60) : DeskOK d ∧ RDeskOK w := by
  have l1 := h.li
  have l2 := h.lo
  have p1 := h.rel.it.pm.length_eq
  have p2 := h.rel.od.pm.length_eq
  refine ⟨⟨by omega, by omega, fun x hx => chk_fine.2 (h.rel.it.gd.fine x hx), fun o ho => ?_, h.far⟩, ⟨by omega, by omega, fun x hx => (h.rel.it.gd.fine x (h.rel.it.pm.mem_iff.1 hx)).r, fun o ho => h.rel.od.gd.am o (h.rel.od.pm.mem_iff.1 ho)⟩⟩
  have := h.rel.od.gd.am o ho
  unfold In64; omega

end Go.Proofs.Ytdodgbhodkcckaa.Pv
