/- Walks of matching: the statement that a desk plays as the document says. -/
import Derived.Test.YtdodgbhodkcckaaPne
set_option linter.unusedVariables false
set_option linter.unusedSimpArgs false
set_option autoImplicit false
set_option maxRecDepth 100000
namespace Go.Proofs.Ytdodgbhodkcckaa.Pv
open Go Go.RowKit

theorem put_far (d : Desk) (x : Item) : (d.put x).far = d.far := by unfold Desk.put; split <;> rfl
def saidOK (o : Option D) : Prop := o = none ∨ ∃ (to k : Int) (x : Item), o = some (saidD to (about k x))
structure Fa (d : Desk) (R : Out) : Prop where
  f : R.d.far = d.far
  s : saidOK R.o
theorem of_fa {d : Desk} {b : Bool} {f : Int} {R : Out} (hR : Fa d R) : Fa d (Out.of d b f R) := by
  unfold Out.of; split
  · split
    · exact hR
    · exact ⟨rfl, .inl rfl⟩
  · exact ⟨rfl, .inl rfl⟩
theorem do_fa (d : Desk) (m : Msg) (f : Int) : Fa d (doR d m f) := by
  unfold doR
  repeat' split
  · refine of_fa ?_; unfold issueR; repeat' split
    all_goals (first | exact ⟨rfl, .inl rfl⟩ | exact ⟨put_far d _, .inl rfl⟩ | exact ⟨put_far d _, .inr ⟨_, _, _, rfl⟩⟩)
  · refine of_fa ⟨?_, .inl rfl⟩; unfold orderR; simp only; split <;> rfl
  · refine of_fa ?_; unfold adjustR; repeat' split
    all_goals (first | exact ⟨rfl, .inl rfl⟩ | exact ⟨put_far d _, .inl rfl⟩ | exact ⟨put_far d _, .inr ⟨_, _, _, rfl⟩⟩)
  · refine of_fa ?_; unfold withdrawR; repeat' split
    all_goals (first | exact ⟨rfl, .inl rfl⟩ | exact ⟨put_far d _, .inl rfl⟩ | exact ⟨put_far d _, .inr ⟨_, _, _, rfl⟩⟩)
  · refine of_fa ?_; unfold dueR; repeat' split
    all_goals (first | exact ⟨rfl, .inl rfl⟩ | exact ⟨put_far d _, .inl rfl⟩ | exact ⟨put_far d _, .inr ⟨_, _, _, rfl⟩⟩)
  · refine of_fa ?_; unfold proposeR; repeat' split
    all_goals (first | exact ⟨rfl, .inl rfl⟩ | exact ⟨put_far d _, .inl rfl⟩ | exact ⟨put_far d _, .inr ⟨_, _, _, rfl⟩⟩)
  · refine of_fa ?_; unfold confirmR; repeat' split
    all_goals (first | exact ⟨rfl, .inl rfl⟩ | exact ⟨put_far d _, .inl rfl⟩ | exact ⟨put_far d _, .inr ⟨_, _, _, rfl⟩⟩)
  · refine of_fa ?_; unfold disputeR; repeat' split
    all_goals (first | exact ⟨rfl, .inl rfl⟩ | exact ⟨put_far d _, .inl rfl⟩ | exact ⟨put_far d _, .inr ⟨_, _, _, rfl⟩⟩)
  · refine of_fa ?_; unfold cancelR; repeat' split
    all_goals (first | exact ⟨rfl, .inl rfl⟩ | exact ⟨put_far d _, .inl rfl⟩ | exact ⟨put_far d _, .inr ⟨_, _, _, rfl⟩⟩)
  · exact ⟨rfl, .inl rfl⟩
theorem run59o {o : Option D} (h : saidOK o) : Runs Try.prog 59 [.d (.slc 12 o.toList), .d (.slc 12 o.toList)] [] (pbool true) [] := by
  rcases h with rfl | ⟨to, k, x, rfl⟩
  · exact run59n
  · exact run59s to k x
theorem run60r {d : Desk} {w : RDesk} {i : Nat} (h : At14 d w i) (hi : i ≤ 60) : Runs Try.prog 60 [.d (deskD d), .d w.d] [] (pbool true) [] := by
  have l1 := h.li
  have l2 := h.lo
  refine run60s d w h.rel.me.symm h.rel.far.symm h.rel.it.pm.length_eq.symm h.rel.od.pm.length_eq.symm (by omega) (by omega) (fun x hx => ?_) (fun o ho => ?_)
  · have hx2 := h.rel.it.pm.mem_iff.1 hx
    have hn := (h.rel.it.gd.fine x hx2).num
    have hs : seek kI d.items (keyN x.seller x.number) = some x := (seek_some_iff h.rel.it.gd.rise).2 ⟨hx2, rfl⟩
    rw [in_seek h.rel.it.gd hn, get_seek h.rel.it.gd hn, hs]; exact ⟨rfl, rfl⟩
  · have ho2 := h.rel.od.pm.mem_iff.1 ho
    have hn := h.rel.od.gd.num o ho2
    have hs : seek kO d.orders (keyN o.seller o.number) = some o := (seek_some_iff h.rel.od.gd.rise).2 ⟨ho2, rfl⟩
    rw [inO_seek h.rel.od.gd hn, getO_seek h.rel.od.gd hn hs, hs]; exact ⟨rfl, rfl⟩
theorem at_next {d : Desk} {w : RDesk} {i : Nat} (h : At14 d w i) (hi : i ≤ 60) {m : Msg} (hn : In64 m.number) (f : Int) : (doR d m f).e = (rDo w m f).e ∧ (doR d m f).o = (rDo w m f).o ∧ At14 (doR d m f).d (rDo w m f).d (i + 1) := by
  have l1 := h.li
  have l2 := h.lo
  have s := do_same h.rel hn (by omega) (by omega) f
  have u := do_len d m f
  exact ⟨s.e, s.o, s.d, by rw [(do_fa d m f).f]; exact h.far, by have := u.1; omega, by have := u.2; omega⟩
theorem at_start {me far : Int} (hf : In64 far) : At14 (desk0 me far) ⟨me, far, [], []⟩ 0 :=
  ⟨⟨rfl, rfl, ⟨Good.nil me, List.Perm.refl _⟩, ⟨⟨List.Pairwise.nil, by simp [desk0], by simp [desk0]⟩, List.Perm.refl _⟩⟩, hf, Nat.le_refl _, Nat.le_refl _⟩

end Go.Proofs.Ytdodgbhodkcckaa.Pv
