/- Matching: desks that come about, plain laws: who isn't a party can do nothing; what is heard twice does nothing. -/
import Derived.Test.YtdodgbhodkcckaaPmh
import Derived.Test.YtdodgbhodkcckaaPya
set_option linter.unusedVariables false
set_option linter.unusedSimpArgs false
set_option autoImplicit false
set_option maxRecDepth 100000
namespace Go.Proofs.Ytdodgbhodkcckaa.Pv
open Go Go.RowKit

structure DeskGd (d : Desk) : Prop where
  ok : DeskOK d
  gd : Good d.me d.items
theorem put_me (d : Desk) (x : Item) : (d.put x).me = d.me := by unfold Desk.put; split <;> rfl
theorem put_gd {d : Desk} (h : DeskGd d) (x : Item) : DeskGd (d.put x) := by
  unfold Desk.put
  split
  · rename_i he
    obtain ⟨hf, hm, hi⟩ := putE_zero.1 he
    have hg : Good d.me (putIn d.items x) := by rw [put_enter h.gd hf.num]; exact h.gd.enter hf hm
    refine ⟨⟨?_, h.ok.lo, fun y hy => chk_fine.2 (hg.fine y hy), h.ok.am, h.ok.far⟩, hg⟩
    show (putIn d.items x).length ≤ 1024
    rcases hi with hi | hi
    · unfold putIn; rw [if_pos hi, List.length_set]; exact h.ok.li
    · have := len_putIn d.items x; omega
  · exact h
theorem put_get {d : Desk} (h : DeskGd d) {y : Item} (he : putE d.me d.items y = 0) : isIn (d.put y).items y.seller y.number = true ∧ getI (d.put y).items y.seller y.number = y := by
  obtain ⟨hf, hm, hi⟩ := putE_zero.1 he
  have hg := (put_gd h y).gd
  have e : (d.put y).items = enter kI y d.items := by unfold Desk.put; rw [if_pos he]; exact put_enter h.gd hf.num
  have hs : seek kI (d.put y).items (keyN y.seller y.number) = some y := by
    rw [e, seek_enter h.gd.rise]
    exact if_pos rfl
  rw [in_seek hg hf.num, get_seek hg hf.num, hs]
  exact ⟨rfl, rfl⟩
theorem order_gd {d : Desk} (h : DeskGd d) {x : Order} (hx : In64 x.amount) (he : expE d.me d.orders x = 0) : DeskGd { d with orders := putO d.orders x } := by
  have hl : isInO d.orders x.seller x.number = true ∨ d.orders.length < 1024 := by
    unfold expE at he
    split at he
    · cases he
    · split at he
      · cases he
      · split at he
        · cases he
        · rename_i hq
          cases hi : isInO d.orders x.seller x.number with
          | true => exact .inl rfl
          | false =>
            rw [hi] at hq
            simp at hq
            exact .inr (by omega)
  refine ⟨⟨h.ok.li, ?_, h.ok.it, ?_, h.ok.far⟩, h.gd⟩
  · show (putO d.orders x).length ≤ 1024
    have := h.ok.lo
    unfold putO
    cases hi : isInO d.orders x.seller x.number with
    | true =>
      rw [if_pos rfl]
      split
      · rw [List.length_set]; exact this
      · exact this
    | false =>
      rw [if_neg (by simp)]
      have h2 : d.orders.length < 1024 := by
        rcases hl with h3 | h3
        · rw [hi] at h3; cases h3
        · exact h3
      simp only [List.length_append, List.length_cons, List.length_take, List.length_drop]; omega
  · intro o ho
    have ho : o ∈ putO d.orders x := ho
    unfold putO at ho
    split at ho
    · split at ho
      · rcases List.mem_or_eq_of_mem_set ho with h1 | h1
        · exact h.ok.am o h1
        · rw [h1]; exact hx
      · exact h.ok.am o ho
    · rcases List.mem_append.1 ho with h1 | h1
      · exact h.ok.am o (List.mem_of_mem_take h1)
      · rcases List.mem_cons.1 h1 with h1 | h1
        · rw [h1]; exact hx
        · exact h.ok.am o (List.mem_of_mem_drop h1)
theorem of_gd {d : Desk} (h : DeskGd d) {b : Bool} {f : Int} {R : Out} (hR : DeskGd R.d) : DeskGd (Out.of d b f R).d := by
  unfold Out.of; split
  · split
    · exact hR
    · exact h
  · exact h
theorem do_gd {d : Desk} (h : DeskGd d) {m : Msg} (hm : In64 m.amount) (f : Int) : DeskGd (doR d m f).d := by
  unfold doR
  repeat' split
  · refine of_gd h ?_; unfold issueR; repeat' split
    all_goals (first | exact h | exact put_gd h _)
  · refine of_gd h ?_; unfold orderR; simp only; split
    · rename_i he; exact order_gd h hm he
    · exact h
  · refine of_gd h ?_; unfold adjustR; repeat' split
    all_goals (first | exact h | exact put_gd h _)
  · refine of_gd h ?_; unfold withdrawR; repeat' split
    all_goals (first | exact h | exact put_gd h _)
  · refine of_gd h ?_; unfold dueR; repeat' split
    all_goals (first | exact h | exact put_gd h _)
  · refine of_gd h ?_; unfold proposeR; repeat' split
    all_goals (first | exact h | exact put_gd h _)
  · refine of_gd h ?_; unfold confirmR; repeat' split
    all_goals (first | exact h | exact put_gd h _)
  · refine of_gd h ?_; unfold disputeR; repeat' split
    all_goals (first | exact h | exact put_gd h _)
  · refine of_gd h ?_; unfold cancelR; repeat' split
    all_goals (first | exact h | exact put_gd h _)
  · exact h
theorem of_ref {d : Desk} {b : Bool} {f : Int} {R : Out} (h : (Out.of d b f R).e ≠ 0) : Out.of d b f R = ⟨(Out.of d b f R).e, d, none⟩ := by
  unfold Out.of at h ⊢
  split
  · split
    · rename_i h1 h2; rw [if_pos h1, if_pos h2] at h; exact absurd h2 h
    · rfl
  · rfl
theorem do_ref {d : Desk} {m : Msg} {f : Int} (h : (doR d m f).e ≠ 0) : doR d m f = ⟨(doR d m f).e, d, none⟩ := by
  unfold doR at h ⊢
  repeat' (split at h; · rename_i hk; simp only [hk, if_true, if_false]; first | exact of_ref h | (simp only [*, if_true, if_false, reduceIte] at h ⊢; exact of_ref h))
  all_goals simp_all
theorem isIn_name {l : List Item} {s n : Int} (h : isIn l s n = true) : (getI l s n).seller = s ∧ (getI l s n).number = n := by
  have h0 := h
  unfold isIn at h
  rw [Bool.and_eq_true, decide_eq_true_eq, beq_iff_eq] at h
  obtain ⟨h1, h2⟩ := h
  have hx : l[posOf l s n]? = some l[posOf l s n] := List.getElem?_eq_getElem h1
  unfold getI
  rw [if_pos h0, hx]
  unfold cmpAt at h2
  rw [hx] at h2
  simp only [Option.getD_some] at h2 ⊢
  unfold cmpN at h2
  rcases cmp_cases l[posOf l s n].seller s with ⟨a1, a2, a3⟩ | ⟨a1, a2, a3⟩ | ⟨a1, a2, a3⟩ <;> rcases cmp_cases l[posOf l s n].number n with ⟨b1, b2, b3⟩ | ⟨b1, b2, b3⟩ | ⟨b1, b2, b3⟩ <;> simp [a2, b2] at h2
  exact ⟨a1, b1⟩
theorem of_e {d : Desk} {b : Bool} {f : Int} {R : Out} (h : R.e ≠ 0) : (Out.of d b f R).e ≠ 0 := by
  unfold Out.of
  by_cases hb : b = (f == -1)
  · rw [if_pos hb, if_neg h]; exact h
  · rw [if_neg hb]; simp
/-- Who isn't a party of an item can do nothing to it. -/
theorem stranger {d : Desk} {m : Msg} {f : Int} (hf : 0 ≤ f) (hi : isIn d.items m.seller m.number = true) (hs : (getI d.items m.seller m.number).seller ≠ f) (hb : (getI d.items m.seller m.number).buyer ≠ f) : (doR d m f).e ≠ 0 := by
  have hfn : (f == -1) = false := by rw [beq_eq_false_iff_ne]; omega
  have hT : ∀ R : Out, (Out.of d true f R).e ≠ 0 := fun R => by unfold Out.of; rw [hfn, if_neg (by simp)]; simp
  have hn := isIn_name hi
  have hA : ansE d m f ≠ 0 := by
    unfold ansE
    split
    · assumption
    · rw [if_pos (fun e => hb e.symm)]; simp
  unfold doR
  repeat' split
  · exact hT _
  · exact hT _
  · exact hT _
  · exact hT _
  · exact hT _
  · refine of_e ?_
    unfold proposeR
    split
    · assumption
    · rw [if_pos (by rw [Bool.or_eq_true]; left; rw [bne_iff_ne]; rw [hn.1] at hs; exact fun e => hs e.symm)]; simp
  · refine of_e ?_
    unfold confirmR; rw [if_pos hA]; exact hA
  · refine of_e ?_
    unfold disputeR; rw [if_pos hA]; exact hA
  · refine of_e ?_
    unfold cancelR
    rw [if_neg (by simp [hi]), if_pos (by rw [Bool.or_eq_true]; left; rw [bne_iff_ne]; exact fun e => hs e.symm)]; simp
  · simp

end Go.Proofs.Ytdodgbhodkcckaa.Pv
