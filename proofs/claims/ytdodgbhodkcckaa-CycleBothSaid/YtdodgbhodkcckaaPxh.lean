/- Walks of numbers written out digit by digit: two together. -/
import Derived.Test.YtdodgbhodkcckaaPxg
set_option linter.unusedVariables false
set_option linter.unusedSimpArgs false
set_option autoImplicit false
set_option maxRecDepth 100000
namespace Go.Proofs.Ytdodgbhodkcckaa.Pv
open Go Go.RowKit Dig

theorem lessB_digs (a b : Nat) : lessB (digs a) (digs b) = decide (a < b) := by
  unfold lessB
  split
  · rw [val_digs, val_digs]
  · rename_i hne
    rcases Nat.lt_trichotomy (digs a).length (digs b).length with h | h | h
    · rw [decide_eq_true h, decide_eq_true (digs_length_lt h)]
    · exact absurd h hne
    · have := digs_length_lt h
      rw [decide_eq_false (by omega), decide_eq_false (by omega)]
theorem val_sub_digs {a b : Nat} (h : b ≤ a) : val (Dig.subL (digs a) (digs b) 0) = a - b := by
  have := val_subL (small_digs a) (small_digs b) (c := 0) (by omega) (by rw [val_digs, val_digs]; omega)
  rw [val_digs, val_digs] at this; omega
theorem digs_len_pos (n : Nat) : decide (0 < ((digD (digs n)).length : Int)) = decide (n ≠ 0) := by
  rw [dig_len]
  by_cases h : n = 0
  · subst h; rw [digs_zero]; simp
  · rw [digs_pos h, decide_eq_true h]; simp
theorem big_eq {s s' : Bool} {n n' : Nat} (h1 : s = s') (h2 : n = n') : subD (.agg [.v (.bool s), .slc 1 (digD (digs n))]) (.agg [.v (.bool s'), .slc 1 (digD (digs n'))]) := by subst h1; subst h2; exact subD_refl _

set_option maxHeartbeats 8000000 in
theorem run102 (x y : Int) (hx : (digs x.natAbs).length ≤ 1000) (hy : (digs y.natAbs).length ≤ 1000) : Runs Try.prog 102 [.d (bigD x), .d (bigD y)] [] (.d (bigD (x + y))) [] := by
  have r161 := run161 (digs x.natAbs) (digs y.natAbs) (small_digs _) (small_digs _) (by omega) (by omega)
  have hal := length_addL (digs x.natAbs) (digs y.natAbs) 0
  have r160 := run160 (addL (digs x.natAbs) (digs y.natAbs) 0) (by omega)
  rw [trim_eq (small_addL (small_digs _) (small_digs _) (by omega)), val_addL, val_digs, val_digs] at r160
  have r162 := run162 (digs x.natAbs) (digs y.natAbs) (small_digs _) (small_digs _) (by omega) (by omega)
  rw [lessB_digs] at r162
  have rxy := run163 (digs x.natAbs) (digs y.natAbs) (small_digs _) (small_digs _) (by omega) (by omega)
  have ryx := run163 (digs y.natAbs) (digs x.natAbs) (small_digs _) (small_digs _) (by omega) (by omega)
  unfold bigD
  cases hsx : decide (x < 0) <;> cases hsy : decide (y < 0) <;> cases hlt : decide (x.natAbs < y.natAbs) <;> rw [hlt] at r162
  · refine Runs.of (kit Try.prog) Try.func102 rfl rfl (by rw [Try.ntmps102]; exact of_decide_eq_true rfl) ?_; rw [Try.ntmps102, Try.results102]
    repeat' (first
      | ((first | refine Pwp.step (kit _) rfl fun K hK => ?_ | refine Pwp.last (kit _) rfl fun K hK => ?_ | refine Pwp.stepD (kit _) rfl rfl fun K hK => ?_ | refine Pwp.lastD (kit _) rfl rfl fun K hK => ?_); simp (dsimp := false) only [↓opsP_nil, ↓opsP_cons, ↓opsD_nil, ↓opsD_cons, footOf, ↓opP, ↓stepP, ↓stepG, go_sem, reduceIte, Nat.reduceAdd, Nat.reduceMul, Nat.reduceEqDiff, Nat.reduceLT, Nat.reduceLeDiff, Nat.reduceSub, reduceCtorEq, Int.reduceToNat, Int.reduceAdd, Int.reduceSub, Int.reduceLT, Int.reduceLE, Int.reduceNeg, Int.reduceBEq, Int.reduceBNe, true_or])
      | (refine Pwp.seq ?_)
      | (refine Pwp.block ?_)
      | (refine Pwp.exit ?_; simp only [thenS, blockS, if_true, if_false, reduceIte, Nat.reduceEqDiff, Nat.add_one_ne_zero, reduceCtorEq])
      | (refine Pwp.skip ?_; simp only [thenS, blockS])
      | (refine Pwp.cond rfl True.intro (fun h => ?_) (fun h => ?_) <;> (try (cases h; done)) <;> (try simp only [h]))
      | (refine Pwp.ret ?_; try simp only [thenS, blockS])
      | (refine hK _ ?_; clear hK K)
      | (refine hK _ _ rfl ?_; clear hK K)
      | (refine CallK.give (ds := [.slc 1 (digD (digs x.natAbs)), .slc 1 (digD (digs y.natAbs))]) rfl (r161) (by simp) ?_)
      | (refine CallK.give (ds := [.slc 1 (digD (addL (digs x.natAbs) (digs y.natAbs) 0))]) rfl (r160) (by simp) ?_)
      | (refine CallK.give (ds := [.slc 1 (digD (digs x.natAbs)), .slc 1 (digD (digs y.natAbs))]) rfl (r162) (by simp) ?_)
      | (refine CallK.give (ds := [.slc 1 (digD (digs x.natAbs)), .slc 1 (digD (digs y.natAbs))]) rfl (rxy) (by simp) ?_)
      | (refine CallK.give (ds := [.slc 1 (digD (digs y.natAbs)), .slc 1 (digD (digs x.natAbs))]) rfl (ryx) (by simp) ?_)
      | (refine CallG.off ?_)
      | (with_reducible refine Or.inl ?_)
      | (simp only [thenS, blockS])
      | (with_reducible refine And.intro ?_ ?_)
      | (with_reducible exact True.intro)
      | (simp (dsimp := false) only [↓opsP_nil, ↓opsP_cons, ↓opsD_nil, ↓opsD_cons, footOf, ↓opP, ↓stepP, ↓stepG, go_sem, reduceIte, Nat.reduceAdd, Nat.reduceMul, Nat.reduceEqDiff, Nat.reduceLT, Nat.reduceLeDiff, Nat.reduceSub, reduceCtorEq, Int.reduceToNat, Int.reduceAdd, Int.reduceSub, Int.reduceLT, Int.reduceLE, Int.reduceNeg, Int.reduceBEq, Int.reduceBNe, true_or]))
    all_goals (try (first | (intro hg; simp_all; done) | (intro hg; simp [hg]; done) | exact of_decide_eq_true rfl | (cases h; done)))
    (refine Fin.data (.inr rfl) (by simp (dsimp := false) only [↓opsP_nil, ↓opsP_cons, ↓opsD_nil, ↓opsD_cons, footOf, ↓opP, ↓stepP, ↓stepG, go_sem, reduceIte, Nat.reduceAdd, Nat.reduceMul, Nat.reduceEqDiff, Nat.reduceLT, Nat.reduceLeDiff, Nat.reduceSub, reduceCtorEq, Int.reduceToNat, Int.reduceAdd, Int.reduceSub, Int.reduceLT, Int.reduceLE, Int.reduceNeg, Int.reduceBEq, Int.reduceBNe, true_or, resL]; rfl) (by simp only [and_self]) (by simp (dsimp := false) only [↓opsP_nil, ↓opsP_cons, ↓opsD_nil, ↓opsD_cons, footOf, ↓opP, ↓stepP, ↓stepG, go_sem, reduceIte, Nat.reduceAdd, Nat.reduceMul, Nat.reduceEqDiff, Nat.reduceLT, Nat.reduceLeDiff, Nat.reduceSub, reduceCtorEq, Int.reduceToNat, Int.reduceAdd, Int.reduceSub, Int.reduceLT, Int.reduceLE, Int.reduceNeg, Int.reduceBEq, Int.reduceBNe, true_or, resP, Nat.le_refl, List.take_length]; try rfl) ?_)
    simp only [decide_eq_true_eq, decide_eq_false_iff_not] at hsx hsy hlt
    try simp only [digs_len_pos]
    refine big_eq ?_ ?_
    · first | (symm; exact decide_eq_true (by omega)) | (symm; exact decide_eq_false (by omega)) | (rw [val_sub_digs (by omega), Bool.true_and]; exact decide_eq_decide.2 (by omega)) | (rw [Bool.false_and]; symm; exact decide_eq_false (by omega)) | (rw [val_sub_digs (by omega)]; exact decide_eq_decide.2 (by omega))
    · first | omega | (rw [val_sub_digs (by omega)]; omega)
  · refine Runs.of (kit Try.prog) Try.func102 rfl rfl (by rw [Try.ntmps102]; exact of_decide_eq_true rfl) ?_; rw [Try.ntmps102, Try.results102]
    repeat' (first
      | ((first | refine Pwp.step (kit _) rfl fun K hK => ?_ | refine Pwp.last (kit _) rfl fun K hK => ?_ | refine Pwp.stepD (kit _) rfl rfl fun K hK => ?_ | refine Pwp.lastD (kit _) rfl rfl fun K hK => ?_); simp (dsimp := false) only [↓opsP_nil, ↓opsP_cons, ↓opsD_nil, ↓opsD_cons, footOf, ↓opP, ↓stepP, ↓stepG, go_sem, reduceIte, Nat.reduceAdd, Nat.reduceMul, Nat.reduceEqDiff, Nat.reduceLT, Nat.reduceLeDiff, Nat.reduceSub, reduceCtorEq, Int.reduceToNat, Int.reduceAdd, Int.reduceSub, Int.reduceLT, Int.reduceLE, Int.reduceNeg, Int.reduceBEq, Int.reduceBNe, true_or])
      | (refine Pwp.seq ?_)
      | (refine Pwp.block ?_)
      | (refine Pwp.exit ?_; simp only [thenS, blockS, if_true, if_false, reduceIte, Nat.reduceEqDiff, Nat.add_one_ne_zero, reduceCtorEq])
      | (refine Pwp.skip ?_; simp only [thenS, blockS])
      | (refine Pwp.cond rfl True.intro (fun h => ?_) (fun h => ?_) <;> (try (cases h; done)) <;> (try simp only [h]))
      | (refine Pwp.ret ?_; try simp only [thenS, blockS])
      | (refine hK _ ?_; clear hK K)
      | (refine hK _ _ rfl ?_; clear hK K)
      | (refine CallK.give (ds := [.slc 1 (digD (digs x.natAbs)), .slc 1 (digD (digs y.natAbs))]) rfl (r161) (by simp) ?_)
      | (refine CallK.give (ds := [.slc 1 (digD (addL (digs x.natAbs) (digs y.natAbs) 0))]) rfl (r160) (by simp) ?_)
      | (refine CallK.give (ds := [.slc 1 (digD (digs x.natAbs)), .slc 1 (digD (digs y.natAbs))]) rfl (r162) (by simp) ?_)
      | (refine CallK.give (ds := [.slc 1 (digD (digs x.natAbs)), .slc 1 (digD (digs y.natAbs))]) rfl (rxy) (by simp) ?_)
      | (refine CallK.give (ds := [.slc 1 (digD (digs y.natAbs)), .slc 1 (digD (digs x.natAbs))]) rfl (ryx) (by simp) ?_)
      | (refine CallG.off ?_)
      | (with_reducible refine Or.inl ?_)
      | (simp only [thenS, blockS])
      | (with_reducible refine And.intro ?_ ?_)
      | (with_reducible exact True.intro)
      | (simp (dsimp := false) only [↓opsP_nil, ↓opsP_cons, ↓opsD_nil, ↓opsD_cons, footOf, ↓opP, ↓stepP, ↓stepG, go_sem, reduceIte, Nat.reduceAdd, Nat.reduceMul, Nat.reduceEqDiff, Nat.reduceLT, Nat.reduceLeDiff, Nat.reduceSub, reduceCtorEq, Int.reduceToNat, Int.reduceAdd, Int.reduceSub, Int.reduceLT, Int.reduceLE, Int.reduceNeg, Int.reduceBEq, Int.reduceBNe, true_or]))
    all_goals (try (first | (intro hg; simp_all; done) | (intro hg; simp [hg]; done) | exact of_decide_eq_true rfl | (cases h; done)))
    (refine Fin.data (.inr rfl) (by simp (dsimp := false) only [↓opsP_nil, ↓opsP_cons, ↓opsD_nil, ↓opsD_cons, footOf, ↓opP, ↓stepP, ↓stepG, go_sem, reduceIte, Nat.reduceAdd, Nat.reduceMul, Nat.reduceEqDiff, Nat.reduceLT, Nat.reduceLeDiff, Nat.reduceSub, reduceCtorEq, Int.reduceToNat, Int.reduceAdd, Int.reduceSub, Int.reduceLT, Int.reduceLE, Int.reduceNeg, Int.reduceBEq, Int.reduceBNe, true_or, resL]; rfl) (by simp only [and_self]) (by simp (dsimp := false) only [↓opsP_nil, ↓opsP_cons, ↓opsD_nil, ↓opsD_cons, footOf, ↓opP, ↓stepP, ↓stepG, go_sem, reduceIte, Nat.reduceAdd, Nat.reduceMul, Nat.reduceEqDiff, Nat.reduceLT, Nat.reduceLeDiff, Nat.reduceSub, reduceCtorEq, Int.reduceToNat, Int.reduceAdd, Int.reduceSub, Int.reduceLT, Int.reduceLE, Int.reduceNeg, Int.reduceBEq, Int.reduceBNe, true_or, resP, Nat.le_refl, List.take_length]; try rfl) ?_)
    simp only [decide_eq_true_eq, decide_eq_false_iff_not] at hsx hsy hlt
    try simp only [digs_len_pos]
    refine big_eq ?_ ?_
    · first | (symm; exact decide_eq_true (by omega)) | (symm; exact decide_eq_false (by omega)) | (rw [val_sub_digs (by omega), Bool.true_and]; exact decide_eq_decide.2 (by omega)) | (rw [Bool.false_and]; symm; exact decide_eq_false (by omega)) | (rw [val_sub_digs (by omega)]; exact decide_eq_decide.2 (by omega))
    · first | omega | (rw [val_sub_digs (by omega)]; omega)
  · refine Runs.of (kit Try.prog) Try.func102 rfl rfl (by rw [Try.ntmps102]; exact of_decide_eq_true rfl) ?_; rw [Try.ntmps102, Try.results102]
    repeat' (first
      | ((first | refine Pwp.step (kit _) rfl fun K hK => ?_ | refine Pwp.last (kit _) rfl fun K hK => ?_ | refine Pwp.stepD (kit _) rfl rfl fun K hK => ?_ | refine Pwp.lastD (kit _) rfl rfl fun K hK => ?_); simp (dsimp := false) only [↓opsP_nil, ↓opsP_cons, ↓opsD_nil, ↓opsD_cons, footOf, ↓opP, ↓stepP, ↓stepG, go_sem, reduceIte, Nat.reduceAdd, Nat.reduceMul, Nat.reduceEqDiff, Nat.reduceLT, Nat.reduceLeDiff, Nat.reduceSub, reduceCtorEq, Int.reduceToNat, Int.reduceAdd, Int.reduceSub, Int.reduceLT, Int.reduceLE, Int.reduceNeg, Int.reduceBEq, Int.reduceBNe, true_or])
      | (refine Pwp.seq ?_)
      | (refine Pwp.block ?_)
      | (refine Pwp.exit ?_; simp only [thenS, blockS, if_true, if_false, reduceIte, Nat.reduceEqDiff, Nat.add_one_ne_zero, reduceCtorEq])
      | (refine Pwp.skip ?_; simp only [thenS, blockS])
      | (refine Pwp.cond rfl True.intro (fun h => ?_) (fun h => ?_) <;> (try (cases h; done)) <;> (try simp only [h]))
      | (refine Pwp.ret ?_; try simp only [thenS, blockS])
      | (refine hK _ ?_; clear hK K)
      | (refine hK _ _ rfl ?_; clear hK K)
      | (refine CallK.give (ds := [.slc 1 (digD (digs x.natAbs)), .slc 1 (digD (digs y.natAbs))]) rfl (r161) (by simp) ?_)
      | (refine CallK.give (ds := [.slc 1 (digD (addL (digs x.natAbs) (digs y.natAbs) 0))]) rfl (r160) (by simp) ?_)
      | (refine CallK.give (ds := [.slc 1 (digD (digs x.natAbs)), .slc 1 (digD (digs y.natAbs))]) rfl (r162) (by simp) ?_)
      | (refine CallK.give (ds := [.slc 1 (digD (digs x.natAbs)), .slc 1 (digD (digs y.natAbs))]) rfl (rxy) (by simp) ?_)
      | (refine CallK.give (ds := [.slc 1 (digD (digs y.natAbs)), .slc 1 (digD (digs x.natAbs))]) rfl (ryx) (by simp) ?_)
      | (refine CallG.off ?_)
      | (with_reducible refine Or.inl ?_)
      | (simp only [thenS, blockS])
      | (with_reducible refine And.intro ?_ ?_)
      | (with_reducible exact True.intro)
      | (simp (dsimp := false) only [↓opsP_nil, ↓opsP_cons, ↓opsD_nil, ↓opsD_cons, footOf, ↓opP, ↓stepP, ↓stepG, go_sem, reduceIte, Nat.reduceAdd, Nat.reduceMul, Nat.reduceEqDiff, Nat.reduceLT, Nat.reduceLeDiff, Nat.reduceSub, reduceCtorEq, Int.reduceToNat, Int.reduceAdd, Int.reduceSub, Int.reduceLT, Int.reduceLE, Int.reduceNeg, Int.reduceBEq, Int.reduceBNe, true_or]))
    all_goals (try (first | (intro hg; simp_all; done) | (intro hg; simp [hg]; done) | exact of_decide_eq_true rfl | (cases h; done)))
    (refine Fin.data (.inr rfl) (by simp (dsimp := false) only [↓opsP_nil, ↓opsP_cons, ↓opsD_nil, ↓opsD_cons, footOf, ↓opP, ↓stepP, ↓stepG, go_sem, reduceIte, Nat.reduceAdd, Nat.reduceMul, Nat.reduceEqDiff, Nat.reduceLT, Nat.reduceLeDiff, Nat.reduceSub, reduceCtorEq, Int.reduceToNat, Int.reduceAdd, Int.reduceSub, Int.reduceLT, Int.reduceLE, Int.reduceNeg, Int.reduceBEq, Int.reduceBNe, true_or, resL]; rfl) (by simp only [and_self]) (by simp (dsimp := false) only [↓opsP_nil, ↓opsP_cons, ↓opsD_nil, ↓opsD_cons, footOf, ↓opP, ↓stepP, ↓stepG, go_sem, reduceIte, Nat.reduceAdd, Nat.reduceMul, Nat.reduceEqDiff, Nat.reduceLT, Nat.reduceLeDiff, Nat.reduceSub, reduceCtorEq, Int.reduceToNat, Int.reduceAdd, Int.reduceSub, Int.reduceLT, Int.reduceLE, Int.reduceNeg, Int.reduceBEq, Int.reduceBNe, true_or, resP, Nat.le_refl, List.take_length]; try rfl) ?_)
    simp only [decide_eq_true_eq, decide_eq_false_iff_not] at hsx hsy hlt
    try simp only [digs_len_pos]
    refine big_eq ?_ ?_
    · first | (symm; exact decide_eq_true (by omega)) | (symm; exact decide_eq_false (by omega)) | (rw [val_sub_digs (by omega), Bool.true_and]; exact decide_eq_decide.2 (by omega)) | (rw [Bool.false_and]; symm; exact decide_eq_false (by omega)) | (rw [val_sub_digs (by omega)]; exact decide_eq_decide.2 (by omega))
    · first | omega | (rw [val_sub_digs (by omega)]; omega)
  · refine Runs.of (kit Try.prog) Try.func102 rfl rfl (by rw [Try.ntmps102]; exact of_decide_eq_true rfl) ?_; rw [Try.ntmps102, Try.results102]
    repeat' (first
      | ((first | refine Pwp.step (kit _) rfl fun K hK => ?_ | refine Pwp.last (kit _) rfl fun K hK => ?_ | refine Pwp.stepD (kit _) rfl rfl fun K hK => ?_ | refine Pwp.lastD (kit _) rfl rfl fun K hK => ?_); simp (dsimp := false) only [↓opsP_nil, ↓opsP_cons, ↓opsD_nil, ↓opsD_cons, footOf, ↓opP, ↓stepP, ↓stepG, go_sem, reduceIte, Nat.reduceAdd, Nat.reduceMul, Nat.reduceEqDiff, Nat.reduceLT, Nat.reduceLeDiff, Nat.reduceSub, reduceCtorEq, Int.reduceToNat, Int.reduceAdd, Int.reduceSub, Int.reduceLT, Int.reduceLE, Int.reduceNeg, Int.reduceBEq, Int.reduceBNe, true_or])
      | (refine Pwp.seq ?_)
      | (refine Pwp.block ?_)
      | (refine Pwp.exit ?_; simp only [thenS, blockS, if_true, if_false, reduceIte, Nat.reduceEqDiff, Nat.add_one_ne_zero, reduceCtorEq])
      | (refine Pwp.skip ?_; simp only [thenS, blockS])
      | (refine Pwp.cond rfl True.intro (fun h => ?_) (fun h => ?_) <;> (try (cases h; done)) <;> (try simp only [h]))
      | (refine Pwp.ret ?_; try simp only [thenS, blockS])
      | (refine hK _ ?_; clear hK K)
      | (refine hK _ _ rfl ?_; clear hK K)
      | (refine CallK.give (ds := [.slc 1 (digD (digs x.natAbs)), .slc 1 (digD (digs y.natAbs))]) rfl (r161) (by simp) ?_)
      | (refine CallK.give (ds := [.slc 1 (digD (addL (digs x.natAbs) (digs y.natAbs) 0))]) rfl (r160) (by simp) ?_)
      | (refine CallK.give (ds := [.slc 1 (digD (digs x.natAbs)), .slc 1 (digD (digs y.natAbs))]) rfl (r162) (by simp) ?_)
      | (refine CallK.give (ds := [.slc 1 (digD (digs x.natAbs)), .slc 1 (digD (digs y.natAbs))]) rfl (rxy) (by simp) ?_)
      | (refine CallK.give (ds := [.slc 1 (digD (digs y.natAbs)), .slc 1 (digD (digs x.natAbs))]) rfl (ryx) (by simp) ?_)
      | (refine CallG.off ?_)
      | (with_reducible refine Or.inl ?_)
      | (simp only [thenS, blockS])
      | (with_reducible refine And.intro ?_ ?_)
      | (with_reducible exact True.intro)
      | (simp (dsimp := false) only [↓opsP_nil, ↓opsP_cons, ↓opsD_nil, ↓opsD_cons, footOf, ↓opP, ↓stepP, ↓stepG, go_sem, reduceIte, Nat.reduceAdd, Nat.reduceMul, Nat.reduceEqDiff, Nat.reduceLT, Nat.reduceLeDiff, Nat.reduceSub, reduceCtorEq, Int.reduceToNat, Int.reduceAdd, Int.reduceSub, Int.reduceLT, Int.reduceLE, Int.reduceNeg, Int.reduceBEq, Int.reduceBNe, true_or]))
    all_goals (try (first | (intro hg; simp_all; done) | (intro hg; simp [hg]; done) | exact of_decide_eq_true rfl | (cases h; done)))
    (refine Fin.data (.inr rfl) (by simp (dsimp := false) only [↓opsP_nil, ↓opsP_cons, ↓opsD_nil, ↓opsD_cons, footOf, ↓opP, ↓stepP, ↓stepG, go_sem, reduceIte, Nat.reduceAdd, Nat.reduceMul, Nat.reduceEqDiff, Nat.reduceLT, Nat.reduceLeDiff, Nat.reduceSub, reduceCtorEq, Int.reduceToNat, Int.reduceAdd, Int.reduceSub, Int.reduceLT, Int.reduceLE, Int.reduceNeg, Int.reduceBEq, Int.reduceBNe, true_or, resL]; rfl) (by simp only [and_self]) (by simp (dsimp := false) only [↓opsP_nil, ↓opsP_cons, ↓opsD_nil, ↓opsD_cons, footOf, ↓opP, ↓stepP, ↓stepG, go_sem, reduceIte, Nat.reduceAdd, Nat.reduceMul, Nat.reduceEqDiff, Nat.reduceLT, Nat.reduceLeDiff, Nat.reduceSub, reduceCtorEq, Int.reduceToNat, Int.reduceAdd, Int.reduceSub, Int.reduceLT, Int.reduceLE, Int.reduceNeg, Int.reduceBEq, Int.reduceBNe, true_or, resP, Nat.le_refl, List.take_length]; try rfl) ?_)
    simp only [decide_eq_true_eq, decide_eq_false_iff_not] at hsx hsy hlt
    try simp only [digs_len_pos]
    refine big_eq ?_ ?_
    · first | (symm; exact decide_eq_true (by omega)) | (symm; exact decide_eq_false (by omega)) | (rw [val_sub_digs (by omega), Bool.true_and]; exact decide_eq_decide.2 (by omega)) | (rw [Bool.false_and]; symm; exact decide_eq_false (by omega)) | (rw [val_sub_digs (by omega)]; exact decide_eq_decide.2 (by omega))
    · first | omega | (rw [val_sub_digs (by omega)]; omega)
  · refine Runs.of (kit Try.prog) Try.func102 rfl rfl (by rw [Try.ntmps102]; exact of_decide_eq_true rfl) ?_; rw [Try.ntmps102, Try.results102]
    repeat' (first
      | ((first | refine Pwp.step (kit _) rfl fun K hK => ?_ | refine Pwp.last (kit _) rfl fun K hK => ?_ | refine Pwp.stepD (kit _) rfl rfl fun K hK => ?_ | refine Pwp.lastD (kit _) rfl rfl fun K hK => ?_); simp (dsimp := false) only [↓opsP_nil, ↓opsP_cons, ↓opsD_nil, ↓opsD_cons, footOf, ↓opP, ↓stepP, ↓stepG, go_sem, reduceIte, Nat.reduceAdd, Nat.reduceMul, Nat.reduceEqDiff, Nat.reduceLT, Nat.reduceLeDiff, Nat.reduceSub, reduceCtorEq, Int.reduceToNat, Int.reduceAdd, Int.reduceSub, Int.reduceLT, Int.reduceLE, Int.reduceNeg, Int.reduceBEq, Int.reduceBNe, true_or])
      | (refine Pwp.seq ?_)
      | (refine Pwp.block ?_)
      | (refine Pwp.exit ?_; simp only [thenS, blockS, if_true, if_false, reduceIte, Nat.reduceEqDiff, Nat.add_one_ne_zero, reduceCtorEq])
      | (refine Pwp.skip ?_; simp only [thenS, blockS])
      | (refine Pwp.cond rfl True.intro (fun h => ?_) (fun h => ?_) <;> (try (cases h; done)) <;> (try simp only [h]))
      | (refine Pwp.ret ?_; try simp only [thenS, blockS])
      | (refine hK _ ?_; clear hK K)
      | (refine hK _ _ rfl ?_; clear hK K)
      | (refine CallK.give (ds := [.slc 1 (digD (digs x.natAbs)), .slc 1 (digD (digs y.natAbs))]) rfl (r161) (by simp) ?_)
      | (refine CallK.give (ds := [.slc 1 (digD (addL (digs x.natAbs) (digs y.natAbs) 0))]) rfl (r160) (by simp) ?_)
      | (refine CallK.give (ds := [.slc 1 (digD (digs x.natAbs)), .slc 1 (digD (digs y.natAbs))]) rfl (r162) (by simp) ?_)
      | (refine CallK.give (ds := [.slc 1 (digD (digs x.natAbs)), .slc 1 (digD (digs y.natAbs))]) rfl (rxy) (by simp) ?_)
      | (refine CallK.give (ds := [.slc 1 (digD (digs y.natAbs)), .slc 1 (digD (digs x.natAbs))]) rfl (ryx) (by simp) ?_)
      | (refine CallG.off ?_)
      | (with_reducible refine Or.inl ?_)
      | (simp only [thenS, blockS])
      | (with_reducible refine And.intro ?_ ?_)
      | (with_reducible exact True.intro)
      | (simp (dsimp := false) only [↓opsP_nil, ↓opsP_cons, ↓opsD_nil, ↓opsD_cons, footOf, ↓opP, ↓stepP, ↓stepG, go_sem, reduceIte, Nat.reduceAdd, Nat.reduceMul, Nat.reduceEqDiff, Nat.reduceLT, Nat.reduceLeDiff, Nat.reduceSub, reduceCtorEq, Int.reduceToNat, Int.reduceAdd, Int.reduceSub, Int.reduceLT, Int.reduceLE, Int.reduceNeg, Int.reduceBEq, Int.reduceBNe, true_or]))
    all_goals (try (first | (intro hg; simp_all; done) | (intro hg; simp [hg]; done) | exact of_decide_eq_true rfl | (cases h; done)))
    (refine Fin.data (.inr rfl) (by simp (dsimp := false) only [↓opsP_nil, ↓opsP_cons, ↓opsD_nil, ↓opsD_cons, footOf, ↓opP, ↓stepP, ↓stepG, go_sem, reduceIte, Nat.reduceAdd, Nat.reduceMul, Nat.reduceEqDiff, Nat.reduceLT, Nat.reduceLeDiff, Nat.reduceSub, reduceCtorEq, Int.reduceToNat, Int.reduceAdd, Int.reduceSub, Int.reduceLT, Int.reduceLE, Int.reduceNeg, Int.reduceBEq, Int.reduceBNe, true_or, resL]; rfl) (by simp only [and_self]) (by simp (dsimp := false) only [↓opsP_nil, ↓opsP_cons, ↓opsD_nil, ↓opsD_cons, footOf, ↓opP, ↓stepP, ↓stepG, go_sem, reduceIte, Nat.reduceAdd, Nat.reduceMul, Nat.reduceEqDiff, Nat.reduceLT, Nat.reduceLeDiff, Nat.reduceSub, reduceCtorEq, Int.reduceToNat, Int.reduceAdd, Int.reduceSub, Int.reduceLT, Int.reduceLE, Int.reduceNeg, Int.reduceBEq, Int.reduceBNe, true_or, resP, Nat.le_refl, List.take_length]; try rfl) ?_)
    simp only [decide_eq_true_eq, decide_eq_false_iff_not] at hsx hsy hlt
    try simp only [digs_len_pos]
    refine big_eq ?_ ?_
    · first | (symm; exact decide_eq_true (by omega)) | (symm; exact decide_eq_false (by omega)) | (rw [val_sub_digs (by omega), Bool.true_and]; exact decide_eq_decide.2 (by omega)) | (rw [Bool.false_and]; symm; exact decide_eq_false (by omega)) | (rw [val_sub_digs (by omega)]; exact decide_eq_decide.2 (by omega))
    · first | omega | (rw [val_sub_digs (by omega)]; omega)
  · refine Runs.of (kit Try.prog) Try.func102 rfl rfl (by rw [Try.ntmps102]; exact of_decide_eq_true rfl) ?_; rw [Try.ntmps102, Try.results102]
    repeat' (first
      | ((first | refine Pwp.step (kit _) rfl fun K hK => ?_ | refine Pwp.last (kit _) rfl fun K hK => ?_ | refine Pwp.stepD (kit _) rfl rfl fun K hK => ?_ | refine Pwp.lastD (kit _) rfl rfl fun K hK => ?_); simp (dsimp := false) only [↓opsP_nil, ↓opsP_cons, ↓opsD_nil, ↓opsD_cons, footOf, ↓opP, ↓stepP, ↓stepG, go_sem, reduceIte, Nat.reduceAdd, Nat.reduceMul, Nat.reduceEqDiff, Nat.reduceLT, Nat.reduceLeDiff, Nat.reduceSub, reduceCtorEq, Int.reduceToNat, Int.reduceAdd, Int.reduceSub, Int.reduceLT, Int.reduceLE, Int.reduceNeg, Int.reduceBEq, Int.reduceBNe, true_or])
      | (refine Pwp.seq ?_)
      | (refine Pwp.block ?_)
      | (refine Pwp.exit ?_; simp only [thenS, blockS, if_true, if_false, reduceIte, Nat.reduceEqDiff, Nat.add_one_ne_zero, reduceCtorEq])
      | (refine Pwp.skip ?_; simp only [thenS, blockS])
      | (refine Pwp.cond rfl True.intro (fun h => ?_) (fun h => ?_) <;> (try (cases h; done)) <;> (try simp only [h]))
      | (refine Pwp.ret ?_; try simp only [thenS, blockS])
      | (refine hK _ ?_; clear hK K)
      | (refine hK _ _ rfl ?_; clear hK K)
      | (refine CallK.give (ds := [.slc 1 (digD (digs x.natAbs)), .slc 1 (digD (digs y.natAbs))]) rfl (r161) (by simp) ?_)
      | (refine CallK.give (ds := [.slc 1 (digD (addL (digs x.natAbs) (digs y.natAbs) 0))]) rfl (r160) (by simp) ?_)
      | (refine CallK.give (ds := [.slc 1 (digD (digs x.natAbs)), .slc 1 (digD (digs y.natAbs))]) rfl (r162) (by simp) ?_)
      | (refine CallK.give (ds := [.slc 1 (digD (digs x.natAbs)), .slc 1 (digD (digs y.natAbs))]) rfl (rxy) (by simp) ?_)
      | (refine CallK.give (ds := [.slc 1 (digD (digs y.natAbs)), .slc 1 (digD (digs x.natAbs))]) rfl (ryx) (by simp) ?_)
      | (refine CallG.off ?_)
      | (with_reducible refine Or.inl ?_)
      | (simp only [thenS, blockS])
      | (with_reducible refine And.intro ?_ ?_)
      | (with_reducible exact True.intro)
      | (simp (dsimp := false) only [↓opsP_nil, ↓opsP_cons, ↓opsD_nil, ↓opsD_cons, footOf, ↓opP, ↓stepP, ↓stepG, go_sem, reduceIte, Nat.reduceAdd, Nat.reduceMul, Nat.reduceEqDiff, Nat.reduceLT, Nat.reduceLeDiff, Nat.reduceSub, reduceCtorEq, Int.reduceToNat, Int.reduceAdd, Int.reduceSub, Int.reduceLT, Int.reduceLE, Int.reduceNeg, Int.reduceBEq, Int.reduceBNe, true_or]))
    all_goals (try (first | (intro hg; simp_all; done) | (intro hg; simp [hg]; done) | exact of_decide_eq_true rfl | (cases h; done)))
    (refine Fin.data (.inr rfl) (by simp (dsimp := false) only [↓opsP_nil, ↓opsP_cons, ↓opsD_nil, ↓opsD_cons, footOf, ↓opP, ↓stepP, ↓stepG, go_sem, reduceIte, Nat.reduceAdd, Nat.reduceMul, Nat.reduceEqDiff, Nat.reduceLT, Nat.reduceLeDiff, Nat.reduceSub, reduceCtorEq, Int.reduceToNat, Int.reduceAdd, Int.reduceSub, Int.reduceLT, Int.reduceLE, Int.reduceNeg, Int.reduceBEq, Int.reduceBNe, true_or, resL]; rfl) (by simp only [and_self]) (by simp (dsimp := false) only [↓opsP_nil, ↓opsP_cons, ↓opsD_nil, ↓opsD_cons, footOf, ↓opP, ↓stepP, ↓stepG, go_sem, reduceIte, Nat.reduceAdd, Nat.reduceMul, Nat.reduceEqDiff, Nat.reduceLT, Nat.reduceLeDiff, Nat.reduceSub, reduceCtorEq, Int.reduceToNat, Int.reduceAdd, Int.reduceSub, Int.reduceLT, Int.reduceLE, Int.reduceNeg, Int.reduceBEq, Int.reduceBNe, true_or, resP, Nat.le_refl, List.take_length]; try rfl) ?_)
    simp only [decide_eq_true_eq, decide_eq_false_iff_not] at hsx hsy hlt
    try simp only [digs_len_pos]
    refine big_eq ?_ ?_
    · first | (symm; exact decide_eq_true (by omega)) | (symm; exact decide_eq_false (by omega)) | (rw [val_sub_digs (by omega), Bool.true_and]; exact decide_eq_decide.2 (by omega)) | (rw [Bool.false_and]; symm; exact decide_eq_false (by omega)) | (rw [val_sub_digs (by omega)]; exact decide_eq_decide.2 (by omega))
    · first | omega | (rw [val_sub_digs (by omega)]; omega)
  · refine Runs.of (kit Try.prog) Try.func102 rfl rfl (by rw [Try.ntmps102]; exact of_decide_eq_true rfl) ?_; rw [Try.ntmps102, Try.results102]
    repeat' (first
      | ((first | refine Pwp.step (kit _) rfl fun K hK => ?_ | refine Pwp.last (kit _) rfl fun K hK => ?_ | refine Pwp.stepD (kit _) rfl rfl fun K hK => ?_ | refine Pwp.lastD (kit _) rfl rfl fun K hK => ?_); simp (dsimp := false) only [↓opsP_nil, ↓opsP_cons, ↓opsD_nil, ↓opsD_cons, footOf, ↓opP, ↓stepP, ↓stepG, go_sem, reduceIte, Nat.reduceAdd, Nat.reduceMul, Nat.reduceEqDiff, Nat.reduceLT, Nat.reduceLeDiff, Nat.reduceSub, reduceCtorEq, Int.reduceToNat, Int.reduceAdd, Int.reduceSub, Int.reduceLT, Int.reduceLE, Int.reduceNeg, Int.reduceBEq, Int.reduceBNe, true_or])
      | (refine Pwp.seq ?_)
      | (refine Pwp.block ?_)
      | (refine Pwp.exit ?_; simp only [thenS, blockS, if_true, if_false, reduceIte, Nat.reduceEqDiff, Nat.add_one_ne_zero, reduceCtorEq])
      | (refine Pwp.skip ?_; simp only [thenS, blockS])
      | (refine Pwp.cond rfl True.intro (fun h => ?_) (fun h => ?_) <;> (try (cases h; done)) <;> (try simp only [h]))
      | (refine Pwp.ret ?_; try simp only [thenS, blockS])
      | (refine hK _ ?_; clear hK K)
      | (refine hK _ _ rfl ?_; clear hK K)
      | (refine CallK.give (ds := [.slc 1 (digD (digs x.natAbs)), .slc 1 (digD (digs y.natAbs))]) rfl (r161) (by simp) ?_)
      | (refine CallK.give (ds := [.slc 1 (digD (addL (digs x.natAbs) (digs y.natAbs) 0))]) rfl (r160) (by simp) ?_)
      | (refine CallK.give (ds := [.slc 1 (digD (digs x.natAbs)), .slc 1 (digD (digs y.natAbs))]) rfl (r162) (by simp) ?_)
      | (refine CallK.give (ds := [.slc 1 (digD (digs x.natAbs)), .slc 1 (digD (digs y.natAbs))]) rfl (rxy) (by simp) ?_)
      | (refine CallK.give (ds := [.slc 1 (digD (digs y.natAbs)), .slc 1 (digD (digs x.natAbs))]) rfl (ryx) (by simp) ?_)
      | (refine CallG.off ?_)
      | (with_reducible refine Or.inl ?_)
      | (simp only [thenS, blockS])
      | (with_reducible refine And.intro ?_ ?_)
      | (with_reducible exact True.intro)
      | (simp (dsimp := false) only [↓opsP_nil, ↓opsP_cons, ↓opsD_nil, ↓opsD_cons, footOf, ↓opP, ↓stepP, ↓stepG, go_sem, reduceIte, Nat.reduceAdd, Nat.reduceMul, Nat.reduceEqDiff, Nat.reduceLT, Nat.reduceLeDiff, Nat.reduceSub, reduceCtorEq, Int.reduceToNat, Int.reduceAdd, Int.reduceSub, Int.reduceLT, Int.reduceLE, Int.reduceNeg, Int.reduceBEq, Int.reduceBNe, true_or]))
    all_goals (try (first | (intro hg; simp_all; done) | (intro hg; simp [hg]; done) | exact of_decide_eq_true rfl | (cases h; done)))
    (refine Fin.data (.inr rfl) (by simp (dsimp := false) only [↓opsP_nil, ↓opsP_cons, ↓opsD_nil, ↓opsD_cons, footOf, ↓opP, ↓stepP, ↓stepG, go_sem, reduceIte, Nat.reduceAdd, Nat.reduceMul, Nat.reduceEqDiff, Nat.reduceLT, Nat.reduceLeDiff, Nat.reduceSub, reduceCtorEq, Int.reduceToNat, Int.reduceAdd, Int.reduceSub, Int.reduceLT, Int.reduceLE, Int.reduceNeg, Int.reduceBEq, Int.reduceBNe, true_or, resL]; rfl) (by simp only [and_self]) (by simp (dsimp := false) only [↓opsP_nil, ↓opsP_cons, ↓opsD_nil, ↓opsD_cons, footOf, ↓opP, ↓stepP, ↓stepG, go_sem, reduceIte, Nat.reduceAdd, Nat.reduceMul, Nat.reduceEqDiff, Nat.reduceLT, Nat.reduceLeDiff, Nat.reduceSub, reduceCtorEq, Int.reduceToNat, Int.reduceAdd, Int.reduceSub, Int.reduceLT, Int.reduceLE, Int.reduceNeg, Int.reduceBEq, Int.reduceBNe, true_or, resP, Nat.le_refl, List.take_length]; try rfl) ?_)
    simp only [decide_eq_true_eq, decide_eq_false_iff_not] at hsx hsy hlt
    try simp only [digs_len_pos]
    refine big_eq ?_ ?_
    · first | (symm; exact decide_eq_true (by omega)) | (symm; exact decide_eq_false (by omega)) | (rw [val_sub_digs (by omega), Bool.true_and]; exact decide_eq_decide.2 (by omega)) | (rw [Bool.false_and]; symm; exact decide_eq_false (by omega)) | (rw [val_sub_digs (by omega)]; exact decide_eq_decide.2 (by omega))
    · first | omega | (rw [val_sub_digs (by omega)]; omega)
  · refine Runs.of (kit Try.prog) Try.func102 rfl rfl (by rw [Try.ntmps102]; exact of_decide_eq_true rfl) ?_; rw [Try.ntmps102, Try.results102]
    repeat' (first
      | ((first | refine Pwp.step (kit _) rfl fun K hK => ?_ | refine Pwp.last (kit _) rfl fun K hK => ?_ | refine Pwp.stepD (kit _) rfl rfl fun K hK => ?_ | refine Pwp.lastD (kit _) rfl rfl fun K hK => ?_); simp (dsimp := false) only [↓opsP_nil, ↓opsP_cons, ↓opsD_nil, ↓opsD_cons, footOf, ↓opP, ↓stepP, ↓stepG, go_sem, reduceIte, Nat.reduceAdd, Nat.reduceMul, Nat.reduceEqDiff, Nat.reduceLT, Nat.reduceLeDiff, Nat.reduceSub, reduceCtorEq, Int.reduceToNat, Int.reduceAdd, Int.reduceSub, Int.reduceLT, Int.reduceLE, Int.reduceNeg, Int.reduceBEq, Int.reduceBNe, true_or])
      | (refine Pwp.seq ?_)
      | (refine Pwp.block ?_)
      | (refine Pwp.exit ?_; simp only [thenS, blockS, if_true, if_false, reduceIte, Nat.reduceEqDiff, Nat.add_one_ne_zero, reduceCtorEq])
      | (refine Pwp.skip ?_; simp only [thenS, blockS])
      | (refine Pwp.cond rfl True.intro (fun h => ?_) (fun h => ?_) <;> (try (cases h; done)) <;> (try simp only [h]))
      | (refine Pwp.ret ?_; try simp only [thenS, blockS])
      | (refine hK _ ?_; clear hK K)
      | (refine hK _ _ rfl ?_; clear hK K)
      | (refine CallK.give (ds := [.slc 1 (digD (digs x.natAbs)), .slc 1 (digD (digs y.natAbs))]) rfl (r161) (by simp) ?_)
      | (refine CallK.give (ds := [.slc 1 (digD (addL (digs x.natAbs) (digs y.natAbs) 0))]) rfl (r160) (by simp) ?_)
      | (refine CallK.give (ds := [.slc 1 (digD (digs x.natAbs)), .slc 1 (digD (digs y.natAbs))]) rfl (r162) (by simp) ?_)
      | (refine CallK.give (ds := [.slc 1 (digD (digs x.natAbs)), .slc 1 (digD (digs y.natAbs))]) rfl (rxy) (by simp) ?_)
      | (refine CallK.give (ds := [.slc 1 (digD (digs y.natAbs)), .slc 1 (digD (digs x.natAbs))]) rfl (ryx) (by simp) ?_)
      | (refine CallG.off ?_)
      | (with_reducible refine Or.inl ?_)
      | (simp only [thenS, blockS])
      | (with_reducible refine And.intro ?_ ?_)
      | (with_reducible exact True.intro)
      | (simp (dsimp := false) only [↓opsP_nil, ↓opsP_cons, ↓opsD_nil, ↓opsD_cons, footOf, ↓opP, ↓stepP, ↓stepG, go_sem, reduceIte, Nat.reduceAdd, Nat.reduceMul, Nat.reduceEqDiff, Nat.reduceLT, Nat.reduceLeDiff, Nat.reduceSub, reduceCtorEq, Int.reduceToNat, Int.reduceAdd, Int.reduceSub, Int.reduceLT, Int.reduceLE, Int.reduceNeg, Int.reduceBEq, Int.reduceBNe, true_or]))
    all_goals (try (first | (intro hg; simp_all; done) | (intro hg; simp [hg]; done) | exact of_decide_eq_true rfl | (cases h; done)))
    (refine Fin.data (.inr rfl) (by simp (dsimp := false) only [↓opsP_nil, ↓opsP_cons, ↓opsD_nil, ↓opsD_cons, footOf, ↓opP, ↓stepP, ↓stepG, go_sem, reduceIte, Nat.reduceAdd, Nat.reduceMul, Nat.reduceEqDiff, Nat.reduceLT, Nat.reduceLeDiff, Nat.reduceSub, reduceCtorEq, Int.reduceToNat, Int.reduceAdd, Int.reduceSub, Int.reduceLT, Int.reduceLE, Int.reduceNeg, Int.reduceBEq, Int.reduceBNe, true_or, resL]; rfl) (by simp only [and_self]) (by simp (dsimp := false) only [↓opsP_nil, ↓opsP_cons, ↓opsD_nil, ↓opsD_cons, footOf, ↓opP, ↓stepP, ↓stepG, go_sem, reduceIte, Nat.reduceAdd, Nat.reduceMul, Nat.reduceEqDiff, Nat.reduceLT, Nat.reduceLeDiff, Nat.reduceSub, reduceCtorEq, Int.reduceToNat, Int.reduceAdd, Int.reduceSub, Int.reduceLT, Int.reduceLE, Int.reduceNeg, Int.reduceBEq, Int.reduceBNe, true_or, resP, Nat.le_refl, List.take_length]; try rfl) ?_)
    simp only [decide_eq_true_eq, decide_eq_false_iff_not] at hsx hsy hlt
    try simp only [digs_len_pos]
    refine big_eq ?_ ?_
    · first | (symm; exact decide_eq_true (by omega)) | (symm; exact decide_eq_false (by omega)) | (rw [val_sub_digs (by omega), Bool.true_and]; exact decide_eq_decide.2 (by omega)) | (rw [Bool.false_and]; symm; exact decide_eq_false (by omega)) | (rw [val_sub_digs (by omega)]; exact decide_eq_decide.2 (by omega))
    · first | omega | (rw [val_sub_digs (by omega)]; omega)

end Go.Proofs.Ytdodgbhodkcckaa.Pv
