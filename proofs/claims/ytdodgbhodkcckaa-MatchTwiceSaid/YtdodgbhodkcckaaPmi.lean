/- Walks of matching: the head of the statements; the statement of what is taken at first. -/
import Derived.Test.YtdodgbhodkcckaaPmh
set_option linter.unusedVariables false
set_option linter.unusedSimpArgs false
set_option autoImplicit false
set_option maxRecDepth 100000
namespace Go.Proofs.Ytdodgbhodkcckaa.Pv
open Go Go.RowKit

set_option maxHeartbeats 16000000 in
theorem run55 : Runs Try.prog 55 [] [] (pbool true) [] := by
  have f5 : In64 5 := by simp [In64]
  have rA := run56 0 5 (by omega)
  have rB := run56 1 5 (by omega)
  have r1 := run57 (desk0 0 5) (desk0_ok f5) ⟨1, 0, 3, 1, 0, 0, 0, 100, false, nilD, nilD⟩ (by simp [In64]) (-1)
  rw [do_issue (by omega) (by omega) (by omega)] at r1
  have r2 := run57 (desk0 1 5) (desk0_ok f5) ⟨2, 0, 3, 0, 0, 0, 0, 103, false, nilD, nilD⟩ (by simp [In64]) (-1)
  rw [do_order (by simp [expE, isInO_nil]) 0] at r2
  have r3 := run57 ⟨1, [], [⟨0, 3, 103⟩], 5⟩ ⟨by simp, by simp, by simp, by simp [In64], f5⟩ ⟨6, 0, 3, 1, 0, 0, 0, 100, false, nilD, nilD⟩ (by simp [In64]) 0
  have n3 : (isInO [⟨0, 3, 103⟩] 0 3 && nearV (getO [⟨0, 3, 103⟩] 0 3) 100 5) = true := by
    have i1 := isInO_one ⟨0, 3, 103⟩
    have g1 := getO_one ⟨0, 3, 103⟩
    simp only at i1 g1
    rw [i1, g1]; simp [nearV]
  rw [do_propose (by omega) _ _ n3] at r3
  have r4 := run57 ⟨0, [⟨0, 3, 1, 0, 100, 0, 1, 0⟩], [], 5⟩ ⟨by simp, by simp, by simp; exact chk_ok (by omega) (by omega) (by omega) (by omega) (by omega) (by omega) (by omega) (by omega), by simp, f5⟩ ⟨7, 0, 3, 1, 0, 0, 0, 100, false, nilD, nilD⟩ (by simp [In64]) 1
  rw [do_confirm (by omega) (by omega) (by omega)] at r4
  have g := getI_one ⟨0, 3, 1, 0, 100, 0, 3, 0⟩
  have i := isIn_one ⟨0, 3, 1, 0, 100, 0, 3, 0⟩
  have r5 := run65 0 [⟨0, 3, 1, 0, 100, 0, 3, 0⟩] (ordersD []) 0 3 (by simp)
  have r6 := run65 1 [⟨0, 3, 1, 0, 100, 0, 3, 0⟩] (ordersD [⟨0, 3, 103⟩]) 0 3 (by simp)
  simp only at g i
  rw [g, i] at r5 r6
  unfold bookD at r5 r6
  have w : IntKind.wrap .i64 (0 + 0) = 0 := wrap_of (by omega) (by omega)
  simp only [outD, deskD, saidL, desk0, Option.toList, if_true, reduceIte] at rA rB r1 r2 r3 r4
  simp only [Desk.cells, Desk.book, saidD, Msg.d, Msg.cells, about, Item.d, Item.cells, List.cons_append, List.nil_append, List.map_cons, List.map_nil] at *
  refine Runs.of (kit Try.prog) Try.func55 rfl rfl (by rw [Try.ntmps55]; exact of_decide_eq_true rfl) ?_; rw [Try.ntmps55, Try.results55]
  repeat' (first
    | ((first | refine Pwp.step (kit _) rfl fun K hK => ?_ | refine Pwp.last (kit _) rfl fun K hK => ?_ | refine Pwp.stepD (kit _) rfl rfl fun K hK => ?_ | refine Pwp.lastD (kit _) rfl rfl fun K hK => ?_); simp (dsimp := false) only [↓opsP_nil, ↓opsP_cons, ↓opsD_nil, ↓opsD_cons, footOf, ↓opP, ↓stepP, ↓stepG, go_sem, reduceIte, Nat.reduceAdd, Nat.reduceMul, Nat.reduceEqDiff, Nat.reduceLT, Nat.reduceLeDiff, Nat.reduceSub, reduceCtorEq, Int.reduceToNat, Int.reduceAdd, Int.reduceSub, Int.reduceLT, Int.reduceLE, Int.reduceNeg, Int.reduceBEq, Int.reduceBNe, true_or, w])
    | (refine Pwp.seq ?_)
    | (refine Pwp.block ?_)
    | (refine Pwp.exit ?_; simp only [thenS, blockS, if_true, if_false, reduceIte, Nat.reduceEqDiff, Nat.add_one_ne_zero, reduceCtorEq])
    | (refine Pwp.skip ?_; simp only [thenS, blockS])
    | (refine Pwp.cond rfl True.intro (fun h => ?_) (fun h => ?_) <;> (try (cases h; done)) <;> (try simp only [h]))
    | (refine Pwp.ret ?_; try simp only [thenS, blockS])
    | (refine hK _ ?_; clear hK K)
    | (refine hK _ _ rfl ?_; clear hK K)
    | (refine CallK.toD (ds := [.agg [I64 0, .slc 8 (itemsD [⟨0, 3, 1, 0, 100, 0, 3, 0⟩]), .slc 3 (ordersD [])], .agg [I64 0, I64 3]]) rfl (r5) rfl ?_)
    | (refine CallK.toD (ds := [.agg [I64 1, .slc 8 (itemsD [⟨0, 3, 1, 0, 100, 0, 3, 0⟩]), .slc 3 (ordersD [⟨0, 3, 103⟩])], .agg [I64 0, I64 3]]) rfl (r6) rfl ?_)
    | (refine CallK.give (ds := [I64 0, I64 5]) rfl (rA) (by simp) ?_)
    | (refine CallK.give (ds := [I64 1, I64 5]) rfl (rB) (by simp) ?_)
    | (refine CallK.give (ds := [.agg [I64 0, .slc 8 (itemsD []), .slc 3 (ordersD []), I64 5, nilD], .agg [I64 1, I64 0, I64 3, I64 1, I64 0, I64 0, I64 0, I64 100, .v (.bool false), nilD, nilD], I64 (-1)]) rfl (r1) (by simp) ?_)
    | (refine CallK.give (ds := [.agg [I64 1, .slc 8 (itemsD []), .slc 3 (ordersD []), I64 5, nilD], .agg [I64 2, I64 0, I64 3, I64 0, I64 0, I64 0, I64 0, I64 103, .v (.bool false), nilD, nilD], I64 (-1)]) rfl (r2) (by simp) ?_)
    | (refine CallK.give (ds := [.agg [I64 1, .slc 8 (itemsD []), .slc 3 (ordersD [⟨0, 3, 103⟩]), I64 5, nilD], .agg [I64 6, I64 0, I64 3, I64 1, I64 0, I64 0, I64 0, I64 100, .v (.bool false), nilD, nilD], I64 0]) rfl (r3) (by simp) ?_)
    | (refine CallK.give (ds := [.agg [I64 0, .slc 8 (itemsD [⟨0, 3, 1, 0, 100, 0, 1, 0⟩]), .slc 3 (ordersD []), I64 5, nilD], .agg [I64 7, I64 0, I64 3, I64 1, I64 0, I64 0, I64 0, I64 100, .v (.bool false), nilD, nilD], I64 1]) rfl (r4) (by simp) ?_)
    | (refine CallG.off ?_)
    | (with_reducible refine Or.inl ?_)
    | (simp only [thenS, blockS])
    | (with_reducible refine And.intro ?_ ?_)
    | (with_reducible exact True.intro)
    | (simp (dsimp := false) only [↓opsP_nil, ↓opsP_cons, ↓opsD_nil, ↓opsD_cons, footOf, ↓opP, ↓stepP, ↓stepG, go_sem, reduceIte, Nat.reduceAdd, Nat.reduceMul, Nat.reduceEqDiff, Nat.reduceLT, Nat.reduceLeDiff, Nat.reduceSub, reduceCtorEq, Int.reduceToNat, Int.reduceAdd, Int.reduceSub, Int.reduceLT, Int.reduceLE, Int.reduceNeg, Int.reduceBEq, Int.reduceBNe, true_or, w]))
  all_goals (try (first | (intro hg; simp [hg]; done) | exact of_decide_eq_true rfl | (cases h; done)))
  (refine Fin.data (.inr rfl) (by simp (dsimp := false) only [↓opsP_nil, ↓opsP_cons, ↓opsD_nil, ↓opsD_cons, footOf, ↓opP, ↓stepP, ↓stepG, go_sem, reduceIte, Nat.reduceAdd, Nat.reduceMul, Nat.reduceEqDiff, Nat.reduceLT, Nat.reduceLeDiff, Nat.reduceSub, reduceCtorEq, Int.reduceToNat, Int.reduceAdd, Int.reduceSub, Int.reduceLT, Int.reduceLE, Int.reduceNeg, Int.reduceBEq, Int.reduceBNe, true_or, resL]; rfl) (by simp only [and_self]) (by simp (dsimp := false) only [↓opsP_nil, ↓opsP_cons, ↓opsD_nil, ↓opsD_cons, footOf, ↓opP, ↓stepP, ↓stepG, go_sem, reduceIte, Nat.reduceAdd, Nat.reduceMul, Nat.reduceEqDiff, Nat.reduceLT, Nat.reduceLeDiff, Nat.reduceSub, reduceCtorEq, Int.reduceToNat, Int.reduceAdd, Int.reduceSub, Int.reduceLT, Int.reduceLE, Int.reduceNeg, Int.reduceBEq, Int.reduceBNe, true_or, resP, Nat.le_refl, List.take_length]; try rfl) ?_)
  exact subD_refl _

theorem exp_far {want : Int} (h : 1 ≤ want ∧ want ≤ 1125899906842624) : expE 1 [] ⟨0, 3, want⟩ = 0 := by
  unfold expE
  rw [if_neg (by simp), if_neg (by simp; omega), if_neg (by simp)]
set_option maxHeartbeats 32000000 in
theorem run17 (far want have' : Int) (hf : In64 far) : Runs Try.prog 17 [pint .i64 far, pint .i64 want, pint .i64 have'] [] (pbool true) [] := by
  have r55 := run55
  cases hc : ((((decide (far < 0) || decide (want < 0)) || decide (1125899906842624 < want)) || decide (have' < 1)) || decide (1125899906842624 < have')) with
  | true =>
    refine Runs.of (kit Try.prog) Try.func17 rfl rfl (by rw [Try.ntmps17]; exact of_decide_eq_true rfl) ?_; rw [Try.ntmps17, Try.results17]
    repeat' (first
      | ((first | refine Pwp.step (kit _) rfl fun K hK => ?_ | refine Pwp.last (kit _) rfl fun K hK => ?_ | refine Pwp.stepD (kit _) rfl rfl fun K hK => ?_ | refine Pwp.lastD (kit _) rfl rfl fun K hK => ?_); simp (dsimp := false) only [↓opsP_nil, ↓opsP_cons, ↓opsD_nil, ↓opsD_cons, footOf, ↓opP, ↓stepP, ↓stepG, go_sem, reduceIte, Nat.reduceAdd, Nat.reduceMul, Nat.reduceEqDiff, Nat.reduceLT, Nat.reduceLeDiff, Nat.reduceSub, reduceCtorEq, Int.reduceToNat, Int.reduceAdd, Int.reduceSub, Int.reduceLT, Int.reduceLE, Int.reduceNeg, Int.reduceBEq, Int.reduceBNe, true_or, hc])
      | (refine Pwp.seq ?_)
      | (refine Pwp.block ?_)
      | (refine Pwp.exit ?_; simp only [thenS, blockS, if_true, if_false, reduceIte, Nat.reduceEqDiff, Nat.add_one_ne_zero, reduceCtorEq])
      | (refine Pwp.skip ?_; simp only [thenS, blockS])
      | (refine Pwp.cond rfl True.intro (fun h => ?_) (fun h => ?_) <;> (try (cases h; done)) <;> (try simp only [h]))
      | (refine Pwp.ret ?_; try simp only [thenS, blockS])
      | (refine hK _ ?_; clear hK K)
      | (refine hK _ _ rfl ?_; clear hK K)
      | (refine CallK.toD (ds := []) rfl (r55) rfl ?_)
      | (refine CallG.off ?_)
      | (with_reducible refine Or.inl ?_)
      | (simp only [thenS, blockS])
      | (with_reducible refine And.intro ?_ ?_)
      | (with_reducible exact True.intro)
      | (simp (dsimp := false) only [↓opsP_nil, ↓opsP_cons, ↓opsD_nil, ↓opsD_cons, footOf, ↓opP, ↓stepP, ↓stepG, go_sem, reduceIte, Nat.reduceAdd, Nat.reduceMul, Nat.reduceEqDiff, Nat.reduceLT, Nat.reduceLeDiff, Nat.reduceSub, reduceCtorEq, Int.reduceToNat, Int.reduceAdd, Int.reduceSub, Int.reduceLT, Int.reduceLE, Int.reduceNeg, Int.reduceBEq, Int.reduceBNe, true_or, hc]))
    all_goals (try (first | (intro hg; simp [hg]; done) | exact of_decide_eq_true rfl | (cases h; done)))
    (refine Fin.data (.inr rfl) (by simp (dsimp := false) only [↓opsP_nil, ↓opsP_cons, ↓opsD_nil, ↓opsD_cons, footOf, ↓opP, ↓stepP, ↓stepG, go_sem, reduceIte, Nat.reduceAdd, Nat.reduceMul, Nat.reduceEqDiff, Nat.reduceLT, Nat.reduceLeDiff, Nat.reduceSub, reduceCtorEq, Int.reduceToNat, Int.reduceAdd, Int.reduceSub, Int.reduceLT, Int.reduceLE, Int.reduceNeg, Int.reduceBEq, Int.reduceBNe, true_or, resL]; rfl) (by simp only [and_self]) (by simp (dsimp := false) only [↓opsP_nil, ↓opsP_cons, ↓opsD_nil, ↓opsD_cons, footOf, ↓opP, ↓stepP, ↓stepG, go_sem, reduceIte, Nat.reduceAdd, Nat.reduceMul, Nat.reduceEqDiff, Nat.reduceLT, Nat.reduceLeDiff, Nat.reduceSub, reduceCtorEq, Int.reduceToNat, Int.reduceAdd, Int.reduceSub, Int.reduceLT, Int.reduceLE, Int.reduceNeg, Int.reduceBEq, Int.reduceBNe, true_or, resP, Nat.le_refl, List.take_length]; try rfl) ?_)
    exact subD_refl _
  | false =>
    have hc2 := hc
    simp only [Bool.or_eq_false_iff, decide_eq_false_iff_not] at hc2
    obtain ⟨⟨⟨⟨h1, h2⟩, h3⟩, h4⟩, h5⟩ := hc2
    have r0 := run56 1 far (by omega)
    have hm : In64 have' := by unfold In64; omega
    have w1 : IntKind.wrap .i64 (want - have') = want - have' := wrap_of (by omega) (by omega)
    have w2 : IntKind.wrap .i64 (0 - (want - have')) = have' - want := by rw [wrap_of (by omega) (by omega)]; omega
    have ga : ∀ st : Int, isIn [⟨0, 3, 1, 0, have', 0, st, 0⟩] 0 3 = true := fun st => isIn_one ⟨0, 3, 1, 0, have', 0, st, 0⟩
    have gb : ∀ st : Int, getI [⟨0, 3, 1, 0, have', 0, st, 0⟩] 0 3 = ⟨0, 3, 1, 0, have', 0, st, 0⟩ := fun st => getI_one ⟨0, 3, 1, 0, have', 0, st, 0⟩
    by_cases hw : 0 < want
    · have cw : decide (0 < want) = true := decide_eq_true hw
      have r1 := run57 (desk0 1 far) (desk0_ok hf) ⟨2, 0, 3, 0, 0, 0, 0, want, false, nilD, nilD⟩ (by simp only [In64]; omega) (-1)
      rw [do_order (exp_far (by omega)) 0] at r1
      have r2 := run57 ⟨1, [], [⟨0, 3, want⟩], far⟩ ⟨by simp, by simp, by simp, by simp only [List.mem_singleton, forall_eq, In64]; omega, hf⟩ ⟨6, 0, 3, 1, 0, 0, 0, have', false, nilD, nilD⟩ hm 0
      have hn : (isInO [⟨0, 3, want⟩] 0 3 && nearV (getO [⟨0, 3, want⟩] 0 3) have' far) = nearV want have' far := by
        have i1 := isInO_one ⟨0, 3, want⟩
        have g1 := getO_one ⟨0, 3, want⟩
        simp only at i1 g1
        rw [i1, g1, Bool.true_and]
      rw [do_propose (by omega) _ _ hn] at r2
      cases hnr : nearV want have' far with
      | true =>
        rw [hnr] at r2
        have r5 := run65 1 [⟨0, 3, 1, 0, have', 0, 3, 0⟩] (ordersD [⟨0, 3, want⟩]) 0 3 (by simp)
        rw [ga, gb] at r5
        have hv := hnr
        unfold nearV at hv
        rw [decide_eq_true (show 0 ≤ far by omega), Bool.true_and] at hv
        rw [Bool.and_eq_true, decide_eq_true_eq, decide_eq_true_eq] at hv
        by_cases hs : want - have' < 0
        · have cs : decide (want - have' < 0) = true := decide_eq_true hs
          have cn : decide (have' - want ≤ far) = true := decide_eq_true (by omega)
          simp only [outD, deskD, saidL, desk0, Option.toList, if_true, if_false, reduceIte, Bool.false_eq_true, Desk.cells, Desk.book, saidD, Msg.d, Msg.cells, about, Item.d, Item.cells, bookD, List.cons_append, List.nil_append, List.map_cons, List.map_nil] at *
          refine Runs.of (kit Try.prog) Try.func17 rfl rfl (by rw [Try.ntmps17]; exact of_decide_eq_true rfl) ?_; rw [Try.ntmps17, Try.results17]
          repeat' (first
            | ((first | refine Pwp.step (kit _) rfl fun K hK => ?_ | refine Pwp.last (kit _) rfl fun K hK => ?_ | refine Pwp.stepD (kit _) rfl rfl fun K hK => ?_ | refine Pwp.lastD (kit _) rfl rfl fun K hK => ?_); simp (dsimp := false) only [↓opsP_nil, ↓opsP_cons, ↓opsD_nil, ↓opsD_cons, footOf, ↓opP, ↓stepP, ↓stepG, go_sem, reduceIte, Nat.reduceAdd, Nat.reduceMul, Nat.reduceEqDiff, Nat.reduceLT, Nat.reduceLeDiff, Nat.reduceSub, reduceCtorEq, Int.reduceToNat, Int.reduceAdd, Int.reduceSub, Int.reduceLT, Int.reduceLE, Int.reduceNeg, Int.reduceBEq, Int.reduceBNe, true_or, hc, w1, w2, cw, cs, cn])
            | (refine Pwp.seq ?_)
            | (refine Pwp.block ?_)
            | (refine Pwp.exit ?_; simp only [thenS, blockS, if_true, if_false, reduceIte, Nat.reduceEqDiff, Nat.add_one_ne_zero, reduceCtorEq])
            | (refine Pwp.skip ?_; simp only [thenS, blockS])
            | (refine Pwp.cond rfl True.intro (fun h => ?_) (fun h => ?_) <;> (try (cases h; done)) <;> (try simp only [h]))
            | (refine Pwp.ret ?_; try simp only [thenS, blockS])
            | (refine hK _ ?_; clear hK K)
            | (refine hK _ _ rfl ?_; clear hK K)
            | (refine CallK.toD (ds := []) rfl (r55) rfl ?_)
            | (refine CallK.toD (ds := [.agg [I64 1, .slc 8 (itemsD [⟨0, 3, 1, 0, have', 0, 3, 0⟩]), .slc 3 (ordersD [⟨0, 3, want⟩])], .agg [I64 0, I64 3]]) rfl (r5) rfl ?_)
            | (refine CallK.give (ds := [I64 1, I64 far]) rfl (r0) (by simp) ?_)
            | (refine CallK.give (ds := [.agg [I64 1, .slc 8 (itemsD []), .slc 3 (ordersD []), I64 far, nilD], .agg [I64 2, I64 0, I64 3, I64 0, I64 0, I64 0, I64 0, I64 want, .v (.bool false), nilD, nilD], I64 (-1)]) rfl (r1) (by simp) ?_)
            | (refine CallK.give (ds := [.agg [I64 1, .slc 8 (itemsD []), .slc 3 (ordersD [⟨0, 3, want⟩]), I64 far, nilD], .agg [I64 6, I64 0, I64 3, I64 1, I64 0, I64 0, I64 0, I64 have', .v (.bool false), nilD, nilD], I64 0]) rfl (r2) (by simp) ?_)
            | (refine CallG.off ?_)
            | (with_reducible refine Or.inl ?_)
            | (simp only [thenS, blockS])
            | (with_reducible refine And.intro ?_ ?_)
            | (with_reducible exact True.intro)
            | (simp (dsimp := false) only [↓opsP_nil, ↓opsP_cons, ↓opsD_nil, ↓opsD_cons, footOf, ↓opP, ↓stepP, ↓stepG, go_sem, reduceIte, Nat.reduceAdd, Nat.reduceMul, Nat.reduceEqDiff, Nat.reduceLT, Nat.reduceLeDiff, Nat.reduceSub, reduceCtorEq, Int.reduceToNat, Int.reduceAdd, Int.reduceSub, Int.reduceLT, Int.reduceLE, Int.reduceNeg, Int.reduceBEq, Int.reduceBNe, true_or, hc, w1, w2, cw, cs, cn]))
          all_goals (try (first | (intro hg; simp [hg]; done) | exact of_decide_eq_true rfl | (cases h; done)))
          (refine Fin.data (.inr rfl) (by simp (dsimp := false) only [↓opsP_nil, ↓opsP_cons, ↓opsD_nil, ↓opsD_cons, footOf, ↓opP, ↓stepP, ↓stepG, go_sem, reduceIte, Nat.reduceAdd, Nat.reduceMul, Nat.reduceEqDiff, Nat.reduceLT, Nat.reduceLeDiff, Nat.reduceSub, reduceCtorEq, Int.reduceToNat, Int.reduceAdd, Int.reduceSub, Int.reduceLT, Int.reduceLE, Int.reduceNeg, Int.reduceBEq, Int.reduceBNe, true_or, resL]; rfl) (by simp only [and_self]) (by simp (dsimp := false) only [↓opsP_nil, ↓opsP_cons, ↓opsD_nil, ↓opsD_cons, footOf, ↓opP, ↓stepP, ↓stepG, go_sem, reduceIte, Nat.reduceAdd, Nat.reduceMul, Nat.reduceEqDiff, Nat.reduceLT, Nat.reduceLeDiff, Nat.reduceSub, reduceCtorEq, Int.reduceToNat, Int.reduceAdd, Int.reduceSub, Int.reduceLT, Int.reduceLE, Int.reduceNeg, Int.reduceBEq, Int.reduceBNe, true_or, resP, Nat.le_refl, List.take_length]; try rfl) ?_)
          exact subD_refl _
        · have cs : decide (want - have' < 0) = false := decide_eq_false hs
          have cn : decide (want - have' ≤ far) = true := decide_eq_true (by omega)
          simp only [outD, deskD, saidL, desk0, Option.toList, if_true, if_false, reduceIte, Bool.false_eq_true, Desk.cells, Desk.book, saidD, Msg.d, Msg.cells, about, Item.d, Item.cells, bookD, List.cons_append, List.nil_append, List.map_cons, List.map_nil] at *
          refine Runs.of (kit Try.prog) Try.func17 rfl rfl (by rw [Try.ntmps17]; exact of_decide_eq_true rfl) ?_; rw [Try.ntmps17, Try.results17]
          repeat' (first
            | ((first | refine Pwp.step (kit _) rfl fun K hK => ?_ | refine Pwp.last (kit _) rfl fun K hK => ?_ | refine Pwp.stepD (kit _) rfl rfl fun K hK => ?_ | refine Pwp.lastD (kit _) rfl rfl fun K hK => ?_); simp (dsimp := false) only [↓opsP_nil, ↓opsP_cons, ↓opsD_nil, ↓opsD_cons, footOf, ↓opP, ↓stepP, ↓stepG, go_sem, reduceIte, Nat.reduceAdd, Nat.reduceMul, Nat.reduceEqDiff, Nat.reduceLT, Nat.reduceLeDiff, Nat.reduceSub, reduceCtorEq, Int.reduceToNat, Int.reduceAdd, Int.reduceSub, Int.reduceLT, Int.reduceLE, Int.reduceNeg, Int.reduceBEq, Int.reduceBNe, true_or, hc, w1, w2, cw, cs, cn])
            | (refine Pwp.seq ?_)
            | (refine Pwp.block ?_)
            | (refine Pwp.exit ?_; simp only [thenS, blockS, if_true, if_false, reduceIte, Nat.reduceEqDiff, Nat.add_one_ne_zero, reduceCtorEq])
            | (refine Pwp.skip ?_; simp only [thenS, blockS])
            | (refine Pwp.cond rfl True.intro (fun h => ?_) (fun h => ?_) <;> (try (cases h; done)) <;> (try simp only [h]))
            | (refine Pwp.ret ?_; try simp only [thenS, blockS])
            | (refine hK _ ?_; clear hK K)
            | (refine hK _ _ rfl ?_; clear hK K)
            | (refine CallK.toD (ds := []) rfl (r55) rfl ?_)
            | (refine CallK.toD (ds := [.agg [I64 1, .slc 8 (itemsD [⟨0, 3, 1, 0, have', 0, 3, 0⟩]), .slc 3 (ordersD [⟨0, 3, want⟩])], .agg [I64 0, I64 3]]) rfl (r5) rfl ?_)
            | (refine CallK.give (ds := [I64 1, I64 far]) rfl (r0) (by simp) ?_)
            | (refine CallK.give (ds := [.agg [I64 1, .slc 8 (itemsD []), .slc 3 (ordersD []), I64 far, nilD], .agg [I64 2, I64 0, I64 3, I64 0, I64 0, I64 0, I64 0, I64 want, .v (.bool false), nilD, nilD], I64 (-1)]) rfl (r1) (by simp) ?_)
            | (refine CallK.give (ds := [.agg [I64 1, .slc 8 (itemsD []), .slc 3 (ordersD [⟨0, 3, want⟩]), I64 far, nilD], .agg [I64 6, I64 0, I64 3, I64 1, I64 0, I64 0, I64 0, I64 have', .v (.bool false), nilD, nilD], I64 0]) rfl (r2) (by simp) ?_)
            | (refine CallG.off ?_)
            | (with_reducible refine Or.inl ?_)
            | (simp only [thenS, blockS])
            | (with_reducible refine And.intro ?_ ?_)
            | (with_reducible exact True.intro)
            | (simp (dsimp := false) only [↓opsP_nil, ↓opsP_cons, ↓opsD_nil, ↓opsD_cons, footOf, ↓opP, ↓stepP, ↓stepG, go_sem, reduceIte, Nat.reduceAdd, Nat.reduceMul, Nat.reduceEqDiff, Nat.reduceLT, Nat.reduceLeDiff, Nat.reduceSub, reduceCtorEq, Int.reduceToNat, Int.reduceAdd, Int.reduceSub, Int.reduceLT, Int.reduceLE, Int.reduceNeg, Int.reduceBEq, Int.reduceBNe, true_or, hc, w1, w2, cw, cs, cn]))
          all_goals (try (first | (intro hg; simp [hg]; done) | exact of_decide_eq_true rfl | (cases h; done)))
          (refine Fin.data (.inr rfl) (by simp (dsimp := false) only [↓opsP_nil, ↓opsP_cons, ↓opsD_nil, ↓opsD_cons, footOf, ↓opP, ↓stepP, ↓stepG, go_sem, reduceIte, Nat.reduceAdd, Nat.reduceMul, Nat.reduceEqDiff, Nat.reduceLT, Nat.reduceLeDiff, Nat.reduceSub, reduceCtorEq, Int.reduceToNat, Int.reduceAdd, Int.reduceSub, Int.reduceLT, Int.reduceLE, Int.reduceNeg, Int.reduceBEq, Int.reduceBNe, true_or, resL]; rfl) (by simp only [and_self]) (by simp (dsimp := false) only [↓opsP_nil, ↓opsP_cons, ↓opsD_nil, ↓opsD_cons, footOf, ↓opP, ↓stepP, ↓stepG, go_sem, reduceIte, Nat.reduceAdd, Nat.reduceMul, Nat.reduceEqDiff, Nat.reduceLT, Nat.reduceLeDiff, Nat.reduceSub, reduceCtorEq, Int.reduceToNat, Int.reduceAdd, Int.reduceSub, Int.reduceLT, Int.reduceLE, Int.reduceNeg, Int.reduceBEq, Int.reduceBNe, true_or, resP, Nat.le_refl, List.take_length]; try rfl) ?_)
          exact subD_refl _
      | false =>
        rw [hnr] at r2
        have r5 := run65 1 [⟨0, 3, 1, 0, have', 0, 2, 0⟩] (ordersD [⟨0, 3, want⟩]) 0 3 (by simp)
        rw [ga, gb] at r5
        have hv := hnr
        unfold nearV at hv
        rw [decide_eq_true (show 0 ≤ far by omega), Bool.true_and] at hv
        rw [Bool.and_eq_false_iff, decide_eq_false_iff_not, decide_eq_false_iff_not] at hv
        by_cases hs : want - have' < 0
        · have cs : decide (want - have' < 0) = true := decide_eq_true hs
          have cn : decide (have' - want ≤ far) = false := decide_eq_false (by omega)
          simp only [outD, deskD, saidL, desk0, Option.toList, if_true, if_false, reduceIte, Bool.false_eq_true, Desk.cells, Desk.book, saidD, Msg.d, Msg.cells, about, Item.d, Item.cells, bookD, List.cons_append, List.nil_append, List.map_cons, List.map_nil] at *
          refine Runs.of (kit Try.prog) Try.func17 rfl rfl (by rw [Try.ntmps17]; exact of_decide_eq_true rfl) ?_; rw [Try.ntmps17, Try.results17]
          repeat' (first
            | ((first | refine Pwp.step (kit _) rfl fun K hK => ?_ | refine Pwp.last (kit _) rfl fun K hK => ?_ | refine Pwp.stepD (kit _) rfl rfl fun K hK => ?_ | refine Pwp.lastD (kit _) rfl rfl fun K hK => ?_); simp (dsimp := false) only [↓opsP_nil, ↓opsP_cons, ↓opsD_nil, ↓opsD_cons, footOf, ↓opP, ↓stepP, ↓stepG, go_sem, reduceIte, Nat.reduceAdd, Nat.reduceMul, Nat.reduceEqDiff, Nat.reduceLT, Nat.reduceLeDiff, Nat.reduceSub, reduceCtorEq, Int.reduceToNat, Int.reduceAdd, Int.reduceSub, Int.reduceLT, Int.reduceLE, Int.reduceNeg, Int.reduceBEq, Int.reduceBNe, true_or, hc, w1, w2, cw, cs, cn])
            | (refine Pwp.seq ?_)
            | (refine Pwp.block ?_)
            | (refine Pwp.exit ?_; simp only [thenS, blockS, if_true, if_false, reduceIte, Nat.reduceEqDiff, Nat.add_one_ne_zero, reduceCtorEq])
            | (refine Pwp.skip ?_; simp only [thenS, blockS])
            | (refine Pwp.cond rfl True.intro (fun h => ?_) (fun h => ?_) <;> (try (cases h; done)) <;> (try simp only [h]))
            | (refine Pwp.ret ?_; try simp only [thenS, blockS])
            | (refine hK _ ?_; clear hK K)
            | (refine hK _ _ rfl ?_; clear hK K)
            | (refine CallK.toD (ds := []) rfl (r55) rfl ?_)
            | (refine CallK.toD (ds := [.agg [I64 1, .slc 8 (itemsD [⟨0, 3, 1, 0, have', 0, 2, 0⟩]), .slc 3 (ordersD [⟨0, 3, want⟩])], .agg [I64 0, I64 3]]) rfl (r5) rfl ?_)
            | (refine CallK.give (ds := [I64 1, I64 far]) rfl (r0) (by simp) ?_)
            | (refine CallK.give (ds := [.agg [I64 1, .slc 8 (itemsD []), .slc 3 (ordersD []), I64 far, nilD], .agg [I64 2, I64 0, I64 3, I64 0, I64 0, I64 0, I64 0, I64 want, .v (.bool false), nilD, nilD], I64 (-1)]) rfl (r1) (by simp) ?_)
            | (refine CallK.give (ds := [.agg [I64 1, .slc 8 (itemsD []), .slc 3 (ordersD [⟨0, 3, want⟩]), I64 far, nilD], .agg [I64 6, I64 0, I64 3, I64 1, I64 0, I64 0, I64 0, I64 have', .v (.bool false), nilD, nilD], I64 0]) rfl (r2) (by simp) ?_)
            | (refine CallG.off ?_)
            | (with_reducible refine Or.inl ?_)
            | (simp only [thenS, blockS])
            | (with_reducible refine And.intro ?_ ?_)
            | (with_reducible exact True.intro)
            | (simp (dsimp := false) only [↓opsP_nil, ↓opsP_cons, ↓opsD_nil, ↓opsD_cons, footOf, ↓opP, ↓stepP, ↓stepG, go_sem, reduceIte, Nat.reduceAdd, Nat.reduceMul, Nat.reduceEqDiff, Nat.reduceLT, Nat.reduceLeDiff, Nat.reduceSub, reduceCtorEq, Int.reduceToNat, Int.reduceAdd, Int.reduceSub, Int.reduceLT, Int.reduceLE, Int.reduceNeg, Int.reduceBEq, Int.reduceBNe, true_or, hc, w1, w2, cw, cs, cn]))
          all_goals (try (first | (intro hg; simp [hg]; done) | exact of_decide_eq_true rfl | (cases h; done)))
          (refine Fin.data (.inr rfl) (by simp (dsimp := false) only [↓opsP_nil, ↓opsP_cons, ↓opsD_nil, ↓opsD_cons, footOf, ↓opP, ↓stepP, ↓stepG, go_sem, reduceIte, Nat.reduceAdd, Nat.reduceMul, Nat.reduceEqDiff, Nat.reduceLT, Nat.reduceLeDiff, Nat.reduceSub, reduceCtorEq, Int.reduceToNat, Int.reduceAdd, Int.reduceSub, Int.reduceLT, Int.reduceLE, Int.reduceNeg, Int.reduceBEq, Int.reduceBNe, true_or, resL]; rfl) (by simp only [and_self]) (by simp (dsimp := false) only [↓opsP_nil, ↓opsP_cons, ↓opsD_nil, ↓opsD_cons, footOf, ↓opP, ↓stepP, ↓stepG, go_sem, reduceIte, Nat.reduceAdd, Nat.reduceMul, Nat.reduceEqDiff, Nat.reduceLT, Nat.reduceLeDiff, Nat.reduceSub, reduceCtorEq, Int.reduceToNat, Int.reduceAdd, Int.reduceSub, Int.reduceLT, Int.reduceLE, Int.reduceNeg, Int.reduceBEq, Int.reduceBNe, true_or, resP, Nat.le_refl, List.take_length]; try rfl) ?_)
          exact subD_refl _
        · have cs : decide (want - have' < 0) = false := decide_eq_false hs
          have cn : decide (want - have' ≤ far) = false := decide_eq_false (by omega)
          simp only [outD, deskD, saidL, desk0, Option.toList, if_true, if_false, reduceIte, Bool.false_eq_true, Desk.cells, Desk.book, saidD, Msg.d, Msg.cells, about, Item.d, Item.cells, bookD, List.cons_append, List.nil_append, List.map_cons, List.map_nil] at *
          refine Runs.of (kit Try.prog) Try.func17 rfl rfl (by rw [Try.ntmps17]; exact of_decide_eq_true rfl) ?_; rw [Try.ntmps17, Try.results17]
          repeat' (first
            | ((first | refine Pwp.step (kit _) rfl fun K hK => ?_ | refine Pwp.last (kit _) rfl fun K hK => ?_ | refine Pwp.stepD (kit _) rfl rfl fun K hK => ?_ | refine Pwp.lastD (kit _) rfl rfl fun K hK => ?_); simp (dsimp := false) only [↓opsP_nil, ↓opsP_cons, ↓opsD_nil, ↓opsD_cons, footOf, ↓opP, ↓stepP, ↓stepG, go_sem, reduceIte, Nat.reduceAdd, Nat.reduceMul, Nat.reduceEqDiff, Nat.reduceLT, Nat.reduceLeDiff, Nat.reduceSub, reduceCtorEq, Int.reduceToNat, Int.reduceAdd, Int.reduceSub, Int.reduceLT, Int.reduceLE, Int.reduceNeg, Int.reduceBEq, Int.reduceBNe, true_or, hc, w1, w2, cw, cs, cn])
            | (refine Pwp.seq ?_)
            | (refine Pwp.block ?_)
            | (refine Pwp.exit ?_; simp only [thenS, blockS, if_true, if_false, reduceIte, Nat.reduceEqDiff, Nat.add_one_ne_zero, reduceCtorEq])
            | (refine Pwp.skip ?_; simp only [thenS, blockS])
            | (refine Pwp.cond rfl True.intro (fun h => ?_) (fun h => ?_) <;> (try (cases h; done)) <;> (try simp only [h]))
            | (refine Pwp.ret ?_; try simp only [thenS, blockS])
            | (refine hK _ ?_; clear hK K)
            | (refine hK _ _ rfl ?_; clear hK K)
            | (refine CallK.toD (ds := []) rfl (r55) rfl ?_)
            | (refine CallK.toD (ds := [.agg [I64 1, .slc 8 (itemsD [⟨0, 3, 1, 0, have', 0, 2, 0⟩]), .slc 3 (ordersD [⟨0, 3, want⟩])], .agg [I64 0, I64 3]]) rfl (r5) rfl ?_)
            | (refine CallK.give (ds := [I64 1, I64 far]) rfl (r0) (by simp) ?_)
            | (refine CallK.give (ds := [.agg [I64 1, .slc 8 (itemsD []), .slc 3 (ordersD []), I64 far, nilD], .agg [I64 2, I64 0, I64 3, I64 0, I64 0, I64 0, I64 0, I64 want, .v (.bool false), nilD, nilD], I64 (-1)]) rfl (r1) (by simp) ?_)
            | (refine CallK.give (ds := [.agg [I64 1, .slc 8 (itemsD []), .slc 3 (ordersD [⟨0, 3, want⟩]), I64 far, nilD], .agg [I64 6, I64 0, I64 3, I64 1, I64 0, I64 0, I64 0, I64 have', .v (.bool false), nilD, nilD], I64 0]) rfl (r2) (by simp) ?_)
            | (refine CallG.off ?_)
            | (with_reducible refine Or.inl ?_)
            | (simp only [thenS, blockS])
            | (with_reducible refine And.intro ?_ ?_)
            | (with_reducible exact True.intro)
            | (simp (dsimp := false) only [↓opsP_nil, ↓opsP_cons, ↓opsD_nil, ↓opsD_cons, footOf, ↓opP, ↓stepP, ↓stepG, go_sem, reduceIte, Nat.reduceAdd, Nat.reduceMul, Nat.reduceEqDiff, Nat.reduceLT, Nat.reduceLeDiff, Nat.reduceSub, reduceCtorEq, Int.reduceToNat, Int.reduceAdd, Int.reduceSub, Int.reduceLT, Int.reduceLE, Int.reduceNeg, Int.reduceBEq, Int.reduceBNe, true_or, hc, w1, w2, cw, cs, cn]))
          all_goals (try (first | (intro hg; simp [hg]; done) | exact of_decide_eq_true rfl | (cases h; done)))
          (refine Fin.data (.inr rfl) (by simp (dsimp := false) only [↓opsP_nil, ↓opsP_cons, ↓opsD_nil, ↓opsD_cons, footOf, ↓opP, ↓stepP, ↓stepG, go_sem, reduceIte, Nat.reduceAdd, Nat.reduceMul, Nat.reduceEqDiff, Nat.reduceLT, Nat.reduceLeDiff, Nat.reduceSub, reduceCtorEq, Int.reduceToNat, Int.reduceAdd, Int.reduceSub, Int.reduceLT, Int.reduceLE, Int.reduceNeg, Int.reduceBEq, Int.reduceBNe, true_or, resL]; rfl) (by simp only [and_self]) (by simp (dsimp := false) only [↓opsP_nil, ↓opsP_cons, ↓opsD_nil, ↓opsD_cons, footOf, ↓opP, ↓stepP, ↓stepG, go_sem, reduceIte, Nat.reduceAdd, Nat.reduceMul, Nat.reduceEqDiff, Nat.reduceLT, Nat.reduceLeDiff, Nat.reduceSub, reduceCtorEq, Int.reduceToNat, Int.reduceAdd, Int.reduceSub, Int.reduceLT, Int.reduceLE, Int.reduceNeg, Int.reduceBEq, Int.reduceBNe, true_or, resP, Nat.le_refl, List.take_length]; try rfl) ?_)
          exact subD_refl _
    · have cw : decide (0 < want) = false := decide_eq_false hw
      have r2 := run57 ⟨1, [], [], far⟩ ⟨by simp, by simp, by simp, by simp, hf⟩ ⟨6, 0, 3, 1, 0, 0, 0, have', false, nilD, nilD⟩ hm 0
      have hn : (isInO [] 0 3 && nearV (getO [] 0 3) have' far) = false := by rw [isInO_nil, Bool.false_and]
      rw [do_propose (by omega) _ _ hn] at r2
      have r5 := run65 1 [⟨0, 3, 1, 0, have', 0, 2, 0⟩] (ordersD []) 0 3 (by simp)
      rw [ga, gb] at r5
      have cs : decide (want - have' < 0) = true := decide_eq_true (by omega)
      simp only [outD, deskD, saidL, desk0, Option.toList, if_true, if_false, reduceIte, Bool.false_eq_true, Desk.cells, Desk.book, saidD, Msg.d, Msg.cells, about, Item.d, Item.cells, bookD, List.cons_append, List.nil_append, List.map_cons, List.map_nil] at *
      refine Runs.of (kit Try.prog) Try.func17 rfl rfl (by rw [Try.ntmps17]; exact of_decide_eq_true rfl) ?_; rw [Try.ntmps17, Try.results17]
      repeat' (first
        | ((first | refine Pwp.step (kit _) rfl fun K hK => ?_ | refine Pwp.last (kit _) rfl fun K hK => ?_ | refine Pwp.stepD (kit _) rfl rfl fun K hK => ?_ | refine Pwp.lastD (kit _) rfl rfl fun K hK => ?_); simp (dsimp := false) only [↓opsP_nil, ↓opsP_cons, ↓opsD_nil, ↓opsD_cons, footOf, ↓opP, ↓stepP, ↓stepG, go_sem, reduceIte, Nat.reduceAdd, Nat.reduceMul, Nat.reduceEqDiff, Nat.reduceLT, Nat.reduceLeDiff, Nat.reduceSub, reduceCtorEq, Int.reduceToNat, Int.reduceAdd, Int.reduceSub, Int.reduceLT, Int.reduceLE, Int.reduceNeg, Int.reduceBEq, Int.reduceBNe, true_or, hc, w1, w2, cw, cs])
        | (refine Pwp.seq ?_)
        | (refine Pwp.block ?_)
        | (refine Pwp.exit ?_; simp only [thenS, blockS, if_true, if_false, reduceIte, Nat.reduceEqDiff, Nat.add_one_ne_zero, reduceCtorEq])
        | (refine Pwp.skip ?_; simp only [thenS, blockS])
        | (refine Pwp.cond rfl True.intro (fun h => ?_) (fun h => ?_) <;> (try (cases h; done)) <;> (try simp only [h]))
        | (refine Pwp.ret ?_; try simp only [thenS, blockS])
        | (refine hK _ ?_; clear hK K)
        | (refine hK _ _ rfl ?_; clear hK K)
        | (refine CallK.toD (ds := []) rfl (r55) rfl ?_)
        | (refine CallK.toD (ds := [.agg [I64 1, .slc 8 (itemsD [⟨0, 3, 1, 0, have', 0, 2, 0⟩]), .slc 3 (ordersD [])], .agg [I64 0, I64 3]]) rfl (r5) rfl ?_)
        | (refine CallK.give (ds := [I64 1, I64 far]) rfl (r0) (by simp) ?_)
        | (refine CallK.give (ds := [.agg [I64 1, .slc 8 (itemsD []), .slc 3 (ordersD []), I64 far, nilD], .agg [I64 6, I64 0, I64 3, I64 1, I64 0, I64 0, I64 0, I64 have', .v (.bool false), nilD, nilD], I64 0]) rfl (r2) (by simp) ?_)
        | (refine CallG.off ?_)
        | (with_reducible refine Or.inl ?_)
        | (simp only [thenS, blockS])
        | (with_reducible refine And.intro ?_ ?_)
        | (with_reducible exact True.intro)
        | (simp (dsimp := false) only [↓opsP_nil, ↓opsP_cons, ↓opsD_nil, ↓opsD_cons, footOf, ↓opP, ↓stepP, ↓stepG, go_sem, reduceIte, Nat.reduceAdd, Nat.reduceMul, Nat.reduceEqDiff, Nat.reduceLT, Nat.reduceLeDiff, Nat.reduceSub, reduceCtorEq, Int.reduceToNat, Int.reduceAdd, Int.reduceSub, Int.reduceLT, Int.reduceLE, Int.reduceNeg, Int.reduceBEq, Int.reduceBNe, true_or, hc, w1, w2, cw, cs]))
      all_goals (try (first | (intro hg; simp [hg]; done) | exact of_decide_eq_true rfl | (cases h; done)))
      (refine Fin.data (.inr rfl) (by simp (dsimp := false) only [↓opsP_nil, ↓opsP_cons, ↓opsD_nil, ↓opsD_cons, footOf, ↓opP, ↓stepP, ↓stepG, go_sem, reduceIte, Nat.reduceAdd, Nat.reduceMul, Nat.reduceEqDiff, Nat.reduceLT, Nat.reduceLeDiff, Nat.reduceSub, reduceCtorEq, Int.reduceToNat, Int.reduceAdd, Int.reduceSub, Int.reduceLT, Int.reduceLE, Int.reduceNeg, Int.reduceBEq, Int.reduceBNe, true_or, resL]; rfl) (by simp only [and_self]) (by simp (dsimp := false) only [↓opsP_nil, ↓opsP_cons, ↓opsD_nil, ↓opsD_cons, footOf, ↓opP, ↓stepP, ↓stepG, go_sem, reduceIte, Nat.reduceAdd, Nat.reduceMul, Nat.reduceEqDiff, Nat.reduceLT, Nat.reduceLeDiff, Nat.reduceSub, reduceCtorEq, Int.reduceToNat, Int.reduceAdd, Int.reduceSub, Int.reduceLT, Int.reduceLE, Int.reduceNeg, Int.reduceBEq, Int.reduceBNe, true_or, resP, Nat.le_refl, List.take_length]; try rfl) ?_)
      exact subD_refl _

end Go.Proofs.Ytdodgbhodkcckaa.Pv
