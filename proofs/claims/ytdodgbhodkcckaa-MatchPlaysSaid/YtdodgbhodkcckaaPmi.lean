/- Walks of matching: the head of the statements; the statement of what is taken at first. -/
import Derived.Test.YtdodgbhodkcckaaPmh
set_option linter.unusedVariables false
set_option linter.unusedSimpArgs false
set_option autoImplicit false
set_option maxRecDepth 100000
namespace Go.Proofs.Ytdodgbhodkcckaa.Pv
open Go Go.RowKit

set_option maxHeartbeats 16000000 in
theorem run55 : Runs Try.prog 55 [] [] (pbool true) [] := by
  have f5 : In64 5 := by simp [In64]
  have rA := run56 0 5 (by omega)
  have rB := run56 1 5 (by omega)
  have r1 := run57 (desk0 0 5) (desk0_ok f5) ⟨1, 0, 3, 1, 0, 0, 0, 100, false, nilD, nilD⟩ (by simp [In64]) (-1)
  rw [do_issue (by omega) (by omega) (by omega)] at r1
  have r2 := run57 (desk0 1 5) (desk0_ok f5) ⟨2, 0, 3, 0, 0, 0, 0, 103, false, nilD, nilD⟩ (by simp [In64]) (-1)
  rw [do_order (by simp [expE, isInO_nil]) 0] at r2
  have r3 := run57 ⟨1, [], [⟨0, 3, 103⟩], 5⟩ ⟨by simp, by simp, by simp, by simp [In64], f5⟩ ⟨6, 0, 3, 1, 0, 0, 0, 100, false, nilD, nilD⟩ (by simp [In64]) 0
  have n3 : (isInO [⟨0, 3, 103⟩] 0 3 && nearV (getO [⟨0, 3, 103⟩] 0 3) 100 5) = true := by
    have i1 := isInO_one ⟨0, 3, 103⟩
    have g1 := getO_one ⟨0, 3, 103⟩
    simp only at i1 g1
    rw [i1, g1]; simp [nearV]
  rw [do_propose (by omega) _ _ n3] at r3
  have r4 := run57 ⟨0, [⟨0, 3, 1, 0, 100, 0, 1, 0⟩], [], 5⟩ ⟨by simp, by simp, by simp; exact chk_ok (by omega) (by omega) (by omega) (by omega) (by omega) (by omega) (by omega) (by omega), by simp, f5⟩ ⟨7, 0, 3, 1, 0, 0, 0, 100, false, nilD, nilD⟩ (by simp [In64]) 1
  rw [do_confirm (by omega) (by omega) (by omega)] at r4
  have g := getI_one ⟨0, 3, 1, 0, 100, 0, 3, 0⟩
  have i := isIn_one ⟨0, 3, 1, 0, 100, 0, 3, 0⟩
  have r5 := run65 0 [⟨0, 3, 1, 0, 100, 0, 3, 0⟩] (ordersD []) 0 3 (by simp)
  have r6 := run65 1 [⟨0, 3, 1, 0, 100, 0, 3, 0⟩] (ordersD [⟨0, 3, 103⟩]) 0 3 (by simp)
  simp only at g i
  rw [g, i] at r5 r6
  unfold bookD at r5 r6
  have w : IntKind.wrap .i64 (0 + 0) = 0 := wrap_of (by omega) (by omega)
  simp only [outD, deskD, saidL, desk0, Option.toList, if_true, reduceIte] at rA rB r1 r2 r3 r4
  simp only [Desk.cells, Desk.book, saidD, Msg.d, Msg.cells, about, Item.d, Item.cells, List.cons_append, List.nil_append, List.map_cons, List.map_nil] at *
  refine Runs.of (kit Try.prog) Try.func55 rfl rfl (by rw [Try.ntmps55]; exact of_decide_eq_true rfl) ?_; rw [Try.ntmps55, Try.results55]
  repeat' (first
    | ((first | refine Pwp.step (kit _) rfl fun K hK => ?_ | refine Pwp.last (kit _) rfl fun K hK => ?_ | refine Pwp.stepD (kit _) rfl rfl fun K hK => ?_ | refine Pwp.lastD (kit _) rfl rfl fun K hK => ?_); simp (dsimp := false) only [↓opsP_nil, ↓opsP_cons, ↓opsD_nil, ↓opsD_cons, ↓opP, ↓stepP, ↓stepG, go_sem, w])
    | (refine Pwp.seq ?_)
    | (refine Pwp.block ?_)
    | (refine Pwp.exit ?_; simp only [thenS, blockS, if_true, if_false, reduceIte, Nat.reduceEqDiff, Nat.add_one_ne_zero, reduceCtorEq])
    | (refine Pwp.skip ?_; simp only [thenS, blockS])
    | (refine Pwp.cond rfl True.intro (fun h => ?_) (fun h => ?_) <;> (try (cases h; done)) <;> (try simp only [h]))
    | (refine Pwp.ret ?_; try simp only [thenS, blockS])
    | (refine hK _ ?_; clear hK K)
    | (refine hK _ _ rfl ?_; clear hK K)
    | (refine CallK.toD (ds := [.agg [I64 0, .slc 8 (itemsD [⟨0, 3, 1, 0, 100, 0, 3, 0⟩]), .slc 3 (ordersD [])], .agg [I64 0, I64 3]]) rfl (r5) rfl ?_)
    | (refine CallK.toD (ds := [.agg [I64 1, .slc 8 (itemsD [⟨0, 3, 1, 0, 100, 0, 3, 0⟩]), .slc 3 (ordersD [⟨0, 3, 103⟩])], .agg [I64 0, I64 3]]) rfl (r6) rfl ?_)
    | (refine CallK.give (ds := [I64 0, I64 5]) rfl (rA) (by simp) ?_)
    | (refine CallK.give (ds := [I64 1, I64 5]) rfl (rB) (by simp) ?_)
    | (refine CallK.give (ds := [.agg [I64 0, .slc 8 (itemsD []), .slc 3 (ordersD []), I64 5, nilD], .agg [I64 1, I64 0, I64 3, I64 1, I64 0, I64 0, I64 0, I64 100, .v (.bool false), nilD, nilD], I64 (-1)]) rfl (r1) (by simp) ?_)
    | (refine CallK.give (ds := [.agg [I64 1, .slc 8 (itemsD []), .slc 3 (ordersD []), I64 5, nilD], .agg [I64 2, I64 0, I64 3, I64 0, I64 0, I64 0, I64 0, I64 103, .v (.bool false), nilD, nilD], I64 (-1)]) rfl (r2) (by simp) ?_)
    | (refine CallK.give (ds := [.agg [I64 1, .slc 8 (itemsD []), .slc 3 (ordersD [⟨0, 3, 103⟩]), I64 5, nilD], .agg [I64 6, I64 0, I64 3, I64 1, I64 0, I64 0, I64 0, I64 100, .v (.bool false), nilD, nilD], I64 0]) rfl (r3) (by simp) ?_)
    | (refine CallK.give (ds := [.agg [I64 0, .slc 8 (itemsD [⟨0, 3, 1, 0, 100, 0, 1, 0⟩]), .slc 3 (ordersD []), I64 5, nilD], .agg [I64 7, I64 0, I64 3, I64 1, I64 0, I64 0, I64 0, I64 100, .v (.bool false), nilD, nilD], I64 1]) rfl (r4) (by simp) ?_)
    | (refine CallG.off ?_)
    | (with_reducible refine Or.inl ?_)
    | (simp only [thenS, blockS])
    | (with_reducible refine And.intro ?_ ?_)
    | (with_reducible exact True.intro)
    | (simp (dsimp := false) only [↓opsP_nil, ↓opsP_cons, ↓opsD_nil, ↓opsD_cons, ↓opP, ↓stepP, ↓stepG, go_sem, w]))
  all_goals (try (first | (intro hg; simp [hg]; done) | exact of_decide_eq_true rfl | (cases h; done)))
  (refine Fin.data (.inr rfl) (by simp (dsimp := false) only [↓opsP_nil, ↓opsP_cons, ↓opsD_nil, ↓opsD_cons, ↓opP, ↓stepP, ↓stepG, go_sem, resL]; rfl) (by simp only [and_self]) (by simp (dsimp := false) only [↓opsP_nil, ↓opsP_cons, ↓opsD_nil, ↓opsD_cons, ↓opP, ↓stepP, ↓stepG, go_sem, resP, Nat.le_refl, List.take_length]; try rfl) ?_)
  exact subD_refl _

end Go.Proofs.Ytdodgbhodkcckaa.Pv
