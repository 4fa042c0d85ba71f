/- Walks of the statement of names. -/
import Derived.Test.YtdodgbhodkcckaaPwi
import Derived.Test.YtdodgbhodkcckaaPv3
set_option linter.unusedVariables false
set_option linter.unusedSimpArgs false
set_option autoImplicit false
set_option maxRecDepth 100000
namespace Go.Proofs.Ytdodgbhodkcckaa.Pv
open Go Go.RowKit

def x0 : Item := ⟨1, 5, 2, 0, 70, 0, 3, 0⟩
def o0 : Order := ⟨0, 9, 33⟩
def B0 : D := .agg [I64 1, .slc 8 [], .slc 3 []]
def B1 : D := .agg [I64 1, .slc 8 [x0.d], .slc 3 []]
def B2 : D := .agg [I64 1, .slc 8 [x0.d], .slc 3 [o0.d]]

theorem pos0 (s n : Int) : posOf [] s n = 0 := by unfold posOf; exact bsLoop_end (by simp)
theorem pos1 : posOf [x0] 1 5 = 0 := by
  unfold posOf
  rw [show [x0].length = 1 from rfl, bsLoop_ge (by omega) (by simp [cmpAt, cmpN, cmpI, x0]), bsLoop_end (by simp)]
theorem posO0 (s n : Int) : posO [] s n = 0 := by unfold posO; exact bsLoop_end (by simp)
theorem posO1 : posO [o0] 0 9 = 0 := by
  unfold posO
  rw [show [o0].length = 1 from rfl, bsLoop_ge (by omega) (by simp [cmpAtO, cmpN, cmpI, o0]), bsLoop_end (by simp)]
theorem in1 : isIn [x0] 1 5 = true := by unfold isIn; rw [pos1]; rfl
theorem inO1 : isInO [o0] 0 9 = true := by unfold isInO; rw [posO1]; rfl

theorem keep49 : Runs Try.prog 49 [pint .i64 1] [] (.d (.tup [B0, I64 0])) [] := by
  have h := run49 1
  rw [if_neg (by simp)] at h; exact h
theorem keep50 : Runs Try.prog 50 [.d B0, .d x0.d] [] (.d (.tup [B1, I64 0])) [] := by
  have h := run50 1 [] [] x0 (by simp)
  have h1 : putE 1 [] x0 = 0 := by simp [putE, isIn, chk, x0]
  have h2 : putIn [] x0 = [x0] := by simp [putIn, isIn, pos0]
  rw [h1, h2, if_pos rfl] at h; exact h
theorem keep106 : Runs Try.prog 106 [.d B1, .d (.agg [I64 0, I64 9]), pint .i64 33] [] (.d (.tup [B2, I64 0])) [] := by
  have h := run106 1 [x0.d] [] o0 (by simp)
  have h1 : expE 1 [] o0 = 0 := by simp [expE, isInO, o0]
  have h2 : putO [] o0 = [o0] := by simp [putO, isInO, posO0]
  rw [h1, h2, if_pos rfl] at h; exact h
theorem keep65 : Runs Try.prog 65 [.d B2, .d (.agg [I64 1, I64 5])] [] (.d (.tup [x0.d, .v (.bool true)])) [] := by
  have h := run65 1 [x0] [o0.d] 1 5 (by simp)
  have h1 : getI [x0] 1 5 = x0 := by simp [getI, in1, pos1]
  rw [h1, in1] at h; exact h
theorem keep107 : Runs Try.prog 107 [.d B2, .d (.agg [I64 0, I64 9])] [] (.d (.tup [I64 33, .v (.bool true)])) [] := by
  have h := run107 1 [x0.d] [o0] 0 9 (by simp)
  have h1 : getO [o0] 0 9 = 33 := by unfold getO; rw [inO1, posO1]; rfl
  rw [h1, inO1] at h; exact h
theorem keep54 : Runs Try.prog 54 [.d B2, pint .i64 0, pint .i64 (-1)] [] (.d (.tup [I64 70, I64 0])) [] := by
  have h := run54 1 0 (-1) [x0] [o0.d] (by simp) (by intro x hx; simp at hx; subst hx; simp [amtOf, x0, In64])
  have h1 : sumOf (openL 1 0 (-1) [x0]) = 70 := by simp [openL, skips, amtOf, sumOf, x0]
  rw [h1, if_pos (by simp [fits])] at h; exact h

set_option maxHeartbeats 8000000 in
theorem run43 : Runs Try.prog 43 [] [] (pbool true) [] := by
  refine Runs.of (kit Try.prog) Try.func43 rfl rfl (by rw [Try.ntmps43]; exact of_decide_eq_true rfl) ?_; rw [Try.ntmps43, Try.results43]
  repeat' (first
    | ((first | refine Pwp.step (kit _) rfl fun K hK => ?_ | refine Pwp.last (kit _) rfl fun K hK => ?_ | refine Pwp.stepD (kit _) rfl rfl fun K hK => ?_ | refine Pwp.lastD (kit _) rfl rfl fun K hK => ?_); simp (dsimp := false) only [↓opsP_nil, ↓opsP_cons, ↓opsD_nil, ↓opsD_cons, footOf, ↓opP, ↓stepP, ↓stepG, go_sem, reduceIte, Nat.reduceAdd, Nat.reduceMul, Nat.reduceEqDiff, Nat.reduceLT, Nat.reduceLeDiff, Nat.reduceSub, reduceCtorEq, Int.reduceToNat, Int.reduceAdd, Int.reduceSub, Int.reduceLT, Int.reduceLE, Int.reduceNeg, Int.reduceBEq, Int.reduceBNe, true_or, B0, B1, B2, Item.d, Item.cells, x0, Order.d, Order.cells, o0])
    | (refine Pwp.seq ?_)
    | (refine Pwp.block ?_)
    | (refine Pwp.exit ?_; simp only [thenS, blockS, if_true, if_false, reduceIte, Nat.reduceEqDiff, Nat.add_one_ne_zero, reduceCtorEq])
    | (refine Pwp.skip ?_; simp only [thenS, blockS])
    | (refine Pwp.cond rfl True.intro (fun h => ?_) (fun h => ?_) <;> (try (cases h; done)) <;> (try simp only [h]))
    | (refine Pwp.ret ?_; try simp only [thenS, blockS])
    | (refine hK _ ?_; clear hK K)
    | (refine hK _ _ rfl ?_; clear hK K)
    | (refine CallK.toD (ds := [I64 1]) rfl keep49 rfl ?_)
    | (refine CallK.give (ds := [I64 1]) rfl keep49 (by simp) ?_)
    | (refine CallK.give (ds := [B0, x0.d]) rfl keep50 (by simp) ?_)
    | (refine CallK.give (ds := [B1, .agg [I64 0, I64 9], I64 33]) rfl keep106 (by simp) ?_)
    | (refine CallK.give (ds := [B2, .agg [I64 1, I64 5]]) rfl keep65 (by simp) ?_)
    | (refine CallK.give (ds := [B2, .agg [I64 0, I64 9]]) rfl keep107 (by simp) ?_)
    | (refine CallK.give (ds := [B2, I64 0, I64 (-1)]) rfl keep54 (by simp) ?_)
    | (refine CallG.off ?_)
    | (with_reducible refine Or.inl ?_)
    | (simp only [thenS, blockS])
    | (with_reducible refine And.intro ?_ ?_)
    | (with_reducible exact True.intro)
    | (simp (dsimp := false) only [↓opsP_nil, ↓opsP_cons, ↓opsD_nil, ↓opsD_cons, footOf, ↓opP, ↓stepP, ↓stepG, go_sem, reduceIte, Nat.reduceAdd, Nat.reduceMul, Nat.reduceEqDiff, Nat.reduceLT, Nat.reduceLeDiff, Nat.reduceSub, reduceCtorEq, Int.reduceToNat, Int.reduceAdd, Int.reduceSub, Int.reduceLT, Int.reduceLE, Int.reduceNeg, Int.reduceBEq, Int.reduceBNe, true_or, B0, B1, B2, Item.d, Item.cells, x0, Order.d, Order.cells, o0]))
  all_goals (try (first | (intro hg; simp_all; done) | (intro hg; simp [hg]; done) | exact of_decide_eq_true rfl | (cases h; done)))
  refine Fin.data (.inr rfl) rfl ⟨True.intro, True.intro⟩ rfl ?_
  simp [subD, subV, IntKind.wrap_i64]

theorem names_one (a b c d : Int) : ((!((if cmpI a c = 0 then cmpI b d else cmpI a c) == 0) == (a == c && b == d)) || (!decide ((if cmpI a c = 0 then cmpI b d else cmpI a c) < 0) == (decide (a < c) || a == c && decide (b < d))) || (!decide ((if cmpI c a = 0 then cmpI d b else cmpI c a) < 0) == decide (0 < if cmpI a c = 0 then cmpI b d else cmpI a c))) = false := by
  rcases cmp_cases a c with ⟨h1, h2, h3⟩ | ⟨h1, h2, h3⟩ | ⟨h1, h2, h3⟩ <;> rcases cmp_cases b d with ⟨g1, g2, g3⟩ | ⟨g1, g2, g3⟩ | ⟨g1, g2, g3⟩ <;> simp [h2, h3, g2, g3] <;> omega
theorem names_two (a b c d e f : Int) : ((!(decide ((if cmpI a c = 0 then cmpI b d else cmpI a c) ≤ 0) && decide ((if cmpI c e = 0 then cmpI d f else cmpI c e) ≤ 0))) || decide ((if cmpI a e = 0 then cmpI b f else cmpI a e) ≤ 0)) = true := by
  rcases cmp_cases a c with ⟨h1, h2, h3⟩ | ⟨h1, h2, h3⟩ | ⟨h1, h2, h3⟩ <;> rcases cmp_cases b d with ⟨g1, g2, g3⟩ | ⟨g1, g2, g3⟩ | ⟨g1, g2, g3⟩ <;> rcases cmp_cases c e with ⟨i1, i2, i3⟩ | ⟨i1, i2, i3⟩ | ⟨i1, i2, i3⟩ <;> rcases cmp_cases d f with ⟨j1, j2, j3⟩ | ⟨j1, j2, j3⟩ | ⟨j1, j2, j3⟩ <;>
    rcases cmp_cases a e with ⟨k1, k2, k3⟩ | ⟨k1, k2, k3⟩ | ⟨k1, k2, k3⟩ <;> rcases cmp_cases b f with ⟨l1, l2, l3⟩ | ⟨l1, l2, l3⟩ | ⟨l1, l2, l3⟩ <;> first | (simp [h2, g2, i2, j2, k2, l2]; done) | omega

set_option maxHeartbeats 8000000 in
theorem run8 (a b c d e f : Int) : Runs Try.prog 8 [.d (.agg [I64 a, I64 b]), .d (.agg [I64 c, I64 d]), .d (.agg [I64 e, I64 f])] [] (pbool true) [] := by
  refine Runs.of (kit Try.prog) Try.func8 rfl rfl (by rw [Try.ntmps8]; exact of_decide_eq_true rfl) ?_; rw [Try.ntmps8, Try.results8]
  repeat' (first
    | ((first | refine Pwp.step (kit _) rfl fun K hK => ?_ | refine Pwp.last (kit _) rfl fun K hK => ?_ | refine Pwp.stepD (kit _) rfl rfl fun K hK => ?_ | refine Pwp.lastD (kit _) rfl rfl fun K hK => ?_); simp (dsimp := false) only [↓opsP_nil, ↓opsP_cons, ↓opsD_nil, ↓opsD_cons, footOf, ↓opP, ↓stepP, ↓stepG, go_sem, reduceIte, Nat.reduceAdd, Nat.reduceMul, Nat.reduceEqDiff, Nat.reduceLT, Nat.reduceLeDiff, Nat.reduceSub, reduceCtorEq, Int.reduceToNat, Int.reduceAdd, Int.reduceSub, Int.reduceLT, Int.reduceLE, Int.reduceNeg, Int.reduceBEq, Int.reduceBNe, true_or])
    | (refine Pwp.seq ?_)
    | (refine Pwp.block ?_)
    | (refine Pwp.exit ?_; simp only [thenS, blockS, if_true, if_false, reduceIte, Nat.reduceEqDiff, Nat.add_one_ne_zero, reduceCtorEq])
    | (refine Pwp.skip ?_; simp only [thenS, blockS])
    | (refine Pwp.cond rfl True.intro (fun h => ?_) (fun h => ?_) <;> (try (cases h; done)) <;> (try simp only [h]))
    | (refine Pwp.ret ?_; try simp only [thenS, blockS])
    | (refine hK _ ?_; clear hK K)
    | (refine hK _ _ rfl ?_; clear hK K)
    | (refine CallK.same (run43) rfl ?_)
    | (refine CallG.same (fun _ => run43) rfl ?_ ?_)
    | (refine CallK.toD rfl (run43) rfl ?_)
    | (refine CallG.toD rfl (run43) rfl ?_ ?_)
    | (refine CallK.same (run44 _ _ _ _) rfl ?_)
    | (refine CallG.same (fun _ => run44 _ _ _ _) rfl ?_ ?_)
    | (refine CallK.toD rfl (run44 _ _ _ _) rfl ?_)
    | (refine CallG.toD rfl (run44 _ _ _ _) rfl ?_ ?_)
    | (refine CallK.same (run45 _ _ _ _) rfl ?_)
    | (refine CallG.same (fun _ => run45 _ _ _ _) rfl ?_ ?_)
    | (refine CallK.toD rfl (run45 _ _ _ _) rfl ?_)
    | (refine CallG.toD rfl (run45 _ _ _ _) rfl ?_ ?_)
    | (refine CallG.off ?_)
    | (with_reducible refine Or.inl ?_)
    | (simp only [thenS, blockS])
    | (with_reducible refine And.intro ?_ ?_)
    | (with_reducible exact True.intro)
    | (simp (dsimp := false) only [↓opsP_nil, ↓opsP_cons, ↓opsD_nil, ↓opsD_cons, footOf, ↓opP, ↓stepP, ↓stepG, go_sem, reduceIte, Nat.reduceAdd, Nat.reduceMul, Nat.reduceEqDiff, Nat.reduceLT, Nat.reduceLeDiff, Nat.reduceSub, reduceCtorEq, Int.reduceToNat, Int.reduceAdd, Int.reduceSub, Int.reduceLT, Int.reduceLE, Int.reduceNeg, Int.reduceBEq, Int.reduceBNe, true_or]))
  all_goals (try (first | (intro hg; simp_all; done) | (intro hg; simp [hg]; done) | exact of_decide_eq_true rfl | (cases h; done)))
  · exfalso
    cases (names_one a b c d).symm.trans h
  · refine Fin.data (.inr rfl) rfl ⟨True.intro, True.intro⟩ rfl ?_
    rw [show (D.v (Value.bool _)) = D.v (Value.bool true) from congrArg (fun b => D.v (Value.bool b)) (names_two a b c d e f)]
    exact subD_refl _

/-- The same, of all data of its kinds. -/
theorem run8k (xs : List D) (h : okArgs [(true, [.int .i64, .int .i64]), (true, [.int .i64, .int .i64]), (true, [.int .i64, .int .i64])] xs) : Runs Try.prog 8 (xs.map .d) [] (.d (.v (.bool true))) [] := by
  simp only [okArgs, okL, okD] at h
  obtain ⟨_, _, rfl, ⟨_, _, rfl, ⟨a, rfl, _⟩, _, _, rfl, ⟨b, rfl, _⟩, rfl⟩, _, _, rfl, ⟨_, _, rfl, ⟨c, rfl, _⟩, _, _, rfl, ⟨d, rfl, _⟩, rfl⟩, _, _, rfl, ⟨_, _, rfl, ⟨e, rfl, _⟩, _, _, rfl, ⟨f, rfl, _⟩, rfl⟩, rfl⟩ := h
  exact run8 a b c d e f

end Go.Proofs.Ytdodgbhodkcckaa.Pv
