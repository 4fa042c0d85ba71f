/- Walks of vectors: what is added. -/
import Derived.Test.YtdodgbhodkcckaaPxa
set_option linter.unusedVariables false
set_option linter.unusedSimpArgs false
set_option autoImplicit false
set_option maxRecDepth 100000
namespace Go.Proofs.Ytdodgbhodkcckaa.Pv
open Go Go.RowKit

def outV (e c : Int) : Bool := decide (e < 0) || decide (8 ≤ e) || decide (c < 0) || decide (8 ≤ c)
/-- The vector behind what is added, and the error's number, to the machine. -/
def addV (l : List Pos) (e c a : Int) : List Pos × Int :=
  if outV e c = true then (l, 1) else if isInV l ⟨e, c, a⟩ = true then (match l[posV l ⟨e, c, a⟩]? with
    | some y => if over y.a a = true then (l, 10) else if (IntKind.i64.wrap (y.a + a) == 0) = true then (l.take (posV l ⟨e, c, a⟩) ++ l.drop (posV l ⟨e, c, a⟩ + 1), 0) else (l.set (posV l ⟨e, c, a⟩) ⟨e, c, IntKind.i64.wrap (y.a + a)⟩, 0)
    | none => (l, 0))
  else if (a != 0) = true then (l.take (posV l ⟨e, c, a⟩) ++ ⟨e, c, a⟩ :: l.drop (posV l ⟨e, c, a⟩), 0) else (l, 0)

set_option maxHeartbeats 8000000 in
theorem run37f (l : List Pos) (e c a : Int) (hl : l.length ≤ 900000) (hin : isInV l ⟨e, c, a⟩ = false) : Runs Try.prog 37 [.d (vecD l), pint .i64 e, pint .i64 c, pint .i64 a] [] (.d (.tup [vecD (addV l e c a).1, I64 (addV l e c a).2])) [] := by
  have hlen := pos_len l
  have hone := pos_one l
  have hp := posV_le l ⟨e, c, a⟩
  have htk2 : (posD l).take l.length = posD l := List.take_of_length_le (by simp [hlen])
  unfold vecD
  refine Runs.of (kit Try.prog) Try.func37 rfl rfl (by rw [Try.ntmps37]; exact of_decide_eq_true rfl) ?_; rw [Try.ntmps37, Try.results37]
  repeat' (first
    | ((first | refine Pwp.step (kit _) rfl fun K hK => ?_ | refine Pwp.last (kit _) rfl fun K hK => ?_ | refine Pwp.stepD (kit _) rfl rfl fun K hK => ?_ | refine Pwp.lastD (kit _) rfl rfl fun K hK => ?_); simp (dsimp := false) only [↓opsP_nil, ↓opsP_cons, ↓opsD_nil, ↓opsD_cons, footOf, ↓opP, ↓stepP, ↓stepG, go_sem, reduceIte, Nat.reduceAdd, Nat.reduceMul, Nat.reduceEqDiff, Nat.reduceLT, Nat.reduceLeDiff, Nat.reduceSub, reduceCtorEq, Int.reduceToNat, Int.reduceAdd, Int.reduceSub, Int.reduceLT, Int.reduceLE, Int.reduceNeg, Int.reduceBEq, Int.reduceBNe, true_or, hin])
    | (refine Pwp.seq ?_)
    | (refine Pwp.block ?_)
    | (refine Pwp.exit ?_; simp only [thenS, blockS, if_true, if_false, reduceIte, Nat.reduceEqDiff, Nat.add_one_ne_zero, reduceCtorEq])
    | (refine Pwp.skip ?_; simp only [thenS, blockS])
    | (refine Pwp.cond rfl True.intro (fun h => ?_) (fun h => ?_) <;> (try (cases h; done)) <;> (try simp only [h]))
    | (refine Pwp.ret ?_; try simp only [thenS, blockS])
    | (refine hK _ ?_; clear hK K)
    | (refine hK _ _ rfl ?_; clear hK K)
    | (refine CallK.toD (ds := [.slc 3 (posD l), Pos.d ⟨e, c, a⟩, .v (.func (.func 97) #[] #[])]) rfl (runFindV l ⟨e, c, a⟩ (by omega)) rfl ?_)
    | (refine CallK.give (ds := [.slc 3 (posD l)]) rfl (run99 (posD l) hone (by omega)) (by simp) ?_)
    | (refine CallK.rows2 (run101 (posD l) (Pos.d ⟨e, c, a⟩) (posV l ⟨e, c, a⟩) (by omega) hone rfl (by omega)) rfl rfl (of_decide_eq_true rfl) (by simp) ?_)
    | (refine CallG.off ?_)
    | (with_reducible refine Or.inl ?_)
    | (simp only [thenS, blockS])
    | (with_reducible refine And.intro ?_ ?_)
    | (with_reducible exact True.intro)
    | (simp (dsimp := false) only [↓opsP_nil, ↓opsP_cons, ↓opsD_nil, ↓opsD_cons, footOf, ↓opP, ↓stepP, ↓stepG, go_sem, reduceIte, Nat.reduceAdd, Nat.reduceMul, Nat.reduceEqDiff, Nat.reduceLT, Nat.reduceLeDiff, Nat.reduceSub, reduceCtorEq, Int.reduceToNat, Int.reduceAdd, Int.reduceSub, Int.reduceLT, Int.reduceLE, Int.reduceNeg, Int.reduceBEq, Int.reduceBNe, true_or, hin]))
  all_goals (try (first | (intro hg; simp_all; done) | (intro hg; simp [hg]; done) | exact of_decide_eq_true rfl | (cases h; done)))
  all_goals ((refine Fin.data (.inr rfl) (by simp (dsimp := false) only [↓opsP_nil, ↓opsP_cons, ↓opsD_nil, ↓opsD_cons, footOf, ↓opP, ↓stepP, ↓stepG, go_sem, reduceIte, Nat.reduceAdd, Nat.reduceMul, Nat.reduceEqDiff, Nat.reduceLT, Nat.reduceLeDiff, Nat.reduceSub, reduceCtorEq, Int.reduceToNat, Int.reduceAdd, Int.reduceSub, Int.reduceLT, Int.reduceLE, Int.reduceNeg, Int.reduceBEq, Int.reduceBNe, true_or, resL, htk2, hlen]; rfl) (by simp only [and_self]) (by simp (dsimp := false) only [↓opsP_nil, ↓opsP_cons, ↓opsD_nil, ↓opsD_cons, footOf, ↓opP, ↓stepP, ↓stepG, go_sem, reduceIte, Nat.reduceAdd, Nat.reduceMul, Nat.reduceEqDiff, Nat.reduceLT, Nat.reduceLeDiff, Nat.reduceSub, reduceCtorEq, Int.reduceToNat, Int.reduceAdd, Int.reduceSub, Int.reduceLT, Int.reduceLE, Int.reduceNeg, Int.reduceBEq, Int.reduceBNe, true_or, resP, Nat.le_refl, List.take_length, htk2, hlen]; try rfl) ?_))
  all_goals (simp only [addV, outV, hin, pos_ins, *, if_true, if_false, reduceIte, Bool.false_eq_true])
  all_goals (try (exact subD_refl _))

set_option maxHeartbeats 8000000 in
theorem run37t (l : List Pos) (e c a : Int) (hl : l.length ≤ 900000) (hin : isInV l ⟨e, c, a⟩ = true) : Runs Try.prog 37 [.d (vecD l), pint .i64 e, pint .i64 c, pint .i64 a] [] (.d (.tup [vecD (addV l e c a).1, I64 (addV l e c a).2])) [] := by
  have hlen := pos_len l
  have hone := pos_one l
  have hp := posV_le l ⟨e, c, a⟩
  obtain ⟨y, hy⟩ : ∃ y, l[posV l ⟨e, c, a⟩]? = some y := by
    have := hin
    unfold isInV at this
    simp only [Bool.and_eq_true, decide_eq_true_eq] at this
    exact ⟨_, List.getElem?_eq_getElem this.1⟩
  have hlt : posV l ⟨e, c, a⟩ < l.length := (List.getElem?_eq_some_iff.1 hy).1
  have hg : (posD l)[posV l ⟨e, c, a⟩]? = some (.agg [I64 y.e, I64 y.c, I64 y.a]) := by simp [posD, hy, Pos.cells]
  have htk2 : (posD l).take l.length = posD l := List.take_of_length_le (by simp [hlen])
  have htk : ∀ d', ((posD l).set (posV l ⟨e, c, a⟩) d').take l.length = (posD l).set (posV l ⟨e, c, a⟩) d' := fun d' => List.take_of_length_le (by simp [hlen])
  have h98 := run98 y.a a
  have w0 : IntKind.i64.wrap ((posV l ⟨e, c, a⟩ : Int) + 1) = ((posV l ⟨e, c, a⟩ + 1 : Nat) : Int) := wrap_succ (by omega)
  have htd : ((posD l).take (posV l ⟨e, c, a⟩) ++ (posD l).drop (posV l ⟨e, c, a⟩ + 1) ++ [P0]).take (l.length - 1) = (posD l).take (posV l ⟨e, c, a⟩) ++ (posD l).drop (posV l ⟨e, c, a⟩ + 1) := List.take_left' (by simp; omega)
  have htl1 : l.length - 1 ≤ ((posD l).take (posV l ⟨e, c, a⟩) ++ (posD l).drop (posV l ⟨e, c, a⟩ + 1) ++ [P0]).length := by simp; omega
  unfold vecD I64 at *
  cases hov : over y.a a with
  | true =>
    rw [hov, if_pos rfl] at h98
    refine Runs.of (kit Try.prog) Try.func37 rfl rfl (by rw [Try.ntmps37]; exact of_decide_eq_true rfl) ?_; rw [Try.ntmps37, Try.results37]
    repeat' (first
      | ((first | refine Pwp.step (kit _) rfl fun K hK => ?_ | refine Pwp.last (kit _) rfl fun K hK => ?_ | refine Pwp.stepD (kit _) rfl rfl fun K hK => ?_ | refine Pwp.lastD (kit _) rfl rfl fun K hK => ?_); simp (dsimp := false) only [↓opsP_nil, ↓opsP_cons, ↓opsD_nil, ↓opsD_cons, footOf, ↓opP, ↓stepP, ↓stepG, go_sem, reduceIte, Nat.reduceAdd, Nat.reduceMul, Nat.reduceEqDiff, Nat.reduceLT, Nat.reduceLeDiff, Nat.reduceSub, reduceCtorEq, Int.reduceToNat, Int.reduceAdd, Int.reduceSub, Int.reduceLT, Int.reduceLE, Int.reduceNeg, Int.reduceBEq, Int.reduceBNe, true_or, hin, hg])
      | (refine Pwp.seq ?_)
      | (refine Pwp.block ?_)
      | (refine Pwp.exit ?_; simp only [thenS, blockS, if_true, if_false, reduceIte, Nat.reduceEqDiff, Nat.add_one_ne_zero, reduceCtorEq])
      | (refine Pwp.skip ?_; simp only [thenS, blockS])
      | (refine Pwp.cond rfl True.intro (fun h => ?_) (fun h => ?_) <;> (try (cases h; done)) <;> (try simp only [h]))
      | (refine Pwp.ret ?_; try simp only [thenS, blockS])
      | (refine hK _ ?_; clear hK K)
      | (refine hK _ _ rfl ?_; clear hK K)
      | (refine CallK.toD (ds := [.slc 3 (posD l), Pos.d ⟨e, c, a⟩, .v (.func (.func 97) #[] #[])]) rfl (runFindV l ⟨e, c, a⟩ (by omega)) rfl ?_)
      | (refine CallK.same h98 rfl ?_)
      | (refine CallG.off ?_)
      | (with_reducible refine Or.inl ?_)
      | (simp only [thenS, blockS])
      | (with_reducible refine And.intro ?_ ?_)
      | (with_reducible exact True.intro)
      | (simp (dsimp := false) only [↓opsP_nil, ↓opsP_cons, ↓opsD_nil, ↓opsD_cons, footOf, ↓opP, ↓stepP, ↓stepG, go_sem, reduceIte, Nat.reduceAdd, Nat.reduceMul, Nat.reduceEqDiff, Nat.reduceLT, Nat.reduceLeDiff, Nat.reduceSub, reduceCtorEq, Int.reduceToNat, Int.reduceAdd, Int.reduceSub, Int.reduceLT, Int.reduceLE, Int.reduceNeg, Int.reduceBEq, Int.reduceBNe, true_or, hin, hg]))
    all_goals (try (first | (intro hg; simp_all; done) | (intro hg; simp [hg]; done) | exact of_decide_eq_true rfl | (cases h; done)))
    all_goals (try (first | omega | ((refine Fin.data (.inr rfl) (by simp (dsimp := false) only [↓opsP_nil, ↓opsP_cons, ↓opsD_nil, ↓opsD_cons, footOf, ↓opP, ↓stepP, ↓stepG, go_sem, reduceIte, Nat.reduceAdd, Nat.reduceMul, Nat.reduceEqDiff, Nat.reduceLT, Nat.reduceLeDiff, Nat.reduceSub, reduceCtorEq, Int.reduceToNat, Int.reduceAdd, Int.reduceSub, Int.reduceLT, Int.reduceLE, Int.reduceNeg, Int.reduceBEq, Int.reduceBNe, true_or, resL, htk2, hlen]; rfl) (by simp only [and_self]) (by simp (dsimp := false) only [↓opsP_nil, ↓opsP_cons, ↓opsD_nil, ↓opsD_cons, footOf, ↓opP, ↓stepP, ↓stepG, go_sem, reduceIte, Nat.reduceAdd, Nat.reduceMul, Nat.reduceEqDiff, Nat.reduceLT, Nat.reduceLeDiff, Nat.reduceSub, reduceCtorEq, Int.reduceToNat, Int.reduceAdd, Int.reduceSub, Int.reduceLT, Int.reduceLE, Int.reduceNeg, Int.reduceBEq, Int.reduceBNe, true_or, resP, Nat.le_refl, List.take_length, htk2, hlen]; try rfl) ?_))))
    all_goals (simp only [addV, outV, hin, hy, hov, *, if_true, if_false, reduceIte, Bool.false_eq_true])
    all_goals (try (exact subD_refl _))
  | false =>
    rw [hov, if_neg (by simp)] at h98
    refine Runs.of (kit Try.prog) Try.func37 rfl rfl (by rw [Try.ntmps37]; exact of_decide_eq_true rfl) ?_; rw [Try.ntmps37, Try.results37]
    repeat' (first
      | ((first | refine Pwp.step (kit _) rfl fun K hK => ?_ | refine Pwp.last (kit _) rfl fun K hK => ?_ | refine Pwp.stepD (kit _) rfl rfl fun K hK => ?_ | refine Pwp.lastD (kit _) rfl rfl fun K hK => ?_); simp (dsimp := false) only [↓opsP_nil, ↓opsP_cons, ↓opsD_nil, ↓opsD_cons, footOf, ↓opP, ↓stepP, ↓stepG, go_sem, reduceIte, Nat.reduceAdd, Nat.reduceMul, Nat.reduceEqDiff, Nat.reduceLT, Nat.reduceLeDiff, Nat.reduceSub, reduceCtorEq, Int.reduceToNat, Int.reduceAdd, Int.reduceSub, Int.reduceLT, Int.reduceLE, Int.reduceNeg, Int.reduceBEq, Int.reduceBNe, true_or, hin, hg, w0])
      | (refine Pwp.seq ?_)
      | (refine Pwp.block ?_)
      | (refine Pwp.exit ?_; simp only [thenS, blockS, if_true, if_false, reduceIte, Nat.reduceEqDiff, Nat.add_one_ne_zero, reduceCtorEq])
      | (refine Pwp.skip ?_; simp only [thenS, blockS])
      | (refine Pwp.cond rfl True.intro (fun h => ?_) (fun h => ?_) <;> (try (cases h; done)) <;> (try simp only [h]))
      | (refine Pwp.ret ?_; try simp only [thenS, blockS])
      | (refine hK _ ?_; clear hK K)
      | (refine hK _ _ rfl ?_; clear hK K)
      | (refine CallK.toD (ds := [.slc 3 (posD l), Pos.d ⟨e, c, a⟩, .v (.func (.func 97) #[] #[])]) rfl (runFindV l ⟨e, c, a⟩ (by omega)) rfl ?_)
      | (refine CallK.same h98 rfl ?_)
      | (refine CallK.give (ds := [.slc 3 (posD l)]) rfl (run99 (posD l) hone (by omega)) (by simp) ?_)
      | (refine CallK.rows1 (ps := [I64 (posV l ⟨e, c, a⟩), I64 (posV l ⟨e, c, a⟩ + 1 : Nat)]) (run100 (posD l) (posV l ⟨e, c, a⟩) (by omega) hone (by omega)) rfl (by simp) ?_)
      | (refine CallG.off ?_)
      | (with_reducible refine Or.inl ?_)
      | (simp only [thenS, blockS])
      | (with_reducible refine And.intro ?_ ?_)
      | (with_reducible exact True.intro)
      | (simp (dsimp := false) only [↓opsP_nil, ↓opsP_cons, ↓opsD_nil, ↓opsD_cons, footOf, ↓opP, ↓stepP, ↓stepG, go_sem, reduceIte, Nat.reduceAdd, Nat.reduceMul, Nat.reduceEqDiff, Nat.reduceLT, Nat.reduceLeDiff, Nat.reduceSub, reduceCtorEq, Int.reduceToNat, Int.reduceAdd, Int.reduceSub, Int.reduceLT, Int.reduceLE, Int.reduceNeg, Int.reduceBEq, Int.reduceBNe, true_or, hin, hg, w0]))
    all_goals (try (first | (intro hg; simp_all; done) | (intro hg; simp [hg]; done) | exact of_decide_eq_true rfl | (cases h; done)))
    all_goals (try (first | omega | ((refine Fin.data (.inr rfl) (by simp (dsimp := false) only [↓opsP_nil, ↓opsP_cons, ↓opsD_nil, ↓opsD_cons, footOf, ↓opP, ↓stepP, ↓stepG, go_sem, reduceIte, Nat.reduceAdd, Nat.reduceMul, Nat.reduceEqDiff, Nat.reduceLT, Nat.reduceLeDiff, Nat.reduceSub, reduceCtorEq, Int.reduceToNat, Int.reduceAdd, Int.reduceSub, Int.reduceLT, Int.reduceLE, Int.reduceNeg, Int.reduceBEq, Int.reduceBNe, true_or, resL, htk, htk2, htd, htl1, hlen, List.length_set]; rfl) (by simp only [and_self]) (by simp (dsimp := false) only [↓opsP_nil, ↓opsP_cons, ↓opsD_nil, ↓opsD_cons, footOf, ↓opP, ↓stepP, ↓stepG, go_sem, reduceIte, Nat.reduceAdd, Nat.reduceMul, Nat.reduceEqDiff, Nat.reduceLT, Nat.reduceLeDiff, Nat.reduceSub, reduceCtorEq, Int.reduceToNat, Int.reduceAdd, Int.reduceSub, Int.reduceLT, Int.reduceLE, Int.reduceNeg, Int.reduceBEq, Int.reduceBNe, true_or, resP, Nat.le_refl, List.take_length, htk, htk2, htd, htl1, hlen, List.length_set]; try rfl) ?_))))
    all_goals (try simp only [addV, outV, hin, hy, hov, pos_set, pos_del, *, if_true, if_false, reduceIte, Bool.false_eq_true])
    all_goals (try (exact subD_refl _))

theorem run37 (l : List Pos) (e c a : Int) (hl : l.length ≤ 900000) : Runs Try.prog 37 [.d (vecD l), pint .i64 e, pint .i64 c, pint .i64 a] [] (.d (.tup [vecD (addV l e c a).1, I64 (addV l e c a).2])) [] := by
  cases hin : isInV l ⟨e, c, a⟩ with
  | false => exact run37f l e c a hl hin
  | true => exact run37t l e c a hl hin

/-- All positions, as a row of one's own, and as data. -/
theorem run39 (l : List Pos) (hl : l.length ≤ 900000) : Runs Try.prog 39 [.d (vecD l)] [] (.own 8 0 3 0 (posD l).length) [(8, .arr 42 3 0 none (posD l))] := by
  have hlen := pos_len l
  have hone := pos_one l
  unfold vecD
  refine Runs.of (kit Try.prog) Try.func39 rfl rfl (by rw [Try.ntmps39]; exact of_decide_eq_true rfl) ?_; rw [Try.ntmps39, Try.results39]
  repeat' (first
    | ((first | refine Pwp.step (kit _) rfl fun K hK => ?_ | refine Pwp.last (kit _) rfl fun K hK => ?_ | refine Pwp.stepD (kit _) rfl rfl fun K hK => ?_ | refine Pwp.lastD (kit _) rfl rfl fun K hK => ?_); simp (dsimp := false) only [↓opsP_nil, ↓opsP_cons, ↓opsD_nil, ↓opsD_cons, footOf, ↓opP, ↓stepP, ↓stepG, go_sem, reduceIte, Nat.reduceAdd, Nat.reduceMul, Nat.reduceEqDiff, Nat.reduceLT, Nat.reduceLeDiff, Nat.reduceSub, reduceCtorEq, Int.reduceToNat, Int.reduceAdd, Int.reduceSub, Int.reduceLT, Int.reduceLE, Int.reduceNeg, Int.reduceBEq, Int.reduceBNe, true_or])
    | (refine Pwp.seq ?_)
    | (refine Pwp.block ?_)
    | (refine Pwp.exit ?_; simp only [thenS, blockS, if_true, if_false, reduceIte, Nat.reduceEqDiff, Nat.add_one_ne_zero, reduceCtorEq])
    | (refine Pwp.skip ?_; simp only [thenS, blockS])
    | (refine Pwp.cond rfl True.intro (fun h => ?_) (fun h => ?_) <;> (try (cases h; done)) <;> (try simp only [h]))
    | (refine Pwp.ret ?_; try simp only [thenS, blockS])
    | (refine hK _ ?_; clear hK K)
    | (refine hK _ _ rfl ?_; clear hK K)
    | (refine CallK.give (ds := [.slc 3 (posD l)]) rfl (run99 (posD l) hone (by omega)) (by simp) ?_)
    | (refine CallG.off ?_)
    | (with_reducible refine Or.inl ?_)
    | (simp only [thenS, blockS])
    | (with_reducible refine And.intro ?_ ?_)
    | (with_reducible exact True.intro)
    | (simp (dsimp := false) only [↓opsP_nil, ↓opsP_cons, ↓opsD_nil, ↓opsD_cons, footOf, ↓opP, ↓stepP, ↓stepG, go_sem, reduceIte, Nat.reduceAdd, Nat.reduceMul, Nat.reduceEqDiff, Nat.reduceLT, Nat.reduceLeDiff, Nat.reduceSub, reduceCtorEq, Int.reduceToNat, Int.reduceAdd, Int.reduceSub, Int.reduceLT, Int.reduceLE, Int.reduceNeg, Int.reduceBEq, Int.reduceBNe, true_or]))
  all_goals (try (first | (intro hg; simp_all; done) | (intro hg; simp [hg]; done) | exact of_decide_eq_true rfl | (cases h; done)))
  exact Fin.row (.inr rfl) rfl ⟨True.intro, True.intro⟩ rfl rfl
theorem run39d (l : List Pos) (hl : l.length ≤ 900000) : Runs Try.prog 39 [.d (vecD l)] [] (.d (.slc 3 (posD l))) [] := by
  have hlen := pos_len l
  have hone := pos_one l
  unfold vecD
  refine Runs.of (kit Try.prog) Try.func39 rfl rfl (by rw [Try.ntmps39]; exact of_decide_eq_true rfl) ?_; rw [Try.ntmps39, Try.results39]
  repeat' (first
    | ((first | refine Pwp.step (kit _) rfl fun K hK => ?_ | refine Pwp.last (kit _) rfl fun K hK => ?_ | refine Pwp.stepD (kit _) rfl rfl fun K hK => ?_ | refine Pwp.lastD (kit _) rfl rfl fun K hK => ?_); simp (dsimp := false) only [↓opsP_nil, ↓opsP_cons, ↓opsD_nil, ↓opsD_cons, footOf, ↓opP, ↓stepP, ↓stepG, go_sem, reduceIte, Nat.reduceAdd, Nat.reduceMul, Nat.reduceEqDiff, Nat.reduceLT, Nat.reduceLeDiff, Nat.reduceSub, reduceCtorEq, Int.reduceToNat, Int.reduceAdd, Int.reduceSub, Int.reduceLT, Int.reduceLE, Int.reduceNeg, Int.reduceBEq, Int.reduceBNe, true_or])
    | (refine Pwp.seq ?_)
    | (refine Pwp.block ?_)
    | (refine Pwp.exit ?_; simp only [thenS, blockS, if_true, if_false, reduceIte, Nat.reduceEqDiff, Nat.add_one_ne_zero, reduceCtorEq])
    | (refine Pwp.skip ?_; simp only [thenS, blockS])
    | (refine Pwp.cond rfl True.intro (fun h => ?_) (fun h => ?_) <;> (try (cases h; done)) <;> (try simp only [h]))
    | (refine Pwp.ret ?_; try simp only [thenS, blockS])
    | (refine hK _ ?_; clear hK K)
    | (refine hK _ _ rfl ?_; clear hK K)
    | (refine CallK.give (ds := [.slc 3 (posD l)]) rfl (run99 (posD l) hone (by omega)) (by simp) ?_)
    | (refine CallG.off ?_)
    | (with_reducible refine Or.inl ?_)
    | (simp only [thenS, blockS])
    | (with_reducible refine And.intro ?_ ?_)
    | (with_reducible exact True.intro)
    | (simp (dsimp := false) only [↓opsP_nil, ↓opsP_cons, ↓opsD_nil, ↓opsD_cons, footOf, ↓opP, ↓stepP, ↓stepG, go_sem, reduceIte, Nat.reduceAdd, Nat.reduceMul, Nat.reduceEqDiff, Nat.reduceLT, Nat.reduceLeDiff, Nat.reduceSub, reduceCtorEq, Int.reduceToNat, Int.reduceAdd, Int.reduceSub, Int.reduceLT, Int.reduceLE, Int.reduceNeg, Int.reduceBEq, Int.reduceBNe, true_or]))
  all_goals (try (first | (intro hg; simp_all; done) | (intro hg; simp [hg]; done) | exact of_decide_eq_true rfl | (cases h; done)))
  (refine Fin.data (.inr rfl) (by simp (dsimp := false) only [↓opsP_nil, ↓opsP_cons, ↓opsD_nil, ↓opsD_cons, footOf, ↓opP, ↓stepP, ↓stepG, go_sem, reduceIte, Nat.reduceAdd, Nat.reduceMul, Nat.reduceEqDiff, Nat.reduceLT, Nat.reduceLeDiff, Nat.reduceSub, reduceCtorEq, Int.reduceToNat, Int.reduceAdd, Int.reduceSub, Int.reduceLT, Int.reduceLE, Int.reduceNeg, Int.reduceBEq, Int.reduceBNe, true_or, resL]; rfl) (by simp only [and_self]) (by simp (dsimp := false) only [↓opsP_nil, ↓opsP_cons, ↓opsD_nil, ↓opsD_cons, footOf, ↓opP, ↓stepP, ↓stepG, go_sem, reduceIte, Nat.reduceAdd, Nat.reduceMul, Nat.reduceEqDiff, Nat.reduceLT, Nat.reduceLeDiff, Nat.reduceSub, reduceCtorEq, Int.reduceToNat, Int.reduceAdd, Int.reduceSub, Int.reduceLT, Int.reduceLE, Int.reduceNeg, Int.reduceBEq, Int.reduceBNe, true_or, resP, Nat.le_refl, List.take_length]; try rfl) ?_)
  exact subD_refl _

end Go.Proofs.Ytdodgbhodkcckaa.Pv
