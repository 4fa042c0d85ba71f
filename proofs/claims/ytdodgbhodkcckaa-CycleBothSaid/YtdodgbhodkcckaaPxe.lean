/- Walks of numbers written out digit by digit: which is less. -/
import Derived.Test.YtdodgbhodkcckaaPxd
set_option linter.unusedVariables false
set_option linter.unusedSimpArgs false
set_option autoImplicit false
set_option maxRecDepth 100000
namespace Go.Proofs.Ytdodgbhodkcckaa.Pv
open Go Go.RowKit Dig

def lessB (a b : List Nat) : Bool := if a.length = b.length then decide (val a < val b) else decide (a.length < b.length)
def L162 (a b : List Nat) (n : Nat) : St := ⟨[(5, pint .i64 ((n : Int) - 1)), (0, .d (.slc 1 (digD a))), (1, .d (.slc 1 (digD b)))], [], 40⟩
set_option maxHeartbeats 8000000 in
theorem run162 (a b : List Nat) (ha : Small a) (hb : Small b) (hl : a.length ≤ 1000000) (hk : b.length ≤ 1000000) : Runs Try.prog 162 [.d (.slc 1 (digD a)), .d (.slc 1 (digD b))] [] (pbool (lessB a b)) [] := by
  have hla := dig_len a
  have hlb := dig_len b
  by_cases hab : a.length = b.length
  rotate_left
  · have hne : ((a.length : Int) != (b.length : Int)) = true := by simp; omega
    have hlt : decide ((a.length : Int) < (b.length : Int)) = lessB a b := by unfold lessB; rw [if_neg hab]; simp
    refine Runs.of (kit Try.prog) Try.func162 rfl rfl (by rw [Try.ntmps162]; exact of_decide_eq_true rfl) ?_; rw [Try.ntmps162, Try.results162]
    repeat' (first
      | ((first | refine Pwp.step (kit _) rfl fun K hK => ?_ | refine Pwp.last (kit _) rfl fun K hK => ?_ | refine Pwp.stepD (kit _) rfl rfl fun K hK => ?_ | refine Pwp.lastD (kit _) rfl rfl fun K hK => ?_); simp (dsimp := false) only [↓opsP_nil, ↓opsP_cons, ↓opsD_nil, ↓opsD_cons, footOf, ↓opP, ↓stepP, ↓stepG, go_sem, reduceIte, Nat.reduceAdd, Nat.reduceMul, Nat.reduceEqDiff, Nat.reduceLT, Nat.reduceLeDiff, Nat.reduceSub, reduceCtorEq, Int.reduceToNat, Int.reduceAdd, Int.reduceSub, Int.reduceLT, Int.reduceLE, Int.reduceNeg, Int.reduceBEq, Int.reduceBNe, true_or, hla, hlb, hne])
      | (refine Pwp.seq ?_)
      | (refine Pwp.block ?_)
      | (refine Pwp.exit ?_; simp only [thenS, blockS, if_true, if_false, reduceIte, Nat.reduceEqDiff, Nat.add_one_ne_zero, reduceCtorEq])
      | (refine Pwp.skip ?_; simp only [thenS, blockS])
      | (refine Pwp.cond rfl True.intro (fun h => ?_) (fun h => ?_) <;> (try (cases h; done)) <;> (try simp only [h]))
      | (refine Pwp.ret ?_; try simp only [thenS, blockS])
      | (refine hK _ ?_; clear hK K)
      | (refine hK _ _ rfl ?_; clear hK K)
      | (refine CallG.off ?_)
      | (with_reducible refine Or.inl ?_)
      | (simp only [thenS, blockS])
      | (with_reducible refine And.intro ?_ ?_)
      | (with_reducible exact True.intro)
      | (simp (dsimp := false) only [↓opsP_nil, ↓opsP_cons, ↓opsD_nil, ↓opsD_cons, footOf, ↓opP, ↓stepP, ↓stepG, go_sem, reduceIte, Nat.reduceAdd, Nat.reduceMul, Nat.reduceEqDiff, Nat.reduceLT, Nat.reduceLeDiff, Nat.reduceSub, reduceCtorEq, Int.reduceToNat, Int.reduceAdd, Int.reduceSub, Int.reduceLT, Int.reduceLE, Int.reduceNeg, Int.reduceBEq, Int.reduceBNe, true_or, hla, hlb, hne]))
    all_goals (try (first | (intro hg; simp_all; done) | (intro hg; simp [hg]; done) | exact of_decide_eq_true rfl | (cases h; done)))
    rw [← hlt]
    exact Fin.data (.inr rfl) rfl ⟨True.intro, True.intro⟩ rfl (subD_refl _)
  have hne : ((a.length : Int) != (b.length : Int)) = false := by simp; omega
  have w1 : IntKind.i64.wrap ((a.length : Int) - 1) = (a.length : Int) - 1 := wrap_of (by omega) (by omega)
  refine Runs.of (kit Try.prog) Try.func162 rfl rfl (by rw [Try.ntmps162]; exact of_decide_eq_true rfl) ?_; rw [Try.ntmps162, Try.results162]
  repeat' (first
    | ((first | refine Pwp.step (kit _) rfl fun K hK => ?_ | refine Pwp.last (kit _) rfl fun K hK => ?_ | refine Pwp.stepD (kit _) rfl rfl fun K hK => ?_ | refine Pwp.lastD (kit _) rfl rfl fun K hK => ?_); simp (dsimp := false) only [↓opsP_nil, ↓opsP_cons, ↓opsD_nil, ↓opsD_cons, footOf, ↓opP, ↓stepP, ↓stepG, go_sem, reduceIte, Nat.reduceAdd, Nat.reduceMul, Nat.reduceEqDiff, Nat.reduceLT, Nat.reduceLeDiff, Nat.reduceSub, reduceCtorEq, Int.reduceToNat, Int.reduceAdd, Int.reduceSub, Int.reduceLT, Int.reduceLE, Int.reduceNeg, Int.reduceBEq, Int.reduceBNe, true_or, hla, hlb, hne, w1])
    | (refine Pwp.seq ?_)
    | (refine Pwp.block ?_)
    | (refine Pwp.exit ?_; simp only [thenS, blockS, if_true, if_false, reduceIte, Nat.reduceEqDiff, Nat.add_one_ne_zero, reduceCtorEq])
    | (refine Pwp.skip ?_; simp only [thenS, blockS])
    | (refine Pwp.cond rfl True.intro (fun h => ?_) (fun h => ?_) <;> (try (cases h; done)) <;> (try simp only [h]))
    | (refine Pwp.ret ?_; try simp only [thenS, blockS])
    | (refine hK _ ?_; clear hK K)
    | (refine hK _ _ rfl ?_; clear hK K)
    | (refine CallG.off ?_)
    | (with_reducible refine Or.inl ?_)
    | (simp only [thenS, blockS])
    | (with_reducible refine And.intro ?_ ?_)
    | (with_reducible exact True.intro)
    | (simp (dsimp := false) only [↓opsP_nil, ↓opsP_cons, ↓opsD_nil, ↓opsD_cons, footOf, ↓opP, ↓stepP, ↓stepG, go_sem, reduceIte, Nat.reduceAdd, Nat.reduceMul, Nat.reduceEqDiff, Nat.reduceLT, Nat.reduceLeDiff, Nat.reduceSub, reduceCtorEq, Int.reduceToNat, Int.reduceAdd, Int.reduceSub, Int.reduceLT, Int.reduceLE, Int.reduceNeg, Int.reduceBEq, Int.reduceBNe, true_or, hla, hlb, hne, w1]))
  all_goals (try (first | (intro hg; simp_all; done) | (intro hg; simp [hg]; done) | exact of_decide_eq_true rfl | (cases h; done)))
  refine Pwp.loop (fun k s => ∃ n, n ≤ a.length ∧ k = n ∧ s = L162 a b n ∧ a.drop n = b.drop n) a.length (s := L162 a b a.length) (Sub.same (by simp [L162]) ?_ ?_) ⟨a.length, Nat.le_refl _, rfl, rfl, by rw [List.drop_eq_nil_of_le (Nat.le_refl _), List.drop_eq_nil_of_le (by omega)]⟩ ?_
  · simp [viewH, L162]
  · simp [viewT, viewP, L162, V0, keptOf, St.ev, find, PVal.toD, subD_refl, disj, PVal.ids]
  rintro k s ⟨n, hn, rfl, rfl, hd⟩
  unfold L162
  cases k with
  | zero =>
    have hv : lessB a b = false := by unfold lessB; rw [if_pos hab]; simp only [List.drop_zero] at hd; rw [hd]; simp
    repeat' (first
      | ((first | refine Pwp.step (kit _) rfl fun K hK => ?_ | refine Pwp.last (kit _) rfl fun K hK => ?_ | refine Pwp.stepD (kit _) rfl rfl fun K hK => ?_ | refine Pwp.lastD (kit _) rfl rfl fun K hK => ?_); simp (dsimp := false) only [↓opsP_nil, ↓opsP_cons, ↓opsD_nil, ↓opsD_cons, footOf, ↓opP, ↓stepP, ↓stepG, go_sem, reduceIte, Nat.reduceAdd, Nat.reduceMul, Nat.reduceEqDiff, Nat.reduceLT, Nat.reduceLeDiff, Nat.reduceSub, reduceCtorEq, Int.reduceToNat, Int.reduceAdd, Int.reduceSub, Int.reduceLT, Int.reduceLE, Int.reduceNeg, Int.reduceBEq, Int.reduceBNe, true_or, hla, hlb])
      | (refine Pwp.seq ?_)
      | (refine Pwp.block ?_)
      | (refine Pwp.exit ?_; simp only [thenS, blockS, if_true, if_false, reduceIte, Nat.reduceEqDiff, Nat.add_one_ne_zero, reduceCtorEq])
      | (refine Pwp.skip ?_; simp only [thenS, blockS])
      | (refine Pwp.cond rfl True.intro (fun h => ?_) (fun h => ?_) <;> (try (cases h; done)) <;> (try simp only [h]))
      | (refine Pwp.ret ?_; try simp only [thenS, blockS])
      | (refine hK _ ?_; clear hK K)
      | (refine hK _ _ rfl ?_; clear hK K)
      | (refine CallG.off ?_)
      | (with_reducible refine Or.inl ?_)
      | (simp only [thenS, blockS])
      | (with_reducible refine And.intro ?_ ?_)
      | (with_reducible exact True.intro)
      | (simp (dsimp := false) only [↓opsP_nil, ↓opsP_cons, ↓opsD_nil, ↓opsD_cons, footOf, ↓opP, ↓stepP, ↓stepG, go_sem, reduceIte, Nat.reduceAdd, Nat.reduceMul, Nat.reduceEqDiff, Nat.reduceLT, Nat.reduceLeDiff, Nat.reduceSub, reduceCtorEq, Int.reduceToNat, Int.reduceAdd, Int.reduceSub, Int.reduceLT, Int.reduceLE, Int.reduceNeg, Int.reduceBEq, Int.reduceBNe, true_or, hla, hlb]))
    all_goals (try (first | (intro hg; simp_all; done) | (intro hg; simp [hg]; done) | exact of_decide_eq_true rfl | (cases h; done)))
    rw [hv]
    exact Fin.data (.inr rfl) rfl ⟨True.intro, True.intro⟩ rfl (subD_refl _)
  | succ n =>
    obtain ⟨d, hd1⟩ : ∃ d, a[n]? = some d := ⟨_, List.getElem?_eq_getElem (by omega)⟩
    obtain ⟨e, he1⟩ : ∃ e, b[n]? = some e := ⟨_, List.getElem?_eq_getElem (by omega)⟩
    have hg := dig_get hd1
    have hg2 := dig_get he1
    have hw : ((n + 1 : Nat) : Int) - 1 = (n : Int) := by omega
    have hw2 : IntKind.i64.wrap ((n : Int) - 1) = (n : Int) - 1 := wrap_of (by omega) (by omega)
    by_cases h0 : d = e
    · subst h0
      have hx : ((d : Int) != (d : Int)) = false := by simp
      repeat' (first
        | ((first | refine Pwp.step (kit _) rfl fun K hK => ?_ | refine Pwp.last (kit _) rfl fun K hK => ?_ | refine Pwp.stepD (kit _) rfl rfl fun K hK => ?_ | refine Pwp.lastD (kit _) rfl rfl fun K hK => ?_); simp (dsimp := false) only [↓opsP_nil, ↓opsP_cons, ↓opsD_nil, ↓opsD_cons, footOf, ↓opP, ↓stepP, ↓stepG, go_sem, reduceIte, Nat.reduceAdd, Nat.reduceMul, Nat.reduceEqDiff, Nat.reduceLT, Nat.reduceLeDiff, Nat.reduceSub, reduceCtorEq, Int.reduceToNat, Int.reduceAdd, Int.reduceSub, Int.reduceLT, Int.reduceLE, Int.reduceNeg, Int.reduceBEq, Int.reduceBNe, true_or, hw, hw2, hx, hg, hg2, hla, hlb])
        | (refine Pwp.seq ?_)
        | (refine Pwp.block ?_)
        | (refine Pwp.exit ?_; simp only [thenS, blockS, if_true, if_false, reduceIte, Nat.reduceEqDiff, Nat.add_one_ne_zero, reduceCtorEq])
        | (refine Pwp.skip ?_; simp only [thenS, blockS])
        | (refine Pwp.cond rfl True.intro (fun h => ?_) (fun h => ?_) <;> (try (cases h; done)) <;> (try simp only [h]))
        | (refine Pwp.ret ?_; try simp only [thenS, blockS])
        | (refine hK _ ?_; clear hK K)
        | (refine hK _ _ rfl ?_; clear hK K)
        | (refine CallG.off ?_)
        | (with_reducible refine Or.inl ?_)
        | (simp only [thenS, blockS])
        | (with_reducible refine And.intro ?_ ?_)
        | (with_reducible exact True.intro)
        | (simp (dsimp := false) only [↓opsP_nil, ↓opsP_cons, ↓opsD_nil, ↓opsD_cons, footOf, ↓opP, ↓stepP, ↓stepG, go_sem, reduceIte, Nat.reduceAdd, Nat.reduceMul, Nat.reduceEqDiff, Nat.reduceLT, Nat.reduceLeDiff, Nat.reduceSub, reduceCtorEq, Int.reduceToNat, Int.reduceAdd, Int.reduceSub, Int.reduceLT, Int.reduceLE, Int.reduceNeg, Int.reduceBEq, Int.reduceBNe, true_or, hw, hw2, hx, hg, hg2, hla, hlb]))
      all_goals (try (first | (intro hg; simp_all; done) | (intro hg; simp [hg]; done) | exact of_decide_eq_true rfl | (cases h; done)))
      refine ⟨n, L162 a b n, by omega, Sub.same (by simp [L162]) ?_ ?_, n, by omega, rfl, rfl, ?_⟩
      · simp [viewH, L162]
      · simp [viewT, viewP, L162, V0, keptOf, St.ev, find, PVal.toD, subD_refl, disj, PVal.ids]
      · obtain ⟨g1, g2⟩ := List.getElem?_eq_some_iff.1 hd1
        obtain ⟨g3, g4⟩ := List.getElem?_eq_some_iff.1 he1
        rw [List.drop_eq_getElem_cons g1, List.drop_eq_getElem_cons g3, hd, g2, g4]
    · have hx : ((d : Int) != (e : Int)) = true := by simp; omega
      repeat' (first
        | ((first | refine Pwp.step (kit _) rfl fun K hK => ?_ | refine Pwp.last (kit _) rfl fun K hK => ?_ | refine Pwp.stepD (kit _) rfl rfl fun K hK => ?_ | refine Pwp.lastD (kit _) rfl rfl fun K hK => ?_); simp (dsimp := false) only [↓opsP_nil, ↓opsP_cons, ↓opsD_nil, ↓opsD_cons, footOf, ↓opP, ↓stepP, ↓stepG, go_sem, reduceIte, Nat.reduceAdd, Nat.reduceMul, Nat.reduceEqDiff, Nat.reduceLT, Nat.reduceLeDiff, Nat.reduceSub, reduceCtorEq, Int.reduceToNat, Int.reduceAdd, Int.reduceSub, Int.reduceLT, Int.reduceLE, Int.reduceNeg, Int.reduceBEq, Int.reduceBNe, true_or, hw, hw2, hx, hg, hg2, hla, hlb])
        | (refine Pwp.seq ?_)
        | (refine Pwp.block ?_)
        | (refine Pwp.exit ?_; simp only [thenS, blockS, if_true, if_false, reduceIte, Nat.reduceEqDiff, Nat.add_one_ne_zero, reduceCtorEq])
        | (refine Pwp.skip ?_; simp only [thenS, blockS])
        | (refine Pwp.cond rfl True.intro (fun h => ?_) (fun h => ?_) <;> (try (cases h; done)) <;> (try simp only [h]))
        | (refine Pwp.ret ?_; try simp only [thenS, blockS])
        | (refine hK _ ?_; clear hK K)
        | (refine hK _ _ rfl ?_; clear hK K)
        | (refine CallG.off ?_)
        | (with_reducible refine Or.inl ?_)
        | (simp only [thenS, blockS])
        | (with_reducible refine And.intro ?_ ?_)
        | (with_reducible exact True.intro)
        | (simp (dsimp := false) only [↓opsP_nil, ↓opsP_cons, ↓opsD_nil, ↓opsD_cons, footOf, ↓opP, ↓stepP, ↓stepG, go_sem, reduceIte, Nat.reduceAdd, Nat.reduceMul, Nat.reduceEqDiff, Nat.reduceLT, Nat.reduceLeDiff, Nat.reduceSub, reduceCtorEq, Int.reduceToNat, Int.reduceAdd, Int.reduceSub, Int.reduceLT, Int.reduceLE, Int.reduceNeg, Int.reduceBEq, Int.reduceBNe, true_or, hw, hw2, hx, hg, hg2, hla, hlb]))
      all_goals (try (first | (intro hg; simp_all; done) | (intro hg; simp [hg]; done) | exact of_decide_eq_true rfl | (cases h; done)))
      have hv : lessB a b = decide ((d : Int) < (e : Int)) := by
        obtain ⟨g1, g2⟩ := List.getElem?_eq_some_iff.1 hd1
        obtain ⟨g3, g4⟩ := List.getElem?_eq_some_iff.1 he1
        unfold lessB
        rw [if_pos hab]
        rcases Nat.lt_or_ge d e with h5 | h5
        · have := less_at ha g1 g3 hd (by omega)
          rw [decide_eq_true this, decide_eq_true (by omega)]
        · have := less_at hb g3 g1 hd.symm (by omega)
          rw [decide_eq_false (by omega), decide_eq_false (by omega)]
      rw [hv]
      exact Fin.data (.inr rfl) rfl ⟨True.intro, True.intro⟩ rfl (subD_refl _)

end Go.Proofs.Ytdodgbhodkcckaa.Pv
