/- Walks of items and books. -/
import Derived.Test.YtdodgbhodkcckaaPwa
import Derived.Test.YtdodgbhodkcckaaPwb
import Derived.Test.YtdodgbhodkcckaaPwc
import Derived.Test.YtdodgbhodkcckaaPwd
set_option linter.unusedVariables false
set_option linter.unusedSimpArgs false
set_option autoImplicit false
set_option maxRecDepth 100000
namespace Go.Proofs.Ytdodgbhodkcckaa.Pv
open Go Go.RowKit


/-- An item. -/
structure Item where
  seller : Int
  number : Int
  buyer : Int
  currency : Int
  amount : Int
  round : Int
  state : Int
  cycle : Int
deriving DecidableEq
def Item.cells (x : Item) : List D := [I64 x.seller, I64 x.number, I64 x.buyer, I64 x.currency, I64 x.amount, I64 x.round, I64 x.state, I64 x.cycle]
def Item.d (x : Item) : D := .agg x.cells

/-- Can an item be? -/
def chk (x : Item) : Int :=
  if (decide (x.seller < 0) || decide (8 ≤ x.seller)) = true then 1 else if (decide (x.buyer < 0) || decide (8 ≤ x.buyer)) = true then 1 else if (x.buyer == x.seller) = true then 1
  else if (decide (x.number < 1) || decide (1048576 < x.number)) = true then 1 else if (decide (x.currency < 0) || decide (8 ≤ x.currency)) = true then 1
  else if (decide (x.amount < 1) || decide (1125899906842624 < x.amount)) = true then 1 else if (decide (x.round < 0) || decide (3 < x.round)) = true then 1
  else if (decide (x.state < 1) || decide (5 < x.state)) = true then 1 else if (decide (x.cycle < 0) || decide (1048576 < x.cycle)) = true then 1
  else if (!(x.cycle == 0) && !(x.state == 3) && !(x.state == 5)) = true then 90 else if (x.cycle == 0 && x.state == 5) = true then 90 else 0

set_option maxHeartbeats 8000000 in
theorem run112 (x : Item) : Runs Try.prog 112 [.d x.d] [] (pint .i64 (chk x)) [] := by
  unfold Item.d Item.cells I64
  refine Runs.of (kit Try.prog) Try.func112 rfl rfl (by rw [Try.ntmps112]; exact of_decide_eq_true rfl) ?_; rw [Try.ntmps112, Try.results112]
  repeat' (first
    | ((first | refine Pwp.step (kit _) rfl fun K hK => ?_ | refine Pwp.last (kit _) rfl fun K hK => ?_ | refine Pwp.stepD (kit _) rfl rfl fun K hK => ?_ | refine Pwp.lastD (kit _) rfl rfl fun K hK => ?_); simp (dsimp := false) only [↓opsP_nil, ↓opsP_cons, ↓opsD_nil, ↓opsD_cons, ↓opP, ↓stepP, ↓stepG, go_sem])
    | (refine Pwp.seq ?_)
    | (refine Pwp.block ?_)
    | (refine Pwp.exit ?_; simp only [thenS, blockS, if_true, if_false, reduceIte, Nat.reduceEqDiff, Nat.add_one_ne_zero, reduceCtorEq])
    | (refine Pwp.skip ?_; simp only [thenS, blockS])
    | (refine Pwp.cond rfl True.intro (fun h => ?_) (fun h => ?_) <;> (try (cases h; done)) <;> (try simp only [h]))
    | (refine Pwp.ret ?_; try simp only [thenS, blockS])
    | (refine hK _ ?_; clear hK K)
    | (refine hK _ _ rfl ?_; clear hK K)
    | (refine CallG.off ?_)
    | (with_reducible refine Or.inl ?_)
    | (simp only [thenS, blockS])
    | (with_reducible refine And.intro ?_ ?_)
    | (with_reducible exact True.intro)
    | (simp (dsimp := false) only [↓opsP_nil, ↓opsP_cons, ↓opsD_nil, ↓opsD_cons, ↓opP, ↓stepP, ↓stepG, go_sem]))
  all_goals (try (first | (intro hg; simp_all; done) | (intro hg; simp [hg]; done) | exact of_decide_eq_true rfl | (cases h; done)))
  all_goals (refine Fin.data (.inr rfl) rfl ⟨True.intro, True.intro⟩ rfl ?_; simp only [pint, chk, *, if_true, if_false, reduceIte, Bool.false_eq_true]; first | exact subD_refl _ | (simp_all [subD, subV]; done))

theorem run114 (x : Item) (s n : Int) : Runs Try.prog 114 [.d x.d, .d (.agg [I64 s, I64 n])] [] (pint .i64 (if cmpI x.seller s = 0 then cmpI x.number n else cmpI x.seller s)) [] := by
  unfold Item.d Item.cells I64
  refine Runs.of (kit Try.prog) Try.func114 rfl rfl (by rw [Try.ntmps114]; exact of_decide_eq_true rfl) ?_; rw [Try.ntmps114, Try.results114]
  repeat' (first
    | ((first | refine Pwp.step (kit _) rfl fun K hK => ?_ | refine Pwp.last (kit _) rfl fun K hK => ?_ | refine Pwp.stepD (kit _) rfl rfl fun K hK => ?_ | refine Pwp.lastD (kit _) rfl rfl fun K hK => ?_); simp (dsimp := false) only [↓opsP_nil, ↓opsP_cons, ↓opsD_nil, ↓opsD_cons, ↓opP, ↓stepP, ↓stepG, go_sem])
    | (refine Pwp.seq ?_)
    | (refine Pwp.block ?_)
    | (refine Pwp.exit ?_; simp only [thenS, blockS, if_true, if_false, reduceIte, Nat.reduceEqDiff, Nat.add_one_ne_zero, reduceCtorEq])
    | (refine Pwp.skip ?_; simp only [thenS, blockS])
    | (refine Pwp.cond rfl True.intro (fun h => ?_) (fun h => ?_) <;> (try (cases h; done)) <;> (try simp only [h]))
    | (refine Pwp.ret ?_; try simp only [thenS, blockS])
    | (refine hK _ ?_; clear hK K)
    | (refine hK _ _ rfl ?_; clear hK K)
    | (refine CallK.same (run44 _ _ _ _) rfl ?_)
    | (refine CallG.same (fun _ => run44 _ _ _ _) rfl ?_ ?_)
    | (refine CallK.toD rfl (run44 _ _ _ _) rfl ?_)
    | (refine CallG.toD rfl (run44 _ _ _ _) rfl ?_ ?_)
    | (refine CallG.off ?_)
    | (with_reducible refine Or.inl ?_)
    | (simp only [thenS, blockS])
    | (with_reducible refine And.intro ?_ ?_)
    | (with_reducible exact True.intro)
    | (simp (dsimp := false) only [↓opsP_nil, ↓opsP_cons, ↓opsD_nil, ↓opsD_cons, ↓opP, ↓stepP, ↓stepG, go_sem]))
  all_goals (try (first | (intro hg; simp_all; done) | (intro hg; simp [hg]; done) | exact of_decide_eq_true rfl | (cases h; done)))
  exact Fin.data (.inr rfl) rfl ⟨True.intro, True.intro⟩ rfl (subD_refl _)

theorem run166 (a b c s n : Int) : Runs Try.prog 166 [.d (.agg [I64 a, I64 b, I64 c]), .d (.agg [I64 s, I64 n])] [] (pint .i64 (if cmpI a s = 0 then cmpI b n else cmpI a s)) [] := by
  unfold I64
  refine Runs.of (kit Try.prog) Try.func166 rfl rfl (by rw [Try.ntmps166]; exact of_decide_eq_true rfl) ?_; rw [Try.ntmps166, Try.results166]
  repeat' (first
    | ((first | refine Pwp.step (kit _) rfl fun K hK => ?_ | refine Pwp.last (kit _) rfl fun K hK => ?_ | refine Pwp.stepD (kit _) rfl rfl fun K hK => ?_ | refine Pwp.lastD (kit _) rfl rfl fun K hK => ?_); simp (dsimp := false) only [↓opsP_nil, ↓opsP_cons, ↓opsD_nil, ↓opsD_cons, ↓opP, ↓stepP, ↓stepG, go_sem])
    | (refine Pwp.seq ?_)
    | (refine Pwp.block ?_)
    | (refine Pwp.exit ?_; simp only [thenS, blockS, if_true, if_false, reduceIte, Nat.reduceEqDiff, Nat.add_one_ne_zero, reduceCtorEq])
    | (refine Pwp.skip ?_; simp only [thenS, blockS])
    | (refine Pwp.cond rfl True.intro (fun h => ?_) (fun h => ?_) <;> (try (cases h; done)) <;> (try simp only [h]))
    | (refine Pwp.ret ?_; try simp only [thenS, blockS])
    | (refine hK _ ?_; clear hK K)
    | (refine hK _ _ rfl ?_; clear hK K)
    | (refine CallK.same (run44 _ _ _ _) rfl ?_)
    | (refine CallG.same (fun _ => run44 _ _ _ _) rfl ?_ ?_)
    | (refine CallK.toD rfl (run44 _ _ _ _) rfl ?_)
    | (refine CallG.toD rfl (run44 _ _ _ _) rfl ?_ ?_)
    | (refine CallG.off ?_)
    | (with_reducible refine Or.inl ?_)
    | (simp only [thenS, blockS])
    | (with_reducible refine And.intro ?_ ?_)
    | (with_reducible exact True.intro)
    | (simp (dsimp := false) only [↓opsP_nil, ↓opsP_cons, ↓opsD_nil, ↓opsD_cons, ↓opP, ↓stepP, ↓stepG, go_sem]))
  all_goals (try (first | (intro hg; simp_all; done) | (intro hg; simp [hg]; done) | exact of_decide_eq_true rfl | (cases h; done)))
  exact Fin.data (.inr rfl) rfl ⟨True.intro, True.intro⟩ rfl (subD_refl _)

theorem run117 (x : Item) (c : Int) : Runs Try.prog 117 [.d x.d, pint .i64 c] [] (pbool (x.state == 3 && x.currency == c)) [] := by
  unfold Item.d Item.cells I64
  refine Runs.of (kit Try.prog) Try.func117 rfl rfl (by rw [Try.ntmps117]; exact of_decide_eq_true rfl) ?_; rw [Try.ntmps117, Try.results117]
  repeat' (first
    | ((first | refine Pwp.step (kit _) rfl fun K hK => ?_ | refine Pwp.last (kit _) rfl fun K hK => ?_ | refine Pwp.stepD (kit _) rfl rfl fun K hK => ?_ | refine Pwp.lastD (kit _) rfl rfl fun K hK => ?_); simp (dsimp := false) only [↓opsP_nil, ↓opsP_cons, ↓opsD_nil, ↓opsD_cons, ↓opP, ↓stepP, ↓stepG, go_sem])
    | (refine Pwp.seq ?_)
    | (refine Pwp.block ?_)
    | (refine Pwp.exit ?_; simp only [thenS, blockS, if_true, if_false, reduceIte, Nat.reduceEqDiff, Nat.add_one_ne_zero, reduceCtorEq])
    | (refine Pwp.skip ?_; simp only [thenS, blockS])
    | (refine Pwp.cond rfl True.intro (fun h => ?_) (fun h => ?_) <;> (try (cases h; done)) <;> (try simp only [h]))
    | (refine Pwp.ret ?_; try simp only [thenS, blockS])
    | (refine hK _ ?_; clear hK K)
    | (refine hK _ _ rfl ?_; clear hK K)
    | (refine CallG.off ?_)
    | (with_reducible refine Or.inl ?_)
    | (simp only [thenS, blockS])
    | (with_reducible refine And.intro ?_ ?_)
    | (with_reducible exact True.intro)
    | (simp (dsimp := false) only [↓opsP_nil, ↓opsP_cons, ↓opsD_nil, ↓opsD_cons, ↓opP, ↓stepP, ↓stepG, go_sem]))
  all_goals (try (first | (intro hg; simp_all; done) | (intro hg; simp [hg]; done) | exact of_decide_eq_true rfl | (cases h; done)))
  exact Fin.data (.inr rfl) rfl ⟨True.intro, True.intro⟩ rfl (subD_refl _)

theorem run49 (me : Int) : Runs Try.prog 49 [pint .i64 me] [] (.d (.tup (if (decide (me < 0) || decide (8 ≤ me)) = true then [.agg [I64 0, .slc 8 [], .slc 3 []], I64 1] else [.agg [I64 me, .slc 8 [], .slc 3 []], I64 0]))) [] := by
  unfold I64
  refine Runs.of (kit Try.prog) Try.func49 rfl rfl (by rw [Try.ntmps49]; exact of_decide_eq_true rfl) ?_; rw [Try.ntmps49, Try.results49]
  repeat' (first
    | ((first | refine Pwp.step (kit _) rfl fun K hK => ?_ | refine Pwp.last (kit _) rfl fun K hK => ?_ | refine Pwp.stepD (kit _) rfl rfl fun K hK => ?_ | refine Pwp.lastD (kit _) rfl rfl fun K hK => ?_); simp (dsimp := false) only [↓opsP_nil, ↓opsP_cons, ↓opsD_nil, ↓opsD_cons, ↓opP, ↓stepP, ↓stepG, go_sem])
    | (refine Pwp.seq ?_)
    | (refine Pwp.block ?_)
    | (refine Pwp.exit ?_; simp only [thenS, blockS, if_true, if_false, reduceIte, Nat.reduceEqDiff, Nat.add_one_ne_zero, reduceCtorEq])
    | (refine Pwp.skip ?_; simp only [thenS, blockS])
    | (refine Pwp.cond rfl True.intro (fun h => ?_) (fun h => ?_) <;> (try (cases h; done)) <;> (try simp only [h]))
    | (refine Pwp.ret ?_; try simp only [thenS, blockS])
    | (refine hK _ ?_; clear hK K)
    | (refine hK _ _ rfl ?_; clear hK K)
    | (refine CallG.off ?_)
    | (with_reducible refine Or.inl ?_)
    | (simp only [thenS, blockS])
    | (with_reducible refine And.intro ?_ ?_)
    | (with_reducible exact True.intro)
    | (simp (dsimp := false) only [↓opsP_nil, ↓opsP_cons, ↓opsD_nil, ↓opsD_cons, ↓opP, ↓stepP, ↓stepG, go_sem]))
  all_goals (try (first | (intro hg; simp_all; done) | (intro hg; simp [hg]; done) | exact of_decide_eq_true rfl | (cases h; done)))
  all_goals ((refine Fin.data (.inr rfl) (by simp (dsimp := false) only [↓opsP_nil, ↓opsP_cons, ↓opsD_nil, ↓opsD_cons, ↓opP, ↓stepP, ↓stepG, go_sem, resL]; rfl) (by simp only [and_self]) (by simp (dsimp := false) only [↓opsP_nil, ↓opsP_cons, ↓opsD_nil, ↓opsD_cons, ↓opP, ↓stepP, ↓stepG, go_sem, resP, Nat.le_refl, List.take_length]; try rfl) ?_))
  all_goals (simp [subD, subL, subV]; done)

end Go.Proofs.Ytdodgbhodkcckaa.Pv
