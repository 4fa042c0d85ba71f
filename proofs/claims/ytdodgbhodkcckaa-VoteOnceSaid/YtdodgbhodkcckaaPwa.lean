/- Walks of small functions. -/
import Derived.Test.YtdodgbhodkcckaaPty
import Derived.Test.YtdodgbhodkcckaaPv3
set_option linter.unusedVariables false
set_option linter.unusedSimpArgs false
set_option autoImplicit false
set_option maxRecDepth 100000
namespace Go.Proofs.Ytdodgbhodkcckaa.Pv
open Go Go.RowKit

theorem run169 (a : Int) : Runs Try.prog 169 [pint .i64 a] [] (pbool false) [] := by
  refine Runs.of (kit Try.prog) Try.func169 rfl rfl (by rw [Try.ntmps169]; exact of_decide_eq_true rfl) ?_; rw [Try.ntmps169, Try.results169]
  repeat' (first
    | ((first | refine Pwp.step (kit _) rfl fun K hK => ?_ | refine Pwp.last (kit _) rfl fun K hK => ?_ | refine Pwp.stepD (kit _) rfl rfl fun K hK => ?_ | refine Pwp.lastD (kit _) rfl rfl fun K hK => ?_); simp (dsimp := false) only [↓opsP_nil, ↓opsP_cons, ↓opsD_nil, ↓opsD_cons, ↓opP, ↓stepP, ↓stepG, go_sem])
    | (refine Pwp.seq ?_)
    | (refine Pwp.block ?_)
    | (refine Pwp.exit ?_; simp only [thenS, blockS, if_true, if_false, reduceIte, Nat.reduceEqDiff, Nat.add_one_ne_zero, reduceCtorEq])
    | (refine Pwp.skip ?_; simp only [thenS, blockS])
    | (refine Pwp.cond rfl True.intro (fun h => ?_) (fun h => ?_) <;> (try (cases h; done)) <;> (try simp only [h]))
    | (refine Pwp.ret ?_; try simp only [thenS, blockS])
    | (refine hK _ ?_; clear hK K)
    | (refine hK _ _ rfl ?_; clear hK K)
    | (refine CallG.off ?_)
    | (with_reducible refine Or.inl ?_)
    | (simp only [thenS, blockS])
    | (with_reducible refine And.intro ?_ ?_)
    | (with_reducible exact True.intro)
    | (simp (dsimp := false) only [↓opsP_nil, ↓opsP_cons, ↓opsD_nil, ↓opsD_cons, ↓opP, ↓stepP, ↓stepG, go_sem]))
  all_goals (try (first | (intro hg; simp_all; done) | (intro hg; simp [hg]; done) | exact of_decide_eq_true rfl | (cases h; done)))
  refine Fin.data (.inr rfl) rfl ?_ rfl ?_
  · exact ⟨True.intro, True.intro⟩
  · simp [subD, subV]

theorem run109 (a b : Int) : Runs Try.prog 109 [pint .i64 a, pint .i64 b] [] (pint .i64 (if a < b then -1 else if b < a then 1 else 0)) [] := by
  refine Runs.of (kit Try.prog) Try.func109 rfl rfl (by rw [Try.ntmps109]; exact of_decide_eq_true rfl) ?_; rw [Try.ntmps109, Try.results109]
  repeat' (first
    | ((first | refine Pwp.step (kit _) rfl fun K hK => ?_ | refine Pwp.last (kit _) rfl fun K hK => ?_ | refine Pwp.stepD (kit _) rfl rfl fun K hK => ?_ | refine Pwp.lastD (kit _) rfl rfl fun K hK => ?_); simp (dsimp := false) only [↓opsP_nil, ↓opsP_cons, ↓opsD_nil, ↓opsD_cons, ↓opP, ↓stepP, ↓stepG, go_sem])
    | (refine Pwp.seq ?_)
    | (refine Pwp.block ?_)
    | (refine Pwp.exit ?_; simp only [thenS, blockS, if_true, if_false, reduceIte, Nat.reduceEqDiff, Nat.add_one_ne_zero, reduceCtorEq])
    | (refine Pwp.skip ?_; simp only [thenS, blockS])
    | (refine Pwp.cond rfl True.intro (fun h => ?_) (fun h => ?_) <;> (try (cases h; done)) <;> (try simp only [h]))
    | (refine Pwp.ret ?_; try simp only [thenS, blockS])
    | (refine hK _ ?_; clear hK K)
    | (refine hK _ _ rfl ?_; clear hK K)
    | (refine CallK.same (run169 _) rfl ?_)
    | (refine CallG.same (fun _ => run169 _) rfl ?_ ?_)
    | (refine CallK.toD rfl (run169 _) rfl ?_)
    | (refine CallG.toD rfl (run169 _) rfl ?_ ?_)
    | (refine CallG.off ?_)
    | (with_reducible refine Or.inl ?_)
    | (simp only [thenS, blockS])
    | (with_reducible refine And.intro ?_ ?_)
    | (with_reducible exact True.intro)
    | (simp (dsimp := false) only [↓opsP_nil, ↓opsP_cons, ↓opsD_nil, ↓opsD_cons, ↓opP, ↓stepP, ↓stepG, go_sem]))
  all_goals (try (first | (intro hg; simp_all; done) | (intro hg; simp [hg]; done) | exact of_decide_eq_true rfl | (cases h; done)))
  all_goals (refine Fin.data (.inr rfl) rfl ?_ rfl ?_; exact ⟨True.intro, True.intro⟩; simp_all [subD, subV]; try omega)

/-- Does a sum of two leave the range? -/
def over (a b : Int) : Bool := decide (0 < b) && decide (IntKind.i64.wrap (9223372036854775807 - b) < a) || decide (b < 0) && decide (a < IntKind.i64.wrap (-9223372036854775808 - b))

theorem run98 (a b : Int) : Runs Try.prog 98 [pint .i64 a, pint .i64 b] [] (.d (.tup (if over a b = true then [.v (.int .i64 0), .v (.int .i64 10)] else [.v (.int .i64 (IntKind.i64.wrap (a + b))), .v (.int .i64 0)]))) [] := by
  refine Runs.of (kit Try.prog) Try.func98 rfl rfl (by rw [Try.ntmps98]; exact of_decide_eq_true rfl) ?_; rw [Try.ntmps98, Try.results98]
  repeat' (first
    | ((first | refine Pwp.step (kit _) rfl fun K hK => ?_ | refine Pwp.last (kit _) rfl fun K hK => ?_ | refine Pwp.stepD (kit _) rfl rfl fun K hK => ?_ | refine Pwp.lastD (kit _) rfl rfl fun K hK => ?_); simp (dsimp := false) only [↓opsP_nil, ↓opsP_cons, ↓opsD_nil, ↓opsD_cons, ↓opP, ↓stepP, ↓stepG, go_sem])
    | (refine Pwp.seq ?_)
    | (refine Pwp.block ?_)
    | (refine Pwp.exit ?_; simp only [thenS, blockS, if_true, if_false, reduceIte, Nat.reduceEqDiff, Nat.add_one_ne_zero, reduceCtorEq])
    | (refine Pwp.skip ?_; simp only [thenS, blockS])
    | (refine Pwp.cond rfl True.intro (fun h => ?_) (fun h => ?_) <;> (try (cases h; done)) <;> (try simp only [h]))
    | (refine Pwp.ret ?_; try simp only [thenS, blockS])
    | (refine hK _ ?_; clear hK K)
    | (refine hK _ _ rfl ?_; clear hK K)
    | (refine CallG.off ?_)
    | (with_reducible refine Or.inl ?_)
    | (simp only [thenS, blockS])
    | (with_reducible refine And.intro ?_ ?_)
    | (with_reducible exact True.intro)
    | (simp (dsimp := false) only [↓opsP_nil, ↓opsP_cons, ↓opsD_nil, ↓opsD_cons, ↓opP, ↓stepP, ↓stepG, go_sem]))
  all_goals (try (first | (intro hg; simp_all; done) | (intro hg; simp [hg]; done) | exact of_decide_eq_true rfl | (cases h; done)))
  · refine Fin.data (.inr rfl) rfl ?_ rfl ?_
    · exact ⟨True.intro, True.intro, True.intro⟩
    · rw [if_pos (show over a b = true from h)]; exact subD_refl _
  · refine Fin.data (.inr rfl) rfl ?_ rfl ?_
    · exact ⟨True.intro, True.intro, True.intro⟩
    · rw [if_neg (show ¬ over a b = true from by rw [show over a b = _ from h]; simp)]; exact subD_refl _

theorem run45 (a b c d : Int) : Runs Try.prog 45 [.d (.agg [.v (.int .i64 a), .v (.int .i64 b)]), .d (.agg [.v (.int .i64 c), .v (.int .i64 d)])] [] (pbool (decide (a < c) || (a == c && decide (b < d)))) [] := by
  refine Runs.of (kit Try.prog) Try.func45 rfl rfl (by rw [Try.ntmps45]; exact of_decide_eq_true rfl) ?_; rw [Try.ntmps45, Try.results45]
  repeat' (first
    | ((first | refine Pwp.step (kit _) rfl fun K hK => ?_ | refine Pwp.last (kit _) rfl fun K hK => ?_ | refine Pwp.stepD (kit _) rfl rfl fun K hK => ?_ | refine Pwp.lastD (kit _) rfl rfl fun K hK => ?_); simp (dsimp := false) only [↓opsP_nil, ↓opsP_cons, ↓opsD_nil, ↓opsD_cons, ↓opP, ↓stepP, ↓stepG, go_sem])
    | (refine Pwp.seq ?_)
    | (refine Pwp.block ?_)
    | (refine Pwp.exit ?_; simp only [thenS, blockS, if_true, if_false, reduceIte, Nat.reduceEqDiff, Nat.add_one_ne_zero, reduceCtorEq])
    | (refine Pwp.skip ?_; simp only [thenS, blockS])
    | (refine Pwp.cond rfl True.intro (fun h => ?_) (fun h => ?_) <;> (try (cases h; done)) <;> (try simp only [h]))
    | (refine Pwp.ret ?_; try simp only [thenS, blockS])
    | (refine hK _ ?_; clear hK K)
    | (refine hK _ _ rfl ?_; clear hK K)
    | (refine CallG.off ?_)
    | (with_reducible refine Or.inl ?_)
    | (simp only [thenS, blockS])
    | (with_reducible refine And.intro ?_ ?_)
    | (with_reducible exact True.intro)
    | (simp (dsimp := false) only [↓opsP_nil, ↓opsP_cons, ↓opsD_nil, ↓opsD_cons, ↓opP, ↓stepP, ↓stepG, go_sem]))
  all_goals (try (first | (intro hg; simp_all; done) | (intro hg; simp [hg]; done) | exact of_decide_eq_true rfl | (cases h; done)))
  · refine Fin.data (.inr rfl) rfl ?_ rfl ?_
    · exact ⟨True.intro, True.intro⟩
    · exact subD_refl _

def L108 (a b : Int) (i : Nat) : St := ⟨[(8, pint .i64 i), (7, pint .i64 2), (6, .d (.slc 1 [.v (.int .i64 a), .v (.int .i64 b)])), (3, pint .i64 0), (2, pint .i64 0), (0, .d (.slc 1 [.v (.int .i64 a), .v (.int .i64 b)]))], [], 28⟩

theorem run108 (a b : Int) : Runs Try.prog 108 [.d (.slc 1 [.v (.int .i64 a), .v (.int .i64 b)])] [] (pint .i64 (if a = 0 then b else a)) [] := by
  refine Runs.of (kit Try.prog) Try.func108 rfl rfl (by rw [Try.ntmps108]; exact of_decide_eq_true rfl) ?_; rw [Try.ntmps108, Try.results108]
  repeat' (first
    | ((first | refine Pwp.step (kit _) rfl fun K hK => ?_ | refine Pwp.last (kit _) rfl fun K hK => ?_ | refine Pwp.stepD (kit _) rfl rfl fun K hK => ?_ | refine Pwp.lastD (kit _) rfl rfl fun K hK => ?_); simp (dsimp := false) only [↓opsP_nil, ↓opsP_cons, ↓opsD_nil, ↓opsD_cons, ↓opP, ↓stepP, ↓stepG, go_sem])
    | (refine Pwp.seq ?_)
    | (refine Pwp.block ?_)
    | (refine Pwp.exit ?_; simp only [thenS, blockS, if_true, if_false, reduceIte, Nat.reduceEqDiff, Nat.add_one_ne_zero, reduceCtorEq])
    | (refine Pwp.skip ?_; simp only [thenS, blockS])
    | (refine Pwp.cond rfl True.intro (fun h => ?_) (fun h => ?_) <;> (try (cases h; done)) <;> (try simp only [h]))
    | (refine Pwp.ret ?_; try simp only [thenS, blockS])
    | (refine hK _ ?_; clear hK K)
    | (refine hK _ _ rfl ?_; clear hK K)
    | (refine CallG.off ?_)
    | (with_reducible refine Or.inl ?_)
    | (simp only [thenS, blockS])
    | (with_reducible refine And.intro ?_ ?_)
    | (with_reducible exact True.intro)
    | (simp (dsimp := false) only [↓opsP_nil, ↓opsP_cons, ↓opsD_nil, ↓opsD_cons, ↓opP, ↓stepP, ↓stepG, go_sem]))
  all_goals (try (first | (intro hg; simp_all; done) | (intro hg; simp [hg]; done) | exact of_decide_eq_true rfl | (cases h; done)))
  refine Pwp.loop (fun k s => ∃ i, i ≤ 2 ∧ k = 2 - i ∧ s = L108 a b i ∧ (1 ≤ i → a = 0) ∧ (2 ≤ i → b = 0)) 2 (Sub.refl _ _) ⟨0, by omega, rfl, rfl, by omega, by omega⟩ ?_
  rintro k s ⟨i, hi, rfl, rfl, h1, h2⟩
  have : i = 0 ∨ i = 1 ∨ i = 2 := by omega
  rcases this with rfl | rfl | rfl <;> unfold L108
  · repeat' (first
      | ((first | refine Pwp.step (kit _) rfl fun K hK => ?_ | refine Pwp.last (kit _) rfl fun K hK => ?_ | refine Pwp.stepD (kit _) rfl rfl fun K hK => ?_ | refine Pwp.lastD (kit _) rfl rfl fun K hK => ?_); simp (dsimp := false) only [↓opsP_nil, ↓opsP_cons, ↓opsD_nil, ↓opsD_cons, ↓opP, ↓stepP, ↓stepG, go_sem])
      | (refine Pwp.seq ?_)
      | (refine Pwp.block ?_)
      | (refine Pwp.exit ?_; simp only [thenS, blockS, if_true, if_false, reduceIte, Nat.reduceEqDiff, Nat.add_one_ne_zero, reduceCtorEq])
      | (refine Pwp.skip ?_; simp only [thenS, blockS])
      | (refine Pwp.cond rfl True.intro (fun h => ?_) (fun h => ?_) <;> (try (cases h; done)) <;> (try simp only [h]))
      | (refine Pwp.ret ?_; try simp only [thenS, blockS])
      | (refine hK _ ?_; clear hK K)
      | (refine hK _ _ rfl ?_; clear hK K)
      | (refine CallG.off ?_)
      | (with_reducible refine Or.inl ?_)
      | (simp only [thenS, blockS])
      | (with_reducible refine And.intro ?_ ?_)
      | (with_reducible exact True.intro)
      | (simp (dsimp := false) only [↓opsP_nil, ↓opsP_cons, ↓opsD_nil, ↓opsD_cons, ↓opP, ↓stepP, ↓stepG, go_sem]))
    all_goals (try (first | (intro hg; simp_all; done) | (intro hg; simp [hg]; done) | exact of_decide_eq_true rfl | (cases h; done)))
    · refine Fin.data (.inr rfl) rfl ?_ rfl ?_
      · exact ⟨True.intro, True.intro⟩
      · simp_all [subD, subV]
    · refine ⟨1, L108 a b 1, by omega, Sub.same (by simp [L108]) trivial ?_, 1, by omega, rfl, rfl, fun _ => by simpa using h, by omega⟩
      simp [viewT, viewP, L108, V0, keptOf, St.ev, find, PVal.toD, subD, subV, disj, PVal.ids, wrap_of]
  · repeat' (first
      | ((first | refine Pwp.step (kit _) rfl fun K hK => ?_ | refine Pwp.last (kit _) rfl fun K hK => ?_ | refine Pwp.stepD (kit _) rfl rfl fun K hK => ?_ | refine Pwp.lastD (kit _) rfl rfl fun K hK => ?_); simp (dsimp := false) only [↓opsP_nil, ↓opsP_cons, ↓opsD_nil, ↓opsD_cons, ↓opP, ↓stepP, ↓stepG, go_sem])
      | (refine Pwp.seq ?_)
      | (refine Pwp.block ?_)
      | (refine Pwp.exit ?_; simp only [thenS, blockS, if_true, if_false, reduceIte, Nat.reduceEqDiff, Nat.add_one_ne_zero, reduceCtorEq])
      | (refine Pwp.skip ?_; simp only [thenS, blockS])
      | (refine Pwp.cond rfl True.intro (fun h => ?_) (fun h => ?_) <;> (try (cases h; done)) <;> (try simp only [h]))
      | (refine Pwp.ret ?_; try simp only [thenS, blockS])
      | (refine hK _ ?_; clear hK K)
      | (refine hK _ _ rfl ?_; clear hK K)
      | (refine CallG.off ?_)
      | (with_reducible refine Or.inl ?_)
      | (simp only [thenS, blockS])
      | (with_reducible refine And.intro ?_ ?_)
      | (with_reducible exact True.intro)
      | (simp (dsimp := false) only [↓opsP_nil, ↓opsP_cons, ↓opsD_nil, ↓opsD_cons, ↓opP, ↓stepP, ↓stepG, go_sem]))
    all_goals (try (first | (intro hg; simp_all; done) | (intro hg; simp [hg]; done) | exact of_decide_eq_true rfl | (cases h; done)))
    · refine Fin.data (.inr rfl) rfl ?_ rfl ?_
      · exact ⟨True.intro, True.intro⟩
      · simp_all [subD, subV]
    · refine ⟨0, L108 a b 2, by omega, Sub.same (by simp [L108]) trivial ?_, 2, by omega, rfl, rfl, fun _ => h1 (by omega), fun _ => by simpa using h⟩
      simp [viewT, viewP, L108, V0, keptOf, St.ev, find, PVal.toD, subD, subV, disj, PVal.ids, wrap_of]
  · repeat' (first
      | ((first | refine Pwp.step (kit _) rfl fun K hK => ?_ | refine Pwp.last (kit _) rfl fun K hK => ?_ | refine Pwp.stepD (kit _) rfl rfl fun K hK => ?_ | refine Pwp.lastD (kit _) rfl rfl fun K hK => ?_); simp (dsimp := false) only [↓opsP_nil, ↓opsP_cons, ↓opsD_nil, ↓opsD_cons, ↓opP, ↓stepP, ↓stepG, go_sem])
      | (refine Pwp.seq ?_)
      | (refine Pwp.block ?_)
      | (refine Pwp.exit ?_; simp only [thenS, blockS, if_true, if_false, reduceIte, Nat.reduceEqDiff, Nat.add_one_ne_zero, reduceCtorEq])
      | (refine Pwp.skip ?_; simp only [thenS, blockS])
      | (refine Pwp.cond rfl True.intro (fun h => ?_) (fun h => ?_) <;> (try (cases h; done)) <;> (try simp only [h]))
      | (refine Pwp.ret ?_; try simp only [thenS, blockS])
      | (refine hK _ ?_; clear hK K)
      | (refine hK _ _ rfl ?_; clear hK K)
      | (refine CallG.off ?_)
      | (with_reducible refine Or.inl ?_)
      | (simp only [thenS, blockS])
      | (with_reducible refine And.intro ?_ ?_)
      | (with_reducible exact True.intro)
      | (simp (dsimp := false) only [↓opsP_nil, ↓opsP_cons, ↓opsD_nil, ↓opsD_cons, ↓opP, ↓stepP, ↓stepG, go_sem]))
    all_goals (try (first | (intro hg; simp_all; done) | (intro hg; simp [hg]; done) | exact of_decide_eq_true rfl | (cases h; done)))
    refine Fin.data (.inr rfl) rfl ?_ rfl ?_
    · exact ⟨True.intro, True.intro⟩
    · simp [subD, subV, h1, h2]

/-- The order of whole numbers. -/
def cmpI (a b : Int) : Int := if a < b then -1 else if b < a then 1 else 0

theorem run44 (a b c d : Int) : Runs Try.prog 44 [.d (.agg [.v (.int .i64 a), .v (.int .i64 b)]), .d (.agg [.v (.int .i64 c), .v (.int .i64 d)])] [] (pint .i64 (if cmpI a c = 0 then cmpI b d else cmpI a c)) [] := by
  refine Runs.of (kit Try.prog) Try.func44 rfl rfl (by rw [Try.ntmps44]; exact of_decide_eq_true rfl) ?_; rw [Try.ntmps44, Try.results44]
  repeat' (first
    | ((first | refine Pwp.step (kit _) rfl fun K hK => ?_ | refine Pwp.last (kit _) rfl fun K hK => ?_ | refine Pwp.stepD (kit _) rfl rfl fun K hK => ?_ | refine Pwp.lastD (kit _) rfl rfl fun K hK => ?_); simp (dsimp := false) only [↓opsP_nil, ↓opsP_cons, ↓opsD_nil, ↓opsD_cons, ↓opP, ↓stepP, ↓stepG, go_sem])
    | (refine Pwp.seq ?_)
    | (refine Pwp.block ?_)
    | (refine Pwp.exit ?_; simp only [thenS, blockS, if_true, if_false, reduceIte, Nat.reduceEqDiff, Nat.add_one_ne_zero, reduceCtorEq])
    | (refine Pwp.skip ?_; simp only [thenS, blockS])
    | (refine Pwp.cond rfl True.intro (fun h => ?_) (fun h => ?_) <;> (try (cases h; done)) <;> (try simp only [h]))
    | (refine Pwp.ret ?_; try simp only [thenS, blockS])
    | (refine hK _ ?_; clear hK K)
    | (refine hK _ _ rfl ?_; clear hK K)
    | (refine CallK.same (run109 _ _) rfl ?_)
    | (refine CallG.same (fun _ => run109 _ _) rfl ?_ ?_)
    | (refine CallK.toD rfl (run109 _ _) rfl ?_)
    | (refine CallG.toD rfl (run109 _ _) rfl ?_ ?_)
    | (refine CallK.same (run108 _ _) rfl ?_)
    | (refine CallG.same (fun _ => run108 _ _) rfl ?_ ?_)
    | (refine CallK.toD rfl (run108 _ _) rfl ?_)
    | (refine CallG.toD rfl (run108 _ _) rfl ?_ ?_)
    | (refine CallG.off ?_)
    | (with_reducible refine Or.inl ?_)
    | (simp only [thenS, blockS])
    | (with_reducible refine And.intro ?_ ?_)
    | (with_reducible exact True.intro)
    | (simp (dsimp := false) only [↓opsP_nil, ↓opsP_cons, ↓opsD_nil, ↓opsD_cons, ↓opP, ↓stepP, ↓stepG, go_sem]))
  all_goals (try (first | (intro hg; simp_all; done) | (intro hg; simp [hg]; done) | exact of_decide_eq_true rfl | (cases h; done)))
  refine Fin.data (.inr rfl) rfl ?_ rfl ?_
  · exact ⟨True.intro, True.intro⟩
  · exact subD_refl _

abbrev I64 (n : Int) : D := .v (.int .i64 n)
/-- How two names stand. -/
def cmpN (s n t m : Int) : Int := if cmpI s t = 0 then cmpI n m else cmpI s t
theorem cmp_cases (a c : Int) : (a < c ∧ cmpI a c = -1 ∧ cmpI c a = 1) ∨ (a = c ∧ cmpI a c = 0 ∧ cmpI c a = 0) ∨ (c < a ∧ cmpI a c = 1 ∧ cmpI c a = -1) := by
  unfold cmpI
  by_cases h1 : a < c
  · left; refine ⟨h1, by simp [h1], ?_⟩; rw [if_neg (by omega), if_pos h1]
  · by_cases h2 : c < a
    · right; right; refine ⟨h2, ?_, by simp [h2]⟩; rw [if_neg (by omega), if_pos h2]
    · right; left; refine ⟨by omega, ?_, ?_⟩ <;> rw [if_neg (by omega), if_neg (by omega)]

end Go.Proofs.Ytdodgbhodkcckaa.Pv
