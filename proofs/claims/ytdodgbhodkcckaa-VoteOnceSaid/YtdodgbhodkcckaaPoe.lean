/- Walks of an entity's part in cycles: items locked, freed, settled; parts of cycles. -/
import Derived.Test.YtdodgbhodkcckaaPob
import Derived.Test.YtdodgbhodkcckaaPod
import Derived.Test.YtdodgbhodkcckaaPoc
import Derived.Test.YtdodgbhodkcckaaPca
import Derived.Test.YtdodgbhodkcckaaPmb
set_option linter.unusedVariables false
set_option linter.unusedSimpArgs false
set_option autoImplicit false
set_option maxRecDepth 100000
namespace Go.Proofs.Ytdodgbhodkcckaa.Pv
open Go Go.RowKit

def lineOf (x : Item) : Line := ⟨x.seller, x.number, x.buyer, x.amount⟩
theorem run188 (x : Item) : Runs Try.prog 188 [.d x.d] [] (.d (lineOf x).d) [] := by
  unfold Item.d Item.cells lineOf Line.d Line.cells
  refine Runs.of (kit Try.prog) Try.func188 rfl rfl (by rw [Try.ntmps188]; exact of_decide_eq_true rfl) ?_; rw [Try.ntmps188, Try.results188]
  repeat' (first
    | ((first | refine Pwp.step (kit _) rfl fun K hK => ?_ | refine Pwp.last (kit _) rfl fun K hK => ?_ | refine Pwp.stepD (kit _) rfl rfl fun K hK => ?_ | refine Pwp.lastD (kit _) rfl rfl fun K hK => ?_); simp (dsimp := false) only [↓opsP_nil, ↓opsP_cons, ↓opsD_nil, ↓opsD_cons, ↓opP, ↓stepP, ↓stepG, go_sem])
    | (refine Pwp.seq ?_)
    | (refine Pwp.block ?_)
    | (refine Pwp.exit ?_; simp only [thenS, blockS, if_true, if_false, reduceIte, Nat.reduceEqDiff, Nat.add_one_ne_zero, reduceCtorEq])
    | (refine Pwp.skip ?_; simp only [thenS, blockS])
    | (refine Pwp.cond rfl True.intro (fun h => ?_) (fun h => ?_) <;> (try (cases h; done)) <;> (try simp only [h]))
    | (refine Pwp.ret ?_; try simp only [thenS, blockS])
    | (refine hK _ ?_; clear hK K)
    | (refine hK _ _ rfl ?_; clear hK K)
    | (refine CallG.off ?_)
    | (with_reducible refine Or.inl ?_)
    | (simp only [thenS, blockS])
    | (with_reducible refine And.intro ?_ ?_)
    | (with_reducible exact True.intro)
    | (simp (dsimp := false) only [↓opsP_nil, ↓opsP_cons, ↓opsD_nil, ↓opsD_cons, ↓opP, ↓stepP, ↓stepG, go_sem]))
  all_goals (try (first | (intro hg; simp [hg]; done) | exact of_decide_eq_true rfl | (cases h; done)))
  (refine Fin.data (.inr rfl) (by simp (dsimp := false) only [↓opsP_nil, ↓opsP_cons, ↓opsD_nil, ↓opsD_cons, ↓opP, ↓stepP, ↓stepG, go_sem, resL]; rfl) (by simp only [and_self]) (by simp (dsimp := false) only [↓opsP_nil, ↓opsP_cons, ↓opsD_nil, ↓opsD_cons, ↓opP, ↓stepP, ↓stepG, go_sem, resP, Nat.le_refl, List.take_length]; try rfl) ?_)
  exact subD_refl _
def lockE (x : Item) (c : Int) : Int := if (x.state != 3 || x.cycle != 0) = true then 90 else if (decide (c < 1) || decide (1048576 < c)) = true then 1 else 0
def lockI (x : Item) (c : Int) : Item := if (x.state != 3 || x.cycle != 0) = true then x else if (decide (c < 1) || decide (1048576 < c)) = true then x else { x with cycle := c }
set_option maxHeartbeats 8000000 in
theorem run187 (x : Item) (c : Int) : Runs Try.prog 187 [.d x.d, pint .i64 c] [] (.d (.tup [(lockI x c).d, I64 (lockE x c)])) [] := by
  unfold Item.d Item.cells
  refine Runs.of (kit Try.prog) Try.func187 rfl rfl (by rw [Try.ntmps187]; exact of_decide_eq_true rfl) ?_; rw [Try.ntmps187, Try.results187]
  repeat' (first
    | ((first | refine Pwp.step (kit _) rfl fun K hK => ?_ | refine Pwp.last (kit _) rfl fun K hK => ?_ | refine Pwp.stepD (kit _) rfl rfl fun K hK => ?_ | refine Pwp.lastD (kit _) rfl rfl fun K hK => ?_); simp (dsimp := false) only [↓opsP_nil, ↓opsP_cons, ↓opsD_nil, ↓opsD_cons, ↓opP, ↓stepP, ↓stepG, go_sem])
    | (refine Pwp.seq ?_)
    | (refine Pwp.block ?_)
    | (refine Pwp.exit ?_; simp only [thenS, blockS, if_true, if_false, reduceIte, Nat.reduceEqDiff, Nat.add_one_ne_zero, reduceCtorEq])
    | (refine Pwp.skip ?_; simp only [thenS, blockS])
    | (refine Pwp.cond rfl True.intro (fun h => ?_) (fun h => ?_) <;> (try (cases h; done)) <;> (try simp only [h]))
    | (refine Pwp.ret ?_; try simp only [thenS, blockS])
    | (refine hK _ ?_; clear hK K)
    | (refine hK _ _ rfl ?_; clear hK K)
    | (refine CallG.off ?_)
    | (with_reducible refine Or.inl ?_)
    | (simp only [thenS, blockS])
    | (with_reducible refine And.intro ?_ ?_)
    | (with_reducible exact True.intro)
    | (simp (dsimp := false) only [↓opsP_nil, ↓opsP_cons, ↓opsD_nil, ↓opsD_cons, ↓opP, ↓stepP, ↓stepG, go_sem]))
  all_goals (try (first | (intro hg; simp [hg]; done) | exact of_decide_eq_true rfl | (cases h; done)))
  all_goals (first | omega | (refine Fin.data (.inr rfl) (by simp (dsimp := false) only [↓opsP_nil, ↓opsP_cons, ↓opsD_nil, ↓opsD_cons, ↓opP, ↓stepP, ↓stepG, go_sem, resL]; rfl) (by simp only [and_self]) (by simp (dsimp := false) only [↓opsP_nil, ↓opsP_cons, ↓opsD_nil, ↓opsD_cons, ↓opP, ↓stepP, ↓stepG, go_sem, resP, Nat.le_refl, List.take_length]; try rfl) ?_; (try simp only [lockE, lockI, *, if_true, if_false, reduceIte, Bool.false_eq_true]); exact subD_refl _))
def held (x : Item) : Bool := x.state == 3 && x.cycle != 0
theorem run232 (x : Item) : Runs Try.prog 232 [.d x.d] [] (pbool (held x)) [] := by
  unfold Item.d Item.cells held
  refine Runs.of (kit Try.prog) Try.func232 rfl rfl (by rw [Try.ntmps232]; exact of_decide_eq_true rfl) ?_; rw [Try.ntmps232, Try.results232]
  repeat' (first
    | ((first | refine Pwp.step (kit _) rfl fun K hK => ?_ | refine Pwp.last (kit _) rfl fun K hK => ?_ | refine Pwp.stepD (kit _) rfl rfl fun K hK => ?_ | refine Pwp.lastD (kit _) rfl rfl fun K hK => ?_); simp (dsimp := false) only [↓opsP_nil, ↓opsP_cons, ↓opsD_nil, ↓opsD_cons, ↓opP, ↓stepP, ↓stepG, go_sem])
    | (refine Pwp.seq ?_)
    | (refine Pwp.block ?_)
    | (refine Pwp.exit ?_; simp only [thenS, blockS, if_true, if_false, reduceIte, Nat.reduceEqDiff, Nat.add_one_ne_zero, reduceCtorEq])
    | (refine Pwp.skip ?_; simp only [thenS, blockS])
    | (refine Pwp.cond rfl True.intro (fun h => ?_) (fun h => ?_) <;> (try (cases h; done)) <;> (try simp only [h]))
    | (refine Pwp.ret ?_; try simp only [thenS, blockS])
    | (refine hK _ ?_; clear hK K)
    | (refine hK _ _ rfl ?_; clear hK K)
    | (refine CallG.off ?_)
    | (with_reducible refine Or.inl ?_)
    | (simp only [thenS, blockS])
    | (with_reducible refine And.intro ?_ ?_)
    | (with_reducible exact True.intro)
    | (simp (dsimp := false) only [↓opsP_nil, ↓opsP_cons, ↓opsD_nil, ↓opsD_cons, ↓opP, ↓stepP, ↓stepG, go_sem]))
  all_goals (try (first | (intro hg; simp [hg]; done) | exact of_decide_eq_true rfl | (cases h; done)))
  (refine Fin.data (.inr rfl) (by simp (dsimp := false) only [↓opsP_nil, ↓opsP_cons, ↓opsD_nil, ↓opsD_cons, ↓opP, ↓stepP, ↓stepG, go_sem, resL]; rfl) (by simp only [and_self]) (by simp (dsimp := false) only [↓opsP_nil, ↓opsP_cons, ↓opsD_nil, ↓opsD_cons, ↓opP, ↓stepP, ↓stepG, go_sem, resP, Nat.le_refl, List.take_length]; try rfl) ?_)
  exact subD_refl _
def freeE (x : Item) : Int := if held x = true then 0 else 90
def freeI (x : Item) : Item := if held x = true then { x with cycle := 0 } else x
def settleI (x : Item) : Item := if held x = true then { x with state := 5 } else x
set_option maxHeartbeats 8000000 in
theorem run191 (x : Item) : Runs Try.prog 191 [.d x.d] [] (.d (.tup [(freeI x).d, I64 (freeE x)])) [] := by
  have r := run232 x
  unfold freeE freeI
  generalize held x = b at *
  unfold Item.d Item.cells at *
  cases b with
  | true =>
    refine Runs.of (kit Try.prog) Try.func191 rfl rfl (by rw [Try.ntmps191]; exact of_decide_eq_true rfl) ?_; rw [Try.ntmps191, Try.results191]
    repeat' (first
      | ((first | refine Pwp.step (kit _) rfl fun K hK => ?_ | refine Pwp.last (kit _) rfl fun K hK => ?_ | refine Pwp.stepD (kit _) rfl rfl fun K hK => ?_ | refine Pwp.lastD (kit _) rfl rfl fun K hK => ?_); simp (dsimp := false) only [↓opsP_nil, ↓opsP_cons, ↓opsD_nil, ↓opsD_cons, ↓opP, ↓stepP, ↓stepG, go_sem, Bool.not_true])
      | (refine Pwp.seq ?_)
      | (refine Pwp.block ?_)
      | (refine Pwp.exit ?_; simp only [thenS, blockS, if_true, if_false, reduceIte, Nat.reduceEqDiff, Nat.add_one_ne_zero, reduceCtorEq])
      | (refine Pwp.skip ?_; simp only [thenS, blockS])
      | (refine Pwp.cond rfl True.intro (fun h => ?_) (fun h => ?_) <;> (try (cases h; done)) <;> (try simp only [h]))
      | (refine Pwp.ret ?_; try simp only [thenS, blockS])
      | (refine hK _ ?_; clear hK K)
      | (refine hK _ _ rfl ?_; clear hK K)
      | (refine CallK.toD (ds := [.agg [I64 x.seller, I64 x.number, I64 x.buyer, I64 x.currency, I64 x.amount, I64 x.round, I64 x.state, I64 x.cycle]]) rfl (r) rfl ?_)
      | (refine CallG.off ?_)
      | (with_reducible refine Or.inl ?_)
      | (simp only [thenS, blockS])
      | (with_reducible refine And.intro ?_ ?_)
      | (with_reducible exact True.intro)
      | (simp (dsimp := false) only [↓opsP_nil, ↓opsP_cons, ↓opsD_nil, ↓opsD_cons, ↓opP, ↓stepP, ↓stepG, go_sem, Bool.not_true]))
    all_goals (try (first | (intro hg; simp [hg]; done) | exact of_decide_eq_true rfl | (cases h; done)))
    all_goals (first | omega | (refine Fin.data (.inr rfl) (by simp (dsimp := false) only [↓opsP_nil, ↓opsP_cons, ↓opsD_nil, ↓opsD_cons, ↓opP, ↓stepP, ↓stepG, go_sem, resL]; rfl) (by simp only [and_self]) (by simp (dsimp := false) only [↓opsP_nil, ↓opsP_cons, ↓opsD_nil, ↓opsD_cons, ↓opP, ↓stepP, ↓stepG, go_sem, resP, Nat.le_refl, List.take_length]; try rfl) ?_; (try simp only [*, if_true, if_false, reduceIte, Bool.false_eq_true]); exact subD_refl _))
  | false =>
    refine Runs.of (kit Try.prog) Try.func191 rfl rfl (by rw [Try.ntmps191]; exact of_decide_eq_true rfl) ?_; rw [Try.ntmps191, Try.results191]
    repeat' (first
      | ((first | refine Pwp.step (kit _) rfl fun K hK => ?_ | refine Pwp.last (kit _) rfl fun K hK => ?_ | refine Pwp.stepD (kit _) rfl rfl fun K hK => ?_ | refine Pwp.lastD (kit _) rfl rfl fun K hK => ?_); simp (dsimp := false) only [↓opsP_nil, ↓opsP_cons, ↓opsD_nil, ↓opsD_cons, ↓opP, ↓stepP, ↓stepG, go_sem, Bool.not_false])
      | (refine Pwp.seq ?_)
      | (refine Pwp.block ?_)
      | (refine Pwp.exit ?_; simp only [thenS, blockS, if_true, if_false, reduceIte, Nat.reduceEqDiff, Nat.add_one_ne_zero, reduceCtorEq])
      | (refine Pwp.skip ?_; simp only [thenS, blockS])
      | (refine Pwp.cond rfl True.intro (fun h => ?_) (fun h => ?_) <;> (try (cases h; done)) <;> (try simp only [h]))
      | (refine Pwp.ret ?_; try simp only [thenS, blockS])
      | (refine hK _ ?_; clear hK K)
      | (refine hK _ _ rfl ?_; clear hK K)
      | (refine CallK.toD (ds := [.agg [I64 x.seller, I64 x.number, I64 x.buyer, I64 x.currency, I64 x.amount, I64 x.round, I64 x.state, I64 x.cycle]]) rfl (r) rfl ?_)
      | (refine CallG.off ?_)
      | (with_reducible refine Or.inl ?_)
      | (simp only [thenS, blockS])
      | (with_reducible refine And.intro ?_ ?_)
      | (with_reducible exact True.intro)
      | (simp (dsimp := false) only [↓opsP_nil, ↓opsP_cons, ↓opsD_nil, ↓opsD_cons, ↓opP, ↓stepP, ↓stepG, go_sem, Bool.not_false]))
    all_goals (try (first | (intro hg; simp [hg]; done) | exact of_decide_eq_true rfl | (cases h; done)))
    all_goals (first | omega | (refine Fin.data (.inr rfl) (by simp (dsimp := false) only [↓opsP_nil, ↓opsP_cons, ↓opsD_nil, ↓opsD_cons, ↓opP, ↓stepP, ↓stepG, go_sem, resL]; rfl) (by simp only [and_self]) (by simp (dsimp := false) only [↓opsP_nil, ↓opsP_cons, ↓opsD_nil, ↓opsD_cons, ↓opP, ↓stepP, ↓stepG, go_sem, resP, Nat.le_refl, List.take_length]; try rfl) ?_; (try simp only [*, if_true, if_false, reduceIte, Bool.false_eq_true]); exact subD_refl _))
set_option maxHeartbeats 8000000 in
theorem run192 (x : Item) : Runs Try.prog 192 [.d x.d] [] (.d (.tup [(settleI x).d, I64 (freeE x)])) [] := by
  have r := run232 x
  have r2 := run233 x 3 5
  have hs : held x = true → stepI x 3 5 = { x with state := 5 } ∧ stepE x 3 = 0 := fun h => by
    unfold held at h
    simp only [Bool.and_eq_true, beq_iff_eq] at h
    unfold stepI stepE
    rw [if_pos h.1, if_pos h.1]; exact ⟨rfl, rfl⟩
  unfold freeE settleI
  cases hb : held x with
  | true =>
    obtain ⟨s1, s2⟩ := hs hb
    rw [hb] at r
    rw [s1, s2] at r2
    rw [if_pos rfl, if_pos rfl]
    unfold Item.d Item.cells at *
    refine Runs.of (kit Try.prog) Try.func192 rfl rfl (by rw [Try.ntmps192]; exact of_decide_eq_true rfl) ?_; rw [Try.ntmps192, Try.results192]
    repeat' (first
      | ((first | refine Pwp.step (kit _) rfl fun K hK => ?_ | refine Pwp.last (kit _) rfl fun K hK => ?_ | refine Pwp.stepD (kit _) rfl rfl fun K hK => ?_ | refine Pwp.lastD (kit _) rfl rfl fun K hK => ?_); simp (dsimp := false) only [↓opsP_nil, ↓opsP_cons, ↓opsD_nil, ↓opsD_cons, ↓opP, ↓stepP, ↓stepG, go_sem, Bool.not_true])
      | (refine Pwp.seq ?_)
      | (refine Pwp.block ?_)
      | (refine Pwp.exit ?_; simp only [thenS, blockS, if_true, if_false, reduceIte, Nat.reduceEqDiff, Nat.add_one_ne_zero, reduceCtorEq])
      | (refine Pwp.skip ?_; simp only [thenS, blockS])
      | (refine Pwp.cond rfl True.intro (fun h => ?_) (fun h => ?_) <;> (try (cases h; done)) <;> (try simp only [h]))
      | (refine Pwp.ret ?_; try simp only [thenS, blockS])
      | (refine hK _ ?_; clear hK K)
      | (refine hK _ _ rfl ?_; clear hK K)
      | (refine CallK.toD (ds := [.agg [I64 x.seller, I64 x.number, I64 x.buyer, I64 x.currency, I64 x.amount, I64 x.round, I64 x.state, I64 x.cycle]]) rfl (r) rfl ?_)
      | (refine CallK.toD (ds := [.agg [I64 x.seller, I64 x.number, I64 x.buyer, I64 x.currency, I64 x.amount, I64 x.round, I64 x.state, I64 x.cycle], I64 3, I64 5]) rfl (r2) rfl ?_)
      | (refine CallG.off ?_)
      | (with_reducible refine Or.inl ?_)
      | (simp only [thenS, blockS])
      | (with_reducible refine And.intro ?_ ?_)
      | (with_reducible exact True.intro)
      | (simp (dsimp := false) only [↓opsP_nil, ↓opsP_cons, ↓opsD_nil, ↓opsD_cons, ↓opP, ↓stepP, ↓stepG, go_sem, Bool.not_true]))
    all_goals (try (first | (intro hg; simp [hg]; done) | exact of_decide_eq_true rfl | (cases h; done)))
    (refine Fin.data (.inr rfl) (by simp (dsimp := false) only [↓opsP_nil, ↓opsP_cons, ↓opsD_nil, ↓opsD_cons, ↓opP, ↓stepP, ↓stepG, go_sem, resL]; rfl) (by simp only [and_self]) (by simp (dsimp := false) only [↓opsP_nil, ↓opsP_cons, ↓opsD_nil, ↓opsD_cons, ↓opP, ↓stepP, ↓stepG, go_sem, resP, Nat.le_refl, List.take_length]; try rfl) ?_)
    exact subD_refl _
  | false =>
    rw [hb] at r
    rw [if_neg (by simp), if_neg (by simp)]
    unfold Item.d Item.cells at *
    refine Runs.of (kit Try.prog) Try.func192 rfl rfl (by rw [Try.ntmps192]; exact of_decide_eq_true rfl) ?_; rw [Try.ntmps192, Try.results192]
    repeat' (first
      | ((first | refine Pwp.step (kit _) rfl fun K hK => ?_ | refine Pwp.last (kit _) rfl fun K hK => ?_ | refine Pwp.stepD (kit _) rfl rfl fun K hK => ?_ | refine Pwp.lastD (kit _) rfl rfl fun K hK => ?_); simp (dsimp := false) only [↓opsP_nil, ↓opsP_cons, ↓opsD_nil, ↓opsD_cons, ↓opP, ↓stepP, ↓stepG, go_sem, Bool.not_false])
      | (refine Pwp.seq ?_)
      | (refine Pwp.block ?_)
      | (refine Pwp.exit ?_; simp only [thenS, blockS, if_true, if_false, reduceIte, Nat.reduceEqDiff, Nat.add_one_ne_zero, reduceCtorEq])
      | (refine Pwp.skip ?_; simp only [thenS, blockS])
      | (refine Pwp.cond rfl True.intro (fun h => ?_) (fun h => ?_) <;> (try (cases h; done)) <;> (try simp only [h]))
      | (refine Pwp.ret ?_; try simp only [thenS, blockS])
      | (refine hK _ ?_; clear hK K)
      | (refine hK _ _ rfl ?_; clear hK K)
      | (refine CallK.toD (ds := [.agg [I64 x.seller, I64 x.number, I64 x.buyer, I64 x.currency, I64 x.amount, I64 x.round, I64 x.state, I64 x.cycle]]) rfl (r) rfl ?_)
      | (refine CallG.off ?_)
      | (with_reducible refine Or.inl ?_)
      | (simp only [thenS, blockS])
      | (with_reducible refine And.intro ?_ ?_)
      | (with_reducible exact True.intro)
      | (simp (dsimp := false) only [↓opsP_nil, ↓opsP_cons, ↓opsD_nil, ↓opsD_cons, ↓opP, ↓stepP, ↓stepG, go_sem, Bool.not_false]))
    all_goals (try (first | (intro hg; simp [hg]; done) | exact of_decide_eq_true rfl | (cases h; done)))
    (refine Fin.data (.inr rfl) (by simp (dsimp := false) only [↓opsP_nil, ↓opsP_cons, ↓opsD_nil, ↓opsD_cons, ↓opP, ↓stepP, ↓stepG, go_sem, resL]; rfl) (by simp only [and_self]) (by simp (dsimp := false) only [↓opsP_nil, ↓opsP_cons, ↓opsD_nil, ↓opsD_cons, ↓opP, ↓stepP, ↓stepG, go_sem, resP, Nat.le_refl, List.take_length]; try rfl) ?_)
    exact subD_refl _

/-- A cycle as an entity has it. -/
structure Part where
  cycle : Int
  currency : Int
  state : Int
  lines : List Line
deriving DecidableEq
def Part.cells (x : Part) : List D := [I64 x.cycle, I64 x.currency, I64 x.state, .slc 4 (linesD x.lines)]
def Part.d (x : Part) : D := .agg x.cells
def partsL (l : List Part) : List D := (l.map Part.cells).map .agg
/-- An entity's cycles. -/
structure VP where
  me : Int
  n : Int
  list : List Part
def VP.cells (p : VP) : List D := [I64 p.me, I64 p.n, .slc 4 (partsL p.list)]
def VP.d (p : VP) : D := .agg p.cells
theorem parts_len (l : List Part) : (partsL l).length = l.length := by simp [partsL]
theorem parts_get {l : List Part} {i : Nat} {x : Part} (h : l[i]? = some x) : (partsL l)[i]? = some (.agg [I64 x.cycle, I64 x.currency, I64 x.state, .slc 4 (linesD x.lines)]) := by simp [partsL, h, Part.cells]
theorem parts_one (l : List Part) : ∀ d ∈ partsL l, d.cells.all D.one = true := by
  intro d hd
  simp only [partsL, List.mem_map] at hd
  obtain ⟨_, ⟨x, _, rfl⟩, rfl⟩ := hd
  rfl
theorem parts_ins (l : List Part) (x : Part) (p : Nat) : partsL (l.take p ++ x :: l.drop p) = (partsL l).take p ++ x.d :: (partsL l).drop p := by simp [partsL, Part.d, List.map_take, List.map_drop]
theorem parts_set (l : List Part) (x : Part) (p : Nat) : partsL (l.set p x) = (partsL l).set p x.d := by simp [partsL, Part.d, List.map_set]
def cmpC (l : List Part) (n : Int) (i : Nat) : Int := match l[i]? with
  | some x => cmpI x.cycle n
  | none => 0
def posC (l : List Part) (n : Int) : Nat := bsLoop (cmpC l n) 0 l.length
def isC (l : List Part) (n : Int) : Bool := decide (posC l n < l.length) && (cmpC l n (posC l n) == 0)
def Part.zero : Part := ⟨0, 0, 0, []⟩
def getC (l : List Part) (n : Int) : Part := if isC l n = true then (l[posC l n]?).getD Part.zero else Part.zero
def putC (l : List Part) (x : Part) : List Part := if isC l x.cycle = true then l.set (posC l x.cycle) x else l.take (posC l x.cycle) ++ x :: l.drop (posC l x.cycle)
theorem posC_le (l : List Part) (n : Int) : posC l n ≤ l.length := bsLoop_le _ _ 0 l.length rfl (Nat.zero_le _)
theorem run132 (x : Part) (n : Int) : Runs Try.prog 132 [.d x.d, pint .i64 n] [] (pint .i64 (cmpI x.cycle n)) [] := by
  have r := run109 x.cycle n
  unfold cmpI Part.d Part.cells
  refine Runs.of (kit Try.prog) Try.func132 rfl rfl (by rw [Try.ntmps132]; exact of_decide_eq_true rfl) ?_; rw [Try.ntmps132, Try.results132]
  repeat' (first
    | ((first | refine Pwp.step (kit _) rfl fun K hK => ?_ | refine Pwp.last (kit _) rfl fun K hK => ?_ | refine Pwp.stepD (kit _) rfl rfl fun K hK => ?_ | refine Pwp.lastD (kit _) rfl rfl fun K hK => ?_); simp (dsimp := false) only [↓opsP_nil, ↓opsP_cons, ↓opsD_nil, ↓opsD_cons, ↓opP, ↓stepP, ↓stepG, go_sem])
    | (refine Pwp.seq ?_)
    | (refine Pwp.block ?_)
    | (refine Pwp.exit ?_; simp only [thenS, blockS, if_true, if_false, reduceIte, Nat.reduceEqDiff, Nat.add_one_ne_zero, reduceCtorEq])
    | (refine Pwp.skip ?_; simp only [thenS, blockS])
    | (refine Pwp.cond rfl True.intro (fun h => ?_) (fun h => ?_) <;> (try (cases h; done)) <;> (try simp only [h]))
    | (refine Pwp.ret ?_; try simp only [thenS, blockS])
    | (refine hK _ ?_; clear hK K)
    | (refine hK _ _ rfl ?_; clear hK K)
    | (refine CallK.toD (ds := [I64 x.cycle, I64 n]) rfl (r) rfl ?_)
    | (refine CallG.off ?_)
    | (with_reducible refine Or.inl ?_)
    | (simp only [thenS, blockS])
    | (with_reducible refine And.intro ?_ ?_)
    | (with_reducible exact True.intro)
    | (simp (dsimp := false) only [↓opsP_nil, ↓opsP_cons, ↓opsD_nil, ↓opsD_cons, ↓opP, ↓stepP, ↓stepG, go_sem]))
  all_goals (try (first | (intro hg; simp [hg]; done) | exact of_decide_eq_true rfl | (cases h; done)))
  (refine Fin.data (.inr rfl) (by simp (dsimp := false) only [↓opsP_nil, ↓opsP_cons, ↓opsD_nil, ↓opsD_cons, ↓opP, ↓stepP, ↓stepG, go_sem, resL]; rfl) (by simp only [and_self]) (by simp (dsimp := false) only [↓opsP_nil, ↓opsP_cons, ↓opsD_nil, ↓opsD_cons, ↓opP, ↓stepP, ↓stepG, go_sem, resP, Nat.le_refl, List.take_length]; try rfl) ?_)
  exact subD_refl _
theorem run229 (x : Part) (n : Int) : Runs Try.prog 229 [.d x.d, pint .i64 n] [] (pint .i64 (cmpI x.cycle n)) [] := by
  have r := run109 x.cycle n
  unfold cmpI Part.d Part.cells
  refine Runs.of (kit Try.prog) Try.func229 rfl rfl (by rw [Try.ntmps229]; exact of_decide_eq_true rfl) ?_; rw [Try.ntmps229, Try.results229]
  repeat' (first
    | ((first | refine Pwp.step (kit _) rfl fun K hK => ?_ | refine Pwp.last (kit _) rfl fun K hK => ?_ | refine Pwp.stepD (kit _) rfl rfl fun K hK => ?_ | refine Pwp.lastD (kit _) rfl rfl fun K hK => ?_); simp (dsimp := false) only [↓opsP_nil, ↓opsP_cons, ↓opsD_nil, ↓opsD_cons, ↓opP, ↓stepP, ↓stepG, go_sem])
    | (refine Pwp.seq ?_)
    | (refine Pwp.block ?_)
    | (refine Pwp.exit ?_; simp only [thenS, blockS, if_true, if_false, reduceIte, Nat.reduceEqDiff, Nat.add_one_ne_zero, reduceCtorEq])
    | (refine Pwp.skip ?_; simp only [thenS, blockS])
    | (refine Pwp.cond rfl True.intro (fun h => ?_) (fun h => ?_) <;> (try (cases h; done)) <;> (try simp only [h]))
    | (refine Pwp.ret ?_; try simp only [thenS, blockS])
    | (refine hK _ ?_; clear hK K)
    | (refine hK _ _ rfl ?_; clear hK K)
    | (refine CallK.toD (ds := [I64 x.cycle, I64 n]) rfl (r) rfl ?_)
    | (refine CallG.off ?_)
    | (with_reducible refine Or.inl ?_)
    | (simp only [thenS, blockS])
    | (with_reducible refine And.intro ?_ ?_)
    | (with_reducible exact True.intro)
    | (simp (dsimp := false) only [↓opsP_nil, ↓opsP_cons, ↓opsD_nil, ↓opsD_cons, ↓opP, ↓stepP, ↓stepG, go_sem]))
  all_goals (try (first | (intro hg; simp [hg]; done) | exact of_decide_eq_true rfl | (cases h; done)))
  (refine Fin.data (.inr rfl) (by simp (dsimp := false) only [↓opsP_nil, ↓opsP_cons, ↓opsD_nil, ↓opsD_cons, ↓opP, ↓stepP, ↓stepG, go_sem, resL]; rfl) (by simp only [and_self]) (by simp (dsimp := false) only [↓opsP_nil, ↓opsP_cons, ↓opsD_nil, ↓opsD_cons, ↓opP, ↓stepP, ↓stepG, go_sem, resP, Nat.le_refl, List.take_length]; try rfl) ?_)
  exact subD_refl _
theorem runFindC (g : Nat) (hg : ∀ (x : Part) (n : Int), Runs Try.prog g [.d x.d, pint .i64 n] [] (pint .i64 (cmpI x.cycle n)) []) (l : List Part) (n : Int) (hl : l.length ≤ 2000000) : Runs Try.prog 131 [.d (.slc 4 (partsL l)), pint .i64 n, .d (.v (.func (.func g) #[] #[]))] [] (.d (.tup [I64 (posC l n), .v (.bool (isC l n))])) [] := by
  have h := run131 (l.map Part.cells) n g (cmpC l n) (by intro x hx; obtain ⟨y, _, rfl⟩ := List.mem_map.1 hx; rfl) (by simp; omega) (by
    intro i x hx
    obtain ⟨y, hy, rfl⟩ : ∃ y, l[i]? = some y ∧ Part.cells y = x := by simpa using hx
    have : cmpC l n i = cmpI y.cycle n := by simp only [cmpC, hy]
    rw [this]; exact hg y n)
  simp only [List.length_map] at h
  exact h
def openC (x : Part) : Bool := x.state == 1 || x.state == 2 || x.state == 3
theorem run134 (x : Part) : Runs Try.prog 134 [.d x.d] [] (pbool (openC x)) [] := by
  unfold Part.d Part.cells openC
  refine Runs.of (kit Try.prog) Try.func134 rfl rfl (by rw [Try.ntmps134]; exact of_decide_eq_true rfl) ?_; rw [Try.ntmps134, Try.results134]
  repeat' (first
    | ((first | refine Pwp.step (kit _) rfl fun K hK => ?_ | refine Pwp.last (kit _) rfl fun K hK => ?_ | refine Pwp.stepD (kit _) rfl rfl fun K hK => ?_ | refine Pwp.lastD (kit _) rfl rfl fun K hK => ?_); simp (dsimp := false) only [↓opsP_nil, ↓opsP_cons, ↓opsD_nil, ↓opsD_cons, ↓opP, ↓stepP, ↓stepG, go_sem])
    | (refine Pwp.seq ?_)
    | (refine Pwp.block ?_)
    | (refine Pwp.exit ?_; simp only [thenS, blockS, if_true, if_false, reduceIte, Nat.reduceEqDiff, Nat.add_one_ne_zero, reduceCtorEq])
    | (refine Pwp.skip ?_; simp only [thenS, blockS])
    | (refine Pwp.cond rfl True.intro (fun h => ?_) (fun h => ?_) <;> (try (cases h; done)) <;> (try simp only [h]))
    | (refine Pwp.ret ?_; try simp only [thenS, blockS])
    | (refine hK _ ?_; clear hK K)
    | (refine hK _ _ rfl ?_; clear hK K)
    | (refine CallG.off ?_)
    | (with_reducible refine Or.inl ?_)
    | (simp only [thenS, blockS])
    | (with_reducible refine And.intro ?_ ?_)
    | (with_reducible exact True.intro)
    | (simp (dsimp := false) only [↓opsP_nil, ↓opsP_cons, ↓opsD_nil, ↓opsD_cons, ↓opP, ↓stepP, ↓stepG, go_sem]))
  all_goals (try (first | (intro hg; simp [hg]; done) | exact of_decide_eq_true rfl | (cases h; done)))
  (refine Fin.data (.inr rfl) (by simp (dsimp := false) only [↓opsP_nil, ↓opsP_cons, ↓opsD_nil, ↓opsD_cons, ↓opP, ↓stepP, ↓stepG, go_sem, resL]; rfl) (by simp only [and_self]) (by simp (dsimp := false) only [↓opsP_nil, ↓opsP_cons, ↓opsD_nil, ↓opsD_cons, ↓opP, ↓stepP, ↓stepG, go_sem, resP, Nat.le_refl, List.take_length]; try rfl) ?_)
  exact subD_refl _
set_option maxHeartbeats 8000000 in
theorem run74 (p : VP) (n : Int) (hl : p.list.length ≤ 1000000) (hll : ∀ x ∈ p.list, x.lines.length ≤ 1000000) : Runs Try.prog 74 [.d p.d, pint .i64 n] [] (.d (.tup [(getC p.list n).d, .v (.bool (isC p.list n))])) [] := by
  have r131 := runFindC 132 run132 p.list n (by omega)
  unfold VP.d VP.cells
  cases hin : isC p.list n with
  | false =>
    rw [hin] at r131
    unfold getC
    rw [hin, if_neg (by simp)]
    refine Runs.of (kit Try.prog) Try.func74 rfl rfl (by rw [Try.ntmps74]; exact of_decide_eq_true rfl) ?_; rw [Try.ntmps74, Try.results74]
    repeat' (first
      | ((first | refine Pwp.step (kit _) rfl fun K hK => ?_ | refine Pwp.last (kit _) rfl fun K hK => ?_ | refine Pwp.stepD (kit _) rfl rfl fun K hK => ?_ | refine Pwp.lastD (kit _) rfl rfl fun K hK => ?_); simp (dsimp := false) only [↓opsP_nil, ↓opsP_cons, ↓opsD_nil, ↓opsD_cons, ↓opP, ↓stepP, ↓stepG, go_sem, Bool.not_false])
      | (refine Pwp.seq ?_)
      | (refine Pwp.block ?_)
      | (refine Pwp.exit ?_; simp only [thenS, blockS, if_true, if_false, reduceIte, Nat.reduceEqDiff, Nat.add_one_ne_zero, reduceCtorEq])
      | (refine Pwp.skip ?_; simp only [thenS, blockS])
      | (refine Pwp.cond rfl True.intro (fun h => ?_) (fun h => ?_) <;> (try (cases h; done)) <;> (try simp only [h]))
      | (refine Pwp.ret ?_; try simp only [thenS, blockS])
      | (refine hK _ ?_; clear hK K)
      | (refine hK _ _ rfl ?_; clear hK K)
      | (refine CallK.toD (ds := [.slc 4 (partsL p.list), I64 n, .v (.func (.func 132) #[] #[])]) rfl (r131) rfl ?_)
      | (refine CallG.off ?_)
      | (with_reducible refine Or.inl ?_)
      | (simp only [thenS, blockS])
      | (with_reducible refine And.intro ?_ ?_)
      | (with_reducible exact True.intro)
      | (simp (dsimp := false) only [↓opsP_nil, ↓opsP_cons, ↓opsD_nil, ↓opsD_cons, ↓opP, ↓stepP, ↓stepG, go_sem, Bool.not_false]))
    all_goals (try (first | (intro hg; simp [hg]; done) | exact of_decide_eq_true rfl | (cases h; done)))
    (refine Fin.data (.inr rfl) (by simp (dsimp := false) only [↓opsP_nil, ↓opsP_cons, ↓opsD_nil, ↓opsD_cons, ↓opP, ↓stepP, ↓stepG, go_sem, resL]; rfl) (by simp only [and_self]) (by simp (dsimp := false) only [↓opsP_nil, ↓opsP_cons, ↓opsD_nil, ↓opsD_cons, ↓opP, ↓stepP, ↓stepG, go_sem, resP, Nat.le_refl, List.take_length]; try rfl) ?_)
    simp [subD, subL, subV, Part.zero, Part.d, Part.cells, linesD]
  | true =>
    rw [hin] at r131
    obtain ⟨y, hy⟩ : ∃ y, p.list[posC p.list n]? = some y := by
      unfold isC at hin
      simp only [Bool.and_eq_true, decide_eq_true_eq] at hin
      exact ⟨_, List.getElem?_eq_getElem hin.1⟩
    have e : getC p.list n = y := by unfold getC; rw [hin, if_pos rfl, hy]; rfl
    have hg := parts_get hy
    have hlt : posC p.list n < p.list.length := (List.getElem?_eq_some_iff.1 hy).1
    have hyl := hll y (List.mem_of_getElem? hy)
    have hylen := lines_len y.lines
    have r133 := run133 (linesD y.lines) (by intro d hd; obtain ⟨x, _, rfl⟩ := List.mem_map.1 hd; rfl) (by omega)
    rw [e]
    unfold Part.d Part.cells
    refine Runs.of (kit Try.prog) Try.func74 rfl rfl (by rw [Try.ntmps74]; exact of_decide_eq_true rfl) ?_; rw [Try.ntmps74, Try.results74]
    repeat' (first
      | ((first | refine Pwp.step (kit _) rfl fun K hK => ?_ | refine Pwp.last (kit _) rfl fun K hK => ?_ | refine Pwp.stepD (kit _) rfl rfl fun K hK => ?_ | refine Pwp.lastD (kit _) rfl rfl fun K hK => ?_); simp (dsimp := false) only [↓opsP_nil, ↓opsP_cons, ↓opsD_nil, ↓opsD_cons, ↓opP, ↓stepP, ↓stepG, go_sem, Bool.not_true, hg])
      | (refine Pwp.seq ?_)
      | (refine Pwp.block ?_)
      | (refine Pwp.exit ?_; simp only [thenS, blockS, if_true, if_false, reduceIte, Nat.reduceEqDiff, Nat.add_one_ne_zero, reduceCtorEq])
      | (refine Pwp.skip ?_; simp only [thenS, blockS])
      | (refine Pwp.cond rfl True.intro (fun h => ?_) (fun h => ?_) <;> (try (cases h; done)) <;> (try simp only [h]))
      | (refine Pwp.ret ?_; try simp only [thenS, blockS])
      | (refine hK _ ?_; clear hK K)
      | (refine hK _ _ rfl ?_; clear hK K)
      | (refine CallK.toD (ds := [.slc 4 (partsL p.list), I64 n, .v (.func (.func 132) #[] #[])]) rfl (r131) rfl ?_)
      | (refine CallK.give (ds := [.slc 4 (linesD y.lines)]) rfl (r133) (by simp) ?_)
      | (refine CallG.off ?_)
      | (with_reducible refine Or.inl ?_)
      | (simp only [thenS, blockS])
      | (with_reducible refine And.intro ?_ ?_)
      | (with_reducible exact True.intro)
      | (simp (dsimp := false) only [↓opsP_nil, ↓opsP_cons, ↓opsD_nil, ↓opsD_cons, ↓opP, ↓stepP, ↓stepG, go_sem, Bool.not_true, hg]))
    all_goals (try (first | (intro hg; simp [hg]; done) | exact of_decide_eq_true rfl | (cases h; done)))
    (refine Fin.data (.inr rfl) (by simp (dsimp := false) only [↓opsP_nil, ↓opsP_cons, ↓opsD_nil, ↓opsD_cons, ↓opP, ↓stepP, ↓stepG, go_sem, resL]; rfl) (by simp only [and_self]) (by simp (dsimp := false) only [↓opsP_nil, ↓opsP_cons, ↓opsD_nil, ↓opsD_cons, ↓opP, ↓stepP, ↓stepG, go_sem, resP, Nat.le_refl, List.take_length]; try rfl) ?_)
    exact subD_refl _
set_option maxHeartbeats 8000000 in
theorem run189 (p : VP) (x : Part) (hl : p.list.length ≤ 1000000) : Runs Try.prog 189 [.d p.d, .d x.d] [] (.d (VP.d { p with list := putC p.list x })) [] := by
  have r131 := runFindC 229 run229 p.list x.cycle (by omega)
  have hlen := parts_len p.list
  have hone := parts_one p.list
  have hp := posC_le p.list x.cycle
  have r230 := run230 (partsL p.list) hone (by omega)
  unfold VP.d VP.cells putC
  cases hin : isC p.list x.cycle with
  | false =>
    rw [hin] at r131
    have r231 := run231 (partsL p.list) x.d (posC p.list x.cycle) (by omega) hone rfl (by omega)
    rw [← parts_ins] at r231
    rw [if_neg (by simp)]
    unfold Part.d Part.cells at *
    refine Runs.of (kit Try.prog) Try.func189 rfl rfl (by rw [Try.ntmps189]; exact of_decide_eq_true rfl) ?_; rw [Try.ntmps189, Try.results189]
    repeat' (first
      | ((first | refine Pwp.step (kit _) rfl fun K hK => ?_ | refine Pwp.last (kit _) rfl fun K hK => ?_ | refine Pwp.stepD (kit _) rfl rfl fun K hK => ?_ | refine Pwp.lastD (kit _) rfl rfl fun K hK => ?_); simp (dsimp := false) only [↓opsP_nil, ↓opsP_cons, ↓opsD_nil, ↓opsD_cons, ↓opP, ↓stepP, ↓stepG, go_sem])
      | (refine Pwp.seq ?_)
      | (refine Pwp.block ?_)
      | (refine Pwp.exit ?_; simp only [thenS, blockS, if_true, if_false, reduceIte, Nat.reduceEqDiff, Nat.add_one_ne_zero, reduceCtorEq])
      | (refine Pwp.skip ?_; simp only [thenS, blockS])
      | (refine Pwp.cond rfl True.intro (fun h => ?_) (fun h => ?_) <;> (try (cases h; done)) <;> (try simp only [h]))
      | (refine Pwp.ret ?_; try simp only [thenS, blockS])
      | (refine hK _ ?_; clear hK K)
      | (refine hK _ _ rfl ?_; clear hK K)
      | (refine CallK.rows2 r231 rfl rfl (of_decide_eq_true rfl) (by simp) ?_)
      | (refine CallK.toD (ds := [.slc 4 (partsL p.list), I64 x.cycle, .v (.func (.func 229) #[] #[])]) rfl (r131) rfl ?_)
      | (refine CallK.give (ds := [.slc 4 (partsL p.list)]) rfl (r230) (by simp) ?_)
      | (refine CallG.off ?_)
      | (with_reducible refine Or.inl ?_)
      | (simp only [thenS, blockS])
      | (with_reducible refine And.intro ?_ ?_)
      | (with_reducible exact True.intro)
      | (simp (dsimp := false) only [↓opsP_nil, ↓opsP_cons, ↓opsD_nil, ↓opsD_cons, ↓opP, ↓stepP, ↓stepG, go_sem]))
    all_goals (try (first | (intro hg; simp [hg]; done) | exact of_decide_eq_true rfl | (cases h; done)))
    (refine Fin.data (.inr rfl) (by simp (dsimp := false) only [↓opsP_nil, ↓opsP_cons, ↓opsD_nil, ↓opsD_cons, ↓opP, ↓stepP, ↓stepG, go_sem, resL]; rfl) (by simp only [and_self]) (by simp (dsimp := false) only [↓opsP_nil, ↓opsP_cons, ↓opsD_nil, ↓opsD_cons, ↓opP, ↓stepP, ↓stepG, go_sem, resP, Nat.le_refl, List.take_length]; try rfl) ?_)
    exact subD_refl _
  | true =>
    rw [hin] at r131
    obtain ⟨y, hy⟩ : ∃ y, p.list[posC p.list x.cycle]? = some y := by
      unfold isC at hin
      simp only [Bool.and_eq_true, decide_eq_true_eq] at hin
      exact ⟨_, List.getElem?_eq_getElem hin.1⟩
    have hg := parts_get hy
    have hlt : posC p.list x.cycle < p.list.length := (List.getElem?_eq_some_iff.1 hy).1
    have hst := parts_set p.list x (posC p.list x.cycle)
    have htk : ∀ d', ((partsL p.list).set (posC p.list x.cycle) d').take p.list.length = (partsL p.list).set (posC p.list x.cycle) d' := fun d' => List.take_of_length_le (by simp [hlen])
    rw [if_pos rfl]
    unfold Part.d Part.cells at *
    refine Runs.of (kit Try.prog) Try.func189 rfl rfl (by rw [Try.ntmps189]; exact of_decide_eq_true rfl) ?_; rw [Try.ntmps189, Try.results189]
    repeat' (first
      | ((first | refine Pwp.step (kit _) rfl fun K hK => ?_ | refine Pwp.last (kit _) rfl fun K hK => ?_ | refine Pwp.stepD (kit _) rfl rfl fun K hK => ?_ | refine Pwp.lastD (kit _) rfl rfl fun K hK => ?_); simp (dsimp := false) only [↓opsP_nil, ↓opsP_cons, ↓opsD_nil, ↓opsD_cons, ↓opP, ↓stepP, ↓stepG, go_sem, hg])
      | (refine Pwp.seq ?_)
      | (refine Pwp.block ?_)
      | (refine Pwp.exit ?_; simp only [thenS, blockS, if_true, if_false, reduceIte, Nat.reduceEqDiff, Nat.add_one_ne_zero, reduceCtorEq])
      | (refine Pwp.skip ?_; simp only [thenS, blockS])
      | (refine Pwp.cond rfl True.intro (fun h => ?_) (fun h => ?_) <;> (try (cases h; done)) <;> (try simp only [h]))
      | (refine Pwp.ret ?_; try simp only [thenS, blockS])
      | (refine hK _ ?_; clear hK K)
      | (refine hK _ _ rfl ?_; clear hK K)
      | (refine CallK.toD (ds := [.slc 4 (partsL p.list), I64 x.cycle, .v (.func (.func 229) #[] #[])]) rfl (r131) rfl ?_)
      | (refine CallK.give (ds := [.slc 4 (partsL p.list)]) rfl (r230) (by simp) ?_)
      | (refine CallG.off ?_)
      | (with_reducible refine Or.inl ?_)
      | (simp only [thenS, blockS])
      | (with_reducible refine And.intro ?_ ?_)
      | (with_reducible exact True.intro)
      | (simp (dsimp := false) only [↓opsP_nil, ↓opsP_cons, ↓opsD_nil, ↓opsD_cons, ↓opP, ↓stepP, ↓stepG, go_sem, hg]))
    all_goals (try (first | (intro hg; simp [hg]; done) | exact of_decide_eq_true rfl | (cases h; done)))
    all_goals (try omega)
    (refine Fin.data (.inr rfl) (by simp (dsimp := false) only [↓opsP_nil, ↓opsP_cons, ↓opsD_nil, ↓opsD_cons, ↓opP, ↓stepP, ↓stepG, go_sem, resL, hlen, List.length_set, htk]; rfl) (by simp only [and_self]) (by simp (dsimp := false) only [↓opsP_nil, ↓opsP_cons, ↓opsD_nil, ↓opsD_cons, ↓opP, ↓stepP, ↓stepG, go_sem, resP, Nat.le_refl, List.take_length, hlen, List.length_set, htk]; try rfl) ?_)
    rw [hst]
    exact subD_refl _
theorem run186 (p : VP) (m : Msg) (h1 : m.lines = nilD ∨ ∃ q, m.lines = .slc 4 q) (h2 : m.nets = nilD) : Runs Try.prog 186 [.d p.d, .d m.d] [] (.d (.slc 12 [saidD p.n m])) [] := by
  unfold VP.d VP.cells Msg.d Msg.cells saidD Msg.cells
  rw [h2]
  rcases h1 with h1 | ⟨q, h1⟩ <;> rw [h1]
  · refine Runs.of (kit Try.prog) Try.func186 rfl rfl (by rw [Try.ntmps186]; exact of_decide_eq_true rfl) ?_; rw [Try.ntmps186, Try.results186]
    repeat' (first
      | ((first | refine Pwp.step (kit _) rfl fun K hK => ?_ | refine Pwp.last (kit _) rfl fun K hK => ?_ | refine Pwp.stepD (kit _) rfl rfl fun K hK => ?_ | refine Pwp.lastD (kit _) rfl rfl fun K hK => ?_); simp (dsimp := false) only [↓opsP_nil, ↓opsP_cons, ↓opsD_nil, ↓opsD_cons, ↓opP, ↓stepP, ↓stepG, go_sem])
      | (refine Pwp.seq ?_)
      | (refine Pwp.block ?_)
      | (refine Pwp.exit ?_; simp only [thenS, blockS, if_true, if_false, reduceIte, Nat.reduceEqDiff, Nat.add_one_ne_zero, reduceCtorEq])
      | (refine Pwp.skip ?_; simp only [thenS, blockS])
      | (refine Pwp.cond rfl True.intro (fun h => ?_) (fun h => ?_) <;> (try (cases h; done)) <;> (try simp only [h]))
      | (refine Pwp.ret ?_; try simp only [thenS, blockS])
      | (refine hK _ ?_; clear hK K)
      | (refine hK _ _ rfl ?_; clear hK K)
      | (refine CallG.off ?_)
      | (with_reducible refine Or.inl ?_)
      | (simp only [thenS, blockS])
      | (with_reducible refine And.intro ?_ ?_)
      | (with_reducible exact True.intro)
      | (simp (dsimp := false) only [↓opsP_nil, ↓opsP_cons, ↓opsD_nil, ↓opsD_cons, ↓opP, ↓stepP, ↓stepG, go_sem]))
    all_goals (try (first | (intro hg; simp [hg]; done) | exact of_decide_eq_true rfl | (cases h; done)))
    (refine Fin.data (.inr rfl) (by simp (dsimp := false) only [↓opsP_nil, ↓opsP_cons, ↓opsD_nil, ↓opsD_cons, ↓opP, ↓stepP, ↓stepG, go_sem, resL]; rfl) (by simp only [and_self]) (by simp (dsimp := false) only [↓opsP_nil, ↓opsP_cons, ↓opsD_nil, ↓opsD_cons, ↓opP, ↓stepP, ↓stepG, go_sem, resP, Nat.le_refl, List.take_length]; try rfl) ?_)
    exact subD_refl _
  · refine Runs.of (kit Try.prog) Try.func186 rfl rfl (by rw [Try.ntmps186]; exact of_decide_eq_true rfl) ?_; rw [Try.ntmps186, Try.results186]
    repeat' (first
      | ((first | refine Pwp.step (kit _) rfl fun K hK => ?_ | refine Pwp.last (kit _) rfl fun K hK => ?_ | refine Pwp.stepD (kit _) rfl rfl fun K hK => ?_ | refine Pwp.lastD (kit _) rfl rfl fun K hK => ?_); simp (dsimp := false) only [↓opsP_nil, ↓opsP_cons, ↓opsD_nil, ↓opsD_cons, ↓opP, ↓stepP, ↓stepG, go_sem])
      | (refine Pwp.seq ?_)
      | (refine Pwp.block ?_)
      | (refine Pwp.exit ?_; simp only [thenS, blockS, if_true, if_false, reduceIte, Nat.reduceEqDiff, Nat.add_one_ne_zero, reduceCtorEq])
      | (refine Pwp.skip ?_; simp only [thenS, blockS])
      | (refine Pwp.cond rfl True.intro (fun h => ?_) (fun h => ?_) <;> (try (cases h; done)) <;> (try simp only [h]))
      | (refine Pwp.ret ?_; try simp only [thenS, blockS])
      | (refine hK _ ?_; clear hK K)
      | (refine hK _ _ rfl ?_; clear hK K)
      | (refine CallG.off ?_)
      | (with_reducible refine Or.inl ?_)
      | (simp only [thenS, blockS])
      | (with_reducible refine And.intro ?_ ?_)
      | (with_reducible exact True.intro)
      | (simp (dsimp := false) only [↓opsP_nil, ↓opsP_cons, ↓opsD_nil, ↓opsD_cons, ↓opP, ↓stepP, ↓stepG, go_sem]))
    all_goals (try (first | (intro hg; simp [hg]; done) | exact of_decide_eq_true rfl | (cases h; done)))
    (refine Fin.data (.inr rfl) (by simp (dsimp := false) only [↓opsP_nil, ↓opsP_cons, ↓opsD_nil, ↓opsD_cons, ↓opP, ↓stepP, ↓stepG, go_sem, resL]; rfl) (by simp only [and_self]) (by simp (dsimp := false) only [↓opsP_nil, ↓opsP_cons, ↓opsD_nil, ↓opsD_cons, ↓opP, ↓stepP, ↓stepG, go_sem, resP, Nat.le_refl, List.take_length]; try rfl) ?_)
    exact subD_refl _
theorem items_at {l : List Item} {i : Nat} {x : Item} (h : l[i]? = some x) : (itemsD l)[i]? = some (.agg [I64 x.seller, I64 x.number, I64 x.buyer, I64 x.currency, I64 x.amount, I64 x.round, I64 x.state, I64 x.cycle]) := by simp [itemsD, h, Item.cells]
/-! ### Items of a book that are free, and that are locked -/
def Item.of : List D → Item
  | [.v (.int _ a), .v (.int _ b), .v (.int _ c), .v (.int _ d), .v (.int _ e), .v (.int _ f), .v (.int _ g), .v (.int _ h)] => ⟨a, b, c, d, e, f, g, h⟩
  | _ => Item.zero
theorem Item.of_cells (x : Item) : Item.of x.cells = x := rfl
def notFree (c : Int) (x : Item) : Bool := !(x.state == 3 && x.currency == c) || x.cycle != 0
def notHeld (c : Int) (x : Item) : Bool := x.state != 3 || x.cycle != c || c == 0
theorem run137 (x : Item) (c : Int) : Runs Try.prog 137 [.d x.d, .ref 0 0] [(0, .box [.d (I64 c)])] (pbool (notFree c x)) [(0, .box [.d (I64 c)])] := by
  have r := run117 x c
  unfold notFree
  generalize (x.state == 3 && x.currency == c) = b at *
  unfold Item.d Item.cells at *
  refine Runs.of (kit Try.prog) Try.func137 rfl rfl (by rw [Try.ntmps137]; exact of_decide_eq_true rfl) ?_; rw [Try.ntmps137, Try.results137]
  repeat' (first
    | ((first | refine Pwp.step (kit _) rfl fun K hK => ?_ | refine Pwp.last (kit _) rfl fun K hK => ?_ | refine Pwp.stepD (kit _) rfl rfl fun K hK => ?_ | refine Pwp.lastD (kit _) rfl rfl fun K hK => ?_); simp (dsimp := false) only [↓opsP_nil, ↓opsP_cons, ↓opsD_nil, ↓opsD_cons, ↓opP, ↓stepP, ↓stepG, go_sem])
    | (refine Pwp.seq ?_)
    | (refine Pwp.block ?_)
    | (refine Pwp.exit ?_; simp only [thenS, blockS, if_true, if_false, reduceIte, Nat.reduceEqDiff, Nat.add_one_ne_zero, reduceCtorEq])
    | (refine Pwp.skip ?_; simp only [thenS, blockS])
    | (refine Pwp.cond rfl True.intro (fun h => ?_) (fun h => ?_) <;> (try (cases h; done)) <;> (try simp only [h]))
    | (refine Pwp.ret ?_; try simp only [thenS, blockS])
    | (refine hK _ ?_; clear hK K)
    | (refine hK _ _ rfl ?_; clear hK K)
    | (refine CallK.toD (ds := [.agg [I64 x.seller, I64 x.number, I64 x.buyer, I64 x.currency, I64 x.amount, I64 x.round, I64 x.state, I64 x.cycle], I64 c]) rfl (r) rfl ?_)
    | (refine CallG.off ?_)
    | (with_reducible refine Or.inl ?_)
    | (simp only [thenS, blockS])
    | (with_reducible refine And.intro ?_ ?_)
    | (with_reducible exact True.intro)
    | (simp (dsimp := false) only [↓opsP_nil, ↓opsP_cons, ↓opsD_nil, ↓opsD_cons, ↓opP, ↓stepP, ↓stepG, go_sem]))
  all_goals (try (first | (intro hg; simp [hg]; done) | exact of_decide_eq_true rfl | (cases h; done)))
  (refine Fin.valV V0 (by first | exact .inr rfl | exact .inl rfl) (by simp (dsimp := false) only [↓opsP_nil, ↓opsP_cons, ↓opsD_nil, ↓opsD_cons, ↓opP, ↓stepP, ↓stepG, go_sem, resL]; rfl) (by simp only [and_self]) rfl (by simp [viewH, viewP, viewL, viewO, V0, V9, V9n, VR, VN, keptOf, find, PVal.toD, subD, subL, subV, subD_refl, viewL_ds, disj, PVal.ids, pnil, List.range, List.range.loop, V8]) (by simp [resP, toDL, idsL, viewH, viewP, viewL, viewO, V0, V9, V9n, VR, VN, keptOf, find, PVal.toD, subD, subL, subV, subD_refl, viewL_ds, disj, PVal.ids, pnil, List.range, List.range.loop, V8]))
theorem run136 (x : Item) (c : Int) : Runs Try.prog 136 [.d x.d, .ref 0 0] [(0, .box [.d (I64 c)])] (pbool (notHeld c x)) [(0, .box [.d (I64 c)])] := by
  unfold Item.d Item.cells notHeld
  refine Runs.of (kit Try.prog) Try.func136 rfl rfl (by rw [Try.ntmps136]; exact of_decide_eq_true rfl) ?_; rw [Try.ntmps136, Try.results136]
  repeat' (first
    | ((first | refine Pwp.step (kit _) rfl fun K hK => ?_ | refine Pwp.last (kit _) rfl fun K hK => ?_ | refine Pwp.stepD (kit _) rfl rfl fun K hK => ?_ | refine Pwp.lastD (kit _) rfl rfl fun K hK => ?_); simp (dsimp := false) only [↓opsP_nil, ↓opsP_cons, ↓opsD_nil, ↓opsD_cons, ↓opP, ↓stepP, ↓stepG, go_sem])
    | (refine Pwp.seq ?_)
    | (refine Pwp.block ?_)
    | (refine Pwp.exit ?_; simp only [thenS, blockS, if_true, if_false, reduceIte, Nat.reduceEqDiff, Nat.add_one_ne_zero, reduceCtorEq])
    | (refine Pwp.skip ?_; simp only [thenS, blockS])
    | (refine Pwp.cond rfl True.intro (fun h => ?_) (fun h => ?_) <;> (try (cases h; done)) <;> (try simp only [h]))
    | (refine Pwp.ret ?_; try simp only [thenS, blockS])
    | (refine hK _ ?_; clear hK K)
    | (refine hK _ _ rfl ?_; clear hK K)
    | (refine CallG.off ?_)
    | (with_reducible refine Or.inl ?_)
    | (simp only [thenS, blockS])
    | (with_reducible refine And.intro ?_ ?_)
    | (with_reducible exact True.intro)
    | (simp (dsimp := false) only [↓opsP_nil, ↓opsP_cons, ↓opsD_nil, ↓opsD_cons, ↓opP, ↓stepP, ↓stepG, go_sem]))
  all_goals (try (first | (intro hg; simp [hg]; done) | exact of_decide_eq_true rfl | (cases h; done)))
  (refine Fin.valV V0 (by first | exact .inr rfl | exact .inl rfl) (by simp (dsimp := false) only [↓opsP_nil, ↓opsP_cons, ↓opsD_nil, ↓opsD_cons, ↓opP, ↓stepP, ↓stepG, go_sem, resL]; rfl) (by simp only [and_self]) rfl (by simp [viewH, viewP, viewL, viewO, V0, V9, V9n, VR, VN, keptOf, find, PVal.toD, subD, subL, subV, subD_refl, viewL_ds, disj, PVal.ids, pnil, List.range, List.range.loop, V8]) (by simp [resP, toDL, idsL, viewH, viewP, viewL, viewO, V0, V9, V9n, VR, VN, keptOf, find, PVal.toD, subD, subL, subV, subD_refl, viewL_ds, disj, PVal.ids, pnil, List.range, List.range.loop, V8]))
theorem keep_cells (pr : Item → Bool) (l : List Item) : keepF (fun cs => pr (Item.of cs)) (l.map Item.cells) = (keepF pr l).map Item.cells := by
  unfold keepF; rw [List.filter_map]; rfl
theorem cells_all (l : List Item) : (∀ x ∈ l.map Item.cells, x.length = 8) ∧ ∀ x ∈ l.map Item.cells, x.all D.one = true :=
  ⟨by intro x hx; obtain ⟨y, _, rfl⟩ := List.mem_map.1 hx; rfl, by intro x hx; obtain ⟨y, _, rfl⟩ := List.mem_map.1 hx; rfl⟩
/-- What is left of a list of items, and what lies behind it. -/
def doneI (pr : Item → Bool) (l : List Item) : List D := (doneF (fun cs => pr (Item.of cs)) [I64 0, I64 0, I64 0, I64 0, I64 0, I64 0, I64 0, I64 0] (l.map Item.cells)).map .agg
theorem doneI_take (pr : Item → Bool) (l : List Item) : (doneI pr l).take (keepF pr l).length = itemsD (keepF pr l) := by
  have h := doneF_take (fun cs => pr (Item.of cs)) [I64 0, I64 0, I64 0, I64 0, I64 0, I64 0, I64 0, I64 0] (l.map Item.cells)
  rw [keep_cells] at h
  simp only [List.length_map] at h
  unfold doneI itemsD
  rw [← List.map_take, h]
theorem doneI_len (pr : Item → Bool) (l : List Item) : (keepF pr l).length ≤ (doneI pr l).length := by
  unfold doneI doneF
  rw [keep_cells]
  simp only [List.length_map, List.length_append]; omega
theorem runDel (pr : Item → Bool) (g : Nat) (c : Int) (hg : ∀ x : Item, Runs Try.prog g [.d x.d, .ref 0 0] [(0, .box [.d (I64 c)])] (pbool (pr x)) [(0, .box [.d (I64 c)])]) (l : List Item) (hl : l.length ≤ 1000000) :
    Runs Try.prog 135 [.own 0 0 8 0 l.length, .clo (.func g) [] [.ref 1 0]] [(0, .arr 70 8 0 none (itemsD l)), (1, .box [.d (I64 c)])] (.own 0 0 8 0 (keepF pr l).length) [(0, .arr 70 8 0 none (doneI pr l)), (1, .box [.d (I64 c)])] := by
  have h := run135 (l.map Item.cells) (fun cs => pr (Item.of cs)) g c (cells_all l).1 (cells_all l).2 (by simpa using hl) (by
    intro x hx
    obtain ⟨y, _, rfl⟩ := List.mem_map.1 hx
    rw [Item.of_cells]; exact hg y)
  rw [keep_cells] at h
  simp only [List.length_map] at h
  exact h
set_option maxHeartbeats 8000000 in
theorem run78 (me c : Int) (l : List Item) (os : List D) (hl : l.length ≤ 1000000) : Runs Try.prog 78 [.d (bookD me l os), pint .i64 c] [] (.d (.slc 8 (itemsD (keepF (notFree c) l)))) [] := by
  have htk := doneI_take (notFree c) l
  have hle := doneI_len (notFree c) l
  have hlen := items_len l
  have r115 := run115 (itemsD l) (items_one l) (by omega)
  rw [hlen] at r115
  have r135 := runDel (notFree c) 137 c (fun x => run137 x c) l hl
  unfold bookD
  refine Runs.of (kit Try.prog) Try.func78 rfl rfl (by rw [Try.ntmps78]; exact of_decide_eq_true rfl) ?_; rw [Try.ntmps78, Try.results78]
  repeat' (first
    | ((first | refine Pwp.step (kit _) rfl fun K hK => ?_ | refine Pwp.last (kit _) rfl fun K hK => ?_ | refine Pwp.stepD (kit _) rfl rfl fun K hK => ?_ | refine Pwp.lastD (kit _) rfl rfl fun K hK => ?_); simp (dsimp := false) only [↓opsP_nil, ↓opsP_cons, ↓opsD_nil, ↓opsD_cons, ↓opP, ↓stepP, ↓stepG, go_sem])
    | (refine Pwp.seq ?_)
    | (refine Pwp.block ?_)
    | (refine Pwp.exit ?_; simp only [thenS, blockS, if_true, if_false, reduceIte, Nat.reduceEqDiff, Nat.add_one_ne_zero, reduceCtorEq])
    | (refine Pwp.skip ?_; simp only [thenS, blockS])
    | (refine Pwp.cond rfl True.intro (fun h => ?_) (fun h => ?_) <;> (try (cases h; done)) <;> (try simp only [h]))
    | (refine Pwp.ret ?_; try simp only [thenS, blockS])
    | (refine hK _ ?_; clear hK K)
    | (refine hK _ _ rfl ?_; clear hK K)
    | (refine CallK.rowClo135 (cs := [I64 c]) r135 rfl rfl (of_decide_eq_true rfl) (by simp) ?_)
    | (refine CallK.give (ds := [.slc 8 (itemsD l)]) rfl (r115) (by simp) ?_)
    | (refine CallG.off ?_)
    | (with_reducible refine Or.inl ?_)
    | (simp only [thenS, blockS])
    | (with_reducible refine And.intro ?_ ?_)
    | (with_reducible exact True.intro)
    | (simp (dsimp := false) only [↓opsP_nil, ↓opsP_cons, ↓opsD_nil, ↓opsD_cons, ↓opP, ↓stepP, ↓stepG, go_sem]))
  all_goals (try (first | (intro hg; simp [hg]; done) | exact of_decide_eq_true rfl | (cases h; done)))
  (refine Fin.data (.inr rfl) (by simp (dsimp := false) only [↓opsP_nil, ↓opsP_cons, ↓opsD_nil, ↓opsD_cons, ↓opP, ↓stepP, ↓stepG, go_sem, resL, htk, hle]; rfl) (by simp only [and_self]) (by simp (dsimp := false) only [↓opsP_nil, ↓opsP_cons, ↓opsD_nil, ↓opsD_cons, ↓opP, ↓stepP, ↓stepG, go_sem, resP, Nat.le_refl, List.take_length, htk, hle]; try rfl) ?_)
  exact subD_refl _
set_option maxHeartbeats 8000000 in
theorem run77 (me c : Int) (l : List Item) (os : List D) (hl : l.length ≤ 1000000) : Runs Try.prog 77 [.d (bookD me l os), pint .i64 c] [] (.d (.slc 8 (itemsD (keepF (notHeld c) l)))) [] := by
  have htk := doneI_take (notHeld c) l
  have hle := doneI_len (notHeld c) l
  have hlen := items_len l
  have r115 := run115 (itemsD l) (items_one l) (by omega)
  rw [hlen] at r115
  have r135 := runDel (notHeld c) 136 c (fun x => run136 x c) l hl
  unfold bookD
  refine Runs.of (kit Try.prog) Try.func77 rfl rfl (by rw [Try.ntmps77]; exact of_decide_eq_true rfl) ?_; rw [Try.ntmps77, Try.results77]
  repeat' (first
    | ((first | refine Pwp.step (kit _) rfl fun K hK => ?_ | refine Pwp.last (kit _) rfl fun K hK => ?_ | refine Pwp.stepD (kit _) rfl rfl fun K hK => ?_ | refine Pwp.lastD (kit _) rfl rfl fun K hK => ?_); simp (dsimp := false) only [↓opsP_nil, ↓opsP_cons, ↓opsD_nil, ↓opsD_cons, ↓opP, ↓stepP, ↓stepG, go_sem])
    | (refine Pwp.seq ?_)
    | (refine Pwp.block ?_)
    | (refine Pwp.exit ?_; simp only [thenS, blockS, if_true, if_false, reduceIte, Nat.reduceEqDiff, Nat.add_one_ne_zero, reduceCtorEq])
    | (refine Pwp.skip ?_; simp only [thenS, blockS])
    | (refine Pwp.cond rfl True.intro (fun h => ?_) (fun h => ?_) <;> (try (cases h; done)) <;> (try simp only [h]))
    | (refine Pwp.ret ?_; try simp only [thenS, blockS])
    | (refine hK _ ?_; clear hK K)
    | (refine hK _ _ rfl ?_; clear hK K)
    | (refine CallK.rowClo135 (cs := [I64 c]) r135 rfl rfl (of_decide_eq_true rfl) (by simp) ?_)
    | (refine CallK.give (ds := [.slc 8 (itemsD l)]) rfl (r115) (by simp) ?_)
    | (refine CallG.off ?_)
    | (with_reducible refine Or.inl ?_)
    | (simp only [thenS, blockS])
    | (with_reducible refine And.intro ?_ ?_)
    | (with_reducible exact True.intro)
    | (simp (dsimp := false) only [↓opsP_nil, ↓opsP_cons, ↓opsD_nil, ↓opsD_cons, ↓opP, ↓stepP, ↓stepG, go_sem]))
  all_goals (try (first | (intro hg; simp [hg]; done) | exact of_decide_eq_true rfl | (cases h; done)))
  (refine Fin.data (.inr rfl) (by simp (dsimp := false) only [↓opsP_nil, ↓opsP_cons, ↓opsD_nil, ↓opsD_cons, ↓opP, ↓stepP, ↓stepG, go_sem, resL, htk, hle]; rfl) (by simp only [and_self]) (by simp (dsimp := false) only [↓opsP_nil, ↓opsP_cons, ↓opsD_nil, ↓opsD_cons, ↓opP, ↓stepP, ↓stepG, go_sem, resP, Nat.le_refl, List.take_length, htk, hle]; try rfl) ?_)
  exact subD_refl _

end Go.Proofs.Ytdodgbhodkcckaa.Pv
