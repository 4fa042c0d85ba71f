/- Walks of vectors. -/
import Derived.Test.YtdodgbhodkcckaaPwh
import Derived.Test.YtdodgbhodkcckaaPzv
set_option linter.unusedVariables false
set_option linter.unusedSimpArgs false
set_option autoImplicit false
set_option maxRecDepth 100000
namespace Go.Proofs.Ytdodgbhodkcckaa.Pv
open Go Go.RowKit

def Pos.cells (p : Pos) : List D := [I64 p.e, I64 p.c, I64 p.a]
def Pos.d (p : Pos) : D := .agg p.cells
def posD (l : List Pos) : List D := (l.map Pos.cells).map .agg
def vecD (l : List Pos) : D := .agg [.slc 3 (posD l)]
/-- How two positions stand, to the machine. -/
def cmpW (p q : Pos) : Int := if p.e ≠ q.e then IntKind.i64.wrap (p.e - q.e) else IntKind.i64.wrap (p.c - q.c)
def cmpAtV (l : List Pos) (q : Pos) (i : Nat) : Int := match l[i]? with
  | some p => cmpW p q
  | none => 0
def posV (l : List Pos) (q : Pos) : Nat := bsLoop (cmpAtV l q) 0 l.length
def isInV (l : List Pos) (q : Pos) : Bool := decide (posV l q < l.length) && (cmpAtV l q (posV l q) == 0)

theorem run97 (p q : Pos) : Runs Try.prog 97 [.d p.d, .d q.d] [] (pint .i64 (cmpW p q)) [] := by
  unfold Pos.d Pos.cells I64
  refine Runs.of (kit Try.prog) Try.func97 rfl rfl (by rw [Try.ntmps97]; exact of_decide_eq_true rfl) ?_; rw [Try.ntmps97, Try.results97]
  repeat' (first
    | ((first | refine Pwp.step (kit _) rfl fun K hK => ?_ | refine Pwp.last (kit _) rfl fun K hK => ?_ | refine Pwp.stepD (kit _) rfl rfl fun K hK => ?_ | refine Pwp.lastD (kit _) rfl rfl fun K hK => ?_); simp (dsimp := false) only [↓opsP_nil, ↓opsP_cons, ↓opsD_nil, ↓opsD_cons, footOf, ↓opP, ↓stepP, ↓stepG, go_sem, reduceIte, Nat.reduceAdd, Nat.reduceMul, Nat.reduceEqDiff, Nat.reduceLT, Nat.reduceLeDiff, Nat.reduceSub, reduceCtorEq, Int.reduceToNat, Int.reduceAdd, Int.reduceSub, Int.reduceLT, Int.reduceLE, Int.reduceNeg, Int.reduceBEq, Int.reduceBNe, true_or])
    | (refine Pwp.seq ?_)
    | (refine Pwp.block ?_)
    | (refine Pwp.exit ?_; simp only [thenS, blockS, if_true, if_false, reduceIte, Nat.reduceEqDiff, Nat.add_one_ne_zero, reduceCtorEq])
    | (refine Pwp.skip ?_; simp only [thenS, blockS])
    | (refine Pwp.cond rfl True.intro (fun h => ?_) (fun h => ?_) <;> (try (cases h; done)) <;> (try simp only [h]))
    | (refine Pwp.ret ?_; try simp only [thenS, blockS])
    | (refine hK _ ?_; clear hK K)
    | (refine hK _ _ rfl ?_; clear hK K)
    | (refine CallG.off ?_)
    | (with_reducible refine Or.inl ?_)
    | (simp only [thenS, blockS])
    | (with_reducible refine And.intro ?_ ?_)
    | (with_reducible exact True.intro)
    | (simp (dsimp := false) only [↓opsP_nil, ↓opsP_cons, ↓opsD_nil, ↓opsD_cons, footOf, ↓opP, ↓stepP, ↓stepG, go_sem, reduceIte, Nat.reduceAdd, Nat.reduceMul, Nat.reduceEqDiff, Nat.reduceLT, Nat.reduceLeDiff, Nat.reduceSub, reduceCtorEq, Int.reduceToNat, Int.reduceAdd, Int.reduceSub, Int.reduceLT, Int.reduceLE, Int.reduceNeg, Int.reduceBEq, Int.reduceBNe, true_or]))
  all_goals (try (first | (intro hg; simp_all; done) | (intro hg; simp [hg]; done) | exact of_decide_eq_true rfl | (cases h; done)))
  all_goals (refine Fin.data (.inr rfl) rfl ⟨True.intro, True.intro⟩ rfl ?_)
  · rw [show cmpW p q = _ from if_pos (by simpa using h)]; exact subD_refl _
  · rw [show cmpW p q = _ from if_neg (by simpa using h)]; exact subD_refl _

theorem runFindV (l : List Pos) (q : Pos) (hl : l.length ≤ 2000000) : Runs Try.prog 96 [.d (.slc 3 (posD l)), .d q.d, .d (.v (.func (.func 97) #[] #[]))] [] (.d (.tup [I64 (posV l q), .v (.bool (isInV l q))])) [] := by
  have h := run96 (l.map Pos.cells) q.cells 97 (cmpAtV l q) (by intro x hx; obtain ⟨y, _, rfl⟩ := List.mem_map.1 hx; rfl) rfl (by simp; omega) (by
    intro i x hx
    obtain ⟨y, hy, rfl⟩ : ∃ y, l[i]? = some y ∧ Pos.cells y = x := by simpa using hx
    have : cmpAtV l q i = cmpW y q := by simp only [cmpAtV, hy]
    rw [this]; exact run97 y q)
  simp only [List.length_map] at h
  exact h
theorem pos_len (l : List Pos) : (posD l).length = l.length := by simp [posD]
theorem pos_one (l : List Pos) : ∀ d ∈ posD l, d.cells.all D.one = true := by
  intro d hd
  simp only [posD, List.mem_map] at hd
  obtain ⟨_, ⟨x, _, rfl⟩, rfl⟩ := hd
  rfl
theorem posV_le (l : List Pos) (q : Pos) : posV l q ≤ l.length := bsLoop_le _ _ 0 l.length rfl (Nat.zero_le _)

def P0 : D := .agg [I64 0, I64 0, I64 0]
set_option maxHeartbeats 8000000 in
theorem run100 (els : List D) (i : Nat) (hi : i < els.length) (ho : ∀ d ∈ els, d.cells.all D.one = true) (hm : els.length ≤ 1000000) :
    Runs Try.prog 100 [.own 0 0 3 0 els.length, pint .i64 i, pint .i64 (i + 1 : Nat)] [(0, .arr 42 3 0 none els)] (.own 8 0 3 0 (els.length - 1)) [(8, .arr 42 3 0 none (els.take i ++ els.drop (i + 1) ++ [P0]))] := by
  refine Runs.of (kit Try.prog) Try.func100 rfl rfl (by rw [Try.ntmps100]; exact of_decide_eq_true rfl) ?_; rw [Try.ntmps100, Try.results100]
  refine Pwp.room (id := 0) rfl fun r hr hr2 => ?_
  simp only [St.start, upd, if_true, List.length, List.range, List.range.loop, List.zip, List.zipWith, reduceIte]
  have hne : ((i : Int) == ((i + 1 : Nat) : Int)) = false := by simp; omega
  have w5 : i + 1 + (els.length - (i + 1)) ≤ els.length := by omega
  have w1 : els.length - (i + 1) + i = els.length - 1 := by omega
  have w2 : i + (els.length - (i + 1)) = els.length - 1 := by omega
  have w3 : (els.drop (i + 1)).take (els.length - (i + 1)) = els.drop (i + 1) := take_drop_all _ _ _ (Nat.le_refl _)
  have w4 : els.length - (els.length - 1) = 1 := by omega
  repeat' (first
    | ((first | refine Pwp.step (kit _) rfl fun K hK => ?_ | refine Pwp.last (kit _) rfl fun K hK => ?_ | refine Pwp.stepD (kit _) rfl rfl fun K hK => ?_ | refine Pwp.lastD (kit _) rfl rfl fun K hK => ?_); simp (dsimp := false) only [↓opsP_nil, ↓opsP_cons, ↓opsD_nil, ↓opsD_cons, footOf, ↓opP, ↓stepP, ↓stepG, go_sem, reduceIte, Nat.reduceAdd, Nat.reduceMul, Nat.reduceEqDiff, Nat.reduceLT, Nat.reduceLeDiff, Nat.reduceSub, reduceCtorEq, Int.reduceToNat, Int.reduceAdd, Int.reduceSub, Int.reduceLT, Int.reduceLE, Int.reduceNeg, Int.reduceBEq, Int.reduceBNe, true_or, hne, w1, w2, w3, w4, w5, List.length_drop])
    | (refine Pwp.seq ?_)
    | (refine Pwp.block ?_)
    | (refine Pwp.exit ?_; simp only [thenS, blockS, if_true, if_false, reduceIte, Nat.reduceEqDiff, Nat.add_one_ne_zero, reduceCtorEq])
    | (refine Pwp.skip ?_; simp only [thenS, blockS])
    | (refine Pwp.cond rfl True.intro (fun h => ?_) (fun h => ?_) <;> (try (cases h; done)) <;> (try simp only [h]))
    | (refine Pwp.ret ?_; try simp only [thenS, blockS])
    | (refine hK _ ?_; clear hK K)
    | (refine hK _ _ rfl ?_; clear hK K)
    | (with_reducible refine Or.inr ?_)
    | (refine CallG.off ?_)
    | (with_reducible refine Or.inl ?_)
    | (simp only [thenS, blockS])
    | (with_reducible refine And.intro ?_ ?_)
    | (with_reducible exact True.intro)
    | (simp (dsimp := false) only [↓opsP_nil, ↓opsP_cons, ↓opsD_nil, ↓opsD_cons, footOf, ↓opP, ↓stepP, ↓stepG, go_sem, reduceIte, Nat.reduceAdd, Nat.reduceMul, Nat.reduceEqDiff, Nat.reduceLT, Nat.reduceLeDiff, Nat.reduceSub, reduceCtorEq, Int.reduceToNat, Int.reduceAdd, Int.reduceSub, Int.reduceLT, Int.reduceLE, Int.reduceNeg, Int.reduceBEq, Int.reduceBNe, true_or, hne, w1, w2, w3, w4, w5, List.length_drop]))
  all_goals (try (first | (intro hg; simp_all; done) | (intro hg; simp [hg]; done) | exact of_decide_eq_true rfl | (cases h; done)))
  all_goals (try (first | omega | (simp [maxLen]; omega) | (simp; omega) | (simp; done) | exact fun d hd => ho d (List.mem_of_mem_drop hd)))
  rw [← del_done (z := P0) hi]
  exact Fin.rowL (.inr rfl) rfl ⟨True.intro, True.intro⟩ rfl

theorem pos_ins (l : List Pos) (x : Pos) (p : Nat) : posD (l.take p ++ x :: l.drop p) = (posD l).take p ++ x.d :: (posD l).drop p := by simp [posD, Pos.d, List.map_take, List.map_drop]
theorem pos_set (l : List Pos) (x : Pos) (p : Nat) : posD (l.set p x) = (posD l).set p x.d := by simp [posD, Pos.d, List.map_set]
theorem pos_del (l : List Pos) (p : Nat) : posD (l.take p ++ l.drop (p + 1)) = (posD l).take p ++ (posD l).drop (p + 1) := by simp [posD, List.map_take, List.map_drop]

/-- What an entity has of a currency, to the machine. -/
def hasV (l : List Pos) (e c : Int) : Int := if isInV l ⟨e, c, 0⟩ = true then (match l[posV l ⟨e, c, 0⟩]? with | some p => p.a | none => 0) else 0
set_option maxHeartbeats 8000000 in
theorem run36 (l : List Pos) (e c : Int) (hl : l.length ≤ 1000000) : Runs Try.prog 36 [.d (vecD l), pint .i64 e, pint .i64 c] [] (pint .i64 (hasV l e c)) [] := by
  have hlen := pos_len l
  cases hin : isInV l ⟨e, c, 0⟩ with
  | false =>
    unfold vecD
    refine Runs.of (kit Try.prog) Try.func36 rfl rfl (by rw [Try.ntmps36]; exact of_decide_eq_true rfl) ?_; rw [Try.ntmps36, Try.results36]
    repeat' (first
      | ((first | refine Pwp.step (kit _) rfl fun K hK => ?_ | refine Pwp.last (kit _) rfl fun K hK => ?_ | refine Pwp.stepD (kit _) rfl rfl fun K hK => ?_ | refine Pwp.lastD (kit _) rfl rfl fun K hK => ?_); simp (dsimp := false) only [↓opsP_nil, ↓opsP_cons, ↓opsD_nil, ↓opsD_cons, footOf, ↓opP, ↓stepP, ↓stepG, go_sem, reduceIte, Nat.reduceAdd, Nat.reduceMul, Nat.reduceEqDiff, Nat.reduceLT, Nat.reduceLeDiff, Nat.reduceSub, reduceCtorEq, Int.reduceToNat, Int.reduceAdd, Int.reduceSub, Int.reduceLT, Int.reduceLE, Int.reduceNeg, Int.reduceBEq, Int.reduceBNe, true_or, hin])
      | (refine Pwp.seq ?_)
      | (refine Pwp.block ?_)
      | (refine Pwp.exit ?_; simp only [thenS, blockS, if_true, if_false, reduceIte, Nat.reduceEqDiff, Nat.add_one_ne_zero, reduceCtorEq])
      | (refine Pwp.skip ?_; simp only [thenS, blockS])
      | (refine Pwp.cond rfl True.intro (fun h => ?_) (fun h => ?_) <;> (try (cases h; done)) <;> (try simp only [h]))
      | (refine Pwp.ret ?_; try simp only [thenS, blockS])
      | (refine hK _ ?_; clear hK K)
      | (refine hK _ _ rfl ?_; clear hK K)
      | (refine CallK.toD (ds := [.slc 3 (posD l), Pos.d ⟨e, c, 0⟩, .v (.func (.func 97) #[] #[])]) rfl (runFindV l ⟨e, c, 0⟩ (by omega)) rfl ?_)
      | (refine CallG.off ?_)
      | (with_reducible refine Or.inl ?_)
      | (simp only [thenS, blockS])
      | (with_reducible refine And.intro ?_ ?_)
      | (with_reducible exact True.intro)
      | (simp (dsimp := false) only [↓opsP_nil, ↓opsP_cons, ↓opsD_nil, ↓opsD_cons, footOf, ↓opP, ↓stepP, ↓stepG, go_sem, reduceIte, Nat.reduceAdd, Nat.reduceMul, Nat.reduceEqDiff, Nat.reduceLT, Nat.reduceLeDiff, Nat.reduceSub, reduceCtorEq, Int.reduceToNat, Int.reduceAdd, Int.reduceSub, Int.reduceLT, Int.reduceLE, Int.reduceNeg, Int.reduceBEq, Int.reduceBNe, true_or, hin]))
    all_goals (try (first | (intro hg; simp_all; done) | (intro hg; simp [hg]; done) | exact of_decide_eq_true rfl | (cases h; done)))
    all_goals ((refine Fin.data (.inr rfl) (by simp (dsimp := false) only [↓opsP_nil, ↓opsP_cons, ↓opsD_nil, ↓opsD_cons, footOf, ↓opP, ↓stepP, ↓stepG, go_sem, reduceIte, Nat.reduceAdd, Nat.reduceMul, Nat.reduceEqDiff, Nat.reduceLT, Nat.reduceLeDiff, Nat.reduceSub, reduceCtorEq, Int.reduceToNat, Int.reduceAdd, Int.reduceSub, Int.reduceLT, Int.reduceLE, Int.reduceNeg, Int.reduceBEq, Int.reduceBNe, true_or, resL]; rfl) (by simp only [and_self]) (by simp (dsimp := false) only [↓opsP_nil, ↓opsP_cons, ↓opsD_nil, ↓opsD_cons, footOf, ↓opP, ↓stepP, ↓stepG, go_sem, reduceIte, Nat.reduceAdd, Nat.reduceMul, Nat.reduceEqDiff, Nat.reduceLT, Nat.reduceLeDiff, Nat.reduceSub, reduceCtorEq, Int.reduceToNat, Int.reduceAdd, Int.reduceSub, Int.reduceLT, Int.reduceLE, Int.reduceNeg, Int.reduceBEq, Int.reduceBNe, true_or, resP, Nat.le_refl, List.take_length]; try rfl) ?_))
    all_goals (rw [show hasV l e c = 0 from by simp [hasV, hin]]; exact subD_refl _)
  | true =>
    obtain ⟨y, hy⟩ : ∃ y, l[posV l ⟨e, c, 0⟩]? = some y := by
      unfold isInV at hin
      simp only [Bool.and_eq_true, decide_eq_true_eq] at hin
      exact ⟨_, List.getElem?_eq_getElem hin.1⟩
    have hg : (posD l)[posV l ⟨e, c, 0⟩]? = some y.d := by simp [posD, hy, Pos.d]
    have hlt : posV l ⟨e, c, 0⟩ < l.length := (List.getElem?_eq_some_iff.1 hy).1
    have hge : hasV l e c = y.a := by simp [hasV, hin, hy]
    unfold vecD Pos.d Pos.cells I64 at *
    refine Runs.of (kit Try.prog) Try.func36 rfl rfl (by rw [Try.ntmps36]; exact of_decide_eq_true rfl) ?_; rw [Try.ntmps36, Try.results36]
    repeat' (first
      | ((first | refine Pwp.step (kit _) rfl fun K hK => ?_ | refine Pwp.last (kit _) rfl fun K hK => ?_ | refine Pwp.stepD (kit _) rfl rfl fun K hK => ?_ | refine Pwp.lastD (kit _) rfl rfl fun K hK => ?_); simp (dsimp := false) only [↓opsP_nil, ↓opsP_cons, ↓opsD_nil, ↓opsD_cons, footOf, ↓opP, ↓stepP, ↓stepG, go_sem, reduceIte, Nat.reduceAdd, Nat.reduceMul, Nat.reduceEqDiff, Nat.reduceLT, Nat.reduceLeDiff, Nat.reduceSub, reduceCtorEq, Int.reduceToNat, Int.reduceAdd, Int.reduceSub, Int.reduceLT, Int.reduceLE, Int.reduceNeg, Int.reduceBEq, Int.reduceBNe, true_or, hin, hg])
      | (refine Pwp.seq ?_)
      | (refine Pwp.block ?_)
      | (refine Pwp.exit ?_; simp only [thenS, blockS, if_true, if_false, reduceIte, Nat.reduceEqDiff, Nat.add_one_ne_zero, reduceCtorEq])
      | (refine Pwp.skip ?_; simp only [thenS, blockS])
      | (refine Pwp.cond rfl True.intro (fun h => ?_) (fun h => ?_) <;> (try (cases h; done)) <;> (try simp only [h]))
      | (refine Pwp.ret ?_; try simp only [thenS, blockS])
      | (refine hK _ ?_; clear hK K)
      | (refine hK _ _ rfl ?_; clear hK K)
      | (refine CallK.toD (ds := [.slc 3 (posD l), Pos.d ⟨e, c, 0⟩, .v (.func (.func 97) #[] #[])]) rfl (runFindV l ⟨e, c, 0⟩ (by omega)) rfl ?_)
      | (refine CallG.off ?_)
      | (with_reducible refine Or.inl ?_)
      | (simp only [thenS, blockS])
      | (with_reducible refine And.intro ?_ ?_)
      | (with_reducible exact True.intro)
      | (simp (dsimp := false) only [↓opsP_nil, ↓opsP_cons, ↓opsD_nil, ↓opsD_cons, footOf, ↓opP, ↓stepP, ↓stepG, go_sem, reduceIte, Nat.reduceAdd, Nat.reduceMul, Nat.reduceEqDiff, Nat.reduceLT, Nat.reduceLeDiff, Nat.reduceSub, reduceCtorEq, Int.reduceToNat, Int.reduceAdd, Int.reduceSub, Int.reduceLT, Int.reduceLE, Int.reduceNeg, Int.reduceBEq, Int.reduceBNe, true_or, hin, hg]))
    all_goals (try (first | (intro hg; simp_all; done) | (intro hg; simp [hg]; done) | exact of_decide_eq_true rfl | (cases h; done)))
    all_goals (try (first | omega | ((refine Fin.data (.inr rfl) (by simp (dsimp := false) only [↓opsP_nil, ↓opsP_cons, ↓opsD_nil, ↓opsD_cons, footOf, ↓opP, ↓stepP, ↓stepG, go_sem, reduceIte, Nat.reduceAdd, Nat.reduceMul, Nat.reduceEqDiff, Nat.reduceLT, Nat.reduceLeDiff, Nat.reduceSub, reduceCtorEq, Int.reduceToNat, Int.reduceAdd, Int.reduceSub, Int.reduceLT, Int.reduceLE, Int.reduceNeg, Int.reduceBEq, Int.reduceBNe, true_or, resL]; rfl) (by simp only [and_self]) (by simp (dsimp := false) only [↓opsP_nil, ↓opsP_cons, ↓opsD_nil, ↓opsD_cons, footOf, ↓opP, ↓stepP, ↓stepG, go_sem, reduceIte, Nat.reduceAdd, Nat.reduceMul, Nat.reduceEqDiff, Nat.reduceLT, Nat.reduceLeDiff, Nat.reduceSub, reduceCtorEq, Int.reduceToNat, Int.reduceAdd, Int.reduceSub, Int.reduceLT, Int.reduceLE, Int.reduceNeg, Int.reduceBEq, Int.reduceBNe, true_or, resP, Nat.le_refl, List.take_length]; try rfl) ?_))))
    all_goals (rw [hge]; exact subD_refl _)

end Go.Proofs.Ytdodgbhodkcckaa.Pv
