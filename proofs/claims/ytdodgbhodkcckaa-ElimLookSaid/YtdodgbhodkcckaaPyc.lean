/- Walks of books against each other: what two books say of each other. -/
import Derived.Test.YtdodgbhodkcckaaPyb
set_option linter.unusedVariables false
set_option linter.unusedSimpArgs false
set_option autoImplicit false
set_option maxRecDepth 100000
namespace Go.Proofs.Ytdodgbhodkcckaa.Pv
open Go Go.RowKit

def sameAt (A B : List Item) (j : Nat) : Bool := match A[j]?, B[j]? with
  | some x, some y => sameI x y
  | _, _ => true
def alikeK (A B : List Item) (k : Nat) : Bool := if A.length = B.length then (List.range k).all (sameAt A B) else true
/-- The same items, each the same. -/
def alikeL (A B : List Item) : Bool := alikeK A B A.length && (A.length == B.length)
theorem alikeK_succ {A B : List Item} {i : Nat} {x y : Item} (h : A.length = B.length) (hx : A[i]? = some x) (hy : B[i]? = some y) : alikeK A B (i + 1) = (alikeK A B i && sameI x y) := by
  unfold alikeK
  rw [if_pos h, if_pos h, List.range_succ, List.all_append]
  simp [sameAt, hx, hy]
theorem alikeK_ne {A B : List Item} (h : A.length ≠ B.length) (i : Nat) : alikeK A B i = true := by unfold alikeK; rw [if_neg h]
def amts (l : List Item) : List Int := l.map Item.amount
theorem amts_len (l : List Item) : (amts l).length = l.length := by simp [amts]
theorem amts_take {l : List Item} {i : Nat} {x : Item} (h : l[i]? = some x) : amts (l.take (i + 1)) = amts (l.take i) ++ [x.amount] := by
  unfold amts; rw [List.take_add_one, h]; simp
def pairD (s b h p : Int) (a : Bool) : D := .agg [I64 s, I64 b, I64 h, I64 p, .v (.bool a)]
def H48 (ma mb : Int) (A B : List Item) (k : Nat) : List (Nat × PObj) := [(10, .box [.d (I64 0), .d (I64 0), .d (I64 0), .d (I64 0), .d (.v (.bool false))]), (29, .box [.d (I64 ma), .d (I64 mb), .d (I64 0), .d (I64 0), .d (.v (.bool (alikeK A B k)))])]
def L48a (ma mb : Int) (A B : List Item) (i : Nat) : St := ⟨[(40, pint .i64 i), (39, pint .i64 A.length), (38, .d (.slc 8 (itemsD A))), (12, pnil), (11, .own 12 0 1 0 (amts (A.take i)).length), (10, .d (.slc 8 (itemsD B))), (9, .d (.slc 8 (itemsD A))), (8, .ref 29 0), (6, .ref 10 0)],
  H48 ma mb A B i ++ [(12, .arr 2 1 0 none ((amts (A.take i)).map I64))], 136⟩
def L48b (ma mb : Int) (A B : List Item) (i : Nat) : St := ⟨[(69, pint .i64 i), (68, pint .i64 B.length), (67, .d (.slc 8 (itemsD B))), (12, .own 13 0 1 0 (amts (B.take i)).length), (11, .own 12 0 1 0 (amts A).length), (10, .d (.slc 8 (itemsD B))), (9, .d (.slc 8 (itemsD A))), (8, .ref 29 0), (6, .ref 10 0)],
  H48 ma mb A B A.length ++ [(12, .arr 2 1 0 none ((amts A).map I64)), (13, .arr 2 1 0 none ((amts (B.take i)).map I64))], 228⟩

set_option maxHeartbeats 16000000 in
theorem run48 (ma mb c : Int) (la lb : List Item) (oa ob : List D) (hla : la.length ≤ 1100) (hlb : lb.length ≤ 1100)
    (hfa : fits (sumOf (amts (agL ma mb c la))) = true) (hfb : fits (sumOf (amts (agL ma mb c lb))) = true) (hia : ∀ a ∈ amts (agL ma mb c la), In64 a) (hib : ∀ a ∈ amts (agL ma mb c lb), In64 a) :
    Runs Try.prog 48 [.d (bookD ma la oa), .d (bookD mb lb ob), pint .i64 c] [] (.d (.tup [pairD ma mb (sumOf (amts (agL ma mb c la))) (sumOf (amts (agL ma mb c lb))) (alikeL (agL ma mb c la) (agL ma mb c lb)), I64 0])) [] := by
  have ra := run110 ma la oa ma mb c (by omega)
  have rb := run110 mb lb ob ma mb c (by omega)
  have hAl := agL_len ma mb c la
  have hBl := agL_len ma mb c lb
  refine Runs.of (kit Try.prog) Try.func48 rfl rfl (by rw [Try.ntmps48]; exact of_decide_eq_true rfl) ?_; rw [Try.ntmps48, Try.results48]
  repeat' (first
    | ((first | refine Pwp.step (kit _) rfl fun K hK => ?_ | refine Pwp.last (kit _) rfl fun K hK => ?_ | refine Pwp.stepD (kit _) rfl rfl fun K hK => ?_ | refine Pwp.lastD (kit _) rfl rfl fun K hK => ?_); simp (dsimp := false) only [↓opsP_nil, ↓opsP_cons, ↓opsD_nil, ↓opsD_cons, footOf, ↓opP, ↓stepP, ↓stepG, go_sem, reduceIte, Nat.reduceAdd, Nat.reduceMul, Nat.reduceEqDiff, Nat.reduceLT, Nat.reduceLeDiff, Nat.reduceSub, reduceCtorEq, Int.reduceToNat, Int.reduceAdd, Int.reduceSub, Int.reduceLT, Int.reduceLE, Int.reduceNeg, Int.reduceBEq, Int.reduceBNe, true_or, bookD])
    | (refine Pwp.seq ?_)
    | (refine Pwp.block ?_)
    | (refine Pwp.exit ?_; simp only [thenS, blockS, if_true, if_false, reduceIte, Nat.reduceEqDiff, Nat.add_one_ne_zero, reduceCtorEq])
    | (refine Pwp.skip ?_; simp only [thenS, blockS])
    | (refine Pwp.cond rfl True.intro (fun h => ?_) (fun h => ?_) <;> (try (cases h; done)) <;> (try simp only [h]))
    | (refine Pwp.ret ?_; try simp only [thenS, blockS])
    | (refine hK _ ?_; clear hK K)
    | (refine hK _ _ rfl ?_; clear hK K)
    | (refine CallK.give (ds := [bookD ma la oa, I64 ma, I64 mb, I64 c]) rfl (ra) (by simp) ?_)
    | (refine CallK.give (ds := [bookD mb lb ob, I64 ma, I64 mb, I64 c]) rfl (rb) (by simp) ?_)
    | (refine CallG.off ?_)
    | (with_reducible refine Or.inl ?_)
    | (simp only [thenS, blockS])
    | (with_reducible refine And.intro ?_ ?_)
    | (with_reducible exact True.intro)
    | (simp (dsimp := false) only [↓opsP_nil, ↓opsP_cons, ↓opsD_nil, ↓opsD_cons, footOf, ↓opP, ↓stepP, ↓stepG, go_sem, reduceIte, Nat.reduceAdd, Nat.reduceMul, Nat.reduceEqDiff, Nat.reduceLT, Nat.reduceLeDiff, Nat.reduceSub, reduceCtorEq, Int.reduceToNat, Int.reduceAdd, Int.reduceSub, Int.reduceLT, Int.reduceLE, Int.reduceNeg, Int.reduceBEq, Int.reduceBNe, true_or, bookD]))
  all_goals (try (first | (intro hg; simp_all; done) | (intro hg; simp [hg]; done) | exact of_decide_eq_true rfl | (cases h; done)))
  generalize agL ma mb c la = A at *
  generalize agL ma mb c lb = B at *
  have hA := items_len A
  have hB := items_len B
  simp only [hA]
  refine Pwp.range A.length (S := L48a ma mb A B) (Sub.view (VN 12) (by simp [L48a]) rfl (by simp [viewH, viewP, viewL, viewO, V0, V9, V9n, VR, VN, keptOf, find, PVal.toD, subD, subL, subV, subD_refl, viewL_ds, disj, PVal.ids, pnil, List.range, List.range.loop, L48a, H48, alikeK, amts]) (by simp [viewT, St.ev, viewH, viewP, viewL, viewO, V0, V9, V9n, VR, VN, keptOf, find, PVal.toD, subD, subL, subV, subD_refl, viewL_ds, disj, PVal.ids, pnil, List.range, List.range.loop, L48a, H48, alikeK, amts])) (fun i hi => ?_) ?_
  · obtain ⟨x, hx, _⟩ := at_lt hi
    have hg := items_get hx
    have c1 := dlt hi
    have w := wrap_succ (i := i) (by omega)
    have e := amts_take hx
    have hol := amts_len (A.take i)
    rw [List.length_take, Nat.min_eq_left (Nat.le_of_lt hi)] at hol
    have htk : ((amts (A.take i)).map I64).take (amts (A.take i)).length = (amts (A.take i)).map I64 := List.take_of_length_le (by simp)
    unfold L48a H48
    by_cases hle : A.length = B.length
    · obtain ⟨y, hy, _⟩ := at_lt (l := B) (i := i) (by omega)
      have hgB := items_get hy
      have hcl : ((A.length : Int) == (B.length : Int)) = true := by simp [hle]
      have r111 := run111 x y
      have hk := alikeK_succ hle hx hy
      repeat' (first
        | ((first | refine Pwp.step (kit _) rfl fun K hK => ?_ | refine Pwp.last (kit _) rfl fun K hK => ?_ | refine Pwp.stepD (kit _) rfl rfl fun K hK => ?_ | refine Pwp.lastD (kit _) rfl rfl fun K hK => ?_); simp (dsimp := false) only [↓opsP_nil, ↓opsP_cons, ↓opsD_nil, ↓opsD_cons, footOf, ↓opP, ↓stepP, ↓stepG, go_sem, reduceIte, Nat.reduceAdd, Nat.reduceMul, Nat.reduceEqDiff, Nat.reduceLT, Nat.reduceLeDiff, Nat.reduceSub, reduceCtorEq, Int.reduceToNat, Int.reduceAdd, Int.reduceSub, Int.reduceLT, Int.reduceLE, Int.reduceNeg, Int.reduceBEq, Int.reduceBNe, true_or, hg, hgB, c1, w, hA, hB, hcl, htk, Item.d, Item.cells])
        | (refine Pwp.seq ?_)
        | (refine Pwp.block ?_)
        | (refine Pwp.exit ?_; simp only [thenS, blockS, if_true, if_false, reduceIte, Nat.reduceEqDiff, Nat.add_one_ne_zero, reduceCtorEq])
        | (refine Pwp.skip ?_; simp only [thenS, blockS])
        | (refine Pwp.cond rfl True.intro (fun h => ?_) (fun h => ?_) <;> (try (cases h; done)) <;> (try simp only [h]))
        | (refine Pwp.ret ?_; try simp only [thenS, blockS])
        | (refine hK _ ?_; clear hK K)
        | (refine hK _ _ rfl ?_; clear hK K)
        | (refine CallG.toD (ds := [x.d, y.d]) rfl (r111) rfl ?_ ?_)
        | (refine CallG.off ?_)
        | (with_reducible refine Or.inl ?_)
        | (simp only [thenS, blockS])
        | (with_reducible refine And.intro ?_ ?_)
        | (with_reducible exact True.intro)
        | (simp (dsimp := false) only [↓opsP_nil, ↓opsP_cons, ↓opsD_nil, ↓opsD_cons, footOf, ↓opP, ↓stepP, ↓stepG, go_sem, reduceIte, Nat.reduceAdd, Nat.reduceMul, Nat.reduceEqDiff, Nat.reduceLT, Nat.reduceLeDiff, Nat.reduceSub, reduceCtorEq, Int.reduceToNat, Int.reduceAdd, Int.reduceSub, Int.reduceLT, Int.reduceLE, Int.reduceNeg, Int.reduceBEq, Int.reduceBNe, true_or, hg, hgB, c1, w, hA, hB, hcl, htk, Item.d, Item.cells]))
      all_goals (try (first | (intro hg; simp_all; done) | (intro hg; simp [hg]; done) | exact of_decide_eq_true rfl | (cases h; done)))
      all_goals (try (first | (simp; done) | (simp [maxLen]; omega) | omega))
      exact Sub.view (VR 12 1) (by simp [L48a]) rfl (by simp [viewH, viewP, viewL, viewO, V0, V9, V9n, VR, VN, keptOf, find, PVal.toD, subD, subL, subV, subD_refl, viewL_ds, disj, PVal.ids, pnil, List.range, List.range.loop, L48a, H48, e, hk]) (by simp [viewT, St.ev, viewH, viewP, viewL, viewO, V0, V9, V9n, VR, VN, keptOf, find, PVal.toD, subD, subL, subV, subD_refl, viewL_ds, disj, PVal.ids, pnil, List.range, List.range.loop, L48a, H48, e, hk])
    · have hcl : ((A.length : Int) == (B.length : Int)) = false := by simp; omega
      have hk := alikeK_ne hle (i + 1)
      have hk2 := alikeK_ne hle i
      repeat' (first
        | ((first | refine Pwp.step (kit _) rfl fun K hK => ?_ | refine Pwp.last (kit _) rfl fun K hK => ?_ | refine Pwp.stepD (kit _) rfl rfl fun K hK => ?_ | refine Pwp.lastD (kit _) rfl rfl fun K hK => ?_); simp (dsimp := false) only [↓opsP_nil, ↓opsP_cons, ↓opsD_nil, ↓opsD_cons, footOf, ↓opP, ↓stepP, ↓stepG, go_sem, reduceIte, Nat.reduceAdd, Nat.reduceMul, Nat.reduceEqDiff, Nat.reduceLT, Nat.reduceLeDiff, Nat.reduceSub, reduceCtorEq, Int.reduceToNat, Int.reduceAdd, Int.reduceSub, Int.reduceLT, Int.reduceLE, Int.reduceNeg, Int.reduceBEq, Int.reduceBNe, true_or, hg, c1, w, hA, hB, hcl, htk, Item.d, Item.cells])
        | (refine Pwp.seq ?_)
        | (refine Pwp.block ?_)
        | (refine Pwp.exit ?_; simp only [thenS, blockS, if_true, if_false, reduceIte, Nat.reduceEqDiff, Nat.add_one_ne_zero, reduceCtorEq])
        | (refine Pwp.skip ?_; simp only [thenS, blockS])
        | (refine Pwp.cond rfl True.intro (fun h => ?_) (fun h => ?_) <;> (try (cases h; done)) <;> (try simp only [h]))
        | (refine Pwp.ret ?_; try simp only [thenS, blockS])
        | (refine hK _ ?_; clear hK K)
        | (refine hK _ _ rfl ?_; clear hK K)
        | (refine CallG.off ?_)
        | (with_reducible refine Or.inl ?_)
        | (simp only [thenS, blockS])
        | (with_reducible refine And.intro ?_ ?_)
        | (with_reducible exact True.intro)
        | (simp (dsimp := false) only [↓opsP_nil, ↓opsP_cons, ↓opsD_nil, ↓opsD_cons, footOf, ↓opP, ↓stepP, ↓stepG, go_sem, reduceIte, Nat.reduceAdd, Nat.reduceMul, Nat.reduceEqDiff, Nat.reduceLT, Nat.reduceLeDiff, Nat.reduceSub, reduceCtorEq, Int.reduceToNat, Int.reduceAdd, Int.reduceSub, Int.reduceLT, Int.reduceLE, Int.reduceNeg, Int.reduceBEq, Int.reduceBNe, true_or, hg, c1, w, hA, hB, hcl, htk, Item.d, Item.cells]))
      all_goals (try (first | (intro hg; simp_all; done) | (intro hg; simp [hg]; done) | exact of_decide_eq_true rfl | (cases h; done)))
      all_goals (try (first | (simp; done) | (simp [maxLen]; omega) | omega))
      exact Sub.view (VR 12 1) (by simp [L48a]) rfl (by simp [viewH, viewP, viewL, viewO, V0, V9, V9n, VR, VN, keptOf, find, PVal.toD, subD, subL, subV, subD_refl, viewL_ds, disj, PVal.ids, pnil, List.range, List.range.loop, L48a, H48, e, hk, hk2]) (by simp [viewT, St.ev, viewH, viewP, viewL, viewO, V0, V9, V9n, VR, VN, keptOf, find, PVal.toD, subD, subL, subV, subD_refl, viewL_ds, disj, PVal.ids, pnil, List.range, List.range.loop, L48a, H48, e, hk, hk2])
  · have c1 := dge (Nat.le_refl A.length)
    have et : A.take A.length = A := List.take_length
    unfold L48a H48
    repeat' (first
      | ((first | refine Pwp.step (kit _) rfl fun K hK => ?_ | refine Pwp.last (kit _) rfl fun K hK => ?_ | refine Pwp.stepD (kit _) rfl rfl fun K hK => ?_ | refine Pwp.lastD (kit _) rfl rfl fun K hK => ?_); simp (dsimp := false) only [↓opsP_nil, ↓opsP_cons, ↓opsD_nil, ↓opsD_cons, footOf, ↓opP, ↓stepP, ↓stepG, go_sem, reduceIte, Nat.reduceAdd, Nat.reduceMul, Nat.reduceEqDiff, Nat.reduceLT, Nat.reduceLeDiff, Nat.reduceSub, reduceCtorEq, Int.reduceToNat, Int.reduceAdd, Int.reduceSub, Int.reduceLT, Int.reduceLE, Int.reduceNeg, Int.reduceBEq, Int.reduceBNe, true_or, c1, hB, et])
      | (refine Pwp.seq ?_)
      | (refine Pwp.block ?_)
      | (refine Pwp.exit ?_; simp only [thenS, blockS, if_true, if_false, reduceIte, Nat.reduceEqDiff, Nat.add_one_ne_zero, reduceCtorEq])
      | (refine Pwp.skip ?_; simp only [thenS, blockS])
      | (refine Pwp.cond rfl True.intro (fun h => ?_) (fun h => ?_) <;> (try (cases h; done)) <;> (try simp only [h]))
      | (refine Pwp.ret ?_; try simp only [thenS, blockS])
      | (refine hK _ ?_; clear hK K)
      | (refine hK _ _ rfl ?_; clear hK K)
      | (refine CallG.off ?_)
      | (with_reducible refine Or.inl ?_)
      | (simp only [thenS, blockS])
      | (with_reducible refine And.intro ?_ ?_)
      | (with_reducible exact True.intro)
      | (simp (dsimp := false) only [↓opsP_nil, ↓opsP_cons, ↓opsD_nil, ↓opsD_cons, footOf, ↓opP, ↓stepP, ↓stepG, go_sem, reduceIte, Nat.reduceAdd, Nat.reduceMul, Nat.reduceEqDiff, Nat.reduceLT, Nat.reduceLeDiff, Nat.reduceSub, reduceCtorEq, Int.reduceToNat, Int.reduceAdd, Int.reduceSub, Int.reduceLT, Int.reduceLE, Int.reduceNeg, Int.reduceBEq, Int.reduceBNe, true_or, c1, hB, et]))
    all_goals (try (first | (intro hg; simp_all; done) | (intro hg; simp [hg]; done) | exact of_decide_eq_true rfl | (cases h; done)))
    refine Pwp.range B.length (S := L48b ma mb A B) (Sub.view (VN 13) (by simp [L48b]) rfl (by simp [viewH, viewP, viewL, viewO, V0, V9, V9n, VR, VN, keptOf, find, PVal.toD, subD, subL, subV, subD_refl, viewL_ds, disj, PVal.ids, pnil, List.range, List.range.loop, L48b, H48, amts, et]) (by simp [viewT, St.ev, viewH, viewP, viewL, viewO, V0, V9, V9n, VR, VN, keptOf, find, PVal.toD, subD, subL, subV, subD_refl, viewL_ds, disj, PVal.ids, pnil, List.range, List.range.loop, L48b, H48, amts, et])) (fun i hi => ?_) ?_
    · obtain ⟨x, hx, _⟩ := at_lt hi
      have hg := items_get hx
      have c1 := dlt hi
      have w := wrap_succ (i := i) (by omega)
      have e := amts_take hx
      have hol := amts_len (B.take i)
      rw [List.length_take, Nat.min_eq_left (Nat.le_of_lt hi)] at hol
      have htk : ((amts (B.take i)).map I64).take (amts (B.take i)).length = (amts (B.take i)).map I64 := List.take_of_length_le (by simp)
      unfold L48b H48
      repeat' (first
        | ((first | refine Pwp.step (kit _) rfl fun K hK => ?_ | refine Pwp.last (kit _) rfl fun K hK => ?_ | refine Pwp.stepD (kit _) rfl rfl fun K hK => ?_ | refine Pwp.lastD (kit _) rfl rfl fun K hK => ?_); simp (dsimp := false) only [↓opsP_nil, ↓opsP_cons, ↓opsD_nil, ↓opsD_cons, footOf, ↓opP, ↓stepP, ↓stepG, go_sem, reduceIte, Nat.reduceAdd, Nat.reduceMul, Nat.reduceEqDiff, Nat.reduceLT, Nat.reduceLeDiff, Nat.reduceSub, reduceCtorEq, Int.reduceToNat, Int.reduceAdd, Int.reduceSub, Int.reduceLT, Int.reduceLE, Int.reduceNeg, Int.reduceBEq, Int.reduceBNe, true_or, hg, c1, w, hB, htk, Item.d, Item.cells])
        | (refine Pwp.seq ?_)
        | (refine Pwp.block ?_)
        | (refine Pwp.exit ?_; simp only [thenS, blockS, if_true, if_false, reduceIte, Nat.reduceEqDiff, Nat.add_one_ne_zero, reduceCtorEq])
        | (refine Pwp.skip ?_; simp only [thenS, blockS])
        | (refine Pwp.cond rfl True.intro (fun h => ?_) (fun h => ?_) <;> (try (cases h; done)) <;> (try simp only [h]))
        | (refine Pwp.ret ?_; try simp only [thenS, blockS])
        | (refine hK _ ?_; clear hK K)
        | (refine hK _ _ rfl ?_; clear hK K)
        | (refine CallG.off ?_)
        | (with_reducible refine Or.inl ?_)
        | (simp only [thenS, blockS])
        | (with_reducible refine And.intro ?_ ?_)
        | (with_reducible exact True.intro)
        | (simp (dsimp := false) only [↓opsP_nil, ↓opsP_cons, ↓opsD_nil, ↓opsD_cons, footOf, ↓opP, ↓stepP, ↓stepG, go_sem, reduceIte, Nat.reduceAdd, Nat.reduceMul, Nat.reduceEqDiff, Nat.reduceLT, Nat.reduceLeDiff, Nat.reduceSub, reduceCtorEq, Int.reduceToNat, Int.reduceAdd, Int.reduceSub, Int.reduceLT, Int.reduceLE, Int.reduceNeg, Int.reduceBEq, Int.reduceBNe, true_or, hg, c1, w, hB, htk, Item.d, Item.cells]))
      all_goals (try (first | (intro hg; simp_all; done) | (intro hg; simp [hg]; done) | exact of_decide_eq_true rfl | (cases h; done)))
      all_goals (try (first | (simp; done) | (simp [maxLen]; omega) | omega))
      exact Sub.view (VR 13 1) (by simp [L48b]) rfl (by simp [viewH, viewP, viewL, viewO, V0, V9, V9n, VR, VN, keptOf, find, PVal.toD, subD, subL, subV, subD_refl, viewL_ds, disj, PVal.ids, pnil, List.range, List.range.loop, L48b, H48, e]) (by simp [viewT, St.ev, viewH, viewP, viewL, viewO, V0, V9, V9n, VR, VN, keptOf, find, PVal.toD, subD, subL, subV, subD_refl, viewL_ds, disj, PVal.ids, pnil, List.range, List.range.loop, L48b, H48, e])
    · have c1 := dge (Nat.le_refl B.length)
      have etB : B.take B.length = B := List.take_length
      have rA := run105 (amts A) (by rw [amts_len]; omega) hia
      have rB := run105 (amts B) (by rw [amts_len]; omega) hib
      rw [if_pos hfa] at rA
      rw [if_pos hfb] at rB
      have hml : (amts A).length = ((amts A).map I64).length := by simp
      have hmB : (amts B).length = ((amts B).map I64).length := by simp
      have hcl : ((A.length : Int) == (B.length : Int)) = (A.length == B.length) := by
        rw [Bool.eq_iff_iff, beq_iff_eq, beq_iff_eq]; omega
      unfold L48b H48
      repeat' (first
        | ((first | refine Pwp.step (kit _) rfl fun K hK => ?_ | refine Pwp.last (kit _) rfl fun K hK => ?_ | refine Pwp.stepD (kit _) rfl rfl fun K hK => ?_ | refine Pwp.lastD (kit _) rfl rfl fun K hK => ?_); simp (dsimp := false) only [↓opsP_nil, ↓opsP_cons, ↓opsD_nil, ↓opsD_cons, footOf, ↓opP, ↓stepP, ↓stepG, go_sem, reduceIte, Nat.reduceAdd, Nat.reduceMul, Nat.reduceEqDiff, Nat.reduceLT, Nat.reduceLeDiff, Nat.reduceSub, reduceCtorEq, Int.reduceToNat, Int.reduceAdd, Int.reduceSub, Int.reduceLT, Int.reduceLE, Int.reduceNeg, Int.reduceBEq, Int.reduceBNe, true_or, c1, etB, hA, hB, hcl])
        | (refine Pwp.seq ?_)
        | (refine Pwp.block ?_)
        | (refine Pwp.exit ?_; simp only [thenS, blockS, if_true, if_false, reduceIte, Nat.reduceEqDiff, Nat.add_one_ne_zero, reduceCtorEq])
        | (refine Pwp.skip ?_; simp only [thenS, blockS])
        | (refine Pwp.cond rfl True.intro (fun h => ?_) (fun h => ?_) <;> (try (cases h; done)) <;> (try simp only [h]))
        | (refine Pwp.ret ?_; try simp only [thenS, blockS])
        | (refine hK _ ?_; clear hK K)
        | (refine hK _ _ rfl ?_; clear hK K)
        | (refine CallK.giveO rfl hml rA (by simp) ?_)
        | (refine CallK.giveO rfl hmB rB (by simp) ?_)
        | (refine CallG.off ?_)
        | (with_reducible refine Or.inl ?_)
        | (simp only [thenS, blockS])
        | (with_reducible refine And.intro ?_ ?_)
        | (with_reducible exact True.intro)
        | (simp (dsimp := false) only [↓opsP_nil, ↓opsP_cons, ↓opsD_nil, ↓opsD_cons, footOf, ↓opP, ↓stepP, ↓stepG, go_sem, reduceIte, Nat.reduceAdd, Nat.reduceMul, Nat.reduceEqDiff, Nat.reduceLT, Nat.reduceLeDiff, Nat.reduceSub, reduceCtorEq, Int.reduceToNat, Int.reduceAdd, Int.reduceSub, Int.reduceLT, Int.reduceLE, Int.reduceNeg, Int.reduceBEq, Int.reduceBNe, true_or, c1, etB, hA, hB, hcl]))
      all_goals (try (first | (intro hg; simp [hg]; done) | exact of_decide_eq_true rfl | (cases h; done)))
      (refine Fin.data (.inr rfl) (by simp (dsimp := false) only [↓opsP_nil, ↓opsP_cons, ↓opsD_nil, ↓opsD_cons, footOf, ↓opP, ↓stepP, ↓stepG, go_sem, reduceIte, Nat.reduceAdd, Nat.reduceMul, Nat.reduceEqDiff, Nat.reduceLT, Nat.reduceLeDiff, Nat.reduceSub, reduceCtorEq, Int.reduceToNat, Int.reduceAdd, Int.reduceSub, Int.reduceLT, Int.reduceLE, Int.reduceNeg, Int.reduceBEq, Int.reduceBNe, true_or, resL]; rfl) (by simp only [and_self]) (by simp (dsimp := false) only [↓opsP_nil, ↓opsP_cons, ↓opsD_nil, ↓opsD_cons, footOf, ↓opP, ↓stepP, ↓stepG, go_sem, reduceIte, Nat.reduceAdd, Nat.reduceMul, Nat.reduceEqDiff, Nat.reduceLT, Nat.reduceLeDiff, Nat.reduceSub, reduceCtorEq, Int.reduceToNat, Int.reduceAdd, Int.reduceSub, Int.reduceLT, Int.reduceLE, Int.reduceNeg, Int.reduceBEq, Int.reduceBNe, true_or, resP, Nat.le_refl, List.take_length]; try rfl) ?_)
      exact subD_refl _

end Go.Proofs.Ytdodgbhodkcckaa.Pv
