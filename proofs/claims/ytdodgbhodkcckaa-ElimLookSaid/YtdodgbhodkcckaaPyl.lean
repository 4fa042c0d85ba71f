/- Walks of the statements of books against each other: looking. -/
import Derived.Test.YtdodgbhodkcckaaPyj
import Derived.Test.YtdodgbhodkcckaaPxi
set_option linter.unusedVariables false
set_option linter.unusedSimpArgs false
set_option autoImplicit false
set_option maxRecDepth 100000
namespace Go.Proofs.Ytdodgbhodkcckaa.Pv
open Go Go.RowKit

/-- As it is, but for who has it locked. -/
def z0 (x : Item) : Item := { x with cycle := 0 }
abbrev z0D (x : Item) : D := (z0 x).d
abbrev zD : D := .agg [I64 0, I64 0, I64 0, I64 0, I64 0, I64 0, I64 0, I64 0]
def prC (sA sB : Int) (al : Bool) : List PVal := [.d (I64 0), .d (I64 1), .d (I64 sA), .d (I64 sB), .d (.v (.bool al))]
def agC (c : Int) (l : List Item) : List Item := agL 0 1 c l
def L9a (c sA sB : Int) (al : Bool) (X Y : List Item) (i : Nat) : St := ⟨[(52, pint .i64 i), (51, pint .i64 X.length), (50, .d (.slc 8 (itemsD X))), (15, pbool true), (14, .mp 148), (13, pnil), (12, .own 12 0 1 0 (amts (agC c (X.take i))).length), (11, pint .i64 0), (10, .ref 107 0), (8, .ref 60 0), (2, pint .i64 c)],
  [(60, .box [.d (I64 1), .d (.slc 8 (itemsD Y)), .d (.slc 3 [])]), (107, .box (prC sA sB al)), (12, .arr 2 1 0 none ((amts (agC c (X.take i))).map I64)), (148, .map (entE z0D (agC c (X.take i))))], 176⟩
def L9b (c sA sB : Int) (al : Bool) (A Y : List Item) (i : Nat) : St := ⟨[(90, pint .i64 i), (89, pint .i64 Y.length), (88, .d (.slc 8 (itemsD Y))), (15, pbool ((agC c (Y.take i)).all (lookAt A))), (14, .mp 148), (13, .own 13 0 1 0 (amts (agC c (Y.take i))).length), (12, .own 12 0 1 0 (amts A).length), (11, pint .i64 0), (10, .ref 107 0), (2, pint .i64 c)],
  [(107, .box (prC sA sB al)), (12, .arr 2 1 0 none ((amts A).map I64)), (13, .arr 2 1 0 none ((amts (agC c (Y.take i))).map I64)), (148, .map (entE z0D A))], 300⟩
theorem agC_take {c : Int} {l : List Item} {i : Nat} {x : Item} (h : l[i]? = some x) : agC c (l.take (i + 1)) = agC c (l.take i) ++ (if (((x.state == 3 && x.currency == c) && x.seller == 0) && x.buyer == 1) = true then [x] else []) := by
  unfold agC
  rw [agL_take h]
  congr 2
  unfold agr
  cases x.state == 3 <;> cases x.currency == c <;> cases x.seller == 0 <;> cases x.buyer == 1 <;> rfl
theorem amts_snoc (l : List Item) (x : Item) : amts (l ++ [x]) = amts l ++ [x.amount] := by simp [amts]
theorem agC_len (c : Int) (l : List Item) : (agC c l).length ≤ l.length := agL_len 0 1 c l
theorem nil_amts (c : Int) (l : List Item) : amts (agC c (l.take 0)) = [] := by simp [agC, agL, amts]

set_option maxHeartbeats 8000000 in
theorem run9 (a b : List Item) (c : Int) : Runs Try.prog 9 [.d (.slc 8 (itemsD a)), .d (.slc 8 (itemsD b)), pint .i64 c] [] (pbool true) [] := by
  have hla := items_len a
  have hlb := items_len b
  by_cases hg : 30 < a.length ∨ 30 < b.length
  · have c1 : (decide (30 < (a.length : Int)) || decide (30 < (b.length : Int))) = true := by
      rw [Bool.or_eq_true, decide_eq_true_eq, decide_eq_true_eq]; omega
    refine Runs.of (kit Try.prog) Try.func9 rfl rfl (by rw [Try.ntmps9]; exact of_decide_eq_true rfl) ?_; rw [Try.ntmps9, Try.results9]
    repeat' (first
      | ((first | refine Pwp.step (kit _) rfl fun K hK => ?_ | refine Pwp.last (kit _) rfl fun K hK => ?_ | refine Pwp.stepD (kit _) rfl rfl fun K hK => ?_ | refine Pwp.lastD (kit _) rfl rfl fun K hK => ?_); simp (dsimp := false) only [↓opsP_nil, ↓opsP_cons, ↓opsD_nil, ↓opsD_cons, footOf, ↓opP, ↓stepP, ↓stepG, go_sem, reduceIte, Nat.reduceAdd, Nat.reduceMul, Nat.reduceEqDiff, Nat.reduceLT, Nat.reduceLeDiff, Nat.reduceSub, reduceCtorEq, Int.reduceToNat, Int.reduceAdd, Int.reduceSub, Int.reduceLT, Int.reduceLE, Int.reduceNeg, Int.reduceBEq, Int.reduceBNe, true_or, hla, hlb, c1])
      | (refine Pwp.seq ?_)
      | (refine Pwp.block ?_)
      | (refine Pwp.exit ?_; simp only [thenS, blockS, if_true, if_false, reduceIte, Nat.reduceEqDiff, Nat.add_one_ne_zero, reduceCtorEq])
      | (refine Pwp.skip ?_; simp only [thenS, blockS])
      | (refine Pwp.cond rfl True.intro (fun h => ?_) (fun h => ?_) <;> (try (cases h; done)) <;> (try simp only [h]))
      | (refine Pwp.ret ?_; try simp only [thenS, blockS])
      | (refine hK _ ?_; clear hK K)
      | (refine hK _ _ rfl ?_; clear hK K)
      | (refine CallK.toD (ds := []) rfl (run46) rfl ?_)
      | (refine CallG.off ?_)
      | (with_reducible refine Or.inl ?_)
      | (simp only [thenS, blockS])
      | (with_reducible refine And.intro ?_ ?_)
      | (with_reducible exact True.intro)
      | (simp (dsimp := false) only [↓opsP_nil, ↓opsP_cons, ↓opsD_nil, ↓opsD_cons, footOf, ↓opP, ↓stepP, ↓stepG, go_sem, reduceIte, Nat.reduceAdd, Nat.reduceMul, Nat.reduceEqDiff, Nat.reduceLT, Nat.reduceLeDiff, Nat.reduceSub, reduceCtorEq, Int.reduceToNat, Int.reduceAdd, Int.reduceSub, Int.reduceLT, Int.reduceLE, Int.reduceNeg, Int.reduceBEq, Int.reduceBNe, true_or, hla, hlb, c1]))
    all_goals (try (first | (intro hg; simp_all; done) | (intro hg; simp [hg]; done) | exact of_decide_eq_true rfl | (cases h; done)))
    (refine Fin.data (.inr rfl) (by simp (dsimp := false) only [↓opsP_nil, ↓opsP_cons, ↓opsD_nil, ↓opsD_cons, footOf, ↓opP, ↓stepP, ↓stepG, go_sem, reduceIte, Nat.reduceAdd, Nat.reduceMul, Nat.reduceEqDiff, Nat.reduceLT, Nat.reduceLeDiff, Nat.reduceSub, reduceCtorEq, Int.reduceToNat, Int.reduceAdd, Int.reduceSub, Int.reduceLT, Int.reduceLE, Int.reduceNeg, Int.reduceBEq, Int.reduceBNe, true_or, resL]; rfl) (by simp only [and_self]) (by simp (dsimp := false) only [↓opsP_nil, ↓opsP_cons, ↓opsD_nil, ↓opsD_cons, footOf, ↓opP, ↓stepP, ↓stepG, go_sem, reduceIte, Nat.reduceAdd, Nat.reduceMul, Nat.reduceEqDiff, Nat.reduceLT, Nat.reduceLeDiff, Nat.reduceSub, reduceCtorEq, Int.reduceToNat, Int.reduceAdd, Int.reduceSub, Int.reduceLT, Int.reduceLE, Int.reduceNeg, Int.reduceBEq, Int.reduceBNe, true_or, resP, Nat.le_refl, List.take_length]; try rfl) ?_)
    exact subD_refl _
  have c1 : (decide (30 < (a.length : Int)) || decide (30 < (b.length : Int))) = false := by
    rw [Bool.or_eq_false_iff, decide_eq_false_iff_not, decide_eq_false_iff_not]; omega
  have r47 := run47 a b (by omega) (by omega)
  have gX := good_puts 0 a
  have gY := good_puts 1 b
  have lX := len_puts 0 a
  have lY := len_puts 1 b
  generalize putsI 0 a = X at *
  generalize putsI 1 b = Y at *
  have hX := items_len X
  have hY := items_len Y
  have r48 := run48F 0 1 c X Y (by omega) (by omega) gX.fine gY.fine
  have hlook := alike_look (A := agC c X) (B := agC c Y) (gX.filter _).rise (gY.filter _).rise (gX.filter _).fine (gY.filter _).fine
  have fA := amts_fine (l := agC c X) (gX.filter _).fine (Nat.le_trans (agC_len c X) (by omega))
  have fB := amts_fine (l := agC c Y) (gY.filter _).fine (Nat.le_trans (agC_len c Y) (by omega))
  have r41A := run41 (amts (agC c X)) (by rw [amts_len]; have := agC_len c X; omega) fA.2
  have r41B := run41 (amts (agC c Y)) (by rw [amts_len]; have := agC_len c Y; omega) fB.2
  rw [if_pos fA.1] at r41A
  rw [if_pos fB.1] at r41B
  change Runs Try.prog 48 _ _ (.d (.tup [pairD 0 1 (sumOf (amts (agC c X))) (sumOf (amts (agC c Y))) (alikeL (agC c X) (agC c Y)), I64 0])) _ at r48
  generalize hsA : sumOf (amts (agC c X)) = sA at *
  generalize hsB : sumOf (amts (agC c Y)) = sB at *
  generalize hal : alikeL (agC c X) (agC c Y) = al at *
  refine Runs.of (kit Try.prog) Try.func9 rfl rfl (by rw [Try.ntmps9]; exact of_decide_eq_true rfl) ?_; rw [Try.ntmps9, Try.results9]
  repeat' (first
    | ((first | refine Pwp.step (kit _) rfl fun K hK => ?_ | refine Pwp.last (kit _) rfl fun K hK => ?_ | refine Pwp.stepD (kit _) rfl rfl fun K hK => ?_ | refine Pwp.lastD (kit _) rfl rfl fun K hK => ?_); simp (dsimp := false) only [↓opsP_nil, ↓opsP_cons, ↓opsD_nil, ↓opsD_cons, footOf, ↓opP, ↓stepP, ↓stepG, go_sem, reduceIte, Nat.reduceAdd, Nat.reduceMul, Nat.reduceEqDiff, Nat.reduceLT, Nat.reduceLeDiff, Nat.reduceSub, reduceCtorEq, Int.reduceToNat, Int.reduceAdd, Int.reduceSub, Int.reduceLT, Int.reduceLE, Int.reduceNeg, Int.reduceBEq, Int.reduceBNe, true_or, hla, hlb, c1, bookD, pairD, hX])
    | (refine Pwp.seq ?_)
    | (refine Pwp.block ?_)
    | (refine Pwp.exit ?_; simp only [thenS, blockS, if_true, if_false, reduceIte, Nat.reduceEqDiff, Nat.add_one_ne_zero, reduceCtorEq])
    | (refine Pwp.skip ?_; simp only [thenS, blockS])
    | (refine Pwp.cond rfl True.intro (fun h => ?_) (fun h => ?_) <;> (try (cases h; done)) <;> (try simp only [h]))
    | (refine Pwp.ret ?_; try simp only [thenS, blockS])
    | (refine hK _ ?_; clear hK K)
    | (refine hK _ _ rfl ?_; clear hK K)
    | (refine CallK.toD (ds := []) rfl (run46) rfl ?_)
    | (refine CallK.give (ds := [.slc 8 (itemsD a), .slc 8 (itemsD b)]) rfl (r47) (by simp) ?_)
    | (refine CallK.give (ds := [bookD 0 X [], bookD 1 Y [], I64 c]) rfl (r48) (by simp) ?_)
    | (refine CallG.off ?_)
    | (with_reducible refine Or.inl ?_)
    | (simp only [thenS, blockS])
    | (with_reducible refine And.intro ?_ ?_)
    | (with_reducible exact True.intro)
    | (simp (dsimp := false) only [↓opsP_nil, ↓opsP_cons, ↓opsD_nil, ↓opsD_cons, footOf, ↓opP, ↓stepP, ↓stepG, go_sem, reduceIte, Nat.reduceAdd, Nat.reduceMul, Nat.reduceEqDiff, Nat.reduceLT, Nat.reduceLeDiff, Nat.reduceSub, reduceCtorEq, Int.reduceToNat, Int.reduceAdd, Int.reduceSub, Int.reduceLT, Int.reduceLE, Int.reduceNeg, Int.reduceBEq, Int.reduceBNe, true_or, hla, hlb, c1, bookD, pairD, hX]))
  all_goals (try (first | (intro hg; simp [hg]; done) | exact of_decide_eq_true rfl | (cases h; done)))
  refine Pwp.range X.length (S := L9a c sA sB al X Y) (Sub.view (VN 12) (by simp [L9a]) rfl (by simp [viewH, viewP, viewL, viewO, V0, V9, V9n, VR, VN, keptOf, find, PVal.toD, subD, subL, subV, subD_refl, viewL_ds, disj, PVal.ids, pnil, List.range, List.range.loop, L9a, prC, hX, amts, agC, agL, entE]) (by simp [viewT, St.ev, viewH, viewP, viewL, viewO, V0, V9, V9n, VR, VN, keptOf, find, PVal.toD, subD, subL, subV, subD_refl, viewL_ds, disj, PVal.ids, pnil, List.range, List.range.loop, L9a, prC, hX, amts, agC, agL, entE])) (fun i hi => ?_) ?_
  · obtain ⟨x, hx, _⟩ := at_lt hi
    have hg := items_get hx
    have c2 := dlt hi
    have hw := wrap_succ (i := i) (by omega)
    have e := agC_take (c := c) hx
    have hol := agC_len c (X.take i)
    rw [List.length_take, Nat.min_eq_left (Nat.le_of_lt hi)] at hol
    have hal2 := amts_len (agC c (X.take i))
    have htk : ((amts (agC c (X.take i))).map I64).take (amts (agC c (X.take i))).length = (amts (agC c (X.take i))).map I64 := List.take_of_length_le (by simp)
    have hset := set_ent (v := z0D) (find_apart gX hx (agr 0 1 c))
    change mapSet _ _ _ (entE z0D (agC c (X.take i))) = some (entE z0D (agC c (X.take i) ++ [x])) at hset
    unfold L9a prC
    cases hc : (((x.state == 3 && x.currency == c) && x.seller == 0) && x.buyer == 1) with
    | true =>
      rw [hc, if_pos rfl] at e
      simp only [z0D, z0, Item.d, Item.cells] at hset
      repeat' (first
        | ((first | refine Pwp.step (kit _) rfl fun K hK => ?_ | refine Pwp.last (kit _) rfl fun K hK => ?_ | refine Pwp.stepD (kit _) rfl rfl fun K hK => ?_ | refine Pwp.lastD (kit _) rfl rfl fun K hK => ?_); simp (dsimp := false) only [↓opsP_nil, ↓opsP_cons, ↓opsD_nil, ↓opsD_cons, footOf, ↓opP, ↓stepP, ↓stepG, go_sem, reduceIte, Nat.reduceAdd, Nat.reduceMul, Nat.reduceEqDiff, Nat.reduceLT, Nat.reduceLeDiff, Nat.reduceSub, reduceCtorEq, Int.reduceToNat, Int.reduceAdd, Int.reduceSub, Int.reduceLT, Int.reduceLE, Int.reduceNeg, Int.reduceBEq, Int.reduceBNe, true_or, hg, c2, hw, hX, hc, htk, hset, Item.d, Item.cells])
        | (refine Pwp.seq ?_)
        | (refine Pwp.block ?_)
        | (refine Pwp.exit ?_; simp only [thenS, blockS, if_true, if_false, reduceIte, Nat.reduceEqDiff, Nat.add_one_ne_zero, reduceCtorEq])
        | (refine Pwp.skip ?_; simp only [thenS, blockS])
        | (refine Pwp.cond rfl True.intro (fun h => ?_) (fun h => ?_) <;> (try (cases h; done)) <;> (try simp only [h]))
        | (refine Pwp.ret ?_; try simp only [thenS, blockS])
        | (refine hK _ ?_; clear hK K)
        | (refine hK _ _ rfl ?_; clear hK K)
        | (refine CallG.off ?_)
        | (with_reducible refine Or.inl ?_)
        | (simp only [thenS, blockS])
        | (with_reducible refine And.intro ?_ ?_)
        | (with_reducible exact True.intro)
        | (simp (dsimp := false) only [↓opsP_nil, ↓opsP_cons, ↓opsD_nil, ↓opsD_cons, footOf, ↓opP, ↓stepP, ↓stepG, go_sem, reduceIte, Nat.reduceAdd, Nat.reduceMul, Nat.reduceEqDiff, Nat.reduceLT, Nat.reduceLeDiff, Nat.reduceSub, reduceCtorEq, Int.reduceToNat, Int.reduceAdd, Int.reduceSub, Int.reduceLT, Int.reduceLE, Int.reduceNeg, Int.reduceBEq, Int.reduceBNe, true_or, hg, c2, hw, hX, hc, htk, hset, Item.d, Item.cells]))
      all_goals (try (first | (intro hg; simp [hg]; done) | exact of_decide_eq_true rfl | (cases h; done)))
      all_goals (try (first | (simp; done) | (simp [maxLen]; omega) | omega))
      exact Sub.view (VR 12 1) (by simp [L9a]) rfl (by simp [viewH, viewP, viewL, viewO, V0, V9, V9n, VR, VN, keptOf, find, PVal.toD, subD, subL, subV, subD_refl, viewL_ds, disj, PVal.ids, pnil, List.range, List.range.loop, L9a, prC, e, amts_snoc]) (by simp [viewT, St.ev, viewH, viewP, viewL, viewO, V0, V9, V9n, VR, VN, keptOf, find, PVal.toD, subD, subL, subV, subD_refl, viewL_ds, disj, PVal.ids, pnil, List.range, List.range.loop, L9a, prC, e, amts_snoc])
    | false =>
      rw [hc, if_neg (by simp), List.append_nil] at e
      repeat' (first
        | ((first | refine Pwp.step (kit _) rfl fun K hK => ?_ | refine Pwp.last (kit _) rfl fun K hK => ?_ | refine Pwp.stepD (kit _) rfl rfl fun K hK => ?_ | refine Pwp.lastD (kit _) rfl rfl fun K hK => ?_); simp (dsimp := false) only [↓opsP_nil, ↓opsP_cons, ↓opsD_nil, ↓opsD_cons, footOf, ↓opP, ↓stepP, ↓stepG, go_sem, reduceIte, Nat.reduceAdd, Nat.reduceMul, Nat.reduceEqDiff, Nat.reduceLT, Nat.reduceLeDiff, Nat.reduceSub, reduceCtorEq, Int.reduceToNat, Int.reduceAdd, Int.reduceSub, Int.reduceLT, Int.reduceLE, Int.reduceNeg, Int.reduceBEq, Int.reduceBNe, true_or, hg, c2, hw, hX, hc, htk, Item.d, Item.cells])
        | (refine Pwp.seq ?_)
        | (refine Pwp.block ?_)
        | (refine Pwp.exit ?_; simp only [thenS, blockS, if_true, if_false, reduceIte, Nat.reduceEqDiff, Nat.add_one_ne_zero, reduceCtorEq])
        | (refine Pwp.skip ?_; simp only [thenS, blockS])
        | (refine Pwp.cond rfl True.intro (fun h => ?_) (fun h => ?_) <;> (try (cases h; done)) <;> (try simp only [h]))
        | (refine Pwp.ret ?_; try simp only [thenS, blockS])
        | (refine hK _ ?_; clear hK K)
        | (refine hK _ _ rfl ?_; clear hK K)
        | (refine CallG.off ?_)
        | (with_reducible refine Or.inl ?_)
        | (simp only [thenS, blockS])
        | (with_reducible refine And.intro ?_ ?_)
        | (with_reducible exact True.intro)
        | (simp (dsimp := false) only [↓opsP_nil, ↓opsP_cons, ↓opsD_nil, ↓opsD_cons, footOf, ↓opP, ↓stepP, ↓stepG, go_sem, reduceIte, Nat.reduceAdd, Nat.reduceMul, Nat.reduceEqDiff, Nat.reduceLT, Nat.reduceLeDiff, Nat.reduceSub, reduceCtorEq, Int.reduceToNat, Int.reduceAdd, Int.reduceSub, Int.reduceLT, Int.reduceLE, Int.reduceNeg, Int.reduceBEq, Int.reduceBNe, true_or, hg, c2, hw, hX, hc, htk, Item.d, Item.cells]))
      all_goals (try (first | (intro hg; simp [hg]; done) | exact of_decide_eq_true rfl | (cases h; done)))
      exact Sub.view V0 (by simp [L9a]) rfl (by simp [viewH, viewP, viewL, viewO, V0, V9, V9n, VR, VN, keptOf, find, PVal.toD, subD, subL, subV, subD_refl, viewL_ds, disj, PVal.ids, pnil, List.range, List.range.loop, L9a, prC, e]) (by simp [viewT, St.ev, viewH, viewP, viewL, viewO, V0, V9, V9n, VR, VN, keptOf, find, PVal.toD, subD, subL, subV, subD_refl, viewL_ds, disj, PVal.ids, pnil, List.range, List.range.loop, L9a, prC, e])
  · have c2 := dge (Nat.le_refl X.length)
    have et : X.take X.length = X := List.take_length
    unfold L9a prC
    repeat' (first
      | ((first | refine Pwp.step (kit _) rfl fun K hK => ?_ | refine Pwp.last (kit _) rfl fun K hK => ?_ | refine Pwp.stepD (kit _) rfl rfl fun K hK => ?_ | refine Pwp.lastD (kit _) rfl rfl fun K hK => ?_); simp (dsimp := false) only [↓opsP_nil, ↓opsP_cons, ↓opsD_nil, ↓opsD_cons, footOf, ↓opP, ↓stepP, ↓stepG, go_sem, reduceIte, Nat.reduceAdd, Nat.reduceMul, Nat.reduceEqDiff, Nat.reduceLT, Nat.reduceLeDiff, Nat.reduceSub, reduceCtorEq, Int.reduceToNat, Int.reduceAdd, Int.reduceSub, Int.reduceLT, Int.reduceLE, Int.reduceNeg, Int.reduceBEq, Int.reduceBNe, true_or, c2, hY, et])
      | (refine Pwp.seq ?_)
      | (refine Pwp.block ?_)
      | (refine Pwp.exit ?_; simp only [thenS, blockS, if_true, if_false, reduceIte, Nat.reduceEqDiff, Nat.add_one_ne_zero, reduceCtorEq])
      | (refine Pwp.skip ?_; simp only [thenS, blockS])
      | (refine Pwp.cond rfl True.intro (fun h => ?_) (fun h => ?_) <;> (try (cases h; done)) <;> (try simp only [h]))
      | (refine Pwp.ret ?_; try simp only [thenS, blockS])
      | (refine hK _ ?_; clear hK K)
      | (refine hK _ _ rfl ?_; clear hK K)
      | (refine CallG.off ?_)
      | (with_reducible refine Or.inl ?_)
      | (simp only [thenS, blockS])
      | (with_reducible refine And.intro ?_ ?_)
      | (with_reducible exact True.intro)
      | (simp (dsimp := false) only [↓opsP_nil, ↓opsP_cons, ↓opsD_nil, ↓opsD_cons, footOf, ↓opP, ↓stepP, ↓stepG, go_sem, reduceIte, Nat.reduceAdd, Nat.reduceMul, Nat.reduceEqDiff, Nat.reduceLT, Nat.reduceLeDiff, Nat.reduceSub, reduceCtorEq, Int.reduceToNat, Int.reduceAdd, Int.reduceSub, Int.reduceLT, Int.reduceLE, Int.reduceNeg, Int.reduceBEq, Int.reduceBNe, true_or, c2, hY, et]))
    all_goals (try (first | (intro hg; simp [hg]; done) | exact of_decide_eq_true rfl | (cases h; done)))
    refine Pwp.range Y.length (S := L9b c sA sB al (agC c X) Y) (Sub.view (VN 13) (by simp [L9b]) rfl (by simp [viewH, viewP, viewL, viewO, V0, V9, V9n, VR, VN, keptOf, find, PVal.toD, subD, subL, subV, subD_refl, viewL_ds, disj, PVal.ids, pnil, List.range, List.range.loop, L9b, prC, hY, amts, et, agC, agL]) (by simp [viewT, St.ev, viewH, viewP, viewL, viewO, V0, V9, V9n, VR, VN, keptOf, find, PVal.toD, subD, subL, subV, subD_refl, viewL_ds, disj, PVal.ids, pnil, List.range, List.range.loop, L9b, prC, hY, amts, et, agC, agL])) (fun i hi => ?_) ?_
    · obtain ⟨y, hy, hym⟩ := at_lt hi
      have hg := items_get hy
      have c3 := dlt hi
      have hw := wrap_succ (i := i) (by omega)
      have e := agC_take (c := c) hy
      have hol := agC_len c (Y.take i)
      rw [List.length_take, Nat.min_eq_left (Nat.le_of_lt hi)] at hol
      have hal2 := amts_len (agC c (Y.take i))
      have htk : ((amts (agC c (Y.take i))).map I64).take (amts (agC c (Y.take i))).length = (amts (agC c (Y.take i))).map I64 := List.take_of_length_le (by simp)
      have hget := get_ent z0D y (agC c X) zD
      unfold L9b prC
      cases hc : (((y.state == 3 && y.currency == c) && y.seller == 0) && y.buyer == 1) with
      | true =>
        rw [hc, if_pos rfl] at e
        have hst : y.state = 3 := by simp only [Bool.and_eq_true, beq_iff_eq] at hc; exact hc.1.1.1
        have hall : (agC c (Y.take i) ++ [y]).all (lookAt (agC c X)) = ((agC c (Y.take i)).all (lookAt (agC c X)) && lookAt (agC c X) y) := by rw [List.all_append]; simp
        cases hf : (agC c X).find? (nmEq y) with
        | some x =>
          rw [hf] at hget
          simp only [Option.elim, z0D, z0, Item.d, Item.cells] at hget
          have hlk : lookAt (agC c X) y = sameI x y := by unfold lookAt; rw [hf]
          rw [hlk, sameI] at hall
          cases hp : (agC c (Y.take i)).all (lookAt (agC c X)) with
          | false =>
            rw [hp, Bool.false_and] at hall
            repeat' (first
              | ((first | refine Pwp.step (kit _) rfl fun K hK => ?_ | refine Pwp.last (kit _) rfl fun K hK => ?_ | refine Pwp.stepD (kit _) rfl rfl fun K hK => ?_ | refine Pwp.lastD (kit _) rfl rfl fun K hK => ?_); simp (dsimp := false) only [↓opsP_nil, ↓opsP_cons, ↓opsD_nil, ↓opsD_cons, footOf, ↓opP, ↓stepP, ↓stepG, go_sem, reduceIte, Nat.reduceAdd, Nat.reduceMul, Nat.reduceEqDiff, Nat.reduceLT, Nat.reduceLeDiff, Nat.reduceSub, reduceCtorEq, Int.reduceToNat, Int.reduceAdd, Int.reduceSub, Int.reduceLT, Int.reduceLE, Int.reduceNeg, Int.reduceBEq, Int.reduceBNe, true_or, hg, c3, hw, hY, hc, htk, hget, Item.d, Item.cells])
              | (refine Pwp.seq ?_)
              | (refine Pwp.block ?_)
              | (refine Pwp.exit ?_; simp only [thenS, blockS, if_true, if_false, reduceIte, Nat.reduceEqDiff, Nat.add_one_ne_zero, reduceCtorEq])
              | (refine Pwp.skip ?_; simp only [thenS, blockS])
              | (refine Pwp.cond rfl True.intro (fun h => ?_) (fun h => ?_) <;> (try (cases h; done)) <;> (try simp only [h]))
              | (refine Pwp.ret ?_; try simp only [thenS, blockS])
              | (refine hK _ ?_; clear hK K)
              | (refine hK _ _ rfl ?_; clear hK K)
              | (refine CallG.off ?_)
              | (with_reducible refine Or.inl ?_)
              | (simp only [thenS, blockS])
              | (with_reducible refine And.intro ?_ ?_)
              | (with_reducible exact True.intro)
              | (simp (dsimp := false) only [↓opsP_nil, ↓opsP_cons, ↓opsD_nil, ↓opsD_cons, footOf, ↓opP, ↓stepP, ↓stepG, go_sem, reduceIte, Nat.reduceAdd, Nat.reduceMul, Nat.reduceEqDiff, Nat.reduceLT, Nat.reduceLeDiff, Nat.reduceSub, reduceCtorEq, Int.reduceToNat, Int.reduceAdd, Int.reduceSub, Int.reduceLT, Int.reduceLE, Int.reduceNeg, Int.reduceBEq, Int.reduceBNe, true_or, hg, c3, hw, hY, hc, htk, hget, Item.d, Item.cells]))
            all_goals (try (first | (intro hg; simp [hg]; done) | exact of_decide_eq_true rfl | (cases h; done)))
            all_goals (try (first | (simp; done) | (simp [maxLen]; omega) | omega))
            exact Sub.view (VR 13 1) (by simp [L9b]) rfl (by simp [viewH, viewP, viewL, viewO, V0, V9, V9n, VR, VN, keptOf, find, PVal.toD, subD, subL, subV, subD_refl, viewL_ds, disj, PVal.ids, pnil, List.range, List.range.loop, L9b, prC, e, amts_snoc, hall]) (by simp [viewT, St.ev, viewH, viewP, viewL, viewO, V0, V9, V9n, VR, VN, keptOf, find, PVal.toD, subD, subL, subV, subD_refl, viewL_ds, disj, PVal.ids, pnil, List.range, List.range.loop, L9b, prC, e, amts_snoc, hall])
          | true =>
            rw [hp, Bool.true_and] at hall
            repeat' (first
              | ((first | refine Pwp.step (kit _) rfl fun K hK => ?_ | refine Pwp.last (kit _) rfl fun K hK => ?_ | refine Pwp.stepD (kit _) rfl rfl fun K hK => ?_ | refine Pwp.lastD (kit _) rfl rfl fun K hK => ?_); simp (dsimp := false) only [↓opsP_nil, ↓opsP_cons, ↓opsD_nil, ↓opsD_cons, footOf, ↓opP, ↓stepP, ↓stepG, go_sem, reduceIte, Nat.reduceAdd, Nat.reduceMul, Nat.reduceEqDiff, Nat.reduceLT, Nat.reduceLeDiff, Nat.reduceSub, reduceCtorEq, Int.reduceToNat, Int.reduceAdd, Int.reduceSub, Int.reduceLT, Int.reduceLE, Int.reduceNeg, Int.reduceBEq, Int.reduceBNe, true_or, hg, c3, hw, hY, hc, htk, hget, beq_self_eq_true, Item.d, Item.cells])
              | (refine Pwp.seq ?_)
              | (refine Pwp.block ?_)
              | (refine Pwp.exit ?_; simp only [thenS, blockS, if_true, if_false, reduceIte, Nat.reduceEqDiff, Nat.add_one_ne_zero, reduceCtorEq])
              | (refine Pwp.skip ?_; simp only [thenS, blockS])
              | (refine Pwp.cond rfl True.intro (fun h => ?_) (fun h => ?_) <;> (try (cases h; done)) <;> (try simp only [h]))
              | (refine Pwp.ret ?_; try simp only [thenS, blockS])
              | (refine hK _ ?_; clear hK K)
              | (refine hK _ _ rfl ?_; clear hK K)
              | (refine CallG.off ?_)
              | (with_reducible refine Or.inl ?_)
              | (simp only [thenS, blockS])
              | (with_reducible refine And.intro ?_ ?_)
              | (with_reducible exact True.intro)
              | (simp (dsimp := false) only [↓opsP_nil, ↓opsP_cons, ↓opsD_nil, ↓opsD_cons, footOf, ↓opP, ↓stepP, ↓stepG, go_sem, reduceIte, Nat.reduceAdd, Nat.reduceMul, Nat.reduceEqDiff, Nat.reduceLT, Nat.reduceLeDiff, Nat.reduceSub, reduceCtorEq, Int.reduceToNat, Int.reduceAdd, Int.reduceSub, Int.reduceLT, Int.reduceLE, Int.reduceNeg, Int.reduceBEq, Int.reduceBNe, true_or, hg, c3, hw, hY, hc, htk, hget, beq_self_eq_true, Item.d, Item.cells]))
            all_goals (try (first | (intro hg; simp [hg]; done) | exact of_decide_eq_true rfl | (cases h; done)))
            all_goals (try (first | (simp; done) | (simp [maxLen]; omega) | omega))
            exact Sub.view (VR 13 1) (by simp [L9b]) rfl (by simp [viewH, viewP, viewL, viewO, V0, V9, V9n, VR, VN, keptOf, find, PVal.toD, subD, subL, subV, subD_refl, viewL_ds, disj, PVal.ids, pnil, List.range, List.range.loop, L9b, prC, e, amts_snoc, hall]) (by simp [viewT, St.ev, viewH, viewP, viewL, viewO, V0, V9, V9n, VR, VN, keptOf, find, PVal.toD, subD, subL, subV, subD_refl, viewL_ds, disj, PVal.ids, pnil, List.range, List.range.loop, L9b, prC, e, amts_snoc, hall])
        | none =>
          rw [hf] at hget
          simp only [Option.elim] at hget
          have hlk : lookAt (agC c X) y = false := by unfold lookAt; rw [hf]
          rw [hlk, Bool.and_false] at hall
          cases hp : (agC c (Y.take i)).all (lookAt (agC c X)) with
          | false =>
            repeat' (first
              | ((first | refine Pwp.step (kit _) rfl fun K hK => ?_ | refine Pwp.last (kit _) rfl fun K hK => ?_ | refine Pwp.stepD (kit _) rfl rfl fun K hK => ?_ | refine Pwp.lastD (kit _) rfl rfl fun K hK => ?_); simp (dsimp := false) only [↓opsP_nil, ↓opsP_cons, ↓opsD_nil, ↓opsD_cons, footOf, ↓opP, ↓stepP, ↓stepG, go_sem, reduceIte, Nat.reduceAdd, Nat.reduceMul, Nat.reduceEqDiff, Nat.reduceLT, Nat.reduceLeDiff, Nat.reduceSub, reduceCtorEq, Int.reduceToNat, Int.reduceAdd, Int.reduceSub, Int.reduceLT, Int.reduceLE, Int.reduceNeg, Int.reduceBEq, Int.reduceBNe, true_or, hg, c3, hw, hY, hc, htk, hget, Item.d, Item.cells])
              | (refine Pwp.seq ?_)
              | (refine Pwp.block ?_)
              | (refine Pwp.exit ?_; simp only [thenS, blockS, if_true, if_false, reduceIte, Nat.reduceEqDiff, Nat.add_one_ne_zero, reduceCtorEq])
              | (refine Pwp.skip ?_; simp only [thenS, blockS])
              | (refine Pwp.cond rfl True.intro (fun h => ?_) (fun h => ?_) <;> (try (cases h; done)) <;> (try simp only [h]))
              | (refine Pwp.ret ?_; try simp only [thenS, blockS])
              | (refine hK _ ?_; clear hK K)
              | (refine hK _ _ rfl ?_; clear hK K)
              | (refine CallG.off ?_)
              | (with_reducible refine Or.inl ?_)
              | (simp only [thenS, blockS])
              | (with_reducible refine And.intro ?_ ?_)
              | (with_reducible exact True.intro)
              | (simp (dsimp := false) only [↓opsP_nil, ↓opsP_cons, ↓opsD_nil, ↓opsD_cons, footOf, ↓opP, ↓stepP, ↓stepG, go_sem, reduceIte, Nat.reduceAdd, Nat.reduceMul, Nat.reduceEqDiff, Nat.reduceLT, Nat.reduceLeDiff, Nat.reduceSub, reduceCtorEq, Int.reduceToNat, Int.reduceAdd, Int.reduceSub, Int.reduceLT, Int.reduceLE, Int.reduceNeg, Int.reduceBEq, Int.reduceBNe, true_or, hg, c3, hw, hY, hc, htk, hget, Item.d, Item.cells]))
            all_goals (try (first | (intro hg; simp [hg]; done) | exact of_decide_eq_true rfl | (cases h; done)))
            all_goals (try (first | (simp; done) | (simp [maxLen]; omega) | omega))
            exact Sub.view (VR 13 1) (by simp [L9b]) rfl (by simp [viewH, viewP, viewL, viewO, V0, V9, V9n, VR, VN, keptOf, find, PVal.toD, subD, subL, subV, subD_refl, viewL_ds, disj, PVal.ids, pnil, List.range, List.range.loop, L9b, prC, e, amts_snoc, hall]) (by simp [viewT, St.ev, viewH, viewP, viewL, viewO, V0, V9, V9n, VR, VN, keptOf, find, PVal.toD, subD, subL, subV, subD_refl, viewL_ds, disj, PVal.ids, pnil, List.range, List.range.loop, L9b, prC, e, amts_snoc, hall])
          | true =>
            have hz : ((0 : Int) == y.seller && ((0 : Int) == y.number && ((0 : Int) == y.buyer && ((0 : Int) == y.currency && ((0 : Int) == y.amount && ((0 : Int) == y.round && (0 : Int) == y.state)))))) = false := by simp [hst]
            repeat' (first
              | ((first | refine Pwp.step (kit _) rfl fun K hK => ?_ | refine Pwp.last (kit _) rfl fun K hK => ?_ | refine Pwp.stepD (kit _) rfl rfl fun K hK => ?_ | refine Pwp.lastD (kit _) rfl rfl fun K hK => ?_); simp (dsimp := false) only [↓opsP_nil, ↓opsP_cons, ↓opsD_nil, ↓opsD_cons, footOf, ↓opP, ↓stepP, ↓stepG, go_sem, reduceIte, Nat.reduceAdd, Nat.reduceMul, Nat.reduceEqDiff, Nat.reduceLT, Nat.reduceLeDiff, Nat.reduceSub, reduceCtorEq, Int.reduceToNat, Int.reduceAdd, Int.reduceSub, Int.reduceLT, Int.reduceLE, Int.reduceNeg, Int.reduceBEq, Int.reduceBNe, true_or, hg, c3, hw, hY, hc, htk, hget, hz, beq_self_eq_true, Item.d, Item.cells])
              | (refine Pwp.seq ?_)
              | (refine Pwp.block ?_)
              | (refine Pwp.exit ?_; simp only [thenS, blockS, if_true, if_false, reduceIte, Nat.reduceEqDiff, Nat.add_one_ne_zero, reduceCtorEq])
              | (refine Pwp.skip ?_; simp only [thenS, blockS])
              | (refine Pwp.cond rfl True.intro (fun h => ?_) (fun h => ?_) <;> (try (cases h; done)) <;> (try simp only [h]))
              | (refine Pwp.ret ?_; try simp only [thenS, blockS])
              | (refine hK _ ?_; clear hK K)
              | (refine hK _ _ rfl ?_; clear hK K)
              | (refine CallG.off ?_)
              | (with_reducible refine Or.inl ?_)
              | (simp only [thenS, blockS])
              | (with_reducible refine And.intro ?_ ?_)
              | (with_reducible exact True.intro)
              | (simp (dsimp := false) only [↓opsP_nil, ↓opsP_cons, ↓opsD_nil, ↓opsD_cons, footOf, ↓opP, ↓stepP, ↓stepG, go_sem, reduceIte, Nat.reduceAdd, Nat.reduceMul, Nat.reduceEqDiff, Nat.reduceLT, Nat.reduceLeDiff, Nat.reduceSub, reduceCtorEq, Int.reduceToNat, Int.reduceAdd, Int.reduceSub, Int.reduceLT, Int.reduceLE, Int.reduceNeg, Int.reduceBEq, Int.reduceBNe, true_or, hg, c3, hw, hY, hc, htk, hget, hz, beq_self_eq_true, Item.d, Item.cells]))
            all_goals (try (first | (intro hg; simp [hg]; done) | exact of_decide_eq_true rfl | (cases h; done)))
            all_goals (try (first | (simp; done) | (simp [maxLen]; omega) | omega))
            exact Sub.view (VR 13 1) (by simp [L9b]) rfl (by simp [viewH, viewP, viewL, viewO, V0, V9, V9n, VR, VN, keptOf, find, PVal.toD, subD, subL, subV, subD_refl, viewL_ds, disj, PVal.ids, pnil, List.range, List.range.loop, L9b, prC, e, amts_snoc, hall]) (by simp [viewT, St.ev, viewH, viewP, viewL, viewO, V0, V9, V9n, VR, VN, keptOf, find, PVal.toD, subD, subL, subV, subD_refl, viewL_ds, disj, PVal.ids, pnil, List.range, List.range.loop, L9b, prC, e, amts_snoc, hall])
      | false =>
        rw [hc, if_neg (by simp), List.append_nil] at e
        repeat' (first
          | ((first | refine Pwp.step (kit _) rfl fun K hK => ?_ | refine Pwp.last (kit _) rfl fun K hK => ?_ | refine Pwp.stepD (kit _) rfl rfl fun K hK => ?_ | refine Pwp.lastD (kit _) rfl rfl fun K hK => ?_); simp (dsimp := false) only [↓opsP_nil, ↓opsP_cons, ↓opsD_nil, ↓opsD_cons, footOf, ↓opP, ↓stepP, ↓stepG, go_sem, reduceIte, Nat.reduceAdd, Nat.reduceMul, Nat.reduceEqDiff, Nat.reduceLT, Nat.reduceLeDiff, Nat.reduceSub, reduceCtorEq, Int.reduceToNat, Int.reduceAdd, Int.reduceSub, Int.reduceLT, Int.reduceLE, Int.reduceNeg, Int.reduceBEq, Int.reduceBNe, true_or, hg, c3, hw, hY, hc, htk, Item.d, Item.cells])
          | (refine Pwp.seq ?_)
          | (refine Pwp.block ?_)
          | (refine Pwp.exit ?_; simp only [thenS, blockS, if_true, if_false, reduceIte, Nat.reduceEqDiff, Nat.add_one_ne_zero, reduceCtorEq])
          | (refine Pwp.skip ?_; simp only [thenS, blockS])
          | (refine Pwp.cond rfl True.intro (fun h => ?_) (fun h => ?_) <;> (try (cases h; done)) <;> (try simp only [h]))
          | (refine Pwp.ret ?_; try simp only [thenS, blockS])
          | (refine hK _ ?_; clear hK K)
          | (refine hK _ _ rfl ?_; clear hK K)
          | (refine CallG.off ?_)
          | (with_reducible refine Or.inl ?_)
          | (simp only [thenS, blockS])
          | (with_reducible refine And.intro ?_ ?_)
          | (with_reducible exact True.intro)
          | (simp (dsimp := false) only [↓opsP_nil, ↓opsP_cons, ↓opsD_nil, ↓opsD_cons, footOf, ↓opP, ↓stepP, ↓stepG, go_sem, reduceIte, Nat.reduceAdd, Nat.reduceMul, Nat.reduceEqDiff, Nat.reduceLT, Nat.reduceLeDiff, Nat.reduceSub, reduceCtorEq, Int.reduceToNat, Int.reduceAdd, Int.reduceSub, Int.reduceLT, Int.reduceLE, Int.reduceNeg, Int.reduceBEq, Int.reduceBNe, true_or, hg, c3, hw, hY, hc, htk, Item.d, Item.cells]))
        all_goals (try (first | (intro hg; simp [hg]; done) | exact of_decide_eq_true rfl | (cases h; done)))
        exact Sub.view V0 (by simp [L9b]) rfl (by simp [viewH, viewP, viewL, viewO, V0, V9, V9n, VR, VN, keptOf, find, PVal.toD, subD, subL, subV, subD_refl, viewL_ds, disj, PVal.ids, pnil, List.range, List.range.loop, L9b, prC, e]) (by simp [viewT, St.ev, viewH, viewP, viewL, viewO, V0, V9, V9n, VR, VN, keptOf, find, PVal.toD, subD, subL, subV, subD_refl, viewL_ds, disj, PVal.ids, pnil, List.range, List.range.loop, L9b, prC, e])
    · have c3 := dge (Nat.le_refl Y.length)
      have etY : Y.take Y.length = Y := List.take_length
      have hml : (amts (agC c X)).length = ((amts (agC c X)).map I64).length := by simp
      have hmB : (amts (agC c Y)).length = ((amts (agC c Y)).map I64).length := by simp
      have hcl : (((amts (agC c X)).length : Int) == ((amts (agC c Y)).length : Int)) = ((agC c X).length == (agC c Y).length) := by
        rw [Bool.eq_iff_iff, beq_iff_eq, beq_iff_eq, amts_len, amts_len]; omega
      unfold L9b prC
      rw [etY]
      cases hp : (agC c Y).all (lookAt (agC c X)) with
      | true =>
        rw [hp, Bool.true_and] at hlook
        subst hlook
        repeat' (first
          | ((first | refine Pwp.step (kit _) rfl fun K hK => ?_ | refine Pwp.last (kit _) rfl fun K hK => ?_ | refine Pwp.stepD (kit _) rfl rfl fun K hK => ?_ | refine Pwp.lastD (kit _) rfl rfl fun K hK => ?_); simp (dsimp := false) only [↓opsP_nil, ↓opsP_cons, ↓opsD_nil, ↓opsD_cons, footOf, ↓opP, ↓stepP, ↓stepG, go_sem, reduceIte, Nat.reduceAdd, Nat.reduceMul, Nat.reduceEqDiff, Nat.reduceLT, Nat.reduceLeDiff, Nat.reduceSub, reduceCtorEq, Int.reduceToNat, Int.reduceAdd, Int.reduceSub, Int.reduceLT, Int.reduceLE, Int.reduceNeg, Int.reduceBEq, Int.reduceBNe, true_or, c3, hcl, beq_self_eq_true])
          | (refine Pwp.seq ?_)
          | (refine Pwp.block ?_)
          | (refine Pwp.exit ?_; simp only [thenS, blockS, if_true, if_false, reduceIte, Nat.reduceEqDiff, Nat.add_one_ne_zero, reduceCtorEq])
          | (refine Pwp.skip ?_; simp only [thenS, blockS])
          | (refine Pwp.cond rfl True.intro (fun h => ?_) (fun h => ?_) <;> (try (cases h; done)) <;> (try simp only [h]))
          | (refine Pwp.ret ?_; try simp only [thenS, blockS])
          | (refine hK _ ?_; clear hK K)
          | (refine hK _ _ rfl ?_; clear hK K)
          | (refine CallK.giveO rfl hml r41A (by simp) ?_)
          | (refine CallK.giveO rfl hmB r41B (by simp) ?_)
          | (refine CallG.off ?_)
          | (with_reducible refine Or.inl ?_)
          | (simp only [thenS, blockS])
          | (with_reducible refine And.intro ?_ ?_)
          | (with_reducible exact True.intro)
          | (simp (dsimp := false) only [↓opsP_nil, ↓opsP_cons, ↓opsD_nil, ↓opsD_cons, footOf, ↓opP, ↓stepP, ↓stepG, go_sem, reduceIte, Nat.reduceAdd, Nat.reduceMul, Nat.reduceEqDiff, Nat.reduceLT, Nat.reduceLeDiff, Nat.reduceSub, reduceCtorEq, Int.reduceToNat, Int.reduceAdd, Int.reduceSub, Int.reduceLT, Int.reduceLE, Int.reduceNeg, Int.reduceBEq, Int.reduceBNe, true_or, c3, hcl, beq_self_eq_true]))
        all_goals (try (first | (intro hg; simp [hg]; done) | exact of_decide_eq_true rfl | (cases h; done)))
        (refine Fin.data (.inr rfl) (by simp (dsimp := false) only [↓opsP_nil, ↓opsP_cons, ↓opsD_nil, ↓opsD_cons, footOf, ↓opP, ↓stepP, ↓stepG, go_sem, reduceIte, Nat.reduceAdd, Nat.reduceMul, Nat.reduceEqDiff, Nat.reduceLT, Nat.reduceLeDiff, Nat.reduceSub, reduceCtorEq, Int.reduceToNat, Int.reduceAdd, Int.reduceSub, Int.reduceLT, Int.reduceLE, Int.reduceNeg, Int.reduceBEq, Int.reduceBNe, true_or, resL]; rfl) (by simp only [and_self]) (by simp (dsimp := false) only [↓opsP_nil, ↓opsP_cons, ↓opsD_nil, ↓opsD_cons, footOf, ↓opP, ↓stepP, ↓stepG, go_sem, reduceIte, Nat.reduceAdd, Nat.reduceMul, Nat.reduceEqDiff, Nat.reduceLT, Nat.reduceLeDiff, Nat.reduceSub, reduceCtorEq, Int.reduceToNat, Int.reduceAdd, Int.reduceSub, Int.reduceLT, Int.reduceLE, Int.reduceNeg, Int.reduceBEq, Int.reduceBNe, true_or, resP, Nat.le_refl, List.take_length]; try rfl) ?_)
        exact subD_refl _
      | false =>
        rw [hp, Bool.false_and] at hlook
        subst hlook
        repeat' (first
          | ((first | refine Pwp.step (kit _) rfl fun K hK => ?_ | refine Pwp.last (kit _) rfl fun K hK => ?_ | refine Pwp.stepD (kit _) rfl rfl fun K hK => ?_ | refine Pwp.lastD (kit _) rfl rfl fun K hK => ?_); simp (dsimp := false) only [↓opsP_nil, ↓opsP_cons, ↓opsD_nil, ↓opsD_cons, footOf, ↓opP, ↓stepP, ↓stepG, go_sem, reduceIte, Nat.reduceAdd, Nat.reduceMul, Nat.reduceEqDiff, Nat.reduceLT, Nat.reduceLeDiff, Nat.reduceSub, reduceCtorEq, Int.reduceToNat, Int.reduceAdd, Int.reduceSub, Int.reduceLT, Int.reduceLE, Int.reduceNeg, Int.reduceBEq, Int.reduceBNe, true_or, c3, hcl, beq_self_eq_true])
          | (refine Pwp.seq ?_)
          | (refine Pwp.block ?_)
          | (refine Pwp.exit ?_; simp only [thenS, blockS, if_true, if_false, reduceIte, Nat.reduceEqDiff, Nat.add_one_ne_zero, reduceCtorEq])
          | (refine Pwp.skip ?_; simp only [thenS, blockS])
          | (refine Pwp.cond rfl True.intro (fun h => ?_) (fun h => ?_) <;> (try (cases h; done)) <;> (try simp only [h]))
          | (refine Pwp.ret ?_; try simp only [thenS, blockS])
          | (refine hK _ ?_; clear hK K)
          | (refine hK _ _ rfl ?_; clear hK K)
          | (refine CallK.giveO rfl hml r41A (by simp) ?_)
          | (refine CallK.giveO rfl hmB r41B (by simp) ?_)
          | (refine CallG.off ?_)
          | (with_reducible refine Or.inl ?_)
          | (simp only [thenS, blockS])
          | (with_reducible refine And.intro ?_ ?_)
          | (with_reducible exact True.intro)
          | (simp (dsimp := false) only [↓opsP_nil, ↓opsP_cons, ↓opsD_nil, ↓opsD_cons, footOf, ↓opP, ↓stepP, ↓stepG, go_sem, reduceIte, Nat.reduceAdd, Nat.reduceMul, Nat.reduceEqDiff, Nat.reduceLT, Nat.reduceLeDiff, Nat.reduceSub, reduceCtorEq, Int.reduceToNat, Int.reduceAdd, Int.reduceSub, Int.reduceLT, Int.reduceLE, Int.reduceNeg, Int.reduceBEq, Int.reduceBNe, true_or, c3, hcl, beq_self_eq_true]))
        all_goals (try (first | (intro hg; simp [hg]; done) | exact of_decide_eq_true rfl | (cases h; done)))
        (refine Fin.data (.inr rfl) (by simp (dsimp := false) only [↓opsP_nil, ↓opsP_cons, ↓opsD_nil, ↓opsD_cons, footOf, ↓opP, ↓stepP, ↓stepG, go_sem, reduceIte, Nat.reduceAdd, Nat.reduceMul, Nat.reduceEqDiff, Nat.reduceLT, Nat.reduceLeDiff, Nat.reduceSub, reduceCtorEq, Int.reduceToNat, Int.reduceAdd, Int.reduceSub, Int.reduceLT, Int.reduceLE, Int.reduceNeg, Int.reduceBEq, Int.reduceBNe, true_or, resL]; rfl) (by simp only [and_self]) (by simp (dsimp := false) only [↓opsP_nil, ↓opsP_cons, ↓opsD_nil, ↓opsD_cons, footOf, ↓opP, ↓stepP, ↓stepG, go_sem, reduceIte, Nat.reduceAdd, Nat.reduceMul, Nat.reduceEqDiff, Nat.reduceLT, Nat.reduceLeDiff, Nat.reduceSub, reduceCtorEq, Int.reduceToNat, Int.reduceAdd, Int.reduceSub, Int.reduceLT, Int.reduceLE, Int.reduceNeg, Int.reduceBEq, Int.reduceBNe, true_or, resP, Nat.le_refl, List.take_length]; try rfl) ?_)
        exact subD_refl _

end Go.Proofs.Ytdodgbhodkcckaa.Pv
