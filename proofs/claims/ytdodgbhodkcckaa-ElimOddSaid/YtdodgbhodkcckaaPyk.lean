/- Walks of the statements of books against each other: one more. -/
import Derived.Test.YtdodgbhodkcckaaPyj
set_option linter.unusedVariables false
set_option linter.unusedSimpArgs false
set_option autoImplicit false
set_option maxRecDepth 100000
namespace Go.Proofs.Ytdodgbhodkcckaa.Pv
open Go Go.RowKit

abbrev ttD (_ : Item) : D := .v (.bool true)
def L12 (a : List Item) (w : Item) (i : Nat) : St := ⟨[(46, pint .i64 i), (45, pint .i64 a.length), (44, .d (.slc 8 (itemsD a))), (5, .mp 100), (3, .ref 8 0), (0, .d (.slc 8 (itemsD a)))], [(8, .box (w.cells.map .d)), (100, .map (entE ttD (w :: a.take i)))], 136⟩
theorem ent_one (w : Item) : [(idD w, D.v (.bool true))] = entE ttD (w :: List.take 0 ([] : List Item)) := rfl
set_option maxHeartbeats 8000000 in
theorem run12 (a : List Item) (w : Item) : Runs Try.prog 12 [.d (.slc 8 (itemsD a)), .d w.d] [] (pbool true) [] := by
  have hla := items_len a
  by_cases hg : 20 < a.length ∨ w.seller ≠ 0 ∨ w.buyer ≠ 1 ∨ w.state ≠ 3
  · have c1 : (((decide (20 < (a.length : Int)) || (w.seller != 0)) || (w.buyer != 1)) || (w.state != 3)) = true := by
      simp only [Bool.or_eq_true, decide_eq_true_eq, bne_iff_ne, ne_eq]; omega
    unfold Item.d Item.cells
    refine Runs.of (kit Try.prog) Try.func12 rfl rfl (by rw [Try.ntmps12]; exact of_decide_eq_true rfl) ?_; rw [Try.ntmps12, Try.results12]
    repeat' (first
      | ((first | refine Pwp.step (kit _) rfl fun K hK => ?_ | refine Pwp.last (kit _) rfl fun K hK => ?_ | refine Pwp.stepD (kit _) rfl rfl fun K hK => ?_ | refine Pwp.lastD (kit _) rfl rfl fun K hK => ?_); simp (dsimp := false) only [↓opsP_nil, ↓opsP_cons, ↓opsD_nil, ↓opsD_cons, footOf, ↓opP, ↓stepP, ↓stepG, go_sem, reduceIte, Nat.reduceAdd, Nat.reduceMul, Nat.reduceEqDiff, Nat.reduceLT, Nat.reduceLeDiff, Nat.reduceSub, reduceCtorEq, Int.reduceToNat, Int.reduceAdd, Int.reduceSub, Int.reduceLT, Int.reduceLE, Int.reduceNeg, Int.reduceBEq, Int.reduceBNe, true_or, hla, c1])
      | (refine Pwp.seq ?_)
      | (refine Pwp.block ?_)
      | (refine Pwp.exit ?_; simp only [thenS, blockS, if_true, if_false, reduceIte, Nat.reduceEqDiff, Nat.add_one_ne_zero, reduceCtorEq])
      | (refine Pwp.skip ?_; simp only [thenS, blockS])
      | (refine Pwp.cond rfl True.intro (fun h => ?_) (fun h => ?_) <;> (try (cases h; done)) <;> (try simp only [h]))
      | (refine Pwp.ret ?_; try simp only [thenS, blockS])
      | (refine hK _ ?_; clear hK K)
      | (refine hK _ _ rfl ?_; clear hK K)
      | (refine CallK.toD (ds := []) rfl (run46) rfl ?_)
      | (refine CallG.off ?_)
      | (with_reducible refine Or.inl ?_)
      | (simp only [thenS, blockS])
      | (with_reducible refine And.intro ?_ ?_)
      | (with_reducible exact True.intro)
      | (simp (dsimp := false) only [↓opsP_nil, ↓opsP_cons, ↓opsD_nil, ↓opsD_cons, footOf, ↓opP, ↓stepP, ↓stepG, go_sem, reduceIte, Nat.reduceAdd, Nat.reduceMul, Nat.reduceEqDiff, Nat.reduceLT, Nat.reduceLeDiff, Nat.reduceSub, reduceCtorEq, Int.reduceToNat, Int.reduceAdd, Int.reduceSub, Int.reduceLT, Int.reduceLE, Int.reduceNeg, Int.reduceBEq, Int.reduceBNe, true_or, hla, c1]))
    all_goals (try (first | (intro hg; simp_all; done) | (intro hg; simp [hg]; done) | exact of_decide_eq_true rfl | (cases h; done)))
    (refine Fin.data (.inr rfl) (by simp (dsimp := false) only [↓opsP_nil, ↓opsP_cons, ↓opsD_nil, ↓opsD_cons, footOf, ↓opP, ↓stepP, ↓stepG, go_sem, reduceIte, Nat.reduceAdd, Nat.reduceMul, Nat.reduceEqDiff, Nat.reduceLT, Nat.reduceLeDiff, Nat.reduceSub, reduceCtorEq, Int.reduceToNat, Int.reduceAdd, Int.reduceSub, Int.reduceLT, Int.reduceLE, Int.reduceNeg, Int.reduceBEq, Int.reduceBNe, true_or, resL]; rfl) (by simp only [and_self]) (by simp (dsimp := false) only [↓opsP_nil, ↓opsP_cons, ↓opsD_nil, ↓opsD_cons, footOf, ↓opP, ↓stepP, ↓stepG, go_sem, reduceIte, Nat.reduceAdd, Nat.reduceMul, Nat.reduceEqDiff, Nat.reduceLT, Nat.reduceLeDiff, Nat.reduceSub, reduceCtorEq, Int.reduceToNat, Int.reduceAdd, Int.reduceSub, Int.reduceLT, Int.reduceLE, Int.reduceNeg, Int.reduceBEq, Int.reduceBNe, true_or, resP, Nat.le_refl, List.take_length]; try rfl) ?_)
    exact subD_refl _
  have c1 : (((decide (20 < (a.length : Int)) || (w.seller != 0)) || (w.buyer != 1)) || (w.state != 3)) = false := by
    simp only [Bool.or_eq_false_iff, decide_eq_false_iff_not, bne_eq_false_iff_eq]; omega
  unfold Item.d Item.cells
  refine Runs.of (kit Try.prog) Try.func12 rfl rfl (by rw [Try.ntmps12]; exact of_decide_eq_true rfl) ?_; rw [Try.ntmps12, Try.results12]
  repeat' (first
    | ((first | refine Pwp.step (kit _) rfl fun K hK => ?_ | refine Pwp.last (kit _) rfl fun K hK => ?_ | refine Pwp.stepD (kit _) rfl rfl fun K hK => ?_ | refine Pwp.lastD (kit _) rfl rfl fun K hK => ?_); simp (dsimp := false) only [↓opsP_nil, ↓opsP_cons, ↓opsD_nil, ↓opsD_cons, footOf, ↓opP, ↓stepP, ↓stepG, go_sem, reduceIte, Nat.reduceAdd, Nat.reduceMul, Nat.reduceEqDiff, Nat.reduceLT, Nat.reduceLeDiff, Nat.reduceSub, reduceCtorEq, Int.reduceToNat, Int.reduceAdd, Int.reduceSub, Int.reduceLT, Int.reduceLE, Int.reduceNeg, Int.reduceBEq, Int.reduceBNe, true_or, hla, c1])
    | (refine Pwp.seq ?_)
    | (refine Pwp.block ?_)
    | (refine Pwp.exit ?_; simp only [thenS, blockS, if_true, if_false, reduceIte, Nat.reduceEqDiff, Nat.add_one_ne_zero, reduceCtorEq])
    | (refine Pwp.skip ?_; simp only [thenS, blockS])
    | (refine Pwp.cond rfl True.intro (fun h => ?_) (fun h => ?_) <;> (try (cases h; done)) <;> (try simp only [h]))
    | (refine Pwp.ret ?_; try simp only [thenS, blockS])
    | (refine hK _ ?_; clear hK K)
    | (refine hK _ _ rfl ?_; clear hK K)
    | (refine CallK.toD (ds := []) rfl (run46) rfl ?_)
    | (refine CallG.off ?_)
    | (with_reducible refine Or.inl ?_)
    | (simp only [thenS, blockS])
    | (with_reducible refine And.intro ?_ ?_)
    | (with_reducible exact True.intro)
    | (simp (dsimp := false) only [↓opsP_nil, ↓opsP_cons, ↓opsD_nil, ↓opsD_cons, footOf, ↓opP, ↓stepP, ↓stepG, go_sem, reduceIte, Nat.reduceAdd, Nat.reduceMul, Nat.reduceEqDiff, Nat.reduceLT, Nat.reduceLeDiff, Nat.reduceSub, reduceCtorEq, Int.reduceToNat, Int.reduceAdd, Int.reduceSub, Int.reduceLT, Int.reduceLE, Int.reduceNeg, Int.reduceBEq, Int.reduceBNe, true_or, hla, c1]))
  all_goals (try (first | (intro hg; simp_all; done) | (intro hg; simp [hg]; done) | exact of_decide_eq_true rfl | (cases h; done)))
  refine Pwp.rangeI a.length (fun i s => Apart (w :: a.take i) ∧ s = L12 a w i) (s0 := L12 a w 0) (Sub.view V0 (by simp [L12]) rfl (by simp [viewH, viewP, viewL, viewO, V0, V9, V9n, VR, VN, keptOf, find, PVal.toD, subD, subL, subV, subD_refl, viewL_ds, disj, PVal.ids, pnil, List.range, List.range.loop, L12, hla, Item.cells, entE]) (by simp [viewT, St.ev, viewH, viewP, viewL, viewO, V0, V9, V9n, VR, VN, keptOf, find, PVal.toD, subD, subL, subV, subD_refl, viewL_ds, disj, PVal.ids, pnil, List.range, List.range.loop, L12, hla, Item.cells, entE])) ⟨by simp [Apart], rfl⟩ ?_ ?_
  · rintro i s hi ⟨hap, rfl⟩
    obtain ⟨x, hx, hm⟩ := at_lt hi
    have hg := items_get hx
    have c2 := dlt hi
    have hw := wrap_succ (i := i) (by omega)
    have e : w :: a.take (i + 1) = (w :: a.take i) ++ [x] := by rw [List.take_add_one, hx]; rfl
    have hget := get_ent ttD x (w :: a.take i) (.v (.bool false))
    cases hf : (w :: a.take i).find? (nmEq x) with
    | some y =>
      rw [hf] at hget
      simp only [Option.elim, ttD] at hget
      unfold L12 Item.cells
      repeat' (first
        | ((first | refine Pwp.step (kit _) rfl fun K hK => ?_ | refine Pwp.last (kit _) rfl fun K hK => ?_ | refine Pwp.stepD (kit _) rfl rfl fun K hK => ?_ | refine Pwp.lastD (kit _) rfl rfl fun K hK => ?_); simp (dsimp := false) only [↓opsP_nil, ↓opsP_cons, ↓opsD_nil, ↓opsD_cons, footOf, ↓opP, ↓stepP, ↓stepG, go_sem, reduceIte, Nat.reduceAdd, Nat.reduceMul, Nat.reduceEqDiff, Nat.reduceLT, Nat.reduceLeDiff, Nat.reduceSub, reduceCtorEq, Int.reduceToNat, Int.reduceAdd, Int.reduceSub, Int.reduceLT, Int.reduceLE, Int.reduceNeg, Int.reduceBEq, Int.reduceBNe, true_or, hg, c2, hw, hla, hget, Item.d, Item.cells])
        | (refine Pwp.seq ?_)
        | (refine Pwp.block ?_)
        | (refine Pwp.exit ?_; simp only [thenS, blockS, if_true, if_false, reduceIte, Nat.reduceEqDiff, Nat.add_one_ne_zero, reduceCtorEq])
        | (refine Pwp.skip ?_; simp only [thenS, blockS])
        | (refine Pwp.cond rfl True.intro (fun h => ?_) (fun h => ?_) <;> (try (cases h; done)) <;> (try simp only [h]))
        | (refine Pwp.ret ?_; try simp only [thenS, blockS])
        | (refine hK _ ?_; clear hK K)
        | (refine hK _ _ rfl ?_; clear hK K)
        | (refine CallG.off ?_)
        | (with_reducible refine Or.inl ?_)
        | (simp only [thenS, blockS])
        | (with_reducible refine And.intro ?_ ?_)
        | (with_reducible exact True.intro)
        | (simp (dsimp := false) only [↓opsP_nil, ↓opsP_cons, ↓opsD_nil, ↓opsD_cons, footOf, ↓opP, ↓stepP, ↓stepG, go_sem, reduceIte, Nat.reduceAdd, Nat.reduceMul, Nat.reduceEqDiff, Nat.reduceLT, Nat.reduceLeDiff, Nat.reduceSub, reduceCtorEq, Int.reduceToNat, Int.reduceAdd, Int.reduceSub, Int.reduceLT, Int.reduceLE, Int.reduceNeg, Int.reduceBEq, Int.reduceBNe, true_or, hg, c2, hw, hla, hget, Item.d, Item.cells]))
      all_goals (try (first | (intro hg; simp_all; done) | (intro hg; simp [hg]; done) | exact of_decide_eq_true rfl | (cases h; done)))
      (refine Fin.data (.inr rfl) (by simp (dsimp := false) only [↓opsP_nil, ↓opsP_cons, ↓opsD_nil, ↓opsD_cons, footOf, ↓opP, ↓stepP, ↓stepG, go_sem, reduceIte, Nat.reduceAdd, Nat.reduceMul, Nat.reduceEqDiff, Nat.reduceLT, Nat.reduceLeDiff, Nat.reduceSub, reduceCtorEq, Int.reduceToNat, Int.reduceAdd, Int.reduceSub, Int.reduceLT, Int.reduceLE, Int.reduceNeg, Int.reduceBEq, Int.reduceBNe, true_or, resL]; rfl) (by simp only [and_self]) (by simp (dsimp := false) only [↓opsP_nil, ↓opsP_cons, ↓opsD_nil, ↓opsD_cons, footOf, ↓opP, ↓stepP, ↓stepG, go_sem, reduceIte, Nat.reduceAdd, Nat.reduceMul, Nat.reduceEqDiff, Nat.reduceLT, Nat.reduceLeDiff, Nat.reduceSub, reduceCtorEq, Int.reduceToNat, Int.reduceAdd, Int.reduceSub, Int.reduceLT, Int.reduceLE, Int.reduceNeg, Int.reduceBEq, Int.reduceBNe, true_or, resP, Nat.le_refl, List.take_length]; try rfl) ?_)
      exact subD_refl _
    | none =>
      rw [hf] at hget
      simp only [Option.elim] at hget
      have hset := set_ent (v := ttD) hf
      simp only [ttD] at hset
      have hap2 := hap.snoc hf
      rw [← e] at hap2 hset
      unfold L12 Item.cells
      repeat' (first
        | ((first | refine Pwp.step (kit _) rfl fun K hK => ?_ | refine Pwp.last (kit _) rfl fun K hK => ?_ | refine Pwp.stepD (kit _) rfl rfl fun K hK => ?_ | refine Pwp.lastD (kit _) rfl rfl fun K hK => ?_); simp (dsimp := false) only [↓opsP_nil, ↓opsP_cons, ↓opsD_nil, ↓opsD_cons, footOf, ↓opP, ↓stepP, ↓stepG, go_sem, reduceIte, Nat.reduceAdd, Nat.reduceMul, Nat.reduceEqDiff, Nat.reduceLT, Nat.reduceLeDiff, Nat.reduceSub, reduceCtorEq, Int.reduceToNat, Int.reduceAdd, Int.reduceSub, Int.reduceLT, Int.reduceLE, Int.reduceNeg, Int.reduceBEq, Int.reduceBNe, true_or, hg, c2, hw, hla, hget, hset, Item.d, Item.cells])
        | (refine Pwp.seq ?_)
        | (refine Pwp.block ?_)
        | (refine Pwp.exit ?_; simp only [thenS, blockS, if_true, if_false, reduceIte, Nat.reduceEqDiff, Nat.add_one_ne_zero, reduceCtorEq])
        | (refine Pwp.skip ?_; simp only [thenS, blockS])
        | (refine Pwp.cond rfl True.intro (fun h => ?_) (fun h => ?_) <;> (try (cases h; done)) <;> (try simp only [h]))
        | (refine Pwp.ret ?_; try simp only [thenS, blockS])
        | (refine hK _ ?_; clear hK K)
        | (refine hK _ _ rfl ?_; clear hK K)
        | (refine CallG.off ?_)
        | (with_reducible refine Or.inl ?_)
        | (simp only [thenS, blockS])
        | (with_reducible refine And.intro ?_ ?_)
        | (with_reducible exact True.intro)
        | (simp (dsimp := false) only [↓opsP_nil, ↓opsP_cons, ↓opsD_nil, ↓opsD_cons, footOf, ↓opP, ↓stepP, ↓stepG, go_sem, reduceIte, Nat.reduceAdd, Nat.reduceMul, Nat.reduceEqDiff, Nat.reduceLT, Nat.reduceLeDiff, Nat.reduceSub, reduceCtorEq, Int.reduceToNat, Int.reduceAdd, Int.reduceSub, Int.reduceLT, Int.reduceLE, Int.reduceNeg, Int.reduceBEq, Int.reduceBNe, true_or, hg, c2, hw, hla, hget, hset, Item.d, Item.cells]))
      all_goals (try (first | (intro hg; simp_all; done) | (intro hg; simp [hg]; done) | exact of_decide_eq_true rfl | (cases h; done)))
      exact ⟨_, Sub.view V0 (by simp [L12]) rfl (by simp [viewH, viewP, viewL, viewO, V0, V9, V9n, VR, VN, keptOf, find, PVal.toD, subD, subL, subV, subD_refl, viewL_ds, disj, PVal.ids, pnil, List.range, List.range.loop, L12, Item.cells]) (by simp [viewT, St.ev, viewH, viewP, viewL, viewO, V0, V9, V9n, VR, VN, keptOf, find, PVal.toD, subD, subL, subV, subD_refl, viewL_ds, disj, PVal.ids, pnil, List.range, List.range.loop, L12, Item.cells]), hap2, rfl⟩
  · rintro s ⟨hap, rfl⟩
    have c2 := dge (Nat.le_refl a.length)
    rw [List.take_length] at hap
    have hl20 : a.length ≤ 20 := by omega
    have r47 := run47 a a (by omega) (by omega)
    have lX := len_puts 0 a
    have lY := len_puts 1 a
    have gX := good_puts 0 a
    have gY := good_puts 1 a
    have gX2 := gX.putS w
    have gY2 := gY.putS w
    have lX2 := len_putS 0 (putsI 0 a) w
    have lY2 := len_putS 1 (putsI 1 a) w
    have r50a := run50S 0 (putsI 0 a) [] w (by omega)
    have r50b := run50S 1 (putsI 1 a) [] w (by omega)
    have hlaw := fun (h0 : putE 0 (putsI 0 a) w = 0) => odd_law (a := a) (w := w) (by omega) hap (putE_zero.1 h0).1 (by omega) (by omega) (by omega)
    have r48a := run48F 0 1 w.currency (putS 0 (putsI 0 a) w) (putsI 1 a) (by omega) (by omega) gX2.fine gY.fine
    have r48b := run48F 0 1 w.currency (putS 0 (putsI 0 a) w) (putS 1 (putsI 1 a) w) (by omega) (by omega) gX2.fine gY2.fine
    have bX : okBk (0, putS 0 (putsI 0 a) w) := ⟨by simp only; omega, gX2.fine⟩
    have bY : okBk (1, putsI 1 a) := ⟨by simp only; omega, gY.fine⟩
    have r51 := run51 w.currency [(0, putS 0 (putsI 0 a) w), (1, putsI 1 a)] (by simp) (by simp [bX, bY])
    unfold L12 Item.cells
    by_cases h0 : putE 0 (putsI 0 a) w = 0
    · by_cases h1 : putE 1 (putsI 1 a) w = 0
      · obtain ⟨q1, q2, q3⟩ := hlaw h0
        have hal : alikeL (agL 0 1 w.currency (putS 0 (putsI 0 a) w)) (agL 0 1 w.currency (putsI 1 a)) = false := alike_len (by omega)
        have hev : evenB w.currency [(0, putS 0 (putsI 0 a) w), (1, putsI 1 a)] = false := evenB_no (a := (0, putS 0 (putsI 0 a) w)) (b := (1, putsI 1 a)) (by simp) (by simp) (by unfold pairB; simp only [hal]; rfl)
        have hfine := (putE_zero.1 h0).1.a
        have hwr : IntKind.wrap .i64 (w.amount + sumOf (amts (agL 0 1 w.currency (putsI 1 a))) - sumOf (amts (agL 0 1 w.currency (putsI 1 a)))) = w.amount := by
          rw [Int.add_sub_cancel, wrap_of (by omega) (by omega)]
        rw [h0] at r50a
        rw [h1] at r50b
        rw [q2, hal] at r48a
        rw [← q3, alike_self] at r48b
        rw [hev] at r51
        generalize putS 0 (putsI 0 a) w = X2 at *
        generalize putS 1 (putsI 1 a) w = Y2 at *
        generalize putsI 0 a = X at *
        generalize putsI 1 a = Y at *
        generalize sumOf (amts (agL 0 1 w.currency Y)) = sY at *
        generalize sumOf (amts (agL 0 1 w.currency X2)) = sX at *
        repeat' (first
          | ((first | refine Pwp.step (kit _) rfl fun K hK => ?_ | refine Pwp.last (kit _) rfl fun K hK => ?_ | refine Pwp.stepD (kit _) rfl rfl fun K hK => ?_ | refine Pwp.lastD (kit _) rfl rfl fun K hK => ?_); simp (dsimp := false) only [↓opsP_nil, ↓opsP_cons, ↓opsD_nil, ↓opsD_cons, footOf, ↓opP, ↓stepP, ↓stepG, go_sem, reduceIte, Nat.reduceAdd, Nat.reduceMul, Nat.reduceEqDiff, Nat.reduceLT, Nat.reduceLeDiff, Nat.reduceSub, reduceCtorEq, Int.reduceToNat, Int.reduceAdd, Int.reduceSub, Int.reduceLT, Int.reduceLE, Int.reduceNeg, Int.reduceBEq, Int.reduceBNe, true_or, c2, hla, bookD, pairD, hwr, beq_self_eq_true, bne_self_eq_false])
          | (refine Pwp.seq ?_)
          | (refine Pwp.block ?_)
          | (refine Pwp.exit ?_; simp only [thenS, blockS, if_true, if_false, reduceIte, Nat.reduceEqDiff, Nat.add_one_ne_zero, reduceCtorEq])
          | (refine Pwp.skip ?_; simp only [thenS, blockS])
          | (refine Pwp.cond rfl True.intro (fun h => ?_) (fun h => ?_) <;> (try (cases h; done)) <;> (try simp only [h]))
          | (refine Pwp.ret ?_; try simp only [thenS, blockS])
          | (refine hK _ ?_; clear hK K)
          | (refine hK _ _ rfl ?_; clear hK K)
          | (refine CallK.give (ds := [.slc 8 (itemsD a), .slc 8 (itemsD a)]) rfl (r47) (by simp) ?_)
          | (refine CallK.give (ds := [bookD 0 X [], w.d]) rfl (r50a) (by simp) ?_)
          | (refine CallK.give (ds := [bookD 1 Y [], w.d]) rfl (r50b) (by simp) ?_)
          | (refine CallK.give (ds := [bookD 0 X2 [], bookD 1 Y [], I64 w.currency]) rfl (r48a) (by simp) ?_)
          | (refine CallK.give (ds := [bookD 0 X2 [], bookD 1 Y2 [], I64 w.currency]) rfl (r48b) (by simp) ?_)
          | (refine CallG.toD (ds := [I64 w.currency, .slc 3 (booksD [(0, X2), (1, Y)])]) rfl (r51) rfl ?_ ?_)
          | (refine CallG.off ?_)
          | (with_reducible refine Or.inl ?_)
          | (simp only [thenS, blockS])
          | (with_reducible refine And.intro ?_ ?_)
          | (with_reducible exact True.intro)
          | (simp (dsimp := false) only [↓opsP_nil, ↓opsP_cons, ↓opsD_nil, ↓opsD_cons, footOf, ↓opP, ↓stepP, ↓stepG, go_sem, reduceIte, Nat.reduceAdd, Nat.reduceMul, Nat.reduceEqDiff, Nat.reduceLT, Nat.reduceLeDiff, Nat.reduceSub, reduceCtorEq, Int.reduceToNat, Int.reduceAdd, Int.reduceSub, Int.reduceLT, Int.reduceLE, Int.reduceNeg, Int.reduceBEq, Int.reduceBNe, true_or, c2, hla, bookD, pairD, hwr, beq_self_eq_true, bne_self_eq_false]))
        all_goals (try (first | (intro hg; simp [hg]; done) | exact of_decide_eq_true rfl | (cases h; done)))
        (refine Fin.data (.inr rfl) (by simp (dsimp := false) only [↓opsP_nil, ↓opsP_cons, ↓opsD_nil, ↓opsD_cons, footOf, ↓opP, ↓stepP, ↓stepG, go_sem, reduceIte, Nat.reduceAdd, Nat.reduceMul, Nat.reduceEqDiff, Nat.reduceLT, Nat.reduceLeDiff, Nat.reduceSub, reduceCtorEq, Int.reduceToNat, Int.reduceAdd, Int.reduceSub, Int.reduceLT, Int.reduceLE, Int.reduceNeg, Int.reduceBEq, Int.reduceBNe, true_or, resL]; rfl) (by simp only [and_self]) (by simp (dsimp := false) only [↓opsP_nil, ↓opsP_cons, ↓opsD_nil, ↓opsD_cons, footOf, ↓opP, ↓stepP, ↓stepG, go_sem, reduceIte, Nat.reduceAdd, Nat.reduceMul, Nat.reduceEqDiff, Nat.reduceLT, Nat.reduceLeDiff, Nat.reduceSub, reduceCtorEq, Int.reduceToNat, Int.reduceAdd, Int.reduceSub, Int.reduceLT, Int.reduceLE, Int.reduceNeg, Int.reduceBEq, Int.reduceBNe, true_or, resP, Nat.le_refl, List.take_length]; try rfl) ?_)
        exact subD_refl _
      · have n1 : (putE 1 (putsI 1 a) w != 0) = true := by simpa using h1
        rw [h0] at r50a
        repeat' (first
          | ((first | refine Pwp.step (kit _) rfl fun K hK => ?_ | refine Pwp.last (kit _) rfl fun K hK => ?_ | refine Pwp.stepD (kit _) rfl rfl fun K hK => ?_ | refine Pwp.lastD (kit _) rfl rfl fun K hK => ?_); simp (dsimp := false) only [↓opsP_nil, ↓opsP_cons, ↓opsD_nil, ↓opsD_cons, footOf, ↓opP, ↓stepP, ↓stepG, go_sem, reduceIte, Nat.reduceAdd, Nat.reduceMul, Nat.reduceEqDiff, Nat.reduceLT, Nat.reduceLeDiff, Nat.reduceSub, reduceCtorEq, Int.reduceToNat, Int.reduceAdd, Int.reduceSub, Int.reduceLT, Int.reduceLE, Int.reduceNeg, Int.reduceBEq, Int.reduceBNe, true_or, c2, hla, bookD, n1, beq_self_eq_true, bne_self_eq_false])
          | (refine Pwp.seq ?_)
          | (refine Pwp.block ?_)
          | (refine Pwp.exit ?_; simp only [thenS, blockS, if_true, if_false, reduceIte, Nat.reduceEqDiff, Nat.add_one_ne_zero, reduceCtorEq])
          | (refine Pwp.skip ?_; simp only [thenS, blockS])
          | (refine Pwp.cond rfl True.intro (fun h => ?_) (fun h => ?_) <;> (try (cases h; done)) <;> (try simp only [h]))
          | (refine Pwp.ret ?_; try simp only [thenS, blockS])
          | (refine hK _ ?_; clear hK K)
          | (refine hK _ _ rfl ?_; clear hK K)
          | (refine CallK.give (ds := [.slc 8 (itemsD a), .slc 8 (itemsD a)]) rfl (r47) (by simp) ?_)
          | (refine CallK.give (ds := [bookD 0 (putsI 0 a) [], w.d]) rfl (r50a) (by simp) ?_)
          | (refine CallK.give (ds := [bookD 1 (putsI 1 a) [], w.d]) rfl (r50b) (by simp) ?_)
          | (refine CallG.off ?_)
          | (with_reducible refine Or.inl ?_)
          | (simp only [thenS, blockS])
          | (with_reducible refine And.intro ?_ ?_)
          | (with_reducible exact True.intro)
          | (simp (dsimp := false) only [↓opsP_nil, ↓opsP_cons, ↓opsD_nil, ↓opsD_cons, footOf, ↓opP, ↓stepP, ↓stepG, go_sem, reduceIte, Nat.reduceAdd, Nat.reduceMul, Nat.reduceEqDiff, Nat.reduceLT, Nat.reduceLeDiff, Nat.reduceSub, reduceCtorEq, Int.reduceToNat, Int.reduceAdd, Int.reduceSub, Int.reduceLT, Int.reduceLE, Int.reduceNeg, Int.reduceBEq, Int.reduceBNe, true_or, c2, hla, bookD, n1, beq_self_eq_true, bne_self_eq_false]))
        all_goals (try (first | (intro hg; simp [hg]; done) | exact of_decide_eq_true rfl | (cases h; done)))
        (refine Fin.data (.inr rfl) (by simp (dsimp := false) only [↓opsP_nil, ↓opsP_cons, ↓opsD_nil, ↓opsD_cons, footOf, ↓opP, ↓stepP, ↓stepG, go_sem, reduceIte, Nat.reduceAdd, Nat.reduceMul, Nat.reduceEqDiff, Nat.reduceLT, Nat.reduceLeDiff, Nat.reduceSub, reduceCtorEq, Int.reduceToNat, Int.reduceAdd, Int.reduceSub, Int.reduceLT, Int.reduceLE, Int.reduceNeg, Int.reduceBEq, Int.reduceBNe, true_or, resL]; rfl) (by simp only [and_self]) (by simp (dsimp := false) only [↓opsP_nil, ↓opsP_cons, ↓opsD_nil, ↓opsD_cons, footOf, ↓opP, ↓stepP, ↓stepG, go_sem, reduceIte, Nat.reduceAdd, Nat.reduceMul, Nat.reduceEqDiff, Nat.reduceLT, Nat.reduceLeDiff, Nat.reduceSub, reduceCtorEq, Int.reduceToNat, Int.reduceAdd, Int.reduceSub, Int.reduceLT, Int.reduceLE, Int.reduceNeg, Int.reduceBEq, Int.reduceBNe, true_or, resP, Nat.le_refl, List.take_length]; try rfl) ?_)
        exact subD_refl _
    · have n0 : (putE 0 (putsI 0 a) w != 0) = true := by simpa using h0
      repeat' (first
        | ((first | refine Pwp.step (kit _) rfl fun K hK => ?_ | refine Pwp.last (kit _) rfl fun K hK => ?_ | refine Pwp.stepD (kit _) rfl rfl fun K hK => ?_ | refine Pwp.lastD (kit _) rfl rfl fun K hK => ?_); simp (dsimp := false) only [↓opsP_nil, ↓opsP_cons, ↓opsD_nil, ↓opsD_cons, footOf, ↓opP, ↓stepP, ↓stepG, go_sem, reduceIte, Nat.reduceAdd, Nat.reduceMul, Nat.reduceEqDiff, Nat.reduceLT, Nat.reduceLeDiff, Nat.reduceSub, reduceCtorEq, Int.reduceToNat, Int.reduceAdd, Int.reduceSub, Int.reduceLT, Int.reduceLE, Int.reduceNeg, Int.reduceBEq, Int.reduceBNe, true_or, c2, hla, bookD, n0, beq_self_eq_true, bne_self_eq_false])
        | (refine Pwp.seq ?_)
        | (refine Pwp.block ?_)
        | (refine Pwp.exit ?_; simp only [thenS, blockS, if_true, if_false, reduceIte, Nat.reduceEqDiff, Nat.add_one_ne_zero, reduceCtorEq])
        | (refine Pwp.skip ?_; simp only [thenS, blockS])
        | (refine Pwp.cond rfl True.intro (fun h => ?_) (fun h => ?_) <;> (try (cases h; done)) <;> (try simp only [h]))
        | (refine Pwp.ret ?_; try simp only [thenS, blockS])
        | (refine hK _ ?_; clear hK K)
        | (refine hK _ _ rfl ?_; clear hK K)
        | (refine CallK.give (ds := [.slc 8 (itemsD a), .slc 8 (itemsD a)]) rfl (r47) (by simp) ?_)
        | (refine CallK.give (ds := [bookD 0 (putsI 0 a) [], w.d]) rfl (r50a) (by simp) ?_)
        | (refine CallK.give (ds := [bookD 1 (putsI 1 a) [], w.d]) rfl (r50b) (by simp) ?_)
        | (refine CallG.off ?_)
        | (with_reducible refine Or.inl ?_)
        | (simp only [thenS, blockS])
        | (with_reducible refine And.intro ?_ ?_)
        | (with_reducible exact True.intro)
        | (simp (dsimp := false) only [↓opsP_nil, ↓opsP_cons, ↓opsD_nil, ↓opsD_cons, footOf, ↓opP, ↓stepP, ↓stepG, go_sem, reduceIte, Nat.reduceAdd, Nat.reduceMul, Nat.reduceEqDiff, Nat.reduceLT, Nat.reduceLeDiff, Nat.reduceSub, reduceCtorEq, Int.reduceToNat, Int.reduceAdd, Int.reduceSub, Int.reduceLT, Int.reduceLE, Int.reduceNeg, Int.reduceBEq, Int.reduceBNe, true_or, c2, hla, bookD, n0, beq_self_eq_true, bne_self_eq_false]))
      all_goals (try (first | (intro hg; simp [hg]; done) | exact of_decide_eq_true rfl | (cases h; done)))
      (refine Fin.data (.inr rfl) (by simp (dsimp := false) only [↓opsP_nil, ↓opsP_cons, ↓opsD_nil, ↓opsD_cons, footOf, ↓opP, ↓stepP, ↓stepG, go_sem, reduceIte, Nat.reduceAdd, Nat.reduceMul, Nat.reduceEqDiff, Nat.reduceLT, Nat.reduceLeDiff, Nat.reduceSub, reduceCtorEq, Int.reduceToNat, Int.reduceAdd, Int.reduceSub, Int.reduceLT, Int.reduceLE, Int.reduceNeg, Int.reduceBEq, Int.reduceBNe, true_or, resL]; rfl) (by simp only [and_self]) (by simp (dsimp := false) only [↓opsP_nil, ↓opsP_cons, ↓opsD_nil, ↓opsD_cons, footOf, ↓opP, ↓stepP, ↓stepG, go_sem, reduceIte, Nat.reduceAdd, Nat.reduceMul, Nat.reduceEqDiff, Nat.reduceLT, Nat.reduceLeDiff, Nat.reduceSub, reduceCtorEq, Int.reduceToNat, Int.reduceAdd, Int.reduceSub, Int.reduceLT, Int.reduceLE, Int.reduceNeg, Int.reduceBEq, Int.reduceBNe, true_or, resP, Nat.le_refl, List.take_length]; try rfl) ?_)
      exact subD_refl _

end Go.Proofs.Ytdodgbhodkcckaa.Pv
