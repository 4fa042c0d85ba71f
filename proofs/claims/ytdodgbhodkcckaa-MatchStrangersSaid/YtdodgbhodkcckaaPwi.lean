/- Walks of what is open. -/
import Derived.Test.YtdodgbhodkcckaaPwh
import Derived.Test.YtdodgbhodkcckaaPwg
set_option linter.unusedVariables false
set_option linter.unusedSimpArgs false
set_option autoImplicit false
set_option maxRecDepth 100000
namespace Go.Proofs.Ytdodgbhodkcckaa.Pv
open Go Go.RowKit

/-- Is an item passed over? -/
def skips (c o : Int) (x : Item) : Bool := !(x.state == 3 && x.currency == c) || (decide (0 ≤ o) && x.seller != o && x.buyer != o)
/-- What it counts. -/
def amtOf (me : Int) (x : Item) : Int := if (x.buyer == me) = true then IntKind.i64.wrap (0 - x.amount) else x.amount
def openL (me c o : Int) : List Item → List Int
  | [] => []
  | x :: l => if skips c o x = true then openL me c o l else amtOf me x :: openL me c o l
theorem openL_append (me c o : Int) : ∀ (l k : List Item), openL me c o (l ++ k) = openL me c o l ++ openL me c o k
  | [], k => rfl
  | x :: l, k => by simp only [List.cons_append, openL]; split <;> simp [openL_append me c o l k]
theorem openL_take {me c o : Int} {l : List Item} {i : Nat} {x : Item} (h : l[i]? = some x) : openL me c o (l.take (i + 1)) = openL me c o (l.take i) ++ (if skips c o x = true then [] else [amtOf me x]) := by
  rw [List.take_add_one, h, openL_append]; simp [openL]
theorem openL_len (me c o : Int) : ∀ l : List Item, (openL me c o l).length ≤ l.length
  | [] => Nat.le_refl _
  | x :: l => by have := openL_len me c o l; simp only [openL]; split <;> simp <;> omega

theorem openL_in {me c o : Int} : ∀ {l : List Item}, (∀ x ∈ l, In64 (amtOf me x)) → ∀ a ∈ openL me c o l, In64 a
  | [], _, a, h => by simp [openL] at h
  | x :: l, hx, a, h => by
    simp only [openL] at h
    split at h
    · exact openL_in (fun y hy => hx y (by simp [hy])) a h
    · rcases List.mem_cons.1 h with rfl | h
      · exact hx x (by simp)
      · exact openL_in (fun y hy => hx y (by simp [hy])) a h

def L54 (me c o : Int) (l : List Item) (os : List D) (i : Nat) : St := ⟨[(15, pint .i64 i), (14, pint .i64 l.length), (13, .d (.slc 8 (itemsD l))), (8, .own 9 0 1 0 (openL me c o (l.take i)).length), (3, .ref 8 0), (1, pint .i64 c), (2, pint .i64 o)],
  [(8, .box [.d (I64 me), .d (.slc 8 (itemsD l)), .d (.slc 3 os)]), (9, .arr 2 1 0 none ((openL me c o (l.take i)).map I64))], 40⟩

set_option maxHeartbeats 8000000 in
theorem run54 (me c o : Int) (l : List Item) (os : List D) (hl : l.length ≤ 1000000) (ha : ∀ x ∈ l, In64 (amtOf me x)) : Runs Try.prog 54 [.d (bookD me l os), pint .i64 c, pint .i64 o] [] (.d (.tup (if fits (sumOf (openL me c o l)) = true then [I64 (sumOf (openL me c o l)), I64 0] else [I64 0, I64 10]))) [] := by
  have hlen := items_len l
  unfold bookD
  refine Runs.of (kit Try.prog) Try.func54 rfl rfl (by rw [Try.ntmps54]; exact of_decide_eq_true rfl) ?_; rw [Try.ntmps54, Try.results54]
  repeat' (first
    | ((first | refine Pwp.step (kit _) rfl fun K hK => ?_ | refine Pwp.last (kit _) rfl fun K hK => ?_ | refine Pwp.stepD (kit _) rfl rfl fun K hK => ?_ | refine Pwp.lastD (kit _) rfl rfl fun K hK => ?_); simp (dsimp := false) only [↓opsP_nil, ↓opsP_cons, ↓opsD_nil, ↓opsD_cons, footOf, ↓opP, ↓stepP, ↓stepG, go_sem, reduceIte, Nat.reduceAdd, Nat.reduceMul, Nat.reduceEqDiff, Nat.reduceLT, Nat.reduceLeDiff, Nat.reduceSub, reduceCtorEq, Int.reduceToNat, Int.reduceAdd, Int.reduceSub, Int.reduceLT, Int.reduceLE, Int.reduceNeg, Int.reduceBEq, Int.reduceBNe, true_or, hlen])
    | (refine Pwp.seq ?_)
    | (refine Pwp.block ?_)
    | (refine Pwp.exit ?_; simp only [thenS, blockS, if_true, if_false, reduceIte, Nat.reduceEqDiff, Nat.add_one_ne_zero, reduceCtorEq])
    | (refine Pwp.skip ?_; simp only [thenS, blockS])
    | (refine Pwp.cond rfl True.intro (fun h => ?_) (fun h => ?_) <;> (try (cases h; done)) <;> (try simp only [h]))
    | (refine Pwp.ret ?_; try simp only [thenS, blockS])
    | (refine hK _ ?_; clear hK K)
    | (refine hK _ _ rfl ?_; clear hK K)
    | (refine CallG.off ?_)
    | (with_reducible refine Or.inl ?_)
    | (simp only [thenS, blockS])
    | (with_reducible refine And.intro ?_ ?_)
    | (with_reducible exact True.intro)
    | (simp (dsimp := false) only [↓opsP_nil, ↓opsP_cons, ↓opsD_nil, ↓opsD_cons, footOf, ↓opP, ↓stepP, ↓stepG, go_sem, reduceIte, Nat.reduceAdd, Nat.reduceMul, Nat.reduceEqDiff, Nat.reduceLT, Nat.reduceLeDiff, Nat.reduceSub, reduceCtorEq, Int.reduceToNat, Int.reduceAdd, Int.reduceSub, Int.reduceLT, Int.reduceLE, Int.reduceNeg, Int.reduceBEq, Int.reduceBNe, true_or, hlen]))
  all_goals (try (first | (intro hg; simp_all; done) | (intro hg; simp [hg]; done) | exact of_decide_eq_true rfl | (cases h; done)))
  refine Pwp.loop (fun k s => ∃ i, i ≤ l.length ∧ k = l.length - i ∧ s = L54 me c o l os i) l.length (s := L54 me c o l os 0) (Sub.view V9n (by simp [L54]) rfl ?_ ?_) ⟨0, by omega, by omega, rfl⟩ ?_
  · simp [viewH, viewP, viewL, viewO, L54, V9n, keptOf, find, PVal.toD, subD, subV, disj, PVal.ids, openL]
  · simp [viewT, viewP, L54, V9n, keptOf, St.ev, find, PVal.toD, subD, subV, disj, PVal.ids, List.length_map, hlen, openL, pnil, List.range, List.range.loop]
  rintro k s ⟨i, hi, rfl, rfl⟩
  have hol : (openL me c o (l.take i)).length ≤ 1000000 := by
    have := openL_len me c o (l.take i)
    rw [List.length_take, Nat.min_eq_left hi] at this
    omega
  rcases Nat.lt_or_ge i l.length with hlt | hge
  · obtain ⟨x, hx⟩ : ∃ x, l[i]? = some x := ⟨_, List.getElem?_eq_getElem hlt⟩
    have hg : (itemsD l)[i]? = some x.d := by simp [itemsD, hx, Item.d]
    have hcc : decide ((i : Int) < (l.length : Int)) = true := by simp; omega
    have htk : ((openL me c o (l.take i)).map I64).take (openL me c o (l.take i)).length = (openL me c o (l.take i)).map I64 := List.take_of_length_le (by simp)
    unfold L54
    repeat' (first
      | ((first | refine Pwp.step (kit _) rfl fun K hK => ?_ | refine Pwp.last (kit _) rfl fun K hK => ?_ | refine Pwp.stepD (kit _) rfl rfl fun K hK => ?_ | refine Pwp.lastD (kit _) rfl rfl fun K hK => ?_); simp (dsimp := false) only [↓opsP_nil, ↓opsP_cons, ↓opsD_nil, ↓opsD_cons, footOf, ↓opP, ↓stepP, ↓stepG, go_sem, reduceIte, Nat.reduceAdd, Nat.reduceMul, Nat.reduceEqDiff, Nat.reduceLT, Nat.reduceLeDiff, Nat.reduceSub, reduceCtorEq, Int.reduceToNat, Int.reduceAdd, Int.reduceSub, Int.reduceLT, Int.reduceLE, Int.reduceNeg, Int.reduceBEq, Int.reduceBNe, true_or, hg, hcc, htk, hlen, Item.d, Item.cells])
      | (refine Pwp.seq ?_)
      | (refine Pwp.block ?_)
      | (refine Pwp.exit ?_; simp only [thenS, blockS, if_true, if_false, reduceIte, Nat.reduceEqDiff, Nat.add_one_ne_zero, reduceCtorEq])
      | (refine Pwp.skip ?_; simp only [thenS, blockS])
      | (refine Pwp.cond rfl True.intro (fun h => ?_) (fun h => ?_) <;> (try (cases h; done)) <;> (try simp only [h]))
      | (refine Pwp.ret ?_; try simp only [thenS, blockS])
      | (refine hK _ ?_; clear hK K)
      | (refine hK _ _ rfl ?_; clear hK K)
      | (refine CallK.toD (ds := [x.d, I64 c]) rfl (run117 x c) rfl ?_)
      | (refine CallG.off ?_)
      | (with_reducible refine Or.inl ?_)
      | (simp only [thenS, blockS])
      | (with_reducible refine And.intro ?_ ?_)
      | (with_reducible exact True.intro)
      | (simp (dsimp := false) only [↓opsP_nil, ↓opsP_cons, ↓opsD_nil, ↓opsD_cons, footOf, ↓opP, ↓stepP, ↓stepG, go_sem, reduceIte, Nat.reduceAdd, Nat.reduceMul, Nat.reduceEqDiff, Nat.reduceLT, Nat.reduceLeDiff, Nat.reduceSub, reduceCtorEq, Int.reduceToNat, Int.reduceAdd, Int.reduceSub, Int.reduceLT, Int.reduceLE, Int.reduceNeg, Int.reduceBEq, Int.reduceBNe, true_or, hg, hcc, htk, hlen, Item.d, Item.cells]))
    all_goals (try (first | (intro hg; simp_all; done) | (intro hg; simp [hg]; done) | exact of_decide_eq_true rfl | (cases h; done)))
    all_goals (try (first | (simp; done) | (simp [maxLen]; omega) | omega))
    · have e : openL me c o (l.take (i + 1)) = openL me c o (l.take i) := by rw [openL_take hx, if_pos (show skips c o x = true from by simpa [skips] using h), List.append_nil]
      refine ⟨l.length - (i + 1), L54 me c o l os (i + 1), by omega, Sub.same (by simp [L54]) ?_ ?_, i + 1, by omega, rfl, rfl⟩
      · simp [viewH, viewP, viewL, viewO, L54, V0, keptOf, find, PVal.toD, disj, PVal.ids, e, subD_refl]
      · rw [wrap_succ (by omega)]
        simp [viewT, viewP, L54, V0, keptOf, St.ev, find, PVal.toD, disj, PVal.ids, e, subD_refl]
    · have e : openL me c o (l.take (i + 1)) = openL me c o (l.take i) ++ [IntKind.i64.wrap (0 - x.amount)] := by
        rw [openL_take hx, if_neg (by simpa [skips] using (by assumption : (!(x.state == 3 && x.currency == c) || (decide (0 ≤ o) && x.seller != o && x.buyer != o)) = false)), amtOf, if_pos (by simpa using h)]
      refine ⟨l.length - (i + 1), L54 me c o l os (i + 1), by omega, Sub.view (V9 1) (by simp [L54]) rfl ?_ ?_, i + 1, by omega, rfl, rfl⟩
      · simp [viewH, viewP, viewL, viewO, L54, V9, keptOf, find, PVal.toD, disj, PVal.ids, e, subD_refl]
      · rw [wrap_succ (by omega)]
        simp [viewT, viewP, L54, V9, keptOf, St.ev, find, PVal.toD, disj, PVal.ids, e, subD_refl]
    · have e : openL me c o (l.take (i + 1)) = openL me c o (l.take i) ++ [x.amount] := by
        rw [openL_take hx, if_neg (by simpa [skips] using (by assumption : (!(x.state == 3 && x.currency == c) || (decide (0 ≤ o) && x.seller != o && x.buyer != o)) = false)), amtOf, if_neg (by simpa using h)]
      refine ⟨l.length - (i + 1), L54 me c o l os (i + 1), by omega, Sub.view (V9 1) (by simp [L54]) rfl ?_ ?_, i + 1, by omega, rfl, rfl⟩
      · simp [viewH, viewP, viewL, viewO, L54, V9, keptOf, find, PVal.toD, disj, PVal.ids, e, subD_refl]
      · rw [wrap_succ (by omega)]
        simp [viewT, viewP, L54, V9, keptOf, St.ev, find, PVal.toD, disj, PVal.ids, e, subD_refl]
  · obtain rfl : i = l.length := by omega
    have hcc : decide ((l.length : Int) < (l.length : Int)) = false := by simp
    have htl : l.take l.length = l := List.take_length
    have hin : ∀ a ∈ openL me c o l, In64 a := openL_in ha
    have hol2 : (openL me c o l).length ≤ 1000000 := by have := openL_len me c o l; omega
    unfold L54
    cases hf : fits (sumOf (openL me c o l)) with
    | true =>
      have hr := run105 (openL me c o l) hol2 hin
      rw [hf] at hr
      repeat' (first
        | ((first | refine Pwp.step (kit _) rfl fun K hK => ?_ | refine Pwp.last (kit _) rfl fun K hK => ?_ | refine Pwp.stepD (kit _) rfl rfl fun K hK => ?_ | refine Pwp.lastD (kit _) rfl rfl fun K hK => ?_); simp (dsimp := false) only [↓opsP_nil, ↓opsP_cons, ↓opsD_nil, ↓opsD_cons, footOf, ↓opP, ↓stepP, ↓stepG, go_sem, reduceIte, Nat.reduceAdd, Nat.reduceMul, Nat.reduceEqDiff, Nat.reduceLT, Nat.reduceLeDiff, Nat.reduceSub, reduceCtorEq, Int.reduceToNat, Int.reduceAdd, Int.reduceSub, Int.reduceLT, Int.reduceLE, Int.reduceNeg, Int.reduceBEq, Int.reduceBNe, true_or, hcc, htl])
        | (refine Pwp.seq ?_)
        | (refine Pwp.block ?_)
        | (refine Pwp.exit ?_; simp only [thenS, blockS, if_true, if_false, reduceIte, Nat.reduceEqDiff, Nat.add_one_ne_zero, reduceCtorEq])
        | (refine Pwp.skip ?_; simp only [thenS, blockS])
        | (refine Pwp.cond rfl True.intro (fun h => ?_) (fun h => ?_) <;> (try (cases h; done)) <;> (try simp only [h]))
        | (refine Pwp.ret ?_; try simp only [thenS, blockS])
        | (refine hK _ ?_; clear hK K)
        | (refine hK _ _ rfl ?_; clear hK K)
        | (refine CallK.toD (ds := [.slc 1 ((openL me c o l).map I64)]) (by simp [toDL, PVal.toD, find, List.take_of_length_le]) hr rfl ?_)
        | (refine CallG.off ?_)
        | (with_reducible refine Or.inl ?_)
        | (simp only [thenS, blockS])
        | (with_reducible refine And.intro ?_ ?_)
        | (with_reducible exact True.intro)
        | (simp (dsimp := false) only [↓opsP_nil, ↓opsP_cons, ↓opsD_nil, ↓opsD_cons, footOf, ↓opP, ↓stepP, ↓stepG, go_sem, reduceIte, Nat.reduceAdd, Nat.reduceMul, Nat.reduceEqDiff, Nat.reduceLT, Nat.reduceLeDiff, Nat.reduceSub, reduceCtorEq, Int.reduceToNat, Int.reduceAdd, Int.reduceSub, Int.reduceLT, Int.reduceLE, Int.reduceNeg, Int.reduceBEq, Int.reduceBNe, true_or, hcc, htl]))
      all_goals (try (first | (intro hg; simp_all; done) | (intro hg; simp [hg]; done) | exact of_decide_eq_true rfl | (cases h; done)))
      (refine Fin.data (.inr rfl) (by simp (dsimp := false) only [↓opsP_nil, ↓opsP_cons, ↓opsD_nil, ↓opsD_cons, footOf, ↓opP, ↓stepP, ↓stepG, go_sem, reduceIte, Nat.reduceAdd, Nat.reduceMul, Nat.reduceEqDiff, Nat.reduceLT, Nat.reduceLeDiff, Nat.reduceSub, reduceCtorEq, Int.reduceToNat, Int.reduceAdd, Int.reduceSub, Int.reduceLT, Int.reduceLE, Int.reduceNeg, Int.reduceBEq, Int.reduceBNe, true_or, resL]; rfl) (by simp only [and_self]) (by simp (dsimp := false) only [↓opsP_nil, ↓opsP_cons, ↓opsD_nil, ↓opsD_cons, footOf, ↓opP, ↓stepP, ↓stepG, go_sem, reduceIte, Nat.reduceAdd, Nat.reduceMul, Nat.reduceEqDiff, Nat.reduceLT, Nat.reduceLeDiff, Nat.reduceSub, reduceCtorEq, Int.reduceToNat, Int.reduceAdd, Int.reduceSub, Int.reduceLT, Int.reduceLE, Int.reduceNeg, Int.reduceBEq, Int.reduceBNe, true_or, resP, Nat.le_refl, List.take_length]; try rfl) ?_)
      exact subD_refl _
    | false =>
      have hr := run105 (openL me c o l) hol2 hin
      rw [hf] at hr
      repeat' (first
        | ((first | refine Pwp.step (kit _) rfl fun K hK => ?_ | refine Pwp.last (kit _) rfl fun K hK => ?_ | refine Pwp.stepD (kit _) rfl rfl fun K hK => ?_ | refine Pwp.lastD (kit _) rfl rfl fun K hK => ?_); simp (dsimp := false) only [↓opsP_nil, ↓opsP_cons, ↓opsD_nil, ↓opsD_cons, footOf, ↓opP, ↓stepP, ↓stepG, go_sem, reduceIte, Nat.reduceAdd, Nat.reduceMul, Nat.reduceEqDiff, Nat.reduceLT, Nat.reduceLeDiff, Nat.reduceSub, reduceCtorEq, Int.reduceToNat, Int.reduceAdd, Int.reduceSub, Int.reduceLT, Int.reduceLE, Int.reduceNeg, Int.reduceBEq, Int.reduceBNe, true_or, hcc, htl, Bool.false_eq_true])
        | (refine Pwp.seq ?_)
        | (refine Pwp.block ?_)
        | (refine Pwp.exit ?_; simp only [thenS, blockS, if_true, if_false, reduceIte, Nat.reduceEqDiff, Nat.add_one_ne_zero, reduceCtorEq])
        | (refine Pwp.skip ?_; simp only [thenS, blockS])
        | (refine Pwp.cond rfl True.intro (fun h => ?_) (fun h => ?_) <;> (try (cases h; done)) <;> (try simp only [h]))
        | (refine Pwp.ret ?_; try simp only [thenS, blockS])
        | (refine hK _ ?_; clear hK K)
        | (refine hK _ _ rfl ?_; clear hK K)
        | (refine CallK.toD (ds := [.slc 1 ((openL me c o l).map I64)]) (by simp [toDL, PVal.toD, find, List.take_of_length_le]) hr rfl ?_)
        | (refine CallG.off ?_)
        | (with_reducible refine Or.inl ?_)
        | (simp only [thenS, blockS])
        | (with_reducible refine And.intro ?_ ?_)
        | (with_reducible exact True.intro)
        | (simp (dsimp := false) only [↓opsP_nil, ↓opsP_cons, ↓opsD_nil, ↓opsD_cons, footOf, ↓opP, ↓stepP, ↓stepG, go_sem, reduceIte, Nat.reduceAdd, Nat.reduceMul, Nat.reduceEqDiff, Nat.reduceLT, Nat.reduceLeDiff, Nat.reduceSub, reduceCtorEq, Int.reduceToNat, Int.reduceAdd, Int.reduceSub, Int.reduceLT, Int.reduceLE, Int.reduceNeg, Int.reduceBEq, Int.reduceBNe, true_or, hcc, htl, Bool.false_eq_true]))
      all_goals (try (first | (intro hg; simp_all; done) | (intro hg; simp [hg]; done) | exact of_decide_eq_true rfl | (cases h; done)))
      (refine Fin.data (.inr rfl) (by simp (dsimp := false) only [↓opsP_nil, ↓opsP_cons, ↓opsD_nil, ↓opsD_cons, footOf, ↓opP, ↓stepP, ↓stepG, go_sem, reduceIte, Nat.reduceAdd, Nat.reduceMul, Nat.reduceEqDiff, Nat.reduceLT, Nat.reduceLeDiff, Nat.reduceSub, reduceCtorEq, Int.reduceToNat, Int.reduceAdd, Int.reduceSub, Int.reduceLT, Int.reduceLE, Int.reduceNeg, Int.reduceBEq, Int.reduceBNe, true_or, resL]; rfl) (by simp only [and_self]) (by simp (dsimp := false) only [↓opsP_nil, ↓opsP_cons, ↓opsD_nil, ↓opsD_cons, footOf, ↓opP, ↓stepP, ↓stepG, go_sem, reduceIte, Nat.reduceAdd, Nat.reduceMul, Nat.reduceEqDiff, Nat.reduceLT, Nat.reduceLeDiff, Nat.reduceSub, reduceCtorEq, Int.reduceToNat, Int.reduceAdd, Int.reduceSub, Int.reduceLT, Int.reduceLE, Int.reduceNeg, Int.reduceBEq, Int.reduceBNe, true_or, resP, Nat.le_refl, List.take_length]; try rfl) ?_)
      exact subD_refl _

end Go.Proofs.Ytdodgbhodkcckaa.Pv
