/- Walks of the statements of vectors: what is put, step by step; the head. -/
import Derived.Test.YtdodgbhodkcckaaPxn
set_option linter.unusedVariables false
set_option linter.unusedSimpArgs false
set_option autoImplicit false
set_option maxRecDepth 100000
namespace Go.Proofs.Ytdodgbhodkcckaa.Pv
open Go Go.RowKit

def Put.d (p : Put) : D := .agg [I64 p.e, I64 p.c, I64 p.a]
def putsD (l : List Put) : List D := l.map Put.d
theorem puts_len (l : List Put) : (putsD l).length = l.length := by simp [putsD]
theorem puts_get {l : List Put} {i : Nat} {p : Put} (h : l[i]? = some p) : (putsD l)[i]? = some (.agg [I64 p.e, I64 p.c, I64 p.a]) := by simp [putsD, h, Put.d]
def okPut (p : Put) : Prop := In64 p.e ∧ In64 p.c ∧ In64 p.a
theorem sum2 (x a : Int) : sumOf [x, a] = x + a := by simp [sumOf]
def L35 (l : List Put) (i : Nat) : St := ⟨[(15, pint .i64 i), (14, pint .i64 l.length), (13, .d (.slc 3 (putsD l))), (6, .ref 24 0), (5, .ref 20 0), (3, .ref 9 0), (2, .ref 8 0)],
  [(8, .box [.d (.slc 3 [])]), (9, .box ((cellsT fun _ => 0).map .d)), (20, .box [.d (.slc 3 (posD (vec (tab (l.take i)))))]), (24, .box ((cellsT (tab (l.take i))).map .d))], 40⟩
theorem tab0 : cellsT (tab []) = cellsT fun _ => 0 := rfl
theorem tabn (k : Nat) : tab [] k = 0 := rfl
theorem vec0 : vec (tab []) = [] := rfl
theorem step_at {m : Nat → Int} {k : Nat} (hk : k < 64) (a : Int) : Pv.step m ⟨(k / 8 : Nat), (k % 8 : Nat), a⟩ = if fits (m k + a) = true then put m k (m k + a) else m := by
  have e : (8 * ((k / 8 : Nat) : Int) + ((k % 8 : Nat) : Int)).toNat = k := by omega
  unfold Pv.step
  simp only [outV_at hk, Bool.false_eq_true, if_false, e]

theorem tabP_len (m : Nat → Int) : ((cellsT m).map PVal.d).length = 64 := by rw [List.length_map, cellsT_len]
theorem tabP_take (m : Nat → Int) : ((cellsT m).map PVal.d).take 64 = (cellsT m).map PVal.d := List.take_of_length_le (by rw [tabP_len]; exact Nat.le_refl _)
theorem tabP_put {m : Nat → Int} {k : Nat} (hk : k < 64) (n : Int) : ((cellsT m).map PVal.d).take k ++ [.d (.v (.int .i64 n))] ++ ((cellsT m).map PVal.d).drop (k + 1) = (cellsT (put m k n)).map PVal.d := tab_store hk n
set_option maxHeartbeats 16000000 in
theorem run35 (l : List Put) (hl : l.length ≤ 1000) (ha : ∀ p ∈ l, okPut p) : Runs Try.prog 35 [.d (.slc 3 (putsD l))] [] (.d (.tup [vecD (vec (tab l)), tabD (tab l), .v (.bool true)])) [] := by
  have hlen := puts_len l
  refine Runs.of (kit Try.prog) Try.func35 rfl rfl (by rw [Try.ntmps35]; exact of_decide_eq_true rfl) ?_; rw [Try.ntmps35, Try.results35]
  repeat' (first
    | ((first | refine Pwp.step (kit _) rfl fun K hK => ?_ | refine Pwp.last (kit _) rfl fun K hK => ?_ | refine Pwp.stepD (kit _) rfl rfl fun K hK => ?_ | refine Pwp.lastD (kit _) rfl rfl fun K hK => ?_); simp (dsimp := false) only [↓opsP_nil, ↓opsP_cons, ↓opsD_nil, ↓opsD_cons, footOf, ↓opP, ↓stepP, ↓stepG, go_sem, reduceIte, Nat.reduceAdd, Nat.reduceMul, Nat.reduceEqDiff, Nat.reduceLT, Nat.reduceLeDiff, Nat.reduceSub, reduceCtorEq, Int.reduceToNat, Int.reduceAdd, Int.reduceSub, Int.reduceLT, Int.reduceLE, Int.reduceNeg, Int.reduceBEq, Int.reduceBNe, true_or, hlen])
    | (refine Pwp.seq ?_)
    | (refine Pwp.block ?_)
    | (refine Pwp.exit ?_; simp only [thenS, blockS, if_true, if_false, reduceIte, Nat.reduceEqDiff, Nat.add_one_ne_zero, reduceCtorEq])
    | (refine Pwp.skip ?_; simp only [thenS, blockS])
    | (refine Pwp.cond rfl True.intro (fun h => ?_) (fun h => ?_) <;> (try (cases h; done)) <;> (try simp only [h]))
    | (refine Pwp.ret ?_; try simp only [thenS, blockS])
    | (refine hK _ ?_; clear hK K)
    | (refine hK _ _ rfl ?_; clear hK K)
    | (refine CallG.off ?_)
    | (with_reducible refine Or.inl ?_)
    | (simp only [thenS, blockS])
    | (with_reducible refine And.intro ?_ ?_)
    | (with_reducible exact True.intro)
    | (simp (dsimp := false) only [↓opsP_nil, ↓opsP_cons, ↓opsD_nil, ↓opsD_cons, footOf, ↓opP, ↓stepP, ↓stepG, go_sem, reduceIte, Nat.reduceAdd, Nat.reduceMul, Nat.reduceEqDiff, Nat.reduceLT, Nat.reduceLeDiff, Nat.reduceSub, reduceCtorEq, Int.reduceToNat, Int.reduceAdd, Int.reduceSub, Int.reduceLT, Int.reduceLE, Int.reduceNeg, Int.reduceBEq, Int.reduceBNe, true_or, hlen]))
  all_goals (try (first | (intro hg; simp_all; done) | (intro hg; simp [hg]; done) | exact of_decide_eq_true rfl | (cases h; done)))
  refine Pwp.range l.length (S := L35 l) (Sub.view V0 (by simp [L35]) rfl (by simp [viewH, viewP, viewL, viewO, V0, V9, V9n, VR, VN, keptOf, find, PVal.toD, subD, subL, subV, subD_refl, viewL_ds, disj, PVal.ids, pnil, List.range, List.range.loop, L35, hlen, tab0, tabn, vec0, posD, cellsT, List.replicate]) (by simp [viewT, St.ev, viewH, viewP, viewL, viewO, V0, V9, V9n, VR, VN, keptOf, find, PVal.toD, subD, subL, subV, subD_refl, viewL_ds, disj, PVal.ids, pnil, List.range, List.range.loop, L35, hlen, tab0, tabn, vec0, posD, cellsT, List.replicate])) (fun i hi => ?_) ?_
  · obtain ⟨⟨e, c, a⟩, hx, hm⟩ := at_lt hi
    have hg := puts_get hx
    have c1 := dlt hi
    have w := wrap_succ (i := i) (by omega)
    obtain ⟨ie, ic, ia⟩ := ha _ hm
    have hin := tab_in (l.take i)
    have et := tab_take hx
    have hvl := vec_len (tab (l.take i))
    have r37 := run37 (vec (tab (l.take i))) e c a (by omega)
    have r38 := run38 (tab (l.take i)) hin
    have hin2 := tab_in (l.take (i + 1))
    have hcl := tabP_len (tab (l.take i))
    have ht64 := tabP_take (tab (l.take i))
    have r38b := run38 (tab (l.take (i + 1))) hin2
    unfold L35
    simp only at ie ic ia hg
    cases ho : outV e c with
    | true =>
      rw [addV_out ho] at r37
      have es : tab (l.take (i + 1)) = tab (l.take i) := by rw [et]; unfold Pv.step; simp only [ho, if_true]
      clear et r38b hin2
      have ho' : (decide (e < 0) || decide (7 < e) || decide (c < 0) || decide (7 < c)) = true := by
        rw [← ho]; unfold outV; rw [Bool.eq_iff_iff]; simp only [Bool.or_eq_true, decide_eq_true_eq]; omega
      have b11 : ((1 : Int) != 1) = false := rfl
      repeat' (first
        | ((first | refine Pwp.step (kit _) rfl fun K hK => ?_ | refine Pwp.last (kit _) rfl fun K hK => ?_ | refine Pwp.stepD (kit _) rfl rfl fun K hK => ?_ | refine Pwp.lastD (kit _) rfl rfl fun K hK => ?_); simp (dsimp := false) only [↓opsP_nil, ↓opsP_cons, ↓opsD_nil, ↓opsD_cons, footOf, ↓opP, ↓stepP, ↓stepG, go_sem, reduceIte, Nat.reduceAdd, Nat.reduceMul, Nat.reduceEqDiff, Nat.reduceLT, Nat.reduceLeDiff, Nat.reduceSub, reduceCtorEq, Int.reduceToNat, Int.reduceAdd, Int.reduceSub, Int.reduceLT, Int.reduceLE, Int.reduceNeg, Int.reduceBEq, Int.reduceBNe, true_or, hg, c1, w, hlen, vecD, tabD, hcl, ht64, toDL_ds, idsL_ds, ho', b11])
        | (refine Pwp.seq ?_)
        | (refine Pwp.block ?_)
        | (refine Pwp.exit ?_; simp only [thenS, blockS, if_true, if_false, reduceIte, Nat.reduceEqDiff, Nat.add_one_ne_zero, reduceCtorEq])
        | (refine Pwp.skip ?_; simp only [thenS, blockS])
        | (refine Pwp.cond rfl True.intro (fun h => ?_) (fun h => ?_) <;> (try (cases h; done)) <;> (try simp only [h]))
        | (refine Pwp.ret ?_; try simp only [thenS, blockS])
        | (refine hK _ ?_; clear hK K)
        | (refine hK _ _ rfl ?_; clear hK K)
        | (refine CallK.give (ds := [vecD (vec (tab (l.take i))), I64 e, I64 c, I64 a]) rfl (r37) (by simp) ?_)
        | (refine CallG.toD (ds := [vecD (vec (tab (l.take i))), tabD (tab (l.take i))]) rfl (r38) rfl ?_ ?_)
        | (refine CallG.off ?_)
        | (with_reducible refine Or.inl ?_)
        | (simp only [thenS, blockS])
        | (with_reducible refine And.intro ?_ ?_)
        | (with_reducible exact True.intro)
        | (simp (dsimp := false) only [↓opsP_nil, ↓opsP_cons, ↓opsD_nil, ↓opsD_cons, footOf, ↓opP, ↓stepP, ↓stepG, go_sem, reduceIte, Nat.reduceAdd, Nat.reduceMul, Nat.reduceEqDiff, Nat.reduceLT, Nat.reduceLeDiff, Nat.reduceSub, reduceCtorEq, Int.reduceToNat, Int.reduceAdd, Int.reduceSub, Int.reduceLT, Int.reduceLE, Int.reduceNeg, Int.reduceBEq, Int.reduceBNe, true_or, hg, c1, w, hlen, vecD, tabD, hcl, ht64, toDL_ds, idsL_ds, ho', b11]))
      all_goals (try (first | (intro hg; simp_all; done) | (intro hg; simp [hg]; done) | exact of_decide_eq_true rfl | (cases h; done)))
      all_goals (try omega)
      exact Sub.view V0 (by simp [L35]) rfl (by simp [viewH, viewP, viewL, viewO, V0, V9, V9n, VR, VN, keptOf, find, PVal.toD, subD, subL, subV, subD_refl, viewL_ds, disj, PVal.ids, pnil, List.range, List.range.loop, L35, es]) (by simp [viewT, St.ev, viewH, viewP, viewL, viewO, V0, V9, V9n, VR, VN, keptOf, find, PVal.toD, subD, subL, subV, subD_refl, viewL_ds, disj, PVal.ids, pnil, List.range, List.range.loop, L35, es])
    | false =>
      obtain ⟨k, hk, rfl, rfl⟩ := inV ho
      rw [addV_vec hin hk ia] at r37
      rw [step_at hk] at et
      have hkk : k / 8 * 8 + k % 8 * 1 = k := by omega
      have hst := tabP_put (m := tab (l.take i)) hk
      have hcl2 := tabP_len (put (tab (l.take i)) k (tab (l.take i) k + a))
      have ht642 := tabP_take (put (tab (l.take i)) k (tab (l.take i) k + a))
      have hld := tab_load (m := tab (l.take i)) hk
      have r41 := run41 [tab (l.take i) k, a] (by simp) (by intro x hx; simp at hx; rcases hx with rfl | rfl; exact hin k hk; exact ia)
      rw [sum2] at r41
      have n1 : decide (((k / 8 : Nat) : Int) < 0) = false := decide_eq_false (by omega)
      have n2 : decide (7 < ((k / 8 : Nat) : Int)) = false := decide_eq_false (by omega)
      have n3 : decide (((k % 8 : Nat) : Int) < 0) = false := decide_eq_false (by omega)
      have n4 : decide (7 < ((k % 8 : Nat) : Int)) = false := decide_eq_false (by omega)
      cases hf : fits (tab (l.take i) k + a) with
      | true =>
        rw [hf, if_pos rfl] at r37 r41 et
        rw [et] at r38b
        repeat' (first
          | ((first | refine Pwp.step (kit _) rfl fun K hK => ?_ | refine Pwp.last (kit _) rfl fun K hK => ?_ | refine Pwp.stepD (kit _) rfl rfl fun K hK => ?_ | refine Pwp.lastD (kit _) rfl rfl fun K hK => ?_); simp (dsimp := false) only [↓opsP_nil, ↓opsP_cons, ↓opsD_nil, ↓opsD_cons, footOf, ↓opP, ↓stepP, ↓stepG, go_sem, reduceIte, Nat.reduceAdd, Nat.reduceMul, Nat.reduceEqDiff, Nat.reduceLT, Nat.reduceLeDiff, Nat.reduceSub, reduceCtorEq, Int.reduceToNat, Int.reduceAdd, Int.reduceSub, Int.reduceLT, Int.reduceLE, Int.reduceNeg, Int.reduceBEq, Int.reduceBNe, true_or, hg, c1, w, hlen, vecD, tabD, n1, n2, n3, n4, hkk, hld, hst, hcl, ht64, hcl2, ht642, toDL_ds, idsL_ds])
          | (refine Pwp.seq ?_)
          | (refine Pwp.block ?_)
          | (refine Pwp.exit ?_; simp only [thenS, blockS, if_true, if_false, reduceIte, Nat.reduceEqDiff, Nat.add_one_ne_zero, reduceCtorEq])
          | (refine Pwp.skip ?_; simp only [thenS, blockS])
          | (refine Pwp.cond rfl True.intro (fun h => ?_) (fun h => ?_) <;> (try (cases h; done)) <;> (try simp only [h]))
          | (refine Pwp.ret ?_; try simp only [thenS, blockS])
          | (refine hK _ ?_; clear hK K)
          | (refine hK _ _ rfl ?_; clear hK K)
          | (refine CallK.toD (ds := [.slc 1 [I64 (tab (l.take i) k), I64 a]]) rfl (r41) rfl ?_)
          | (refine CallK.give (ds := [vecD (vec (tab (l.take i))), I64 (k / 8 : Nat), I64 (k % 8 : Nat), I64 a]) rfl (r37) (by simp) ?_)
          | (refine CallK.give (ds := [vecD (vec (put (tab (l.take i)) k (tab (l.take i) k + a))), tabD (put (tab (l.take i)) k (tab (l.take i) k + a))]) rfl (r38b) (by simp) ?_)
          | (refine CallG.off ?_)
          | (with_reducible refine Or.inl ?_)
          | (simp only [thenS, blockS])
          | (with_reducible refine And.intro ?_ ?_)
          | (with_reducible exact True.intro)
          | (simp (dsimp := false) only [↓opsP_nil, ↓opsP_cons, ↓opsD_nil, ↓opsD_cons, footOf, ↓opP, ↓stepP, ↓stepG, go_sem, reduceIte, Nat.reduceAdd, Nat.reduceMul, Nat.reduceEqDiff, Nat.reduceLT, Nat.reduceLeDiff, Nat.reduceSub, reduceCtorEq, Int.reduceToNat, Int.reduceAdd, Int.reduceSub, Int.reduceLT, Int.reduceLE, Int.reduceNeg, Int.reduceBEq, Int.reduceBNe, true_or, hg, c1, w, hlen, vecD, tabD, n1, n2, n3, n4, hkk, hld, hst, hcl, ht64, hcl2, ht642, toDL_ds, idsL_ds]))
        all_goals (try (first | (intro hg; simp_all; done) | (intro hg; simp [hg]; done) | exact of_decide_eq_true rfl | (cases h; done)))
        all_goals (try omega)
        exact Sub.view V0 (by simp [L35]) rfl (by simp [viewH, viewP, viewL, viewO, V0, V9, V9n, VR, VN, keptOf, find, PVal.toD, subD, subL, subV, subD_refl, viewL_ds, disj, PVal.ids, pnil, List.range, List.range.loop, L35, et]) (by simp [viewT, St.ev, viewH, viewP, viewL, viewO, V0, V9, V9n, VR, VN, keptOf, find, PVal.toD, subD, subL, subV, subD_refl, viewL_ds, disj, PVal.ids, pnil, List.range, List.range.loop, L35, et])
      | false =>
        rw [hf, if_neg (by simp)] at r37 r41 et
        repeat' (first
          | ((first | refine Pwp.step (kit _) rfl fun K hK => ?_ | refine Pwp.last (kit _) rfl fun K hK => ?_ | refine Pwp.stepD (kit _) rfl rfl fun K hK => ?_ | refine Pwp.lastD (kit _) rfl rfl fun K hK => ?_); simp (dsimp := false) only [↓opsP_nil, ↓opsP_cons, ↓opsD_nil, ↓opsD_cons, footOf, ↓opP, ↓stepP, ↓stepG, go_sem, reduceIte, Nat.reduceAdd, Nat.reduceMul, Nat.reduceEqDiff, Nat.reduceLT, Nat.reduceLeDiff, Nat.reduceSub, reduceCtorEq, Int.reduceToNat, Int.reduceAdd, Int.reduceSub, Int.reduceLT, Int.reduceLE, Int.reduceNeg, Int.reduceBEq, Int.reduceBNe, true_or, hg, c1, w, hlen, vecD, tabD, n1, n2, n3, n4, hkk, hld, hcl, ht64, toDL_ds, idsL_ds])
          | (refine Pwp.seq ?_)
          | (refine Pwp.block ?_)
          | (refine Pwp.exit ?_; simp only [thenS, blockS, if_true, if_false, reduceIte, Nat.reduceEqDiff, Nat.add_one_ne_zero, reduceCtorEq])
          | (refine Pwp.skip ?_; simp only [thenS, blockS])
          | (refine Pwp.cond rfl True.intro (fun h => ?_) (fun h => ?_) <;> (try (cases h; done)) <;> (try simp only [h]))
          | (refine Pwp.ret ?_; try simp only [thenS, blockS])
          | (refine hK _ ?_; clear hK K)
          | (refine hK _ _ rfl ?_; clear hK K)
          | (refine CallK.toD (ds := [.slc 1 [I64 (tab (l.take i) k), I64 a]]) rfl (r41) rfl ?_)
          | (refine CallK.give (ds := [vecD (vec (tab (l.take i))), I64 (k / 8 : Nat), I64 (k % 8 : Nat), I64 a]) rfl (r37) (by simp) ?_)
          | (refine CallK.give (ds := [vecD (vec (tab (l.take i))), tabD (tab (l.take i))]) rfl (r38) (by simp) ?_)
          | (refine CallG.off ?_)
          | (with_reducible refine Or.inl ?_)
          | (simp only [thenS, blockS])
          | (with_reducible refine And.intro ?_ ?_)
          | (with_reducible exact True.intro)
          | (simp (dsimp := false) only [↓opsP_nil, ↓opsP_cons, ↓opsD_nil, ↓opsD_cons, footOf, ↓opP, ↓stepP, ↓stepG, go_sem, reduceIte, Nat.reduceAdd, Nat.reduceMul, Nat.reduceEqDiff, Nat.reduceLT, Nat.reduceLeDiff, Nat.reduceSub, reduceCtorEq, Int.reduceToNat, Int.reduceAdd, Int.reduceSub, Int.reduceLT, Int.reduceLE, Int.reduceNeg, Int.reduceBEq, Int.reduceBNe, true_or, hg, c1, w, hlen, vecD, tabD, n1, n2, n3, n4, hkk, hld, hcl, ht64, toDL_ds, idsL_ds]))
        all_goals (try (first | (intro hg; simp_all; done) | (intro hg; simp [hg]; done) | exact of_decide_eq_true rfl | (cases h; done)))
        all_goals (try omega)
        exact Sub.view V0 (by simp [L35]) rfl (by simp [viewH, viewP, viewL, viewO, V0, V9, V9n, VR, VN, keptOf, find, PVal.toD, subD, subL, subV, subD_refl, viewL_ds, disj, PVal.ids, pnil, List.range, List.range.loop, L35, et]) (by simp [viewT, St.ev, viewH, viewP, viewL, viewO, V0, V9, V9n, VR, VN, keptOf, find, PVal.toD, subD, subL, subV, subD_refl, viewL_ds, disj, PVal.ids, pnil, List.range, List.range.loop, L35, et])
  · have c1 := dge (Nat.le_refl l.length)
    have et : l.take l.length = l := List.take_length
    unfold L35
    have hcl := tabP_len (tab l)
    have ht64 := tabP_take (tab l)
    repeat' (first
      | ((first | refine Pwp.step (kit _) rfl fun K hK => ?_ | refine Pwp.last (kit _) rfl fun K hK => ?_ | refine Pwp.stepD (kit _) rfl rfl fun K hK => ?_ | refine Pwp.lastD (kit _) rfl rfl fun K hK => ?_); simp (dsimp := false) only [↓opsP_nil, ↓opsP_cons, ↓opsD_nil, ↓opsD_cons, footOf, ↓opP, ↓stepP, ↓stepG, go_sem, reduceIte, Nat.reduceAdd, Nat.reduceMul, Nat.reduceEqDiff, Nat.reduceLT, Nat.reduceLeDiff, Nat.reduceSub, reduceCtorEq, Int.reduceToNat, Int.reduceAdd, Int.reduceSub, Int.reduceLT, Int.reduceLE, Int.reduceNeg, Int.reduceBEq, Int.reduceBNe, true_or, c1, hlen, et, hcl, ht64])
      | (refine Pwp.seq ?_)
      | (refine Pwp.block ?_)
      | (refine Pwp.exit ?_; simp only [thenS, blockS, if_true, if_false, reduceIte, Nat.reduceEqDiff, Nat.add_one_ne_zero, reduceCtorEq])
      | (refine Pwp.skip ?_; simp only [thenS, blockS])
      | (refine Pwp.cond rfl True.intro (fun h => ?_) (fun h => ?_) <;> (try (cases h; done)) <;> (try simp only [h]))
      | (refine Pwp.ret ?_; try simp only [thenS, blockS])
      | (refine hK _ ?_; clear hK K)
      | (refine hK _ _ rfl ?_; clear hK K)
      | (refine CallG.off ?_)
      | (with_reducible refine Or.inl ?_)
      | (simp only [thenS, blockS])
      | (with_reducible refine And.intro ?_ ?_)
      | (with_reducible exact True.intro)
      | (simp (dsimp := false) only [↓opsP_nil, ↓opsP_cons, ↓opsD_nil, ↓opsD_cons, footOf, ↓opP, ↓stepP, ↓stepG, go_sem, reduceIte, Nat.reduceAdd, Nat.reduceMul, Nat.reduceEqDiff, Nat.reduceLT, Nat.reduceLeDiff, Nat.reduceSub, reduceCtorEq, Int.reduceToNat, Int.reduceAdd, Int.reduceSub, Int.reduceLT, Int.reduceLE, Int.reduceNeg, Int.reduceBEq, Int.reduceBNe, true_or, c1, hlen, et, hcl, ht64]))
    all_goals (try (first | (intro hg; simp_all; done) | (intro hg; simp [hg]; done) | exact of_decide_eq_true rfl | (cases h; done)))
    (refine Fin.data (.inr rfl) (by simp (dsimp := false) only [↓opsP_nil, ↓opsP_cons, ↓opsD_nil, ↓opsD_cons, footOf, ↓opP, ↓stepP, ↓stepG, go_sem, reduceIte, Nat.reduceAdd, Nat.reduceMul, Nat.reduceEqDiff, Nat.reduceLT, Nat.reduceLeDiff, Nat.reduceSub, reduceCtorEq, Int.reduceToNat, Int.reduceAdd, Int.reduceSub, Int.reduceLT, Int.reduceLE, Int.reduceNeg, Int.reduceBEq, Int.reduceBNe, true_or, resL, toDL_ds]; rfl) (by simp only [and_self]) (by simp (dsimp := false) only [↓opsP_nil, ↓opsP_cons, ↓opsD_nil, ↓opsD_cons, footOf, ↓opP, ↓stepP, ↓stepG, go_sem, reduceIte, Nat.reduceAdd, Nat.reduceMul, Nat.reduceEqDiff, Nat.reduceLT, Nat.reduceLeDiff, Nat.reduceSub, reduceCtorEq, Int.reduceToNat, Int.reduceAdd, Int.reduceSub, Int.reduceLT, Int.reduceLE, Int.reduceNeg, Int.reduceBEq, Int.reduceBNe, true_or, resP, Nat.le_refl, List.take_length, toDL_ds]; try rfl) ?_)
    exact subD_refl _

/-- A call behind a guard, of what names no object. -/
theorem CallG.toI {P : Program} {fid : Nat} {g : Bool} {st : St} {qs : List PVal} {G : Prop} {ds : List D} {x : D} {K : Eff → Prop} (hd : toDL st.heap qs = some ds) (hi : idsL qs = []) (hr : Runs P fid (ds.map .d) [] (.d x) []) (hG : g = true → G) (hK : K ⟨.gd g (.d x), [], []⟩) : CallG P fid g st qs G K :=
  ⟨ds.map .d, x, fun e => ⟨(args_toDL hd).1, fun p hp => by obtain ⟨y, _, rfl⟩ := List.mem_map.1 hp; exact ⟨y, rfl⟩, hr, hG e⟩, .inl (by rw [(args_toDL (ρ := fun k => k) hd).2, hi]), hK⟩

theorem hold1 : Runs Try.prog 37 [.d (vecD []), pint .i64 3, pint .i64 2, pint .i64 5] [] (.d (.tup [vecD [⟨3, 2, 5⟩], I64 0])) [] := by
  have h := run37 (vec fun _ => 0) (26 / 8 : Nat) (26 % 8 : Nat) 5 (by have := vec_len fun _ => 0; omega)
  rw [addV_vec (fun k _ => by simp [In64]) (by omega) (by simp [In64])] at h
  exact h
theorem hold2 : Runs Try.prog 37 [.d (vecD [⟨3, 2, 5⟩]), pint .i64 3, pint .i64 2, pint .i64 (-5)] [] (.d (.tup [vecD [], I64 0])) [] := by
  have h := run37 (vec (put (fun _ => 0) 26 5)) (26 / 8 : Nat) (26 % 8 : Nat) (-5) (by have := vec_len (put (fun _ => 0) 26 5); omega)
  rw [addV_vec (fun k _ => by unfold put; split <;> simp [In64]) (by omega) (by simp [In64])] at h
  exact h
theorem hold3 : Runs Try.prog 36 [.d (vecD [⟨3, 2, 5⟩]), pint .i64 3, pint .i64 2] [] (pint .i64 5) [] := by
  have h := run36 (vec (put (fun _ => 0) 26 5)) 3 2 (by have := vec_len (put (fun _ => 0) 26 5); omega)
  rw [hasV_vec _ (by simp [In64]) (by simp [In64])] at h
  exact h
set_option maxHeartbeats 8000000 in
theorem run34 : Runs Try.prog 34 [] [] (pbool true) [] := by
  have h4 := run39d [⟨3, 2, 5⟩] (by simp)
  have h5 := run39d [] (by simp)
  refine Runs.of (kit Try.prog) Try.func34 rfl rfl (by rw [Try.ntmps34]; exact of_decide_eq_true rfl) ?_; rw [Try.ntmps34, Try.results34]
  repeat' (first
    | ((first | refine Pwp.step (kit _) rfl fun K hK => ?_ | refine Pwp.last (kit _) rfl fun K hK => ?_ | refine Pwp.stepD (kit _) rfl rfl fun K hK => ?_ | refine Pwp.lastD (kit _) rfl rfl fun K hK => ?_); simp (dsimp := false) only [↓opsP_nil, ↓opsP_cons, ↓opsD_nil, ↓opsD_cons, footOf, ↓opP, ↓stepP, ↓stepG, go_sem, reduceIte, Nat.reduceAdd, Nat.reduceMul, Nat.reduceEqDiff, Nat.reduceLT, Nat.reduceLeDiff, Nat.reduceSub, reduceCtorEq, Int.reduceToNat, Int.reduceAdd, Int.reduceSub, Int.reduceLT, Int.reduceLE, Int.reduceNeg, Int.reduceBEq, Int.reduceBNe, true_or, vecD, posD, Pos.cells])
    | (refine Pwp.seq ?_)
    | (refine Pwp.block ?_)
    | (refine Pwp.exit ?_; simp only [thenS, blockS, if_true, if_false, reduceIte, Nat.reduceEqDiff, Nat.add_one_ne_zero, reduceCtorEq])
    | (refine Pwp.skip ?_; simp only [thenS, blockS])
    | (refine Pwp.cond rfl True.intro (fun h => ?_) (fun h => ?_) <;> (try (cases h; done)) <;> (try simp only [h]))
    | (refine Pwp.ret ?_; try simp only [thenS, blockS])
    | (refine hK _ ?_; clear hK K)
    | (refine hK _ _ rfl ?_; clear hK K)
    | (refine CallK.giveS (ds := [.agg [.v (.slice none 0 0)], I64 3, I64 2, I64 5]) (es := [vecD [], I64 3, I64 2, I64 5]) rfl (by simp [vecD, posD, subL, subD, subV]) hold1 (by simp) ?_)
    | (refine CallG.toI (ds := [vecD [⟨3, 2, 5⟩]]) rfl rfl h4 ?_ ?_)
    | (refine CallG.toI (ds := [vecD []]) rfl rfl h5 ?_ ?_)
    | (refine CallK.give (ds := [vecD [⟨3, 2, 5⟩], I64 3, I64 2, I64 (-5)]) rfl (hold2) (by simp) ?_)
    | (refine CallG.toD (ds := [vecD [⟨3, 2, 5⟩], I64 3, I64 2]) rfl (hold3) rfl ?_ ?_)
    | (refine CallG.off ?_)
    | (with_reducible refine Or.inl ?_)
    | (simp only [thenS, blockS])
    | (with_reducible refine And.intro ?_ ?_)
    | (with_reducible exact True.intro)
    | (simp (dsimp := false) only [↓opsP_nil, ↓opsP_cons, ↓opsD_nil, ↓opsD_cons, footOf, ↓opP, ↓stepP, ↓stepG, go_sem, reduceIte, Nat.reduceAdd, Nat.reduceMul, Nat.reduceEqDiff, Nat.reduceLT, Nat.reduceLeDiff, Nat.reduceSub, reduceCtorEq, Int.reduceToNat, Int.reduceAdd, Int.reduceSub, Int.reduceLT, Int.reduceLE, Int.reduceNeg, Int.reduceBEq, Int.reduceBNe, true_or, vecD, posD, Pos.cells]))
  all_goals (try (first | (intro hg; simp_all; done) | (intro hg; simp [hg]; done) | exact of_decide_eq_true rfl | (cases h; done)))
  (refine Fin.data (.inr rfl) (by simp (dsimp := false) only [↓opsP_nil, ↓opsP_cons, ↓opsD_nil, ↓opsD_cons, footOf, ↓opP, ↓stepP, ↓stepG, go_sem, reduceIte, Nat.reduceAdd, Nat.reduceMul, Nat.reduceEqDiff, Nat.reduceLT, Nat.reduceLeDiff, Nat.reduceSub, reduceCtorEq, Int.reduceToNat, Int.reduceAdd, Int.reduceSub, Int.reduceLT, Int.reduceLE, Int.reduceNeg, Int.reduceBEq, Int.reduceBNe, true_or, resL]; rfl) (by simp only [and_self]) (by simp (dsimp := false) only [↓opsP_nil, ↓opsP_cons, ↓opsD_nil, ↓opsD_cons, footOf, ↓opP, ↓stepP, ↓stepG, go_sem, reduceIte, Nat.reduceAdd, Nat.reduceMul, Nat.reduceEqDiff, Nat.reduceLT, Nat.reduceLeDiff, Nat.reduceSub, reduceCtorEq, Int.reduceToNat, Int.reduceAdd, Int.reduceSub, Int.reduceLT, Int.reduceLE, Int.reduceNeg, Int.reduceBEq, Int.reduceBNe, true_or, resP, Nat.le_refl, List.take_length]; try rfl) ?_)
  exact subD_refl _

end Go.Proofs.Ytdodgbhodkcckaa.Pv
