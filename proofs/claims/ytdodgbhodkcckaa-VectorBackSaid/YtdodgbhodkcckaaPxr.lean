/- Walks of the statements of vectors: what both have, and what all have. -/
import Derived.Test.YtdodgbhodkcckaaPxq
set_option linter.unusedVariables false
set_option linter.unusedSimpArgs false
set_option autoImplicit false
set_option maxRecDepth 100000
namespace Go.Proofs.Ytdodgbhodkcckaa.Pv
open Go Go.RowKit

def fitK (m n : Nat → Int) (k : Nat) : Bool := (List.range k).all fun j => fits (m j + n j)
theorem fitK_succ (m n : Nat → Int) (k : Nat) : fitK m n (k + 1) = (fitK m n k && fits (m k + n k)) := by
  unfold fitK; rw [List.range_succ, List.all_append]; simp
def sumT (m n : Nat → Int) (k : Nat) : Nat → Int := fun j => if j < k then (if fits (m j + n j) = true then m j + n j else 0) else 0
theorem sumT_put (m n : Nat → Int) (k : Nat) : put (sumT m n k) k (if fits (m k + n k) = true then m k + n k else 0) = sumT m n (k + 1) := by
  funext j
  simp only [put, sumT]
  by_cases h : j = k
  · subst h; rw [if_pos rfl]; simp only [show j < j + 1 from by omega, if_true]
  · rw [if_neg h]
    by_cases h2 : j < k
    · simp only [h2, show j < k + 1 from by omega, if_true]
    · simp only [h2, show ¬ j < k + 1 from by omega, if_false]
theorem sumT0 (m n : Nat → Int) : sumT m n 0 = fun _ => 0 := by funext j; simp [sumT]
theorem fitK0 (m n : Nat → Int) : fitK m n 0 = true := rfl
theorem allT0 (m : Nat → Int) (c : Int) : allT m c 0 = [] := rfl
theorem cellsT0 : cellsT (fun _ => 0) = List.replicate 64 (I64 0) := rfl

def Q7 (m n : Nat → Int) (cur x : Int) (k : Nat) : List (Nat × PVal) := [(17, .own 9 0 1 0 (allT m cur k).length), (16, pbool (fitK m n k)), (15, .ref 200 0), (14, pint .i64 x), (13, .ref 170 0), (11, .ref 103 0), (10, .ref 102 0), (8, .ref 59 0), (7, .ref 58 0), (2, pint .i64 cur)]
def H7 (m n : Nat → Int) (cur : Int) (xs : List Pos) (k : Nat) : List (Nat × PObj) := [(58, .box [.d (.slc 3 (posD (vec m)))]), (59, .box ((cellsT m).map .d)), (102, .box [.d (.slc 3 (posD (vec n)))]), (103, .box ((cellsT n).map .d)), (170, .box [.d (.slc 3 (posD xs))]), (200, .box ((cellsT (sumT m n k)).map .d)), (9, .arr 2 1 0 none ((allT m cur k).map I64))]
def L7a (m n : Nat → Int) (cur x : Int) (xs : List Pos) (e : Nat) : St := ⟨(60, pint .i64 e) :: Q7 m n cur x (e * 8), H7 m n cur xs (e * 8), 216⟩
def L7b (m n : Nat → Int) (cur x : Int) (xs : List Pos) (e c : Nat) : St := ⟨(63, pint .i64 c) :: (60, pint .i64 e) :: (18, pint .i64 e) :: Q7 m n cur x (e * 8 + c), H7 m n cur xs (e * 8 + c), 232⟩

set_option maxHeartbeats 16000000 in
theorem run7 (l r : List Put) (cur : Int) (ha : ∀ p ∈ l, okPut p) (hb : ∀ p ∈ r, okPut p) (hc : In64 cur) : Runs Try.prog 7 [.d (.slc 3 (putsD l)), .d (.slc 3 (putsD r)), pint .i64 cur] [] (pbool true) [] := by
  have hlen := puts_len l
  have hlr := puts_len r
  by_cases hg : 40 < l.length ∨ 40 < r.length
  · have c1 : (decide (40 < (l.length : Int)) || decide (40 < (r.length : Int))) = true := by
      rw [Bool.or_eq_true, decide_eq_true_eq, decide_eq_true_eq]; omega
    refine Runs.of (kit Try.prog) Try.func7 rfl rfl (by rw [Try.ntmps7]; exact of_decide_eq_true rfl) ?_; rw [Try.ntmps7, Try.results7]
    repeat' (first
      | ((first | refine Pwp.step (kit _) rfl fun K hK => ?_ | refine Pwp.last (kit _) rfl fun K hK => ?_ | refine Pwp.stepD (kit _) rfl rfl fun K hK => ?_ | refine Pwp.lastD (kit _) rfl rfl fun K hK => ?_); simp (dsimp := false) only [↓opsP_nil, ↓opsP_cons, ↓opsD_nil, ↓opsD_cons, footOf, ↓opP, ↓stepP, ↓stepG, go_sem, reduceIte, Nat.reduceAdd, Nat.reduceMul, Nat.reduceEqDiff, Nat.reduceLT, Nat.reduceLeDiff, Nat.reduceSub, reduceCtorEq, Int.reduceToNat, Int.reduceAdd, Int.reduceSub, Int.reduceLT, Int.reduceLE, Int.reduceNeg, Int.reduceBEq, Int.reduceBNe, true_or, hlen, hlr, c1])
      | (refine Pwp.seq ?_)
      | (refine Pwp.block ?_)
      | (refine Pwp.exit ?_; simp only [thenS, blockS, if_true, if_false, reduceIte, Nat.reduceEqDiff, Nat.add_one_ne_zero, reduceCtorEq])
      | (refine Pwp.skip ?_; simp only [thenS, blockS])
      | (refine Pwp.cond rfl True.intro (fun h => ?_) (fun h => ?_) <;> (try (cases h; done)) <;> (try simp only [h]))
      | (refine Pwp.ret ?_; try simp only [thenS, blockS])
      | (refine hK _ ?_; clear hK K)
      | (refine hK _ _ rfl ?_; clear hK K)
      | (refine CallK.toD (ds := []) rfl (run34) rfl ?_)
      | (refine CallG.off ?_)
      | (with_reducible refine Or.inl ?_)
      | (simp only [thenS, blockS])
      | (with_reducible refine And.intro ?_ ?_)
      | (with_reducible exact True.intro)
      | (simp (dsimp := false) only [↓opsP_nil, ↓opsP_cons, ↓opsD_nil, ↓opsD_cons, footOf, ↓opP, ↓stepP, ↓stepG, go_sem, reduceIte, Nat.reduceAdd, Nat.reduceMul, Nat.reduceEqDiff, Nat.reduceLT, Nat.reduceLeDiff, Nat.reduceSub, reduceCtorEq, Int.reduceToNat, Int.reduceAdd, Int.reduceSub, Int.reduceLT, Int.reduceLE, Int.reduceNeg, Int.reduceBEq, Int.reduceBNe, true_or, hlen, hlr, c1]))
    all_goals (try (first | (intro hg; simp_all; done) | (intro hg; simp [hg]; done) | exact of_decide_eq_true rfl | (cases h; done)))
    (refine Fin.data (.inr rfl) (by simp (dsimp := false) only [↓opsP_nil, ↓opsP_cons, ↓opsD_nil, ↓opsD_cons, footOf, ↓opP, ↓stepP, ↓stepG, go_sem, reduceIte, Nat.reduceAdd, Nat.reduceMul, Nat.reduceEqDiff, Nat.reduceLT, Nat.reduceLeDiff, Nat.reduceSub, reduceCtorEq, Int.reduceToNat, Int.reduceAdd, Int.reduceSub, Int.reduceLT, Int.reduceLE, Int.reduceNeg, Int.reduceBEq, Int.reduceBNe, true_or, resL]; rfl) (by simp only [and_self]) (by simp (dsimp := false) only [↓opsP_nil, ↓opsP_cons, ↓opsD_nil, ↓opsD_cons, footOf, ↓opP, ↓stepP, ↓stepG, go_sem, reduceIte, Nat.reduceAdd, Nat.reduceMul, Nat.reduceEqDiff, Nat.reduceLT, Nat.reduceLeDiff, Nat.reduceSub, reduceCtorEq, Int.reduceToNat, Int.reduceAdd, Int.reduceSub, Int.reduceLT, Int.reduceLE, Int.reduceNeg, Int.reduceBEq, Int.reduceBNe, true_or, resP, Nat.le_refl, List.take_length]; try rfl) ?_)
    exact subD_refl _
  have c1 : (decide (40 < (l.length : Int)) || decide (40 < (r.length : Int))) = false := by
    rw [Bool.or_eq_false_iff, decide_eq_false_iff_not, decide_eq_false_iff_not]; omega
  have r35a := run35 l (by omega) ha
  have r35b := run35 r (by omega) hb
  have hm := tab_in l
  have hn := tab_in r
  generalize tab l = m at r35a hm
  generalize tab r = n at r35b hn
  have hv1 := vec_len m
  have hv2 := vec_len n
  have r40 := run40 (vec m) (vec n) (by omega) (by omega)
  have hxs : ∃ xs x, plusV (vec m) (vec m) (vec n) = (xs, x) ∧ (if allFit m n = true then xs = vec (sumT m n 64) ∧ x = 0 else xs = vec m ∧ x = 10) := by
    refine ⟨_, _, rfl, ?_⟩
    rw [plusV_vec hm hn]
    cases hf : allFit m n with
    | true =>
      simp only [if_true, and_true]
      refine vec_congr fun k hk => ?_
      have := List.all_eq_true.1 hf k (by simpa using hk)
      simp only [sumT, hk, this, if_true]
    | false => simp
  obtain ⟨xs, x, hxe, hxx⟩ := hxs
  rw [hxe] at r40
  have hclm := tabP_len m
  have htm := tabP_take m
  have hcln := tabP_len n
  have htn := tabP_take n
  refine Runs.of (kit Try.prog) Try.func7 rfl rfl (by rw [Try.ntmps7]; exact of_decide_eq_true rfl) ?_; rw [Try.ntmps7, Try.results7]
  repeat' (first
    | ((first | refine Pwp.step (kit _) rfl fun K hK => ?_ | refine Pwp.last (kit _) rfl fun K hK => ?_ | refine Pwp.stepD (kit _) rfl rfl fun K hK => ?_ | refine Pwp.lastD (kit _) rfl rfl fun K hK => ?_); simp (dsimp := false) only [↓opsP_nil, ↓opsP_cons, ↓opsD_nil, ↓opsD_cons, footOf, ↓opP, ↓stepP, ↓stepG, go_sem, reduceIte, Nat.reduceAdd, Nat.reduceMul, Nat.reduceEqDiff, Nat.reduceLT, Nat.reduceLeDiff, Nat.reduceSub, reduceCtorEq, Int.reduceToNat, Int.reduceAdd, Int.reduceSub, Int.reduceLT, Int.reduceLE, Int.reduceNeg, Int.reduceBEq, Int.reduceBNe, true_or, hlen, hlr, c1, vecD, tabD, hclm, hcln])
    | (refine Pwp.seq ?_)
    | (refine Pwp.block ?_)
    | (refine Pwp.exit ?_; simp only [thenS, blockS, if_true, if_false, reduceIte, Nat.reduceEqDiff, Nat.add_one_ne_zero, reduceCtorEq])
    | (refine Pwp.skip ?_; simp only [thenS, blockS])
    | (refine Pwp.cond rfl True.intro (fun h => ?_) (fun h => ?_) <;> (try (cases h; done)) <;> (try simp only [h]))
    | (refine Pwp.ret ?_; try simp only [thenS, blockS])
    | (refine hK _ ?_; clear hK K)
    | (refine hK _ _ rfl ?_; clear hK K)
    | (refine CallK.toD (ds := []) rfl (run34) rfl ?_)
    | (refine CallK.give (ds := [.slc 3 (putsD l)]) rfl (r35a) (by simp) ?_)
    | (refine CallK.give (ds := [.slc 3 (putsD r)]) rfl (r35b) (by simp) ?_)
    | (refine CallK.give (ds := [vecD (vec m), vecD (vec n)]) rfl (r40) (by simp) ?_)
    | (refine CallG.off ?_)
    | (with_reducible refine Or.inl ?_)
    | (simp only [thenS, blockS])
    | (with_reducible refine And.intro ?_ ?_)
    | (with_reducible exact True.intro)
    | (simp (dsimp := false) only [↓opsP_nil, ↓opsP_cons, ↓opsD_nil, ↓opsD_cons, footOf, ↓opP, ↓stepP, ↓stepG, go_sem, reduceIte, Nat.reduceAdd, Nat.reduceMul, Nat.reduceEqDiff, Nat.reduceLT, Nat.reduceLeDiff, Nat.reduceSub, reduceCtorEq, Int.reduceToNat, Int.reduceAdd, Int.reduceSub, Int.reduceLT, Int.reduceLE, Int.reduceNeg, Int.reduceBEq, Int.reduceBNe, true_or, hlen, hlr, c1, vecD, tabD, hclm, hcln]))
  all_goals (try (first | (intro hg; simp_all; done) | (intro hg; simp [hg]; done) | exact of_decide_eq_true rfl | (cases h; done)))
  refine Pwp.range 8 (S := L7a m n cur x xs) (Sub.view V9n (by simp [L7a]) rfl (by simp [viewH, viewP, viewL, viewO, V0, V9, V9n, VR, VN, keptOf, find, PVal.toD, subD, subL, subV, subD_refl, viewL_ds, disj, PVal.ids, pnil, List.range, List.range.loop, L7a, Q7, H7, sumT0, fitK0, allT0, cellsT0, List.replicate]) (by simp [viewT, St.ev, viewH, viewP, viewL, viewO, V0, V9, V9n, VR, VN, keptOf, find, PVal.toD, subD, subL, subV, subD_refl, viewL_ds, disj, PVal.ids, pnil, List.range, List.range.loop, L7a, Q7, H7, sumT0, fitK0, allT0, cellsT0, List.replicate])) (fun e he => ?_) ?_
  · have c2 : decide ((e : Int) < 8) = true := decide_eq_true (by omega)
    have w1 := wrap_succ (i := e) (by omega)
    unfold L7a Q7 H7
    repeat' (first
      | ((first | refine Pwp.step (kit _) rfl fun K hK => ?_ | refine Pwp.last (kit _) rfl fun K hK => ?_ | refine Pwp.stepD (kit _) rfl rfl fun K hK => ?_ | refine Pwp.lastD (kit _) rfl rfl fun K hK => ?_); simp (dsimp := false) only [↓opsP_nil, ↓opsP_cons, ↓opsD_nil, ↓opsD_cons, footOf, ↓opP, ↓stepP, ↓stepG, go_sem, reduceIte, Nat.reduceAdd, Nat.reduceMul, Nat.reduceEqDiff, Nat.reduceLT, Nat.reduceLeDiff, Nat.reduceSub, reduceCtorEq, Int.reduceToNat, Int.reduceAdd, Int.reduceSub, Int.reduceLT, Int.reduceLE, Int.reduceNeg, Int.reduceBEq, Int.reduceBNe, true_or, c2])
      | (refine Pwp.seq ?_)
      | (refine Pwp.block ?_)
      | (refine Pwp.exit ?_; simp only [thenS, blockS, if_true, if_false, reduceIte, Nat.reduceEqDiff, Nat.add_one_ne_zero, reduceCtorEq])
      | (refine Pwp.skip ?_; simp only [thenS, blockS])
      | (refine Pwp.cond rfl True.intro (fun h => ?_) (fun h => ?_) <;> (try (cases h; done)) <;> (try simp only [h]))
      | (refine Pwp.ret ?_; try simp only [thenS, blockS])
      | (refine hK _ ?_; clear hK K)
      | (refine hK _ _ rfl ?_; clear hK K)
      | (refine CallG.off ?_)
      | (with_reducible refine Or.inl ?_)
      | (simp only [thenS, blockS])
      | (with_reducible refine And.intro ?_ ?_)
      | (with_reducible exact True.intro)
      | (simp (dsimp := false) only [↓opsP_nil, ↓opsP_cons, ↓opsD_nil, ↓opsD_cons, footOf, ↓opP, ↓stepP, ↓stepG, go_sem, reduceIte, Nat.reduceAdd, Nat.reduceMul, Nat.reduceEqDiff, Nat.reduceLT, Nat.reduceLeDiff, Nat.reduceSub, reduceCtorEq, Int.reduceToNat, Int.reduceAdd, Int.reduceSub, Int.reduceLT, Int.reduceLE, Int.reduceNeg, Int.reduceBEq, Int.reduceBNe, true_or, c2]))
    all_goals (try (first | (intro hg; simp_all; done) | (intro hg; simp [hg]; done) | exact of_decide_eq_true rfl | (cases h; done)))
    refine Pwp.range 8 (S := L7b m n cur x xs e) (Sub.view V0 (by simp [L7b]) rfl (by simp [viewH, viewP, viewL, viewO, V0, V9, V9n, VR, VN, keptOf, find, PVal.toD, subD, subL, subV, subD_refl, viewL_ds, disj, PVal.ids, pnil, List.range, List.range.loop, L7b, Q7, H7]) (by simp [viewT, St.ev, viewH, viewP, viewL, viewO, V0, V9, V9n, VR, VN, keptOf, find, PVal.toD, subD, subL, subV, subD_refl, viewL_ds, disj, PVal.ids, pnil, List.range, List.range.loop, L7b, Q7, H7])) (fun c hcc => ?_) ?_
    · have c3 : decide ((c : Int) < 8) = true := decide_eq_true (by omega)
      have w2 := wrap_succ (i := c) (by omega)
      have hk : e * 8 + c < 64 := by omega
      have h1 : c * 1 = c := Nat.mul_one c
      have hg1 := tab_load (m := m) hk
      have hg2 := tab_load (m := n) hk
      have r41 := run41 [m (e * 8 + c), n (e * 8 + c)] (by simp) (by intro x hx; simp at hx; rcases hx with rfl | rfl; exact hm _ hk; exact hn _ hk)
      rw [sum2] at r41
      have hst := tabP_put (m := sumT m n (e * 8 + c)) hk
      have hsp := sumT_put m n (e * 8 + c)
      have hfk := fitK_succ m n (e * 8 + c)
      have hal := allT_succ m cur (e * 8 + c)
      rw [show (e * 8 + c) % 8 = c by omega] at hal
      have hll := allT_len m cur (e * 8 + c)
      have htk : ((allT m cur (e * 8 + c)).map I64).take (allT m cur (e * 8 + c)).length = (allT m cur (e * 8 + c)).map I64 := List.take_of_length_le (by simp)
      have hcl2 := tabP_len (sumT m n (e * 8 + c))
      rw [Nat.add_assoc] at hsp hfk hal
      unfold L7b Q7 H7
      cases hcu : ((c : Int) == cur) <;> cases hf : fits (m (e * 8 + c) + n (e * 8 + c)) <;> rw [hf] at r41 hsp hfk <;> rw [hcu] at hal
      · simp only [if_true, if_false, Bool.false_eq_true, Bool.and_true, Bool.and_false, List.append_nil] at r41 hsp hfk hal
        repeat' (first
          | ((first | refine Pwp.step (kit _) rfl fun K hK => ?_ | refine Pwp.last (kit _) rfl fun K hK => ?_ | refine Pwp.stepD (kit _) rfl rfl fun K hK => ?_ | refine Pwp.lastD (kit _) rfl rfl fun K hK => ?_); simp (dsimp := false) only [↓opsP_nil, ↓opsP_cons, ↓opsD_nil, ↓opsD_cons, footOf, ↓opP, ↓stepP, ↓stepG, go_sem, reduceIte, Nat.reduceAdd, Nat.reduceMul, Nat.reduceEqDiff, Nat.reduceLT, Nat.reduceLeDiff, Nat.reduceSub, reduceCtorEq, Int.reduceToNat, Int.reduceAdd, Int.reduceSub, Int.reduceLT, Int.reduceLE, Int.reduceNeg, Int.reduceBEq, Int.reduceBNe, true_or, c3, w2, h1, hg1, hg2, hst, hsp, hcu, htk, hcl2, Bool.and_false])
          | (refine Pwp.seq ?_)
          | (refine Pwp.block ?_)
          | (refine Pwp.exit ?_; simp only [thenS, blockS, if_true, if_false, reduceIte, Nat.reduceEqDiff, Nat.add_one_ne_zero, reduceCtorEq])
          | (refine Pwp.skip ?_; simp only [thenS, blockS])
          | (refine Pwp.cond rfl True.intro (fun h => ?_) (fun h => ?_) <;> (try (cases h; done)) <;> (try simp only [h]))
          | (refine Pwp.ret ?_; try simp only [thenS, blockS])
          | (refine hK _ ?_; clear hK K)
          | (refine hK _ _ rfl ?_; clear hK K)
          | (refine CallK.toD (ds := [.slc 1 [I64 (m (e * 8 + c)), I64 (n (e * 8 + c))]]) rfl (r41) rfl ?_)
          | (refine CallG.off ?_)
          | (with_reducible refine Or.inl ?_)
          | (simp only [thenS, blockS])
          | (with_reducible refine And.intro ?_ ?_)
          | (with_reducible exact True.intro)
          | (simp (dsimp := false) only [↓opsP_nil, ↓opsP_cons, ↓opsD_nil, ↓opsD_cons, footOf, ↓opP, ↓stepP, ↓stepG, go_sem, reduceIte, Nat.reduceAdd, Nat.reduceMul, Nat.reduceEqDiff, Nat.reduceLT, Nat.reduceLeDiff, Nat.reduceSub, reduceCtorEq, Int.reduceToNat, Int.reduceAdd, Int.reduceSub, Int.reduceLT, Int.reduceLE, Int.reduceNeg, Int.reduceBEq, Int.reduceBNe, true_or, c3, w2, h1, hg1, hg2, hst, hsp, hcu, htk, hcl2, Bool.and_false]))
        all_goals (try (first | (intro hg; simp_all; done) | (intro hg; simp [hg]; done) | exact of_decide_eq_true rfl | (cases h; done)))
        all_goals (try (first | omega | (simp; done) | (simp [maxLen]; omega)))
        exact Sub.view V0 (by simp [L7b]) rfl (by simp [viewH, viewP, viewL, viewO, V0, V9, V9n, VR, VN, keptOf, find, PVal.toD, subD, subL, subV, subD_refl, viewL_ds, disj, PVal.ids, pnil, List.range, List.range.loop, L7b, Q7, H7, hfk, hal, hsp]) (by simp [viewT, St.ev, viewH, viewP, viewL, viewO, V0, V9, V9n, VR, VN, keptOf, find, PVal.toD, subD, subL, subV, subD_refl, viewL_ds, disj, PVal.ids, pnil, List.range, List.range.loop, L7b, Q7, H7, hfk, hal, hsp])
      · simp only [if_true, if_false, Bool.false_eq_true, Bool.and_true, Bool.and_false, List.append_nil] at r41 hsp hfk hal
        repeat' (first
          | ((first | refine Pwp.step (kit _) rfl fun K hK => ?_ | refine Pwp.last (kit _) rfl fun K hK => ?_ | refine Pwp.stepD (kit _) rfl rfl fun K hK => ?_ | refine Pwp.lastD (kit _) rfl rfl fun K hK => ?_); simp (dsimp := false) only [↓opsP_nil, ↓opsP_cons, ↓opsD_nil, ↓opsD_cons, footOf, ↓opP, ↓stepP, ↓stepG, go_sem, reduceIte, Nat.reduceAdd, Nat.reduceMul, Nat.reduceEqDiff, Nat.reduceLT, Nat.reduceLeDiff, Nat.reduceSub, reduceCtorEq, Int.reduceToNat, Int.reduceAdd, Int.reduceSub, Int.reduceLT, Int.reduceLE, Int.reduceNeg, Int.reduceBEq, Int.reduceBNe, true_or, c3, w2, h1, hg1, hg2, hst, hsp, hcu, htk, hcl2, Bool.and_false])
          | (refine Pwp.seq ?_)
          | (refine Pwp.block ?_)
          | (refine Pwp.exit ?_; simp only [thenS, blockS, if_true, if_false, reduceIte, Nat.reduceEqDiff, Nat.add_one_ne_zero, reduceCtorEq])
          | (refine Pwp.skip ?_; simp only [thenS, blockS])
          | (refine Pwp.cond rfl True.intro (fun h => ?_) (fun h => ?_) <;> (try (cases h; done)) <;> (try simp only [h]))
          | (refine Pwp.ret ?_; try simp only [thenS, blockS])
          | (refine hK _ ?_; clear hK K)
          | (refine hK _ _ rfl ?_; clear hK K)
          | (refine CallK.toD (ds := [.slc 1 [I64 (m (e * 8 + c)), I64 (n (e * 8 + c))]]) rfl (r41) rfl ?_)
          | (refine CallG.off ?_)
          | (with_reducible refine Or.inl ?_)
          | (simp only [thenS, blockS])
          | (with_reducible refine And.intro ?_ ?_)
          | (with_reducible exact True.intro)
          | (simp (dsimp := false) only [↓opsP_nil, ↓opsP_cons, ↓opsD_nil, ↓opsD_cons, footOf, ↓opP, ↓stepP, ↓stepG, go_sem, reduceIte, Nat.reduceAdd, Nat.reduceMul, Nat.reduceEqDiff, Nat.reduceLT, Nat.reduceLeDiff, Nat.reduceSub, reduceCtorEq, Int.reduceToNat, Int.reduceAdd, Int.reduceSub, Int.reduceLT, Int.reduceLE, Int.reduceNeg, Int.reduceBEq, Int.reduceBNe, true_or, c3, w2, h1, hg1, hg2, hst, hsp, hcu, htk, hcl2, Bool.and_false]))
        all_goals (try (first | (intro hg; simp_all; done) | (intro hg; simp [hg]; done) | exact of_decide_eq_true rfl | (cases h; done)))
        all_goals (try (first | omega | (simp; done) | (simp [maxLen]; omega)))
        exact Sub.view V0 (by simp [L7b]) rfl (by simp [viewH, viewP, viewL, viewO, V0, V9, V9n, VR, VN, keptOf, find, PVal.toD, subD, subL, subV, subD_refl, viewL_ds, disj, PVal.ids, pnil, List.range, List.range.loop, L7b, Q7, H7, hfk, hal, hsp]) (by simp [viewT, St.ev, viewH, viewP, viewL, viewO, V0, V9, V9n, VR, VN, keptOf, find, PVal.toD, subD, subL, subV, subD_refl, viewL_ds, disj, PVal.ids, pnil, List.range, List.range.loop, L7b, Q7, H7, hfk, hal, hsp])
      · simp only [if_true, if_false, Bool.false_eq_true, Bool.and_true, Bool.and_false, List.append_nil] at r41 hsp hfk hal
        repeat' (first
          | ((first | refine Pwp.step (kit _) rfl fun K hK => ?_ | refine Pwp.last (kit _) rfl fun K hK => ?_ | refine Pwp.stepD (kit _) rfl rfl fun K hK => ?_ | refine Pwp.lastD (kit _) rfl rfl fun K hK => ?_); simp (dsimp := false) only [↓opsP_nil, ↓opsP_cons, ↓opsD_nil, ↓opsD_cons, footOf, ↓opP, ↓stepP, ↓stepG, go_sem, reduceIte, Nat.reduceAdd, Nat.reduceMul, Nat.reduceEqDiff, Nat.reduceLT, Nat.reduceLeDiff, Nat.reduceSub, reduceCtorEq, Int.reduceToNat, Int.reduceAdd, Int.reduceSub, Int.reduceLT, Int.reduceLE, Int.reduceNeg, Int.reduceBEq, Int.reduceBNe, true_or, c3, w2, h1, hg1, hg2, hst, hsp, hcu, htk, hcl2, Bool.and_false])
          | (refine Pwp.seq ?_)
          | (refine Pwp.block ?_)
          | (refine Pwp.exit ?_; simp only [thenS, blockS, if_true, if_false, reduceIte, Nat.reduceEqDiff, Nat.add_one_ne_zero, reduceCtorEq])
          | (refine Pwp.skip ?_; simp only [thenS, blockS])
          | (refine Pwp.cond rfl True.intro (fun h => ?_) (fun h => ?_) <;> (try (cases h; done)) <;> (try simp only [h]))
          | (refine Pwp.ret ?_; try simp only [thenS, blockS])
          | (refine hK _ ?_; clear hK K)
          | (refine hK _ _ rfl ?_; clear hK K)
          | (refine CallK.toD (ds := [.slc 1 [I64 (m (e * 8 + c)), I64 (n (e * 8 + c))]]) rfl (r41) rfl ?_)
          | (refine CallG.off ?_)
          | (with_reducible refine Or.inl ?_)
          | (simp only [thenS, blockS])
          | (with_reducible refine And.intro ?_ ?_)
          | (with_reducible exact True.intro)
          | (simp (dsimp := false) only [↓opsP_nil, ↓opsP_cons, ↓opsD_nil, ↓opsD_cons, footOf, ↓opP, ↓stepP, ↓stepG, go_sem, reduceIte, Nat.reduceAdd, Nat.reduceMul, Nat.reduceEqDiff, Nat.reduceLT, Nat.reduceLeDiff, Nat.reduceSub, reduceCtorEq, Int.reduceToNat, Int.reduceAdd, Int.reduceSub, Int.reduceLT, Int.reduceLE, Int.reduceNeg, Int.reduceBEq, Int.reduceBNe, true_or, c3, w2, h1, hg1, hg2, hst, hsp, hcu, htk, hcl2, Bool.and_false]))
        all_goals (try (first | (intro hg; simp_all; done) | (intro hg; simp [hg]; done) | exact of_decide_eq_true rfl | (cases h; done)))
        all_goals (try (first | omega | (simp; done) | (simp [maxLen]; omega)))
        exact Sub.view (V9 1) (by simp [L7b]) rfl (by simp [viewH, viewP, viewL, viewO, V0, V9, V9n, VR, VN, keptOf, find, PVal.toD, subD, subL, subV, subD_refl, viewL_ds, disj, PVal.ids, pnil, List.range, List.range.loop, L7b, Q7, H7, hfk, hal, hsp]) (by simp [viewT, St.ev, viewH, viewP, viewL, viewO, V0, V9, V9n, VR, VN, keptOf, find, PVal.toD, subD, subL, subV, subD_refl, viewL_ds, disj, PVal.ids, pnil, List.range, List.range.loop, L7b, Q7, H7, hfk, hal, hsp])
      · simp only [if_true, if_false, Bool.false_eq_true, Bool.and_true, Bool.and_false, List.append_nil] at r41 hsp hfk hal
        repeat' (first
          | ((first | refine Pwp.step (kit _) rfl fun K hK => ?_ | refine Pwp.last (kit _) rfl fun K hK => ?_ | refine Pwp.stepD (kit _) rfl rfl fun K hK => ?_ | refine Pwp.lastD (kit _) rfl rfl fun K hK => ?_); simp (dsimp := false) only [↓opsP_nil, ↓opsP_cons, ↓opsD_nil, ↓opsD_cons, footOf, ↓opP, ↓stepP, ↓stepG, go_sem, reduceIte, Nat.reduceAdd, Nat.reduceMul, Nat.reduceEqDiff, Nat.reduceLT, Nat.reduceLeDiff, Nat.reduceSub, reduceCtorEq, Int.reduceToNat, Int.reduceAdd, Int.reduceSub, Int.reduceLT, Int.reduceLE, Int.reduceNeg, Int.reduceBEq, Int.reduceBNe, true_or, c3, w2, h1, hg1, hg2, hst, hsp, hcu, htk, hcl2, Bool.and_false])
          | (refine Pwp.seq ?_)
          | (refine Pwp.block ?_)
          | (refine Pwp.exit ?_; simp only [thenS, blockS, if_true, if_false, reduceIte, Nat.reduceEqDiff, Nat.add_one_ne_zero, reduceCtorEq])
          | (refine Pwp.skip ?_; simp only [thenS, blockS])
          | (refine Pwp.cond rfl True.intro (fun h => ?_) (fun h => ?_) <;> (try (cases h; done)) <;> (try simp only [h]))
          | (refine Pwp.ret ?_; try simp only [thenS, blockS])
          | (refine hK _ ?_; clear hK K)
          | (refine hK _ _ rfl ?_; clear hK K)
          | (refine CallK.toD (ds := [.slc 1 [I64 (m (e * 8 + c)), I64 (n (e * 8 + c))]]) rfl (r41) rfl ?_)
          | (refine CallG.off ?_)
          | (with_reducible refine Or.inl ?_)
          | (simp only [thenS, blockS])
          | (with_reducible refine And.intro ?_ ?_)
          | (with_reducible exact True.intro)
          | (simp (dsimp := false) only [↓opsP_nil, ↓opsP_cons, ↓opsD_nil, ↓opsD_cons, footOf, ↓opP, ↓stepP, ↓stepG, go_sem, reduceIte, Nat.reduceAdd, Nat.reduceMul, Nat.reduceEqDiff, Nat.reduceLT, Nat.reduceLeDiff, Nat.reduceSub, reduceCtorEq, Int.reduceToNat, Int.reduceAdd, Int.reduceSub, Int.reduceLT, Int.reduceLE, Int.reduceNeg, Int.reduceBEq, Int.reduceBNe, true_or, c3, w2, h1, hg1, hg2, hst, hsp, hcu, htk, hcl2, Bool.and_false]))
        all_goals (try (first | (intro hg; simp_all; done) | (intro hg; simp [hg]; done) | exact of_decide_eq_true rfl | (cases h; done)))
        all_goals (try (first | omega | (simp; done) | (simp [maxLen]; omega)))
        exact Sub.view (V9 1) (by simp [L7b]) rfl (by simp [viewH, viewP, viewL, viewO, V0, V9, V9n, VR, VN, keptOf, find, PVal.toD, subD, subL, subV, subD_refl, viewL_ds, disj, PVal.ids, pnil, List.range, List.range.loop, L7b, Q7, H7, hfk, hal, hsp]) (by simp [viewT, St.ev, viewH, viewP, viewL, viewO, V0, V9, V9n, VR, VN, keptOf, find, PVal.toD, subD, subL, subV, subD_refl, viewL_ds, disj, PVal.ids, pnil, List.range, List.range.loop, L7b, Q7, H7, hfk, hal, hsp])
    · have h8 : (e + 1) * 8 = e * 8 + 8 := by omega
      unfold L7b Q7 H7
      repeat' (first
        | ((first | refine Pwp.step (kit _) rfl fun K hK => ?_ | refine Pwp.last (kit _) rfl fun K hK => ?_ | refine Pwp.stepD (kit _) rfl rfl fun K hK => ?_ | refine Pwp.lastD (kit _) rfl rfl fun K hK => ?_); simp (dsimp := false) only [↓opsP_nil, ↓opsP_cons, ↓opsD_nil, ↓opsD_cons, footOf, ↓opP, ↓stepP, ↓stepG, go_sem, reduceIte, Nat.reduceAdd, Nat.reduceMul, Nat.reduceEqDiff, Nat.reduceLT, Nat.reduceLeDiff, Nat.reduceSub, reduceCtorEq, Int.reduceToNat, Int.reduceAdd, Int.reduceSub, Int.reduceLT, Int.reduceLE, Int.reduceNeg, Int.reduceBEq, Int.reduceBNe, true_or, w1])
        | (refine Pwp.seq ?_)
        | (refine Pwp.block ?_)
        | (refine Pwp.exit ?_; simp only [thenS, blockS, if_true, if_false, reduceIte, Nat.reduceEqDiff, Nat.add_one_ne_zero, reduceCtorEq])
        | (refine Pwp.skip ?_; simp only [thenS, blockS])
        | (refine Pwp.cond rfl True.intro (fun h => ?_) (fun h => ?_) <;> (try (cases h; done)) <;> (try simp only [h]))
        | (refine Pwp.ret ?_; try simp only [thenS, blockS])
        | (refine hK _ ?_; clear hK K)
        | (refine hK _ _ rfl ?_; clear hK K)
        | (refine CallG.off ?_)
        | (with_reducible refine Or.inl ?_)
        | (simp only [thenS, blockS])
        | (with_reducible refine And.intro ?_ ?_)
        | (with_reducible exact True.intro)
        | (simp (dsimp := false) only [↓opsP_nil, ↓opsP_cons, ↓opsD_nil, ↓opsD_cons, footOf, ↓opP, ↓stepP, ↓stepG, go_sem, reduceIte, Nat.reduceAdd, Nat.reduceMul, Nat.reduceEqDiff, Nat.reduceLT, Nat.reduceLeDiff, Nat.reduceSub, reduceCtorEq, Int.reduceToNat, Int.reduceAdd, Int.reduceSub, Int.reduceLT, Int.reduceLE, Int.reduceNeg, Int.reduceBEq, Int.reduceBNe, true_or, w1]))
      all_goals (try (first | (intro hg; simp_all; done) | (intro hg; simp [hg]; done) | exact of_decide_eq_true rfl | (cases h; done)))
      exact Sub.view V0 (by simp [L7a]) rfl (by simp [viewH, viewP, viewL, viewO, V0, V9, V9n, VR, VN, keptOf, find, PVal.toD, subD, subL, subV, subD_refl, viewL_ds, disj, PVal.ids, pnil, List.range, List.range.loop, L7a, Q7, H7, h8]) (by simp [viewT, St.ev, viewH, viewP, viewL, viewO, V0, V9, V9n, VR, VN, keptOf, find, PVal.toD, subD, subL, subV, subD_refl, viewL_ds, disj, PVal.ids, pnil, List.range, List.range.loop, L7a, Q7, H7, h8])
  · have e64 : ∀ k, sumT m n (8 * 8) k = sumT m n 64 k := fun _ => rfl
    have r42 := run42 (vec m) cur (by omega) (ofCur_in hm cur)
    have r41 := run41 (allT m cur 64) (by have := allT_len m cur 64; omega) (allT_in hm cur (by omega))
    rw [total_vec] at r42
    have hal : allT m cur (8 * 8) = allT m cur 64 := rfl
    have hfa : fitK m n (8 * 8) = allFit m n := rfl
    have hsu : sumT m n (8 * 8) = sumT m n 64 := rfl
    have hsi : ∀ k, k < 64 → In64 (sumT m n 64 k) := by
      intro k hk
      unfold sumT
      rw [if_pos hk]
      split
      · exact fits_in ‹_›
      · simp [In64]
    have r38m := run38 m hm
    have r38n := run38 n hn
    have r38s := run38 (sumT m n 64) hsi
    have hcls := tabP_len (sumT m n 64)
    have hts := tabP_take (sumT m n 64)
    have htk : ((allT m cur 64).map I64).take (allT m cur 64).length = (allT m cur 64).map I64 := List.take_of_length_le (by simp)
    have hml : (allT m cur 64).length = ((allT m cur 64).map I64).length := by simp
    unfold L7a Q7 H7
    rw [hal, hfa, hsu]
    generalize sumT m n 64 = su at hxx r38s hcls hts
    generalize allT m cur 64 = al at r41 r42 htk hml
    cases hf : allFit m n <;> rw [hf] at hxx <;> simp only [if_true, if_false, Bool.false_eq_true] at hxx <;> obtain ⟨rfl, rfl⟩ := hxx <;> cases hs : fits (sumOf al) <;> rw [hs] at r41 r42 <;> simp only [if_true, if_false, Bool.false_eq_true] at r41 r42
    · repeat' (first
        | ((first | refine Pwp.step (kit _) rfl fun K hK => ?_ | refine Pwp.last (kit _) rfl fun K hK => ?_ | refine Pwp.stepD (kit _) rfl rfl fun K hK => ?_ | refine Pwp.lastD (kit _) rfl rfl fun K hK => ?_); simp (dsimp := false) only [↓opsP_nil, ↓opsP_cons, ↓opsD_nil, ↓opsD_cons, footOf, ↓opP, ↓stepP, ↓stepG, go_sem, reduceIte, Nat.reduceAdd, Nat.reduceMul, Nat.reduceEqDiff, Nat.reduceLT, Nat.reduceLeDiff, Nat.reduceSub, reduceCtorEq, Int.reduceToNat, Int.reduceAdd, Int.reduceSub, Int.reduceLT, Int.reduceLE, Int.reduceNeg, Int.reduceBEq, Int.reduceBNe, true_or, vecD, tabD, toDL_ds, hclm, htm, hcln, htn, hcls, hts, beq_self_eq_true])
        | (refine Pwp.seq ?_)
        | (refine Pwp.block ?_)
        | (refine Pwp.exit ?_; simp only [thenS, blockS, if_true, if_false, reduceIte, Nat.reduceEqDiff, Nat.add_one_ne_zero, reduceCtorEq])
        | (refine Pwp.skip ?_; simp only [thenS, blockS])
        | (refine Pwp.cond rfl True.intro (fun h => ?_) (fun h => ?_) <;> (try (cases h; done)) <;> (try simp only [h]))
        | (refine Pwp.ret ?_; try simp only [thenS, blockS])
        | (refine hK _ ?_; clear hK K)
        | (refine hK _ _ rfl ?_; clear hK K)
        | (refine CallK.giveO rfl hml r41 (by simp) ?_)
        | (refine CallK.give (ds := [vecD (vec m), I64 cur]) rfl (r42) (by simp) ?_)
        | (refine CallG.toD (ds := [vecD (vec m), tabD m]) rfl (r38m) rfl ?_ ?_)
        | (refine CallG.toD (ds := [vecD (vec n), tabD n]) rfl (r38n) rfl ?_ ?_)
        | (refine CallG.toD (ds := [vecD (vec su), tabD su]) rfl (r38s) rfl ?_ ?_)
        | (refine CallG.off ?_)
        | (with_reducible refine Or.inl ?_)
        | (simp only [thenS, blockS])
        | (with_reducible refine And.intro ?_ ?_)
        | (with_reducible exact True.intro)
        | (simp (dsimp := false) only [↓opsP_nil, ↓opsP_cons, ↓opsD_nil, ↓opsD_cons, footOf, ↓opP, ↓stepP, ↓stepG, go_sem, reduceIte, Nat.reduceAdd, Nat.reduceMul, Nat.reduceEqDiff, Nat.reduceLT, Nat.reduceLeDiff, Nat.reduceSub, reduceCtorEq, Int.reduceToNat, Int.reduceAdd, Int.reduceSub, Int.reduceLT, Int.reduceLE, Int.reduceNeg, Int.reduceBEq, Int.reduceBNe, true_or, vecD, tabD, toDL_ds, hclm, htm, hcln, htn, hcls, hts, beq_self_eq_true]))
      all_goals (try (first | (intro hg; simp [hg]; done) | exact of_decide_eq_true rfl | (cases h; done)))
      (refine Fin.data (.inr rfl) (by simp (dsimp := false) only [↓opsP_nil, ↓opsP_cons, ↓opsD_nil, ↓opsD_cons, footOf, ↓opP, ↓stepP, ↓stepG, go_sem, reduceIte, Nat.reduceAdd, Nat.reduceMul, Nat.reduceEqDiff, Nat.reduceLT, Nat.reduceLeDiff, Nat.reduceSub, reduceCtorEq, Int.reduceToNat, Int.reduceAdd, Int.reduceSub, Int.reduceLT, Int.reduceLE, Int.reduceNeg, Int.reduceBEq, Int.reduceBNe, true_or, resL]; rfl) (by simp only [and_self]) (by simp (dsimp := false) only [↓opsP_nil, ↓opsP_cons, ↓opsD_nil, ↓opsD_cons, footOf, ↓opP, ↓stepP, ↓stepG, go_sem, reduceIte, Nat.reduceAdd, Nat.reduceMul, Nat.reduceEqDiff, Nat.reduceLT, Nat.reduceLeDiff, Nat.reduceSub, reduceCtorEq, Int.reduceToNat, Int.reduceAdd, Int.reduceSub, Int.reduceLT, Int.reduceLE, Int.reduceNeg, Int.reduceBEq, Int.reduceBNe, true_or, resP, Nat.le_refl, List.take_length]; try rfl) ?_)
      exact subD_refl _
    · repeat' (first
        | ((first | refine Pwp.step (kit _) rfl fun K hK => ?_ | refine Pwp.last (kit _) rfl fun K hK => ?_ | refine Pwp.stepD (kit _) rfl rfl fun K hK => ?_ | refine Pwp.lastD (kit _) rfl rfl fun K hK => ?_); simp (dsimp := false) only [↓opsP_nil, ↓opsP_cons, ↓opsD_nil, ↓opsD_cons, footOf, ↓opP, ↓stepP, ↓stepG, go_sem, reduceIte, Nat.reduceAdd, Nat.reduceMul, Nat.reduceEqDiff, Nat.reduceLT, Nat.reduceLeDiff, Nat.reduceSub, reduceCtorEq, Int.reduceToNat, Int.reduceAdd, Int.reduceSub, Int.reduceLT, Int.reduceLE, Int.reduceNeg, Int.reduceBEq, Int.reduceBNe, true_or, vecD, tabD, toDL_ds, hclm, htm, hcln, htn, hcls, hts, beq_self_eq_true])
        | (refine Pwp.seq ?_)
        | (refine Pwp.block ?_)
        | (refine Pwp.exit ?_; simp only [thenS, blockS, if_true, if_false, reduceIte, Nat.reduceEqDiff, Nat.add_one_ne_zero, reduceCtorEq])
        | (refine Pwp.skip ?_; simp only [thenS, blockS])
        | (refine Pwp.cond rfl True.intro (fun h => ?_) (fun h => ?_) <;> (try (cases h; done)) <;> (try simp only [h]))
        | (refine Pwp.ret ?_; try simp only [thenS, blockS])
        | (refine hK _ ?_; clear hK K)
        | (refine hK _ _ rfl ?_; clear hK K)
        | (refine CallK.giveO rfl hml r41 (by simp) ?_)
        | (refine CallK.give (ds := [vecD (vec m), I64 cur]) rfl (r42) (by simp) ?_)
        | (refine CallG.toD (ds := [vecD (vec m), tabD m]) rfl (r38m) rfl ?_ ?_)
        | (refine CallG.toD (ds := [vecD (vec n), tabD n]) rfl (r38n) rfl ?_ ?_)
        | (refine CallG.toD (ds := [vecD (vec su), tabD su]) rfl (r38s) rfl ?_ ?_)
        | (refine CallG.off ?_)
        | (with_reducible refine Or.inl ?_)
        | (simp only [thenS, blockS])
        | (with_reducible refine And.intro ?_ ?_)
        | (with_reducible exact True.intro)
        | (simp (dsimp := false) only [↓opsP_nil, ↓opsP_cons, ↓opsD_nil, ↓opsD_cons, footOf, ↓opP, ↓stepP, ↓stepG, go_sem, reduceIte, Nat.reduceAdd, Nat.reduceMul, Nat.reduceEqDiff, Nat.reduceLT, Nat.reduceLeDiff, Nat.reduceSub, reduceCtorEq, Int.reduceToNat, Int.reduceAdd, Int.reduceSub, Int.reduceLT, Int.reduceLE, Int.reduceNeg, Int.reduceBEq, Int.reduceBNe, true_or, vecD, tabD, toDL_ds, hclm, htm, hcln, htn, hcls, hts, beq_self_eq_true]))
      all_goals (try (first | (intro hg; simp [hg]; done) | exact of_decide_eq_true rfl | (cases h; done)))
      (refine Fin.data (.inr rfl) (by simp (dsimp := false) only [↓opsP_nil, ↓opsP_cons, ↓opsD_nil, ↓opsD_cons, footOf, ↓opP, ↓stepP, ↓stepG, go_sem, reduceIte, Nat.reduceAdd, Nat.reduceMul, Nat.reduceEqDiff, Nat.reduceLT, Nat.reduceLeDiff, Nat.reduceSub, reduceCtorEq, Int.reduceToNat, Int.reduceAdd, Int.reduceSub, Int.reduceLT, Int.reduceLE, Int.reduceNeg, Int.reduceBEq, Int.reduceBNe, true_or, resL]; rfl) (by simp only [and_self]) (by simp (dsimp := false) only [↓opsP_nil, ↓opsP_cons, ↓opsD_nil, ↓opsD_cons, footOf, ↓opP, ↓stepP, ↓stepG, go_sem, reduceIte, Nat.reduceAdd, Nat.reduceMul, Nat.reduceEqDiff, Nat.reduceLT, Nat.reduceLeDiff, Nat.reduceSub, reduceCtorEq, Int.reduceToNat, Int.reduceAdd, Int.reduceSub, Int.reduceLT, Int.reduceLE, Int.reduceNeg, Int.reduceBEq, Int.reduceBNe, true_or, resP, Nat.le_refl, List.take_length]; try rfl) ?_)
      exact subD_refl _
    · repeat' (first
        | ((first | refine Pwp.step (kit _) rfl fun K hK => ?_ | refine Pwp.last (kit _) rfl fun K hK => ?_ | refine Pwp.stepD (kit _) rfl rfl fun K hK => ?_ | refine Pwp.lastD (kit _) rfl rfl fun K hK => ?_); simp (dsimp := false) only [↓opsP_nil, ↓opsP_cons, ↓opsD_nil, ↓opsD_cons, footOf, ↓opP, ↓stepP, ↓stepG, go_sem, reduceIte, Nat.reduceAdd, Nat.reduceMul, Nat.reduceEqDiff, Nat.reduceLT, Nat.reduceLeDiff, Nat.reduceSub, reduceCtorEq, Int.reduceToNat, Int.reduceAdd, Int.reduceSub, Int.reduceLT, Int.reduceLE, Int.reduceNeg, Int.reduceBEq, Int.reduceBNe, true_or, vecD, tabD, toDL_ds, hclm, htm, hcln, htn, hcls, hts, beq_self_eq_true])
        | (refine Pwp.seq ?_)
        | (refine Pwp.block ?_)
        | (refine Pwp.exit ?_; simp only [thenS, blockS, if_true, if_false, reduceIte, Nat.reduceEqDiff, Nat.add_one_ne_zero, reduceCtorEq])
        | (refine Pwp.skip ?_; simp only [thenS, blockS])
        | (refine Pwp.cond rfl True.intro (fun h => ?_) (fun h => ?_) <;> (try (cases h; done)) <;> (try simp only [h]))
        | (refine Pwp.ret ?_; try simp only [thenS, blockS])
        | (refine hK _ ?_; clear hK K)
        | (refine hK _ _ rfl ?_; clear hK K)
        | (refine CallK.giveO rfl hml r41 (by simp) ?_)
        | (refine CallK.give (ds := [vecD (vec m), I64 cur]) rfl (r42) (by simp) ?_)
        | (refine CallG.toD (ds := [vecD (vec m), tabD m]) rfl (r38m) rfl ?_ ?_)
        | (refine CallG.toD (ds := [vecD (vec n), tabD n]) rfl (r38n) rfl ?_ ?_)
        | (refine CallG.toD (ds := [vecD (vec su), tabD su]) rfl (r38s) rfl ?_ ?_)
        | (refine CallG.off ?_)
        | (with_reducible refine Or.inl ?_)
        | (simp only [thenS, blockS])
        | (with_reducible refine And.intro ?_ ?_)
        | (with_reducible exact True.intro)
        | (simp (dsimp := false) only [↓opsP_nil, ↓opsP_cons, ↓opsD_nil, ↓opsD_cons, footOf, ↓opP, ↓stepP, ↓stepG, go_sem, reduceIte, Nat.reduceAdd, Nat.reduceMul, Nat.reduceEqDiff, Nat.reduceLT, Nat.reduceLeDiff, Nat.reduceSub, reduceCtorEq, Int.reduceToNat, Int.reduceAdd, Int.reduceSub, Int.reduceLT, Int.reduceLE, Int.reduceNeg, Int.reduceBEq, Int.reduceBNe, true_or, vecD, tabD, toDL_ds, hclm, htm, hcln, htn, hcls, hts, beq_self_eq_true]))
      all_goals (try (first | (intro hg; simp [hg]; done) | exact of_decide_eq_true rfl | (cases h; done)))
      (refine Fin.data (.inr rfl) (by simp (dsimp := false) only [↓opsP_nil, ↓opsP_cons, ↓opsD_nil, ↓opsD_cons, footOf, ↓opP, ↓stepP, ↓stepG, go_sem, reduceIte, Nat.reduceAdd, Nat.reduceMul, Nat.reduceEqDiff, Nat.reduceLT, Nat.reduceLeDiff, Nat.reduceSub, reduceCtorEq, Int.reduceToNat, Int.reduceAdd, Int.reduceSub, Int.reduceLT, Int.reduceLE, Int.reduceNeg, Int.reduceBEq, Int.reduceBNe, true_or, resL]; rfl) (by simp only [and_self]) (by simp (dsimp := false) only [↓opsP_nil, ↓opsP_cons, ↓opsD_nil, ↓opsD_cons, footOf, ↓opP, ↓stepP, ↓stepG, go_sem, reduceIte, Nat.reduceAdd, Nat.reduceMul, Nat.reduceEqDiff, Nat.reduceLT, Nat.reduceLeDiff, Nat.reduceSub, reduceCtorEq, Int.reduceToNat, Int.reduceAdd, Int.reduceSub, Int.reduceLT, Int.reduceLE, Int.reduceNeg, Int.reduceBEq, Int.reduceBNe, true_or, resP, Nat.le_refl, List.take_length]; try rfl) ?_)
      exact subD_refl _
    · repeat' (first
        | ((first | refine Pwp.step (kit _) rfl fun K hK => ?_ | refine Pwp.last (kit _) rfl fun K hK => ?_ | refine Pwp.stepD (kit _) rfl rfl fun K hK => ?_ | refine Pwp.lastD (kit _) rfl rfl fun K hK => ?_); simp (dsimp := false) only [↓opsP_nil, ↓opsP_cons, ↓opsD_nil, ↓opsD_cons, footOf, ↓opP, ↓stepP, ↓stepG, go_sem, reduceIte, Nat.reduceAdd, Nat.reduceMul, Nat.reduceEqDiff, Nat.reduceLT, Nat.reduceLeDiff, Nat.reduceSub, reduceCtorEq, Int.reduceToNat, Int.reduceAdd, Int.reduceSub, Int.reduceLT, Int.reduceLE, Int.reduceNeg, Int.reduceBEq, Int.reduceBNe, true_or, vecD, tabD, toDL_ds, hclm, htm, hcln, htn, hcls, hts, beq_self_eq_true])
        | (refine Pwp.seq ?_)
        | (refine Pwp.block ?_)
        | (refine Pwp.exit ?_; simp only [thenS, blockS, if_true, if_false, reduceIte, Nat.reduceEqDiff, Nat.add_one_ne_zero, reduceCtorEq])
        | (refine Pwp.skip ?_; simp only [thenS, blockS])
        | (refine Pwp.cond rfl True.intro (fun h => ?_) (fun h => ?_) <;> (try (cases h; done)) <;> (try simp only [h]))
        | (refine Pwp.ret ?_; try simp only [thenS, blockS])
        | (refine hK _ ?_; clear hK K)
        | (refine hK _ _ rfl ?_; clear hK K)
        | (refine CallK.giveO rfl hml r41 (by simp) ?_)
        | (refine CallK.give (ds := [vecD (vec m), I64 cur]) rfl (r42) (by simp) ?_)
        | (refine CallG.toD (ds := [vecD (vec m), tabD m]) rfl (r38m) rfl ?_ ?_)
        | (refine CallG.toD (ds := [vecD (vec n), tabD n]) rfl (r38n) rfl ?_ ?_)
        | (refine CallG.toD (ds := [vecD (vec su), tabD su]) rfl (r38s) rfl ?_ ?_)
        | (refine CallG.off ?_)
        | (with_reducible refine Or.inl ?_)
        | (simp only [thenS, blockS])
        | (with_reducible refine And.intro ?_ ?_)
        | (with_reducible exact True.intro)
        | (simp (dsimp := false) only [↓opsP_nil, ↓opsP_cons, ↓opsD_nil, ↓opsD_cons, footOf, ↓opP, ↓stepP, ↓stepG, go_sem, reduceIte, Nat.reduceAdd, Nat.reduceMul, Nat.reduceEqDiff, Nat.reduceLT, Nat.reduceLeDiff, Nat.reduceSub, reduceCtorEq, Int.reduceToNat, Int.reduceAdd, Int.reduceSub, Int.reduceLT, Int.reduceLE, Int.reduceNeg, Int.reduceBEq, Int.reduceBNe, true_or, vecD, tabD, toDL_ds, hclm, htm, hcln, htn, hcls, hts, beq_self_eq_true]))
      all_goals (try (first | (intro hg; simp [hg]; done) | exact of_decide_eq_true rfl | (cases h; done)))
      (refine Fin.data (.inr rfl) (by simp (dsimp := false) only [↓opsP_nil, ↓opsP_cons, ↓opsD_nil, ↓opsD_cons, footOf, ↓opP, ↓stepP, ↓stepG, go_sem, reduceIte, Nat.reduceAdd, Nat.reduceMul, Nat.reduceEqDiff, Nat.reduceLT, Nat.reduceLeDiff, Nat.reduceSub, reduceCtorEq, Int.reduceToNat, Int.reduceAdd, Int.reduceSub, Int.reduceLT, Int.reduceLE, Int.reduceNeg, Int.reduceBEq, Int.reduceBNe, true_or, resL]; rfl) (by simp only [and_self]) (by simp (dsimp := false) only [↓opsP_nil, ↓opsP_cons, ↓opsD_nil, ↓opsD_cons, footOf, ↓opP, ↓stepP, ↓stepG, go_sem, reduceIte, Nat.reduceAdd, Nat.reduceMul, Nat.reduceEqDiff, Nat.reduceLT, Nat.reduceLeDiff, Nat.reduceSub, reduceCtorEq, Int.reduceToNat, Int.reduceAdd, Int.reduceSub, Int.reduceLT, Int.reduceLE, Int.reduceNeg, Int.reduceBEq, Int.reduceBNe, true_or, resP, Nat.le_refl, List.take_length]; try rfl) ?_)
      exact subD_refl _

end Go.Proofs.Ytdodgbhodkcckaa.Pv
