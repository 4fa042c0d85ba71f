/- Walks of cycles: the statement of what an entity is part of. -/
import Derived.Test.YtdodgbhodkcckaaPcp
import Derived.Test.YtdodgbhodkcckaaPcq
import Derived.Test.YtdodgbhodkcckaaPck
set_option linter.unusedVariables false
set_option linter.unusedSimpArgs false
set_option autoImplicit false
set_option maxRecDepth 100000
namespace Go.Proofs.Ytdodgbhodkcckaa.Pv
open Go Go.RowKit

theorem flows_mine (i : Int) : ∀ l : List Line, flows i (mineL i l) = flows i l
  | [] => rfl
  | x :: l => by
    have ih := flows_mine i l
    unfold mineL at ih ⊢
    rw [List.filter_cons]
    cases hx : notMine i x with
    | true =>
      have h1 : flow1 i x = [] := by
        unfold notMine at hx
        simp only [Bool.and_eq_true, bne_iff_ne] at hx
        unfold flow1; rw [if_neg hx.1, if_neg hx.2]
      simp [flows, h1, ih]
    | false => simp [flows, ih]
theorem netL_mine (i : Int) (l : List Line) : netL i (mineL i l) = netL i l := by unfold netL; rw [flows_mine]
theorem fit_mine {n : Int} {l : List Line} (i : Int) (h : fitV n none l = 0) : fitV n none (mineL i l) = 0 :=
  pair_fit (fun x hx => fit_ok h x (List.mem_filter.1 hx).1) (fun y hy => by cases hy) ((fit_pair h).2.filter _)
theorem mine_len (i : Int) (l : List Line) : (mineL i l).length ≤ l.length := List.length_filter_le _ _
def cntM (l : List Line) : Nat → Nat
  | 0 => 0
  | i + 1 => cntM l i + (mineL i l).length
theorem cntM_le (l : List Line) : ∀ i, cntM l i ≤ i * l.length
  | 0 => by simp [cntM]
  | i + 1 => by
    have h1 := cntM_le l i
    have h2 := mine_len i l
    rw [cntM, Nat.add_mul]; omega
theorem cntM_nil : ∀ i, cntM [] i = 0
  | 0 => rfl
  | i + 1 => by rw [cntM, cntM_nil i]; rfl
theorem cntM_cons {x : Line} (h : x.seller ≠ x.buyer) (hs : 0 ≤ x.seller) (hb : 0 ≤ x.buyer) (l : List Line) : ∀ i : Nat, cntM (x :: l) i = cntM l i + (if x.seller < i then 1 else 0) + (if x.buyer < i then 1 else 0)
  | 0 => by rw [cntM, cntM, if_neg (by omega), if_neg (by omega)]
  | i + 1 => by
    have e : (mineL i (x :: l)).length = (if x.seller = (i : Int) ∨ x.buyer = (i : Int) then 1 else 0) + (mineL i l).length := by
      unfold mineL
      rw [List.filter_cons]
      by_cases hx : x.seller = (i : Int) ∨ x.buyer = (i : Int)
      · have : notMine i x = false := by
          unfold notMine
          rw [Bool.and_eq_false_iff]
          rcases hx with hx | hx <;> simp [hx]
        rw [if_pos hx, this]; simp; omega
      · have : notMine i x = true := by
          unfold notMine
          simp only [Bool.and_eq_true, bne_iff_ne]
          exact ⟨fun e => hx (.inl e), fun e => hx (.inr e)⟩
        rw [if_neg hx, this]; simp
    rw [cntM, cntM, cntM_cons h hs hb l i, e]
    by_cases h1 : x.seller = (i : Int)
    · rw [if_pos (Or.inl h1), if_neg (c := x.seller < (i : Int)) (by omega), if_pos (c := x.seller < ((i + 1 : Nat) : Int)) (by omega)]
      by_cases h2 : x.buyer < (i : Int)
      · rw [if_pos h2, if_pos (by omega)]; omega
      · rw [if_neg h2, if_neg (by omega)]; omega
    · by_cases h2 : x.buyer = (i : Int)
      · rw [if_pos (Or.inr h2), if_neg (c := x.buyer < (i : Int)) (by omega), if_pos (c := x.buyer < ((i + 1 : Nat) : Int)) (by omega)]
        by_cases h3 : x.seller < (i : Int)
        · rw [if_pos h3, if_pos (by omega)]; omega
        · rw [if_neg h3, if_neg (by omega)]; omega
      · rw [if_neg (c := x.seller = (i : Int) ∨ x.buyer = (i : Int)) (fun h => h.elim h1 h2)]
        have e1 : (x.seller < ((i + 1 : Nat) : Int)) = (x.seller < (i : Int)) := by simp only [eq_iff_iff]; omega
        have e2 : (x.buyer < ((i + 1 : Nat) : Int)) = (x.buyer < (i : Int)) := by simp only [eq_iff_iff]; omega
        simp only [e1, e2]; omega
theorem cntM_all {N : Nat} : ∀ {l : List Line}, (∀ x ∈ l, LineOK N x) → cntM l N = 2 * l.length
  | [], _ => cntM_nil N
  | x :: l, h => by
    have hx := h x (by simp)
    rw [cntM_cons hx.sb hx.s.1 hx.b.1, cntM_all fun y hy => h y (by simp [hy]), if_pos hx.s.2, if_pos hx.b.2, List.length_cons]; omega

/-- A call that is handed data and a row of one's own, which is handed back as it was. -/
theorem CallK.dRow {P : Program} {fid : Nat} {nid : Nat → Nat} {st : St} {K : Eff → Prop} {i1 v1 s1 l1 e1 : Nat} {r1 : Option Nat} {els1 : List D} {x r : D}
    (hr : Runs P fid [.d x, .own 0 v1 s1 0 l1] [(0, .arr e1 s1 v1 r1 els1)] (.d r) [(0, .arr e1 s1 v1 r1 els1)]) (h1 : find i1 st.heap = some (.arr e1 s1 v1 r1 els1))
    (hK : K ⟨.d r, [i1], [(i1, .arr e1 s1 v1 r1 els1)]⟩) : CallK P fid nid st [.d x, .own i1 v1 s1 0 l1] K := by
  refine ⟨[i1], _, _, _, _, false, ?_, hr, ⟨by simp, by simp, rfl, ?_⟩, ⟨by simp, by simp [frozen, PVal.ids]⟩, .inr (.inl (by simp [frozen, PVal.ids])), ?_⟩
  · simp [argsP, argP, PVal.shift, rename, PVal.toD, subD_refl]
  · simp [PObj.shift, h1]
  · simpa [PVal.shift, shiftH, PObj.shift, rename] using hK

def L27a (N : Nat) (l : List Line) (i : Nat) : St := ⟨[(36, pint .i64 i), (35, pint .i64 N), (5, pint .i64 (cntM l i)), (1, .d (.slc 4 (linesD l))), (0, pint .i64 N)], [], 100⟩
def L27b (N : Nat) (l : List Line) (i k : Nat) : St := ⟨[(41, pint .i64 k), (40, pint .i64 l.length), (39, .d (.slc 4 (linesD l))), (36, pint .i64 i), (35, pint .i64 N), (7, .own 10 0 4 0 (mineL i (l.take k)).length), (6, pint .i64 i), (5, pint .i64 (cntM l i)), (1, .d (.slc 4 (linesD l))), (0, pint .i64 N)],
  [(10, .arr 142 4 0 none (linesD (mineL i (l.take k))))], 128⟩
def L27c (N : Nat) (l : List Line) (i : Nat) (m : List Line) (k : Nat) : St := ⟨[(99, pint .i64 k), (98, pint .i64 (mineL i l).length), (36, pint .i64 i), (35, pint .i64 N), (10, .own 134 0 4 0 (mineL i l).length), (7, .own 10 0 4 0 (mineL i l).length), (5, pint .i64 (cntM l i)), (1, .d (.slc 4 (linesD l))), (0, pint .i64 N)],
  [(10, .arr 142 4 0 none (linesD (mineL i l))), (134, .arr 142 4 0 none (linesD m))], 376⟩
set_option maxHeartbeats 16000000 in
theorem run27 (n : Int) (l : List Line) : Runs Try.prog 27 [pint .i64 n, .d (.slc 4 (linesD l))] [] (pbool true) [] := by
  have hlen := lines_len l
  have r79 := run79
  by_cases hl : 100 < l.length
  · have c1 : decide (100 < (l.length : Int)) = true := decide_eq_true (by omega)
    refine Runs.of (kit Try.prog) Try.func27 rfl rfl (by rw [Try.ntmps27]; exact of_decide_eq_true rfl) ?_; rw [Try.ntmps27, Try.results27]
    repeat' (first
      | ((first | refine Pwp.step (kit _) rfl fun K hK => ?_ | refine Pwp.last (kit _) rfl fun K hK => ?_ | refine Pwp.stepD (kit _) rfl rfl fun K hK => ?_ | refine Pwp.lastD (kit _) rfl rfl fun K hK => ?_); simp (dsimp := false) only [↓opsP_nil, ↓opsP_cons, ↓opsD_nil, ↓opsD_cons, footOf, ↓opP, ↓stepP, ↓stepG, go_sem, reduceIte, Nat.reduceAdd, Nat.reduceMul, Nat.reduceEqDiff, Nat.reduceLT, Nat.reduceLeDiff, Nat.reduceSub, reduceCtorEq, Int.reduceToNat, Int.reduceAdd, Int.reduceSub, Int.reduceLT, Int.reduceLE, Int.reduceNeg, Int.reduceBEq, Int.reduceBNe, true_or, hlen, c1, Bool.true_or, Bool.not_true])
      | (refine Pwp.seq ?_)
      | (refine Pwp.block ?_)
      | (refine Pwp.exit ?_; simp only [thenS, blockS, if_true, if_false, reduceIte, Nat.reduceEqDiff, Nat.add_one_ne_zero, reduceCtorEq])
      | (refine Pwp.skip ?_; simp only [thenS, blockS])
      | (refine Pwp.cond rfl True.intro (fun h => ?_) (fun h => ?_) <;> (try (cases h; done)) <;> (try simp only [h]))
      | (refine Pwp.ret ?_; try simp only [thenS, blockS])
      | (refine hK _ ?_; clear hK K)
      | (refine hK _ _ rfl ?_; clear hK K)
      | (refine CallK.toD (ds := []) rfl (r79) rfl ?_)
      | (refine CallG.off ?_)
      | (with_reducible refine Or.inl ?_)
      | (simp only [thenS, blockS])
      | (with_reducible refine And.intro ?_ ?_)
      | (with_reducible exact True.intro)
      | (simp (dsimp := false) only [↓opsP_nil, ↓opsP_cons, ↓opsD_nil, ↓opsD_cons, footOf, ↓opP, ↓stepP, ↓stepG, go_sem, reduceIte, Nat.reduceAdd, Nat.reduceMul, Nat.reduceEqDiff, Nat.reduceLT, Nat.reduceLeDiff, Nat.reduceSub, reduceCtorEq, Int.reduceToNat, Int.reduceAdd, Int.reduceSub, Int.reduceLT, Int.reduceLE, Int.reduceNeg, Int.reduceBEq, Int.reduceBNe, true_or, hlen, c1, Bool.true_or, Bool.not_true]))
    all_goals (try (first | (intro hg; simp [hg]; done) | exact of_decide_eq_true rfl | (cases h; done)))
    (refine Fin.data (.inr rfl) (by simp (dsimp := false) only [↓opsP_nil, ↓opsP_cons, ↓opsD_nil, ↓opsD_cons, footOf, ↓opP, ↓stepP, ↓stepG, go_sem, reduceIte, Nat.reduceAdd, Nat.reduceMul, Nat.reduceEqDiff, Nat.reduceLT, Nat.reduceLeDiff, Nat.reduceSub, reduceCtorEq, Int.reduceToNat, Int.reduceAdd, Int.reduceSub, Int.reduceLT, Int.reduceLE, Int.reduceNeg, Int.reduceBEq, Int.reduceBNe, true_or, resL]; rfl) (by simp only [and_self]) (by simp (dsimp := false) only [↓opsP_nil, ↓opsP_cons, ↓opsD_nil, ↓opsD_cons, footOf, ↓opP, ↓stepP, ↓stepG, go_sem, reduceIte, Nat.reduceAdd, Nat.reduceMul, Nat.reduceEqDiff, Nat.reduceLT, Nat.reduceLeDiff, Nat.reduceSub, reduceCtorEq, Int.reduceToNat, Int.reduceAdd, Int.reduceSub, Int.reduceLT, Int.reduceLE, Int.reduceNeg, Int.reduceBEq, Int.reduceBNe, true_or, resP, Nat.le_refl, List.take_length]; try rfl) ?_)
    exact subD_refl _
  · have c1 : decide (100 < (l.length : Int)) = false := decide_eq_false (by omega)
    have r83 := run83 n l (by omega)
    cases hc : (((decide (n < 0) || decide (8 < n))) || fitV n none l != 0) with
    | true =>
      refine Runs.of (kit Try.prog) Try.func27 rfl rfl (by rw [Try.ntmps27]; exact of_decide_eq_true rfl) ?_; rw [Try.ntmps27, Try.results27]
      repeat' (first
        | ((first | refine Pwp.step (kit _) rfl fun K hK => ?_ | refine Pwp.last (kit _) rfl fun K hK => ?_ | refine Pwp.stepD (kit _) rfl rfl fun K hK => ?_ | refine Pwp.lastD (kit _) rfl rfl fun K hK => ?_); simp (dsimp := false) only [↓opsP_nil, ↓opsP_cons, ↓opsD_nil, ↓opsD_cons, footOf, ↓opP, ↓stepP, ↓stepG, go_sem, reduceIte, Nat.reduceAdd, Nat.reduceMul, Nat.reduceEqDiff, Nat.reduceLT, Nat.reduceLeDiff, Nat.reduceSub, reduceCtorEq, Int.reduceToNat, Int.reduceAdd, Int.reduceSub, Int.reduceLT, Int.reduceLE, Int.reduceNeg, Int.reduceBEq, Int.reduceBNe, true_or, hlen, c1, hc, Bool.false_or, Bool.not_false])
        | (refine Pwp.seq ?_)
        | (refine Pwp.block ?_)
        | (refine Pwp.exit ?_; simp only [thenS, blockS, if_true, if_false, reduceIte, Nat.reduceEqDiff, Nat.add_one_ne_zero, reduceCtorEq])
        | (refine Pwp.skip ?_; simp only [thenS, blockS])
        | (refine Pwp.cond rfl True.intro (fun h => ?_) (fun h => ?_) <;> (try (cases h; done)) <;> (try simp only [h]))
        | (refine Pwp.ret ?_; try simp only [thenS, blockS])
        | (refine hK _ ?_; clear hK K)
        | (refine hK _ _ rfl ?_; clear hK K)
        | (refine CallK.toD (ds := []) rfl (r79) rfl ?_)
        | (refine CallG.toD (ds := [I64 n, .slc 4 (linesD l)]) rfl (r83) rfl ?_ ?_)
        | (refine CallG.off ?_)
        | (with_reducible refine Or.inl ?_)
        | (simp only [thenS, blockS])
        | (with_reducible refine And.intro ?_ ?_)
        | (with_reducible exact True.intro)
        | (simp (dsimp := false) only [↓opsP_nil, ↓opsP_cons, ↓opsD_nil, ↓opsD_cons, footOf, ↓opP, ↓stepP, ↓stepG, go_sem, reduceIte, Nat.reduceAdd, Nat.reduceMul, Nat.reduceEqDiff, Nat.reduceLT, Nat.reduceLeDiff, Nat.reduceSub, reduceCtorEq, Int.reduceToNat, Int.reduceAdd, Int.reduceSub, Int.reduceLT, Int.reduceLE, Int.reduceNeg, Int.reduceBEq, Int.reduceBNe, true_or, hlen, c1, hc, Bool.false_or, Bool.not_false]))
      all_goals (try (first | (intro hg; simp [hg]; done) | exact of_decide_eq_true rfl | (cases h; done)))
      (refine Fin.data (.inr rfl) (by simp (dsimp := false) only [↓opsP_nil, ↓opsP_cons, ↓opsD_nil, ↓opsD_cons, footOf, ↓opP, ↓stepP, ↓stepG, go_sem, reduceIte, Nat.reduceAdd, Nat.reduceMul, Nat.reduceEqDiff, Nat.reduceLT, Nat.reduceLeDiff, Nat.reduceSub, reduceCtorEq, Int.reduceToNat, Int.reduceAdd, Int.reduceSub, Int.reduceLT, Int.reduceLE, Int.reduceNeg, Int.reduceBEq, Int.reduceBNe, true_or, resL]; rfl) (by simp only [and_self]) (by simp (dsimp := false) only [↓opsP_nil, ↓opsP_cons, ↓opsD_nil, ↓opsD_cons, footOf, ↓opP, ↓stepP, ↓stepG, go_sem, reduceIte, Nat.reduceAdd, Nat.reduceMul, Nat.reduceEqDiff, Nat.reduceLT, Nat.reduceLeDiff, Nat.reduceSub, reduceCtorEq, Int.reduceToNat, Int.reduceAdd, Int.reduceSub, Int.reduceLT, Int.reduceLE, Int.reduceNeg, Int.reduceBEq, Int.reduceBNe, true_or, resP, Nat.le_refl, List.take_length]; try rfl) ?_)
      exact subD_refl _
    | false =>
      have hc2 := hc
      rw [Bool.or_eq_false_iff, Bool.or_eq_false_iff, decide_eq_false_iff_not, decide_eq_false_iff_not, bne_eq_false_iff_eq] at hc2
      obtain ⟨N, rfl⟩ : ∃ N : Nat, n = (N : Int) := ⟨n.toNat, by omega⟩
      have hN : N ≤ 8 := by omega
      have hf := hc2.2
      have hok := fit_ok hf
      refine Runs.of (kit Try.prog) Try.func27 rfl rfl (by rw [Try.ntmps27]; exact of_decide_eq_true rfl) ?_; rw [Try.ntmps27, Try.results27]
      repeat' (first
        | ((first | refine Pwp.step (kit _) rfl fun K hK => ?_ | refine Pwp.last (kit _) rfl fun K hK => ?_ | refine Pwp.stepD (kit _) rfl rfl fun K hK => ?_ | refine Pwp.lastD (kit _) rfl rfl fun K hK => ?_); simp (dsimp := false) only [↓opsP_nil, ↓opsP_cons, ↓opsD_nil, ↓opsD_cons, footOf, ↓opP, ↓stepP, ↓stepG, go_sem, reduceIte, Nat.reduceAdd, Nat.reduceMul, Nat.reduceEqDiff, Nat.reduceLT, Nat.reduceLeDiff, Nat.reduceSub, reduceCtorEq, Int.reduceToNat, Int.reduceAdd, Int.reduceSub, Int.reduceLT, Int.reduceLE, Int.reduceNeg, Int.reduceBEq, Int.reduceBNe, true_or, hlen, c1, hc, Bool.false_or, Bool.not_false])
        | (refine Pwp.seq ?_)
        | (refine Pwp.block ?_)
        | (refine Pwp.exit ?_; simp only [thenS, blockS, if_true, if_false, reduceIte, Nat.reduceEqDiff, Nat.add_one_ne_zero, reduceCtorEq])
        | (refine Pwp.skip ?_; simp only [thenS, blockS])
        | (refine Pwp.cond rfl True.intro (fun h => ?_) (fun h => ?_) <;> (try (cases h; done)) <;> (try simp only [h]))
        | (refine Pwp.ret ?_; try simp only [thenS, blockS])
        | (refine hK _ ?_; clear hK K)
        | (refine hK _ _ rfl ?_; clear hK K)
        | (refine CallK.toD (ds := []) rfl (r79) rfl ?_)
        | (refine CallG.toD (ds := [I64 N, .slc 4 (linesD l)]) rfl (r83) rfl ?_ ?_)
        | (refine CallG.off ?_)
        | (with_reducible refine Or.inl ?_)
        | (simp only [thenS, blockS])
        | (with_reducible refine And.intro ?_ ?_)
        | (with_reducible exact True.intro)
        | (simp (dsimp := false) only [↓opsP_nil, ↓opsP_cons, ↓opsD_nil, ↓opsD_cons, footOf, ↓opP, ↓stepP, ↓stepG, go_sem, reduceIte, Nat.reduceAdd, Nat.reduceMul, Nat.reduceEqDiff, Nat.reduceLT, Nat.reduceLeDiff, Nat.reduceSub, reduceCtorEq, Int.reduceToNat, Int.reduceAdd, Int.reduceSub, Int.reduceLT, Int.reduceLE, Int.reduceNeg, Int.reduceBEq, Int.reduceBNe, true_or, hlen, c1, hc, Bool.false_or, Bool.not_false]))
      all_goals (try (first | (intro hg; simp [hg]; done) | exact of_decide_eq_true rfl | (cases h; done)))
      refine Pwp.range N (S := L27a N l) (Sub.view V0 (by simp [L27a]) rfl (by simp [viewH, viewP, viewL, viewO, V0, V9, V9n, VR, VN, keptOf, find, PVal.toD, subD, subL, subV, subD_refl, viewL_ds, disj, PVal.ids, pnil, List.range, List.range.loop, L27a, cntM]) (by simp [viewT, St.ev, viewH, viewP, viewL, viewO, V0, V9, V9n, VR, VN, keptOf, find, PVal.toD, subD, subL, subV, subD_refl, viewL_ds, disj, PVal.ids, pnil, List.range, List.range.loop, L27a, cntM])) (fun i hi => ?_) ?_
      · have c2 := dlt hi
        have w := wrap_succ (i := i) (by omega)
        unfold L27a
        repeat' (first
          | ((first | refine Pwp.step (kit _) rfl fun K hK => ?_ | refine Pwp.last (kit _) rfl fun K hK => ?_ | refine Pwp.stepD (kit _) rfl rfl fun K hK => ?_ | refine Pwp.lastD (kit _) rfl rfl fun K hK => ?_); simp (dsimp := false) only [↓opsP_nil, ↓opsP_cons, ↓opsD_nil, ↓opsD_cons, footOf, ↓opP, ↓stepP, ↓stepG, go_sem, reduceIte, Nat.reduceAdd, Nat.reduceMul, Nat.reduceEqDiff, Nat.reduceLT, Nat.reduceLeDiff, Nat.reduceSub, reduceCtorEq, Int.reduceToNat, Int.reduceAdd, Int.reduceSub, Int.reduceLT, Int.reduceLE, Int.reduceNeg, Int.reduceBEq, Int.reduceBNe, true_or, c2, hlen])
          | (refine Pwp.seq ?_)
          | (refine Pwp.block ?_)
          | (refine Pwp.exit ?_; simp only [thenS, blockS, if_true, if_false, reduceIte, Nat.reduceEqDiff, Nat.add_one_ne_zero, reduceCtorEq])
          | (refine Pwp.skip ?_; simp only [thenS, blockS])
          | (refine Pwp.cond rfl True.intro (fun h => ?_) (fun h => ?_) <;> (try (cases h; done)) <;> (try simp only [h]))
          | (refine Pwp.ret ?_; try simp only [thenS, blockS])
          | (refine hK _ ?_; clear hK K)
          | (refine hK _ _ rfl ?_; clear hK K)
          | (refine CallG.off ?_)
          | (with_reducible refine Or.inl ?_)
          | (simp only [thenS, blockS])
          | (with_reducible refine And.intro ?_ ?_)
          | (with_reducible exact True.intro)
          | (simp (dsimp := false) only [↓opsP_nil, ↓opsP_cons, ↓opsD_nil, ↓opsD_cons, footOf, ↓opP, ↓stepP, ↓stepG, go_sem, reduceIte, Nat.reduceAdd, Nat.reduceMul, Nat.reduceEqDiff, Nat.reduceLT, Nat.reduceLeDiff, Nat.reduceSub, reduceCtorEq, Int.reduceToNat, Int.reduceAdd, Int.reduceSub, Int.reduceLT, Int.reduceLE, Int.reduceNeg, Int.reduceBEq, Int.reduceBNe, true_or, c2, hlen]))
        all_goals (try (first | (intro hg; simp [hg]; done) | exact of_decide_eq_true rfl | (cases h; done)))
        refine Pwp.range l.length (S := L27b N l i) (Sub.view (VN 10) (by simp [L27b]) rfl (by simp [viewH, viewP, viewL, viewO, V0, V9, V9n, VR, VN, keptOf, find, PVal.toD, subD, subL, subV, subD_refl, viewL_ds, disj, PVal.ids, pnil, List.range, List.range.loop, L27b, mineL, linesD]) (by simp [viewT, St.ev, viewH, viewP, viewL, viewO, V0, V9, V9n, VR, VN, keptOf, find, PVal.toD, subD, subL, subV, subD_refl, viewL_ds, disj, PVal.ids, pnil, List.range, List.range.loop, L27b, mineL, linesD])) (fun k hk => ?_) ?_
        · obtain ⟨x, hx, hm⟩ := at_lt hk
          have hg := lines_get hx
          have c3 := dlt hk
          have w3 := wrap_succ (i := k) (by omega)
          have e := mine_take (me := (i : Int)) hx
          have hll := lines_len (mineL i (l.take k))
          have hol := mine_len i (l.take k)
          rw [List.length_take] at hol
          have htk : (linesD (mineL i (l.take k))).take (mineL i (l.take k)).length = linesD (mineL i (l.take k)) := List.take_of_length_le (by omega)
          have hnm : notMine i x = !(x.seller == (i : Int) || x.buyer == (i : Int)) := by simp [notMine, bne]
          unfold L27b
          cases hc3 : (x.seller == (i : Int) || x.buyer == (i : Int)) with
          | true =>
            rw [hnm, hc3, Bool.not_true, if_neg (by simp)] at e
            repeat' (first
              | ((first | refine Pwp.step (kit _) rfl fun K hK => ?_ | refine Pwp.last (kit _) rfl fun K hK => ?_ | refine Pwp.stepD (kit _) rfl rfl fun K hK => ?_ | refine Pwp.lastD (kit _) rfl rfl fun K hK => ?_); simp (dsimp := false) only [↓opsP_nil, ↓opsP_cons, ↓opsD_nil, ↓opsD_cons, footOf, ↓opP, ↓stepP, ↓stepG, go_sem, reduceIte, Nat.reduceAdd, Nat.reduceMul, Nat.reduceEqDiff, Nat.reduceLT, Nat.reduceLeDiff, Nat.reduceSub, reduceCtorEq, Int.reduceToNat, Int.reduceAdd, Int.reduceSub, Int.reduceLT, Int.reduceLE, Int.reduceNeg, Int.reduceBEq, Int.reduceBNe, true_or, hg, c3, w3, hlen, hc3, htk, hll])
              | (refine Pwp.seq ?_)
              | (refine Pwp.block ?_)
              | (refine Pwp.exit ?_; simp only [thenS, blockS, if_true, if_false, reduceIte, Nat.reduceEqDiff, Nat.add_one_ne_zero, reduceCtorEq])
              | (refine Pwp.skip ?_; simp only [thenS, blockS])
              | (refine Pwp.cond rfl True.intro (fun h => ?_) (fun h => ?_) <;> (try (cases h; done)) <;> (try simp only [h]))
              | (refine Pwp.ret ?_; try simp only [thenS, blockS])
              | (refine hK _ ?_; clear hK K)
              | (refine hK _ _ rfl ?_; clear hK K)
              | (refine CallG.off ?_)
              | (with_reducible refine Or.inl ?_)
              | (simp only [thenS, blockS])
              | (with_reducible refine And.intro ?_ ?_)
              | (with_reducible exact True.intro)
              | (simp (dsimp := false) only [↓opsP_nil, ↓opsP_cons, ↓opsD_nil, ↓opsD_cons, footOf, ↓opP, ↓stepP, ↓stepG, go_sem, reduceIte, Nat.reduceAdd, Nat.reduceMul, Nat.reduceEqDiff, Nat.reduceLT, Nat.reduceLeDiff, Nat.reduceSub, reduceCtorEq, Int.reduceToNat, Int.reduceAdd, Int.reduceSub, Int.reduceLT, Int.reduceLE, Int.reduceNeg, Int.reduceBEq, Int.reduceBNe, true_or, hg, c3, w3, hlen, hc3, htk, hll]))
            all_goals (try (first | (intro hg; simp [hg]; done) | exact of_decide_eq_true rfl | (cases h; done)))
            all_goals (try (first | (simp; done) | (simp [maxLen]; omega) | omega))
            exact Sub.view (VR 10 1) (by simp [L27b]) rfl (by simp [viewH, viewP, viewL, viewO, V0, V9, V9n, VR, VN, keptOf, find, PVal.toD, subD, subL, subV, subD_refl, viewL_ds, disj, PVal.ids, pnil, List.range, List.range.loop, L27b, e, lines_append, linesD, Line.d, Line.cells]) (by simp [viewT, St.ev, viewH, viewP, viewL, viewO, V0, V9, V9n, VR, VN, keptOf, find, PVal.toD, subD, subL, subV, subD_refl, viewL_ds, disj, PVal.ids, pnil, List.range, List.range.loop, L27b, e, lines_append, linesD, Line.d, Line.cells])
          | false =>
            rw [hnm, hc3, Bool.not_false, if_pos rfl, List.append_nil] at e
            repeat' (first
              | ((first | refine Pwp.step (kit _) rfl fun K hK => ?_ | refine Pwp.last (kit _) rfl fun K hK => ?_ | refine Pwp.stepD (kit _) rfl rfl fun K hK => ?_ | refine Pwp.lastD (kit _) rfl rfl fun K hK => ?_); simp (dsimp := false) only [↓opsP_nil, ↓opsP_cons, ↓opsD_nil, ↓opsD_cons, footOf, ↓opP, ↓stepP, ↓stepG, go_sem, reduceIte, Nat.reduceAdd, Nat.reduceMul, Nat.reduceEqDiff, Nat.reduceLT, Nat.reduceLeDiff, Nat.reduceSub, reduceCtorEq, Int.reduceToNat, Int.reduceAdd, Int.reduceSub, Int.reduceLT, Int.reduceLE, Int.reduceNeg, Int.reduceBEq, Int.reduceBNe, true_or, hg, c3, w3, hlen, hc3])
              | (refine Pwp.seq ?_)
              | (refine Pwp.block ?_)
              | (refine Pwp.exit ?_; simp only [thenS, blockS, if_true, if_false, reduceIte, Nat.reduceEqDiff, Nat.add_one_ne_zero, reduceCtorEq])
              | (refine Pwp.skip ?_; simp only [thenS, blockS])
              | (refine Pwp.cond rfl True.intro (fun h => ?_) (fun h => ?_) <;> (try (cases h; done)) <;> (try simp only [h]))
              | (refine Pwp.ret ?_; try simp only [thenS, blockS])
              | (refine hK _ ?_; clear hK K)
              | (refine hK _ _ rfl ?_; clear hK K)
              | (refine CallG.off ?_)
              | (with_reducible refine Or.inl ?_)
              | (simp only [thenS, blockS])
              | (with_reducible refine And.intro ?_ ?_)
              | (with_reducible exact True.intro)
              | (simp (dsimp := false) only [↓opsP_nil, ↓opsP_cons, ↓opsD_nil, ↓opsD_cons, footOf, ↓opP, ↓stepP, ↓stepG, go_sem, reduceIte, Nat.reduceAdd, Nat.reduceMul, Nat.reduceEqDiff, Nat.reduceLT, Nat.reduceLeDiff, Nat.reduceSub, reduceCtorEq, Int.reduceToNat, Int.reduceAdd, Int.reduceSub, Int.reduceLT, Int.reduceLE, Int.reduceNeg, Int.reduceBEq, Int.reduceBNe, true_or, hg, c3, w3, hlen, hc3]))
            all_goals (try (first | (intro hg; simp [hg]; done) | exact of_decide_eq_true rfl | (cases h; done)))
            exact Sub.view V0 (by simp [L27b]) rfl (by simp [viewH, viewP, viewL, viewO, V0, V9, V9n, VR, VN, keptOf, find, PVal.toD, subD, subL, subV, subD_refl, viewL_ds, disj, PVal.ids, pnil, List.range, List.range.loop, L27b, e]) (by simp [viewT, St.ev, viewH, viewP, viewL, viewO, V0, V9, V9n, VR, VN, keptOf, find, PVal.toD, subD, subL, subV, subD_refl, viewL_ds, disj, PVal.ids, pnil, List.range, List.range.loop, L27b, e])
        · have c3 := dge (Nat.le_refl l.length)
          have hml := mine_len i l
          have r88 := run88 i l (by omega)
          have r86 := run86s (mineL i l) (by omega)
          have htk := done_take i l
          have hle : (mineL i l).length ≤ (linesD (doneL i l)).length := by rw [lines_len]; unfold doneL; simp
          have htk2 : (linesD (mineL i l)).take (mineL i l).length = linesD (mineL i l) := List.take_of_length_le (by rw [lines_len]; omega)
          have hle2 := lines_len (mineL i l)
          have r80a := run80o N hN (mineL i l) (linesD (doneL i l)) (by omega) (fit_mine i hf) htk hle
          have r80b := run80 N l (by omega)
          rw [netsV_ok hN hf] at r80b
          have hga : ((outs N (mineL i l)).map I64)[i]? = some (.v (.int .i64 (netL i l))) := by rw [List.getElem?_map, outs_get hi, netL_mine]; rfl
          have hgb : ((outs N l).map I64)[i]? = some (.v (.int .i64 (netL i l))) := by rw [List.getElem?_map, outs_get hi]; rfl
          unfold L27b
          rw [List.take_length]
          repeat' (first
            | ((first | refine Pwp.step (kit _) rfl fun K hK => ?_ | refine Pwp.last (kit _) rfl fun K hK => ?_ | refine Pwp.stepD (kit _) rfl rfl fun K hK => ?_ | refine Pwp.lastD (kit _) rfl rfl fun K hK => ?_); simp (dsimp := false) only [↓opsP_nil, ↓opsP_cons, ↓opsD_nil, ↓opsD_cons, footOf, ↓opP, ↓stepP, ↓stepG, go_sem, reduceIte, Nat.reduceAdd, Nat.reduceMul, Nat.reduceEqDiff, Nat.reduceLT, Nat.reduceLeDiff, Nat.reduceSub, reduceCtorEq, Int.reduceToNat, Int.reduceAdd, Int.reduceSub, Int.reduceLT, Int.reduceLE, Int.reduceNeg, Int.reduceBEq, Int.reduceBNe, true_or, c3, hlen, hga, hgb, bne_self_eq_false])
            | (refine Pwp.seq ?_)
            | (refine Pwp.block ?_)
            | (refine Pwp.exit ?_; simp only [thenS, blockS, if_true, if_false, reduceIte, Nat.reduceEqDiff, Nat.add_one_ne_zero, reduceCtorEq])
            | (refine Pwp.skip ?_; simp only [thenS, blockS])
            | (refine Pwp.cond rfl True.intro (fun h => ?_) (fun h => ?_) <;> (try (cases h; done)) <;> (try simp only [h]))
            | (refine Pwp.ret ?_; try simp only [thenS, blockS])
            | (refine hK _ ?_; clear hK K)
            | (refine hK _ _ rfl ?_; clear hK K)
            | (refine CallK.toD (ds := [.slc 4 (linesD (mineL i l)), .slc 4 (linesD (mineL i l))]) (by simp [toDL, PVal.toD, find, htk, hle, htk2, hle2]) r86 rfl ?_)
            | (refine CallK.dRow r80a rfl ?_)
            | (refine CallK.give (ds := [I64 i, .slc 4 (linesD l)]) rfl (r88) (by simp) ?_)
            | (refine CallK.give (ds := [I64 N, .slc 4 (linesD l)]) rfl (r80b) (by simp) ?_)
            | (refine CallG.off ?_)
            | (with_reducible refine Or.inl ?_)
            | (simp only [thenS, blockS])
            | (with_reducible refine And.intro ?_ ?_)
            | (with_reducible exact True.intro)
            | (simp (dsimp := false) only [↓opsP_nil, ↓opsP_cons, ↓opsD_nil, ↓opsD_cons, footOf, ↓opP, ↓stepP, ↓stepG, go_sem, reduceIte, Nat.reduceAdd, Nat.reduceMul, Nat.reduceEqDiff, Nat.reduceLT, Nat.reduceLeDiff, Nat.reduceSub, reduceCtorEq, Int.reduceToNat, Int.reduceAdd, Int.reduceSub, Int.reduceLT, Int.reduceLE, Int.reduceNeg, Int.reduceBEq, Int.reduceBNe, true_or, c3, hlen, hga, hgb, bne_self_eq_false]))
          all_goals (try (first | (intro hg; simp [hg]; done) | exact of_decide_eq_true rfl | (cases h; done)))
          refine Pwp.rangeI (mineL i l).length (fun k s => ∃ m : List Line, m.length = l.length ∧ s = L27c N l i m k) (s0 := L27c N l i (doneL i l) 0) (Sub.view V0 (by simp [L27c]) rfl (by simp [viewH, viewP, viewL, viewO, V0, V9, V9n, VR, VN, keptOf, find, PVal.toD, subD, subL, subV, subD_refl, viewL_ds, disj, PVal.ids, pnil, List.range, List.range.loop, L27c]) (by simp [viewT, St.ev, viewH, viewP, viewL, viewO, V0, V9, V9n, VR, VN, keptOf, find, PVal.toD, subD, subL, subV, subD_refl, viewL_ds, disj, PVal.ids, pnil, List.range, List.range.loop, L27c])) ⟨_, by unfold doneL; simp; omega, rfl⟩ ?_ ?_
          · rintro k s hk ⟨m, hm, rfl⟩
            have c4 := dlt hk
            have w4 := wrap_succ (i := k) (by omega)
            obtain ⟨y, hy, _⟩ := at_lt (l := m) (i := k) (by omega)
            have hg := lines_get hy
            have hkm : k < m.length := by omega
            have hset : ∀ a, (linesD m).set k (.agg [I64 y.seller, I64 y.number, I64 y.buyer, .v (.int .i64 a)]) = linesD (m.set k ⟨y.seller, y.number, y.buyer, a⟩) := fun a => by
              unfold linesD; rw [List.map_set]; rfl
            unfold L27c
            repeat' (first
              | ((first | refine Pwp.step (kit _) rfl fun K hK => ?_ | refine Pwp.last (kit _) rfl fun K hK => ?_ | refine Pwp.stepD (kit _) rfl rfl fun K hK => ?_ | refine Pwp.lastD (kit _) rfl rfl fun K hK => ?_); simp (dsimp := false) only [↓opsP_nil, ↓opsP_cons, ↓opsD_nil, ↓opsD_cons, footOf, ↓opP, ↓stepP, ↓stepG, go_sem, reduceIte, Nat.reduceAdd, Nat.reduceMul, Nat.reduceEqDiff, Nat.reduceLT, Nat.reduceLeDiff, Nat.reduceSub, reduceCtorEq, Int.reduceToNat, Int.reduceAdd, Int.reduceSub, Int.reduceLT, Int.reduceLE, Int.reduceNeg, Int.reduceBEq, Int.reduceBNe, true_or, hg, c4, w4, hk, hset])
              | (refine Pwp.seq ?_)
              | (refine Pwp.block ?_)
              | (refine Pwp.exit ?_; simp only [thenS, blockS, if_true, if_false, reduceIte, Nat.reduceEqDiff, Nat.add_one_ne_zero, reduceCtorEq])
              | (refine Pwp.skip ?_; simp only [thenS, blockS])
              | (refine Pwp.cond rfl True.intro (fun h => ?_) (fun h => ?_) <;> (try (cases h; done)) <;> (try simp only [h]))
              | (refine Pwp.ret ?_; try simp only [thenS, blockS])
              | (refine hK _ ?_; clear hK K)
              | (refine hK _ _ rfl ?_; clear hK K)
              | (refine CallG.off ?_)
              | (with_reducible refine Or.inl ?_)
              | (simp only [thenS, blockS])
              | (with_reducible refine And.intro ?_ ?_)
              | (with_reducible exact True.intro)
              | (simp (dsimp := false) only [↓opsP_nil, ↓opsP_cons, ↓opsD_nil, ↓opsD_cons, footOf, ↓opP, ↓stepP, ↓stepG, go_sem, reduceIte, Nat.reduceAdd, Nat.reduceMul, Nat.reduceEqDiff, Nat.reduceLT, Nat.reduceLeDiff, Nat.reduceSub, reduceCtorEq, Int.reduceToNat, Int.reduceAdd, Int.reduceSub, Int.reduceLT, Int.reduceLE, Int.reduceNeg, Int.reduceBEq, Int.reduceBNe, true_or, hg, c4, w4, hk, hset]))
            all_goals (try (first | (intro hg; simp [hg]; done) | exact of_decide_eq_true rfl | (cases h; done)))
            exact ⟨L27c N l i (m.set k ⟨y.seller, y.number, y.buyer, IntKind.i64.wrap (y.amount + 1)⟩) (k + 1), Sub.view V0 (by simp [L27c]) rfl (by simp [viewH, viewP, viewL, viewO, V0, V9, V9n, VR, VN, keptOf, find, PVal.toD, subD, subL, subV, subD_refl, viewL_ds, disj, PVal.ids, pnil, List.range, List.range.loop, L27c]) (by simp [viewT, St.ev, viewH, viewP, viewL, viewO, V0, V9, V9n, VR, VN, keptOf, find, PVal.toD, subD, subL, subV, subD_refl, viewL_ds, disj, PVal.ids, pnil, List.range, List.range.loop, L27c]), _, by rw [List.length_set]; exact hm, rfl⟩
          · rintro s ⟨m, hm, rfl⟩
            have c4 := dge (Nat.le_refl (mineL i l).length)
            have hcl := cntM_le l i
            have w5 : IntKind.wrap .i64 ((cntM l i : Int) + ((mineL i l).length : Int)) = ((cntM l (i + 1) : Nat) : Int) := by
              have : i * l.length ≤ 8 * l.length := Nat.mul_le_mul_right _ (by omega)
              rw [wrap_of (by omega) (by omega), cntM]; omega
            unfold L27c
            repeat' (first
              | ((first | refine Pwp.step (kit _) rfl fun K hK => ?_ | refine Pwp.last (kit _) rfl fun K hK => ?_ | refine Pwp.stepD (kit _) rfl rfl fun K hK => ?_ | refine Pwp.lastD (kit _) rfl rfl fun K hK => ?_); simp (dsimp := false) only [↓opsP_nil, ↓opsP_cons, ↓opsD_nil, ↓opsD_cons, footOf, ↓opP, ↓stepP, ↓stepG, go_sem, reduceIte, Nat.reduceAdd, Nat.reduceMul, Nat.reduceEqDiff, Nat.reduceLT, Nat.reduceLeDiff, Nat.reduceSub, reduceCtorEq, Int.reduceToNat, Int.reduceAdd, Int.reduceSub, Int.reduceLT, Int.reduceLE, Int.reduceNeg, Int.reduceBEq, Int.reduceBNe, true_or, c4, w, w5])
              | (refine Pwp.seq ?_)
              | (refine Pwp.block ?_)
              | (refine Pwp.exit ?_; simp only [thenS, blockS, if_true, if_false, reduceIte, Nat.reduceEqDiff, Nat.add_one_ne_zero, reduceCtorEq])
              | (refine Pwp.skip ?_; simp only [thenS, blockS])
              | (refine Pwp.cond rfl True.intro (fun h => ?_) (fun h => ?_) <;> (try (cases h; done)) <;> (try simp only [h]))
              | (refine Pwp.ret ?_; try simp only [thenS, blockS])
              | (refine hK _ ?_; clear hK K)
              | (refine hK _ _ rfl ?_; clear hK K)
              | (refine CallG.off ?_)
              | (with_reducible refine Or.inl ?_)
              | (simp only [thenS, blockS])
              | (with_reducible refine And.intro ?_ ?_)
              | (with_reducible exact True.intro)
              | (simp (dsimp := false) only [↓opsP_nil, ↓opsP_cons, ↓opsD_nil, ↓opsD_cons, footOf, ↓opP, ↓stepP, ↓stepG, go_sem, reduceIte, Nat.reduceAdd, Nat.reduceMul, Nat.reduceEqDiff, Nat.reduceLT, Nat.reduceLeDiff, Nat.reduceSub, reduceCtorEq, Int.reduceToNat, Int.reduceAdd, Int.reduceSub, Int.reduceLT, Int.reduceLE, Int.reduceNeg, Int.reduceBEq, Int.reduceBNe, true_or, c4, w, w5]))
            all_goals (try (first | (intro hg; simp [hg]; done) | exact of_decide_eq_true rfl | (cases h; done)))
            exact Sub.view V0 (by simp [L27a]) rfl (by simp [viewH, viewP, viewL, viewO, V0, V9, V9n, VR, VN, keptOf, find, PVal.toD, subD, subL, subV, subD_refl, viewL_ds, disj, PVal.ids, pnil, List.range, List.range.loop, L27a]) (by simp [viewT, St.ev, viewH, viewP, viewL, viewO, V0, V9, V9n, VR, VN, keptOf, find, PVal.toD, subD, subL, subV, subD_refl, viewL_ds, disj, PVal.ids, pnil, List.range, List.range.loop, L27a])
      · have c2 := dge (Nat.le_refl N)
        have w6 : IntKind.wrap .i64 (2 * (l.length : Int)) = ((2 * l.length : Nat) : Int) := by rw [wrap_of (by omega) (by omega)]; omega
        have ha := cntM_all hok
        unfold L27a
        repeat' (first
          | ((first | refine Pwp.step (kit _) rfl fun K hK => ?_ | refine Pwp.last (kit _) rfl fun K hK => ?_ | refine Pwp.stepD (kit _) rfl rfl fun K hK => ?_ | refine Pwp.lastD (kit _) rfl rfl fun K hK => ?_); simp (dsimp := false) only [↓opsP_nil, ↓opsP_cons, ↓opsD_nil, ↓opsD_cons, footOf, ↓opP, ↓stepP, ↓stepG, go_sem, reduceIte, Nat.reduceAdd, Nat.reduceMul, Nat.reduceEqDiff, Nat.reduceLT, Nat.reduceLeDiff, Nat.reduceSub, reduceCtorEq, Int.reduceToNat, Int.reduceAdd, Int.reduceSub, Int.reduceLT, Int.reduceLE, Int.reduceNeg, Int.reduceBEq, Int.reduceBNe, true_or, c2, w6, hlen, ha, beq_self_eq_true])
          | (refine Pwp.seq ?_)
          | (refine Pwp.block ?_)
          | (refine Pwp.exit ?_; simp only [thenS, blockS, if_true, if_false, reduceIte, Nat.reduceEqDiff, Nat.add_one_ne_zero, reduceCtorEq])
          | (refine Pwp.skip ?_; simp only [thenS, blockS])
          | (refine Pwp.cond rfl True.intro (fun h => ?_) (fun h => ?_) <;> (try (cases h; done)) <;> (try simp only [h]))
          | (refine Pwp.ret ?_; try simp only [thenS, blockS])
          | (refine hK _ ?_; clear hK K)
          | (refine hK _ _ rfl ?_; clear hK K)
          | (refine CallG.off ?_)
          | (with_reducible refine Or.inl ?_)
          | (simp only [thenS, blockS])
          | (with_reducible refine And.intro ?_ ?_)
          | (with_reducible exact True.intro)
          | (simp (dsimp := false) only [↓opsP_nil, ↓opsP_cons, ↓opsD_nil, ↓opsD_cons, footOf, ↓opP, ↓stepP, ↓stepG, go_sem, reduceIte, Nat.reduceAdd, Nat.reduceMul, Nat.reduceEqDiff, Nat.reduceLT, Nat.reduceLeDiff, Nat.reduceSub, reduceCtorEq, Int.reduceToNat, Int.reduceAdd, Int.reduceSub, Int.reduceLT, Int.reduceLE, Int.reduceNeg, Int.reduceBEq, Int.reduceBNe, true_or, c2, w6, hlen, ha, beq_self_eq_true]))
        all_goals (try (first | (intro hg; simp [hg]; done) | exact of_decide_eq_true rfl | (cases h; done)))
        (refine Fin.data (.inr rfl) (by simp (dsimp := false) only [↓opsP_nil, ↓opsP_cons, ↓opsD_nil, ↓opsD_cons, footOf, ↓opP, ↓stepP, ↓stepG, go_sem, reduceIte, Nat.reduceAdd, Nat.reduceMul, Nat.reduceEqDiff, Nat.reduceLT, Nat.reduceLeDiff, Nat.reduceSub, reduceCtorEq, Int.reduceToNat, Int.reduceAdd, Int.reduceSub, Int.reduceLT, Int.reduceLE, Int.reduceNeg, Int.reduceBEq, Int.reduceBNe, true_or, resL]; rfl) (by simp only [and_self]) (by simp (dsimp := false) only [↓opsP_nil, ↓opsP_cons, ↓opsD_nil, ↓opsD_cons, footOf, ↓opP, ↓stepP, ↓stepG, go_sem, reduceIte, Nat.reduceAdd, Nat.reduceMul, Nat.reduceEqDiff, Nat.reduceLT, Nat.reduceLeDiff, Nat.reduceSub, reduceCtorEq, Int.reduceToNat, Int.reduceAdd, Int.reduceSub, Int.reduceLT, Int.reduceLE, Int.reduceNeg, Int.reduceBEq, Int.reduceBNe, true_or, resP, Nat.le_refl, List.take_length]; try rfl) ?_)
        exact subD_refl _

end Go.Proofs.Ytdodgbhodkcckaa.Pv
