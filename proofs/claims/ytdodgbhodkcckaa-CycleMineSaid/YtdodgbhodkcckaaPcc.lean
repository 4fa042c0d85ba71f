/- Walks of cycles: nets, by the plain way. -/
import Derived.Test.YtdodgbhodkcckaaPcb
set_option linter.unusedVariables false
set_option linter.unusedSimpArgs false
set_option autoImplicit false
set_option maxRecDepth 100000
namespace Go.Proofs.Ytdodgbhodkcckaa.Pv
open Go Go.RowKit

theorem netsV_bad {n : Int} {l : List Line} (h : netsE n l ≠ 0) : netsD n l = .tup [.slc 1 [], I64 (netsE n l)] := by
  unfold netsD netsV; rw [if_neg h]; rfl
theorem netsV_ok {n : Nat} {l : List Line} (hn : n ≤ 8) (h : fitV n none l = 0) : netsD n l = .tup [.slc 1 ((outs n l).map I64), I64 0] := by
  have he : netsE n l = 0 := by
    unfold netsE; rw [if_neg (by simp only [Bool.or_eq_true, decide_eq_true_eq]; omega), h]
  unfold netsD netsV; rw [if_pos he, he]; rfl
def L81a (n : Nat) (l : List Line) (i : Nat) : St := ⟨[(8, pint .i64 i), (7, .own 10 0 1 0 (outs i l).length), (1, .d (.slc 4 (linesD l))), (0, pint .i64 n)], [(10, .arr 2 1 0 none ((outs i l).map I64))], 72⟩
def L81b (n : Nat) (l : List Line) (i k : Nat) : St := ⟨[(10, pint .i64 k), (9, .own 11 0 1 0 (flows i (l.take k)).length), (8, pint .i64 i), (7, .own 10 0 1 0 (outs i l).length), (1, .d (.slc 4 (linesD l))), (0, pint .i64 n)],
  [(10, .arr 2 1 0 none ((outs i l).map I64)), (11, .arr 2 1 0 none ((flows i (l.take k)).map I64))], 92⟩
theorem map_snoc (l : List Int) (x : Int) : (l ++ [x]).map I64 = l.map I64 ++ [I64 x] := by simp
set_option maxHeartbeats 16000000 in
theorem run81 (n : Int) (l : List Line) (hl : l.length ≤ 1000) : Runs Try.prog 81 [pint .i64 n, .d (.slc 4 (linesD l))] [] (.d (netsD n l)) [] := by
  have hlen := lines_len l
  have r83 := run83 n l hl
  by_cases hr : 0 ≤ n ∧ n ≤ 8
  · have c0 : (decide (n < 0) || decide (8 < n)) = false := by
      rw [Bool.or_eq_false_iff, decide_eq_false_iff_not, decide_eq_false_iff_not]; omega
    by_cases he : fitV n none l = 0
    · obtain ⟨N, rfl⟩ : ∃ N : Nat, n = (N : Int) := ⟨n.toNat, by omega⟩
      rw [he] at r83
      rw [netsV_ok (by omega) he]
      have hok := fit_ok he
      refine Runs.of (kit Try.prog) Try.func81 rfl rfl (by rw [Try.ntmps81]; exact of_decide_eq_true rfl) ?_; rw [Try.ntmps81, Try.results81]
      repeat' (first
        | ((first | refine Pwp.step (kit _) rfl fun K hK => ?_ | refine Pwp.last (kit _) rfl fun K hK => ?_ | refine Pwp.stepD (kit _) rfl rfl fun K hK => ?_ | refine Pwp.lastD (kit _) rfl rfl fun K hK => ?_); simp (dsimp := false) only [↓opsP_nil, ↓opsP_cons, ↓opsD_nil, ↓opsD_cons, footOf, ↓opP, ↓stepP, ↓stepG, go_sem, reduceIte, Nat.reduceAdd, Nat.reduceMul, Nat.reduceEqDiff, Nat.reduceLT, Nat.reduceLeDiff, Nat.reduceSub, reduceCtorEq, Int.reduceToNat, Int.reduceAdd, Int.reduceSub, Int.reduceLT, Int.reduceLE, Int.reduceNeg, Int.reduceBEq, Int.reduceBNe, true_or, c0, bne_self_eq_false])
        | (refine Pwp.seq ?_)
        | (refine Pwp.block ?_)
        | (refine Pwp.exit ?_; simp only [thenS, blockS, if_true, if_false, reduceIte, Nat.reduceEqDiff, Nat.add_one_ne_zero, reduceCtorEq])
        | (refine Pwp.skip ?_; simp only [thenS, blockS])
        | (refine Pwp.cond rfl True.intro (fun h => ?_) (fun h => ?_) <;> (try (cases h; done)) <;> (try simp only [h]))
        | (refine Pwp.ret ?_; try simp only [thenS, blockS])
        | (refine hK _ ?_; clear hK K)
        | (refine hK _ _ rfl ?_; clear hK K)
        | (refine CallK.give (ds := [I64 N, .slc 4 (linesD l)]) rfl (r83) (by simp) ?_)
        | (refine CallG.off ?_)
        | (with_reducible refine Or.inl ?_)
        | (simp only [thenS, blockS])
        | (with_reducible refine And.intro ?_ ?_)
        | (with_reducible exact True.intro)
        | (simp (dsimp := false) only [↓opsP_nil, ↓opsP_cons, ↓opsD_nil, ↓opsD_cons, footOf, ↓opP, ↓stepP, ↓stepG, go_sem, reduceIte, Nat.reduceAdd, Nat.reduceMul, Nat.reduceEqDiff, Nat.reduceLT, Nat.reduceLeDiff, Nat.reduceSub, reduceCtorEq, Int.reduceToNat, Int.reduceAdd, Int.reduceSub, Int.reduceLT, Int.reduceLE, Int.reduceNeg, Int.reduceBEq, Int.reduceBNe, true_or, c0, bne_self_eq_false]))
      all_goals (try (first | (intro hg; simp [hg]; done) | exact of_decide_eq_true rfl | (cases h; done)))
      refine Pwp.range N (S := L81a N l) (Sub.view (VN 10) (by simp [L81a]) rfl (by simp [viewH, viewP, viewL, viewO, V0, V9, V9n, VR, VN, keptOf, find, PVal.toD, subD, subL, subV, subD_refl, viewL_ds, disj, PVal.ids, pnil, List.range, List.range.loop, L81a, outs]) (by simp [viewT, St.ev, viewH, viewP, viewL, viewO, V0, V9, V9n, VR, VN, keptOf, find, PVal.toD, subD, subL, subV, subD_refl, viewL_ds, disj, PVal.ids, pnil, List.range, List.range.loop, L81a, outs])) (fun i hi => ?_) ?_
      · have c1 := dlt hi
        have w := wrap_succ (i := i) (by omega)
        have hol := outs_len i l
        unfold L81a
        repeat' (first
          | ((first | refine Pwp.step (kit _) rfl fun K hK => ?_ | refine Pwp.last (kit _) rfl fun K hK => ?_ | refine Pwp.stepD (kit _) rfl rfl fun K hK => ?_ | refine Pwp.lastD (kit _) rfl rfl fun K hK => ?_); simp (dsimp := false) only [↓opsP_nil, ↓opsP_cons, ↓opsD_nil, ↓opsD_cons, footOf, ↓opP, ↓stepP, ↓stepG, go_sem, reduceIte, Nat.reduceAdd, Nat.reduceMul, Nat.reduceEqDiff, Nat.reduceLT, Nat.reduceLeDiff, Nat.reduceSub, reduceCtorEq, Int.reduceToNat, Int.reduceAdd, Int.reduceSub, Int.reduceLT, Int.reduceLE, Int.reduceNeg, Int.reduceBEq, Int.reduceBNe, true_or, c1])
          | (refine Pwp.seq ?_)
          | (refine Pwp.block ?_)
          | (refine Pwp.exit ?_; simp only [thenS, blockS, if_true, if_false, reduceIte, Nat.reduceEqDiff, Nat.add_one_ne_zero, reduceCtorEq])
          | (refine Pwp.skip ?_; simp only [thenS, blockS])
          | (refine Pwp.cond rfl True.intro (fun h => ?_) (fun h => ?_) <;> (try (cases h; done)) <;> (try simp only [h]))
          | (refine Pwp.ret ?_; try simp only [thenS, blockS])
          | (refine hK _ ?_; clear hK K)
          | (refine hK _ _ rfl ?_; clear hK K)
          | (refine CallG.off ?_)
          | (with_reducible refine Or.inl ?_)
          | (simp only [thenS, blockS])
          | (with_reducible refine And.intro ?_ ?_)
          | (with_reducible exact True.intro)
          | (simp (dsimp := false) only [↓opsP_nil, ↓opsP_cons, ↓opsD_nil, ↓opsD_cons, footOf, ↓opP, ↓stepP, ↓stepG, go_sem, reduceIte, Nat.reduceAdd, Nat.reduceMul, Nat.reduceEqDiff, Nat.reduceLT, Nat.reduceLeDiff, Nat.reduceSub, reduceCtorEq, Int.reduceToNat, Int.reduceAdd, Int.reduceSub, Int.reduceLT, Int.reduceLE, Int.reduceNeg, Int.reduceBEq, Int.reduceBNe, true_or, c1]))
        all_goals (try (first | (intro hg; simp [hg]; done) | exact of_decide_eq_true rfl | (cases h; done)))
        refine Pwp.range l.length (S := L81b N l i) (Sub.view (VN 11) (by simp [L81b]) rfl (by simp [viewH, viewP, viewL, viewO, V0, V9, V9n, VR, VN, keptOf, find, PVal.toD, subD, subL, subV, subD_refl, viewL_ds, disj, PVal.ids, pnil, List.range, List.range.loop, L81b, flows]) (by simp [viewT, St.ev, viewH, viewP, viewL, viewO, V0, V9, V9n, VR, VN, keptOf, find, PVal.toD, subD, subL, subV, subD_refl, viewL_ds, disj, PVal.ids, pnil, List.range, List.range.loop, L81b, flows])) (fun k hk => ?_) ?_
        · obtain ⟨x, hx, hm⟩ := at_lt hk
          have hg := lines_get hx
          have c2 := dlt hk
          have w2 := wrap_succ (i := k) (by omega)
          have hxo := hok x hm
          have e := flows_take (j := i) hx
          have hfl := flows_len i (l.take k)
          rw [List.length_take, Nat.min_eq_left (Nat.le_of_lt hk)] at hfl
          have htk : ((flows i (l.take k)).map I64).take (flows i (l.take k)).length = (flows i (l.take k)).map I64 := List.take_of_length_le (by simp)
          have hng : IntKind.wrap .i64 (-x.amount) = -x.amount := wrap_of (by have := hxo.a; omega) (by have := hxo.a; omega)
          have hng0 : IntKind.wrap .i64 (0 - x.amount) = -x.amount := by rw [Int.zero_sub]; exact hng
          unfold L81b
          cases hs : (x.seller == (i : Int)) with
          | true =>
            have hs' : x.seller = i := by simpa using hs
            have hb : (x.buyer == (i : Int)) = false := by have := hxo.sb; simp; omega
            rw [flow1, if_pos hs'] at e
            repeat' (first
              | ((first | refine Pwp.step (kit _) rfl fun K hK => ?_ | refine Pwp.last (kit _) rfl fun K hK => ?_ | refine Pwp.stepD (kit _) rfl rfl fun K hK => ?_ | refine Pwp.lastD (kit _) rfl rfl fun K hK => ?_); simp (dsimp := false) only [↓opsP_nil, ↓opsP_cons, ↓opsD_nil, ↓opsD_cons, footOf, ↓opP, ↓stepP, ↓stepG, go_sem, reduceIte, Nat.reduceAdd, Nat.reduceMul, Nat.reduceEqDiff, Nat.reduceLT, Nat.reduceLeDiff, Nat.reduceSub, reduceCtorEq, Int.reduceToNat, Int.reduceAdd, Int.reduceSub, Int.reduceLT, Int.reduceLE, Int.reduceNeg, Int.reduceBEq, Int.reduceBNe, true_or, hg, c2, w2, hlen, hs, hb, htk])
              | (refine Pwp.seq ?_)
              | (refine Pwp.block ?_)
              | (refine Pwp.exit ?_; simp only [thenS, blockS, if_true, if_false, reduceIte, Nat.reduceEqDiff, Nat.add_one_ne_zero, reduceCtorEq])
              | (refine Pwp.skip ?_; simp only [thenS, blockS])
              | (refine Pwp.cond rfl True.intro (fun h => ?_) (fun h => ?_) <;> (try (cases h; done)) <;> (try simp only [h]))
              | (refine Pwp.ret ?_; try simp only [thenS, blockS])
              | (refine hK _ ?_; clear hK K)
              | (refine hK _ _ rfl ?_; clear hK K)
              | (refine CallG.off ?_)
              | (with_reducible refine Or.inl ?_)
              | (simp only [thenS, blockS])
              | (with_reducible refine And.intro ?_ ?_)
              | (with_reducible exact True.intro)
              | (simp (dsimp := false) only [↓opsP_nil, ↓opsP_cons, ↓opsD_nil, ↓opsD_cons, footOf, ↓opP, ↓stepP, ↓stepG, go_sem, reduceIte, Nat.reduceAdd, Nat.reduceMul, Nat.reduceEqDiff, Nat.reduceLT, Nat.reduceLeDiff, Nat.reduceSub, reduceCtorEq, Int.reduceToNat, Int.reduceAdd, Int.reduceSub, Int.reduceLT, Int.reduceLE, Int.reduceNeg, Int.reduceBEq, Int.reduceBNe, true_or, hg, c2, w2, hlen, hs, hb, htk]))
            all_goals (try (first | (intro hg; simp [hg]; done) | exact of_decide_eq_true rfl | (cases h; done)))
            all_goals (try (first | (simp; done) | (simp [maxLen]; omega) | omega))
            exact Sub.view (VR 11 1) (by simp [L81b]) rfl (by simp [viewH, viewP, viewL, viewO, V0, V9, V9n, VR, VN, keptOf, find, PVal.toD, subD, subL, subV, subD_refl, viewL_ds, disj, PVal.ids, pnil, List.range, List.range.loop, L81b, e, map_snoc]) (by simp [viewT, St.ev, viewH, viewP, viewL, viewO, V0, V9, V9n, VR, VN, keptOf, find, PVal.toD, subD, subL, subV, subD_refl, viewL_ds, disj, PVal.ids, pnil, List.range, List.range.loop, L81b, e, map_snoc])
          | false =>
            have hs' : ¬ x.seller = i := by simpa using hs
            rw [flow1, if_neg hs'] at e
            cases hb : (x.buyer == (i : Int)) with
            | true =>
              have hb' : x.buyer = i := by simpa using hb
              rw [if_pos hb'] at e
              repeat' (first
                | ((first | refine Pwp.step (kit _) rfl fun K hK => ?_ | refine Pwp.last (kit _) rfl fun K hK => ?_ | refine Pwp.stepD (kit _) rfl rfl fun K hK => ?_ | refine Pwp.lastD (kit _) rfl rfl fun K hK => ?_); simp (dsimp := false) only [↓opsP_nil, ↓opsP_cons, ↓opsD_nil, ↓opsD_cons, footOf, ↓opP, ↓stepP, ↓stepG, go_sem, reduceIte, Nat.reduceAdd, Nat.reduceMul, Nat.reduceEqDiff, Nat.reduceLT, Nat.reduceLeDiff, Nat.reduceSub, reduceCtorEq, Int.reduceToNat, Int.reduceAdd, Int.reduceSub, Int.reduceLT, Int.reduceLE, Int.reduceNeg, Int.reduceBEq, Int.reduceBNe, true_or, hg, c2, w2, hlen, hs, hb, htk, hng, hng0])
                | (refine Pwp.seq ?_)
                | (refine Pwp.block ?_)
                | (refine Pwp.exit ?_; simp only [thenS, blockS, if_true, if_false, reduceIte, Nat.reduceEqDiff, Nat.add_one_ne_zero, reduceCtorEq])
                | (refine Pwp.skip ?_; simp only [thenS, blockS])
                | (refine Pwp.cond rfl True.intro (fun h => ?_) (fun h => ?_) <;> (try (cases h; done)) <;> (try simp only [h]))
                | (refine Pwp.ret ?_; try simp only [thenS, blockS])
                | (refine hK _ ?_; clear hK K)
                | (refine hK _ _ rfl ?_; clear hK K)
                | (refine CallG.off ?_)
                | (with_reducible refine Or.inl ?_)
                | (simp only [thenS, blockS])
                | (with_reducible refine And.intro ?_ ?_)
                | (with_reducible exact True.intro)
                | (simp (dsimp := false) only [↓opsP_nil, ↓opsP_cons, ↓opsD_nil, ↓opsD_cons, footOf, ↓opP, ↓stepP, ↓stepG, go_sem, reduceIte, Nat.reduceAdd, Nat.reduceMul, Nat.reduceEqDiff, Nat.reduceLT, Nat.reduceLeDiff, Nat.reduceSub, reduceCtorEq, Int.reduceToNat, Int.reduceAdd, Int.reduceSub, Int.reduceLT, Int.reduceLE, Int.reduceNeg, Int.reduceBEq, Int.reduceBNe, true_or, hg, c2, w2, hlen, hs, hb, htk, hng, hng0]))
              all_goals (try (first | (intro hg; simp [hg]; done) | exact of_decide_eq_true rfl | (cases h; done)))
              all_goals (try (first | (simp; done) | (simp [maxLen]; omega) | omega))
              exact Sub.view (VR 11 1) (by simp [L81b]) rfl (by simp [viewH, viewP, viewL, viewO, V0, V9, V9n, VR, VN, keptOf, find, PVal.toD, subD, subL, subV, subD_refl, viewL_ds, disj, PVal.ids, pnil, List.range, List.range.loop, L81b, e, map_snoc]) (by simp [viewT, St.ev, viewH, viewP, viewL, viewO, V0, V9, V9n, VR, VN, keptOf, find, PVal.toD, subD, subL, subV, subD_refl, viewL_ds, disj, PVal.ids, pnil, List.range, List.range.loop, L81b, e, map_snoc])
            | false =>
              have hb' : ¬ x.buyer = i := by simpa using hb
              rw [if_neg hb', List.append_nil] at e
              repeat' (first
                | ((first | refine Pwp.step (kit _) rfl fun K hK => ?_ | refine Pwp.last (kit _) rfl fun K hK => ?_ | refine Pwp.stepD (kit _) rfl rfl fun K hK => ?_ | refine Pwp.lastD (kit _) rfl rfl fun K hK => ?_); simp (dsimp := false) only [↓opsP_nil, ↓opsP_cons, ↓opsD_nil, ↓opsD_cons, footOf, ↓opP, ↓stepP, ↓stepG, go_sem, reduceIte, Nat.reduceAdd, Nat.reduceMul, Nat.reduceEqDiff, Nat.reduceLT, Nat.reduceLeDiff, Nat.reduceSub, reduceCtorEq, Int.reduceToNat, Int.reduceAdd, Int.reduceSub, Int.reduceLT, Int.reduceLE, Int.reduceNeg, Int.reduceBEq, Int.reduceBNe, true_or, hg, c2, w2, hlen, hs, hb])
                | (refine Pwp.seq ?_)
                | (refine Pwp.block ?_)
                | (refine Pwp.exit ?_; simp only [thenS, blockS, if_true, if_false, reduceIte, Nat.reduceEqDiff, Nat.add_one_ne_zero, reduceCtorEq])
                | (refine Pwp.skip ?_; simp only [thenS, blockS])
                | (refine Pwp.cond rfl True.intro (fun h => ?_) (fun h => ?_) <;> (try (cases h; done)) <;> (try simp only [h]))
                | (refine Pwp.ret ?_; try simp only [thenS, blockS])
                | (refine hK _ ?_; clear hK K)
                | (refine hK _ _ rfl ?_; clear hK K)
                | (refine CallG.off ?_)
                | (with_reducible refine Or.inl ?_)
                | (simp only [thenS, blockS])
                | (with_reducible refine And.intro ?_ ?_)
                | (with_reducible exact True.intro)
                | (simp (dsimp := false) only [↓opsP_nil, ↓opsP_cons, ↓opsD_nil, ↓opsD_cons, footOf, ↓opP, ↓stepP, ↓stepG, go_sem, reduceIte, Nat.reduceAdd, Nat.reduceMul, Nat.reduceEqDiff, Nat.reduceLT, Nat.reduceLeDiff, Nat.reduceSub, reduceCtorEq, Int.reduceToNat, Int.reduceAdd, Int.reduceSub, Int.reduceLT, Int.reduceLE, Int.reduceNeg, Int.reduceBEq, Int.reduceBNe, true_or, hg, c2, w2, hlen, hs, hb]))
              all_goals (try (first | (intro hg; simp [hg]; done) | exact of_decide_eq_true rfl | (cases h; done)))
              exact Sub.view V0 (by simp [L81b]) rfl (by simp [viewH, viewP, viewL, viewO, V0, V9, V9n, VR, VN, keptOf, find, PVal.toD, subD, subL, subV, subD_refl, viewL_ds, disj, PVal.ids, pnil, List.range, List.range.loop, L81b, e]) (by simp [viewT, St.ev, viewH, viewP, viewL, viewO, V0, V9, V9n, VR, VN, keptOf, find, PVal.toD, subD, subL, subV, subD_refl, viewL_ds, disj, PVal.ids, pnil, List.range, List.range.loop, L81b, e])
        · have c2 := dge (Nat.le_refl l.length)
          have et : l.take l.length = l := List.take_length
          have hfl := flows_len i l
          have hin := flows_in (j := (i : Int)) hok
          have hni := netL_in (j := (i : Int)) hok hl
          have r41 := run41 (flows i l) (by omega) (fun a ha => by have := hin a ha; simp [In64]; omega)
          rw [if_pos (In64.fits (by unfold netL at hni; simp [In64]; omega))] at r41
          change Runs Try.prog 41 _ _ (.d (.tup [I64 (netL i l), I64 0])) _ at r41
          have hml : (flows i l).length = ((flows i l).map I64).length := by simp
          have htk : ((outs i l).map I64).take (outs i l).length = (outs i l).map I64 := List.take_of_length_le (by simp)
          have e := outs_succ i l
          unfold L81b
          rw [et]
          repeat' (first
            | ((first | refine Pwp.step (kit _) rfl fun K hK => ?_ | refine Pwp.last (kit _) rfl fun K hK => ?_ | refine Pwp.stepD (kit _) rfl rfl fun K hK => ?_ | refine Pwp.lastD (kit _) rfl rfl fun K hK => ?_); simp (dsimp := false) only [↓opsP_nil, ↓opsP_cons, ↓opsD_nil, ↓opsD_cons, footOf, ↓opP, ↓stepP, ↓stepG, go_sem, reduceIte, Nat.reduceAdd, Nat.reduceMul, Nat.reduceEqDiff, Nat.reduceLT, Nat.reduceLeDiff, Nat.reduceSub, reduceCtorEq, Int.reduceToNat, Int.reduceAdd, Int.reduceSub, Int.reduceLT, Int.reduceLE, Int.reduceNeg, Int.reduceBEq, Int.reduceBNe, true_or, c2, hlen, w, htk, bne_self_eq_false])
            | (refine Pwp.seq ?_)
            | (refine Pwp.block ?_)
            | (refine Pwp.exit ?_; simp only [thenS, blockS, if_true, if_false, reduceIte, Nat.reduceEqDiff, Nat.add_one_ne_zero, reduceCtorEq])
            | (refine Pwp.skip ?_; simp only [thenS, blockS])
            | (refine Pwp.cond rfl True.intro (fun h => ?_) (fun h => ?_) <;> (try (cases h; done)) <;> (try simp only [h]))
            | (refine Pwp.ret ?_; try simp only [thenS, blockS])
            | (refine hK _ ?_; clear hK K)
            | (refine hK _ _ rfl ?_; clear hK K)
            | (refine CallK.giveO rfl hml r41 (by simp) ?_)
            | (refine CallG.off ?_)
            | (with_reducible refine Or.inl ?_)
            | (simp only [thenS, blockS])
            | (with_reducible refine And.intro ?_ ?_)
            | (with_reducible exact True.intro)
            | (simp (dsimp := false) only [↓opsP_nil, ↓opsP_cons, ↓opsD_nil, ↓opsD_cons, footOf, ↓opP, ↓stepP, ↓stepG, go_sem, reduceIte, Nat.reduceAdd, Nat.reduceMul, Nat.reduceEqDiff, Nat.reduceLT, Nat.reduceLeDiff, Nat.reduceSub, reduceCtorEq, Int.reduceToNat, Int.reduceAdd, Int.reduceSub, Int.reduceLT, Int.reduceLE, Int.reduceNeg, Int.reduceBEq, Int.reduceBNe, true_or, c2, hlen, w, htk, bne_self_eq_false]))
          all_goals (try (first | (intro hg; simp [hg]; done) | exact of_decide_eq_true rfl | (cases h; done)))
          all_goals (try (first | (simp; done) | (simp [maxLen]; omega) | omega))
          exact Sub.view (VR 10 1) (by simp [L81a]) rfl (by simp [viewH, viewP, viewL, viewO, V0, V9, V9n, VR, VN, keptOf, find, PVal.toD, subD, subL, subV, subD_refl, viewL_ds, disj, PVal.ids, pnil, List.range, List.range.loop, L81a, e, map_snoc]) (by simp [viewT, St.ev, viewH, viewP, viewL, viewO, V0, V9, V9n, VR, VN, keptOf, find, PVal.toD, subD, subL, subV, subD_refl, viewL_ds, disj, PVal.ids, pnil, List.range, List.range.loop, L81a, e, map_snoc])
      · have c1 := dge (Nat.le_refl N)
        have hol := outs_len N l
        have htk : ((outs N l).map I64).take (outs N l).length = (outs N l).map I64 := List.take_of_length_le (by simp)
        have hlm : ((outs N l).map I64).length = (outs N l).length := List.length_map ..
        unfold L81a
        repeat' (first
          | ((first | refine Pwp.step (kit _) rfl fun K hK => ?_ | refine Pwp.last (kit _) rfl fun K hK => ?_ | refine Pwp.stepD (kit _) rfl rfl fun K hK => ?_ | refine Pwp.lastD (kit _) rfl rfl fun K hK => ?_); simp (dsimp := false) only [↓opsP_nil, ↓opsP_cons, ↓opsD_nil, ↓opsD_cons, footOf, ↓opP, ↓stepP, ↓stepG, go_sem, reduceIte, Nat.reduceAdd, Nat.reduceMul, Nat.reduceEqDiff, Nat.reduceLT, Nat.reduceLeDiff, Nat.reduceSub, reduceCtorEq, Int.reduceToNat, Int.reduceAdd, Int.reduceSub, Int.reduceLT, Int.reduceLE, Int.reduceNeg, Int.reduceBEq, Int.reduceBNe, true_or, c1])
          | (refine Pwp.seq ?_)
          | (refine Pwp.block ?_)
          | (refine Pwp.exit ?_; simp only [thenS, blockS, if_true, if_false, reduceIte, Nat.reduceEqDiff, Nat.add_one_ne_zero, reduceCtorEq])
          | (refine Pwp.skip ?_; simp only [thenS, blockS])
          | (refine Pwp.cond rfl True.intro (fun h => ?_) (fun h => ?_) <;> (try (cases h; done)) <;> (try simp only [h]))
          | (refine Pwp.ret ?_; try simp only [thenS, blockS])
          | (refine hK _ ?_; clear hK K)
          | (refine hK _ _ rfl ?_; clear hK K)
          | (refine CallG.off ?_)
          | (with_reducible refine Or.inl ?_)
          | (simp only [thenS, blockS])
          | (with_reducible refine And.intro ?_ ?_)
          | (with_reducible exact True.intro)
          | (simp (dsimp := false) only [↓opsP_nil, ↓opsP_cons, ↓opsD_nil, ↓opsD_cons, footOf, ↓opP, ↓stepP, ↓stepG, go_sem, reduceIte, Nat.reduceAdd, Nat.reduceMul, Nat.reduceEqDiff, Nat.reduceLT, Nat.reduceLeDiff, Nat.reduceSub, reduceCtorEq, Int.reduceToNat, Int.reduceAdd, Int.reduceSub, Int.reduceLT, Int.reduceLE, Int.reduceNeg, Int.reduceBEq, Int.reduceBNe, true_or, c1]))
        all_goals (try (first | (intro hg; simp [hg]; done) | exact of_decide_eq_true rfl | (cases h; done)))
        (refine Fin.data (.inr rfl) (by simp (dsimp := false) only [↓opsP_nil, ↓opsP_cons, ↓opsD_nil, ↓opsD_cons, footOf, ↓opP, ↓stepP, ↓stepG, go_sem, reduceIte, Nat.reduceAdd, Nat.reduceMul, Nat.reduceEqDiff, Nat.reduceLT, Nat.reduceLeDiff, Nat.reduceSub, reduceCtorEq, Int.reduceToNat, Int.reduceAdd, Int.reduceSub, Int.reduceLT, Int.reduceLE, Int.reduceNeg, Int.reduceBEq, Int.reduceBNe, true_or, resL, htk, hlm]; rfl) (by simp only [and_self]) (by simp (dsimp := false) only [↓opsP_nil, ↓opsP_cons, ↓opsD_nil, ↓opsD_cons, footOf, ↓opP, ↓stepP, ↓stepG, go_sem, reduceIte, Nat.reduceAdd, Nat.reduceMul, Nat.reduceEqDiff, Nat.reduceLT, Nat.reduceLeDiff, Nat.reduceSub, reduceCtorEq, Int.reduceToNat, Int.reduceAdd, Int.reduceSub, Int.reduceLT, Int.reduceLE, Int.reduceNeg, Int.reduceBEq, Int.reduceBNe, true_or, resP, Nat.le_refl, List.take_length, htk, hlm]; try rfl) ?_)
        exact subD_refl _
    · have hE : netsE n l = fitV n none l := by unfold netsE; rw [c0]; simp
      rw [netsV_bad (by rw [hE]; exact he), hE]
      have n1 : (fitV n none l != 0) = true := by simpa using he
      refine Runs.of (kit Try.prog) Try.func81 rfl rfl (by rw [Try.ntmps81]; exact of_decide_eq_true rfl) ?_; rw [Try.ntmps81, Try.results81]
      repeat' (first
        | ((first | refine Pwp.step (kit _) rfl fun K hK => ?_ | refine Pwp.last (kit _) rfl fun K hK => ?_ | refine Pwp.stepD (kit _) rfl rfl fun K hK => ?_ | refine Pwp.lastD (kit _) rfl rfl fun K hK => ?_); simp (dsimp := false) only [↓opsP_nil, ↓opsP_cons, ↓opsD_nil, ↓opsD_cons, footOf, ↓opP, ↓stepP, ↓stepG, go_sem, reduceIte, Nat.reduceAdd, Nat.reduceMul, Nat.reduceEqDiff, Nat.reduceLT, Nat.reduceLeDiff, Nat.reduceSub, reduceCtorEq, Int.reduceToNat, Int.reduceAdd, Int.reduceSub, Int.reduceLT, Int.reduceLE, Int.reduceNeg, Int.reduceBEq, Int.reduceBNe, true_or, c0, n1])
        | (refine Pwp.seq ?_)
        | (refine Pwp.block ?_)
        | (refine Pwp.exit ?_; simp only [thenS, blockS, if_true, if_false, reduceIte, Nat.reduceEqDiff, Nat.add_one_ne_zero, reduceCtorEq])
        | (refine Pwp.skip ?_; simp only [thenS, blockS])
        | (refine Pwp.cond rfl True.intro (fun h => ?_) (fun h => ?_) <;> (try (cases h; done)) <;> (try simp only [h]))
        | (refine Pwp.ret ?_; try simp only [thenS, blockS])
        | (refine hK _ ?_; clear hK K)
        | (refine hK _ _ rfl ?_; clear hK K)
        | (refine CallK.give (ds := [I64 n, .slc 4 (linesD l)]) rfl (r83) (by simp) ?_)
        | (refine CallG.off ?_)
        | (with_reducible refine Or.inl ?_)
        | (simp only [thenS, blockS])
        | (with_reducible refine And.intro ?_ ?_)
        | (with_reducible exact True.intro)
        | (simp (dsimp := false) only [↓opsP_nil, ↓opsP_cons, ↓opsD_nil, ↓opsD_cons, footOf, ↓opP, ↓stepP, ↓stepG, go_sem, reduceIte, Nat.reduceAdd, Nat.reduceMul, Nat.reduceEqDiff, Nat.reduceLT, Nat.reduceLeDiff, Nat.reduceSub, reduceCtorEq, Int.reduceToNat, Int.reduceAdd, Int.reduceSub, Int.reduceLT, Int.reduceLE, Int.reduceNeg, Int.reduceBEq, Int.reduceBNe, true_or, c0, n1]))
      all_goals (try (first | (intro hg; simp [hg]; done) | exact of_decide_eq_true rfl | (cases h; done)))
      (refine Fin.data (.inr rfl) (by simp (dsimp := false) only [↓opsP_nil, ↓opsP_cons, ↓opsD_nil, ↓opsD_cons, footOf, ↓opP, ↓stepP, ↓stepG, go_sem, reduceIte, Nat.reduceAdd, Nat.reduceMul, Nat.reduceEqDiff, Nat.reduceLT, Nat.reduceLeDiff, Nat.reduceSub, reduceCtorEq, Int.reduceToNat, Int.reduceAdd, Int.reduceSub, Int.reduceLT, Int.reduceLE, Int.reduceNeg, Int.reduceBEq, Int.reduceBNe, true_or, resL]; rfl) (by simp only [and_self]) (by simp (dsimp := false) only [↓opsP_nil, ↓opsP_cons, ↓opsD_nil, ↓opsD_cons, footOf, ↓opP, ↓stepP, ↓stepG, go_sem, reduceIte, Nat.reduceAdd, Nat.reduceMul, Nat.reduceEqDiff, Nat.reduceLT, Nat.reduceLeDiff, Nat.reduceSub, reduceCtorEq, Int.reduceToNat, Int.reduceAdd, Int.reduceSub, Int.reduceLT, Int.reduceLE, Int.reduceNeg, Int.reduceBEq, Int.reduceBNe, true_or, resP, Nat.le_refl, List.take_length]; try rfl) ?_)
      simp [subD, subL, subV]
  · have c0 : (decide (n < 0) || decide (8 < n)) = true := by
      rw [Bool.or_eq_true, decide_eq_true_eq, decide_eq_true_eq]; omega
    have hE : netsE n l = 1 := by unfold netsE; rw [c0]; simp
    rw [netsV_bad (by rw [hE]; simp), hE]
    refine Runs.of (kit Try.prog) Try.func81 rfl rfl (by rw [Try.ntmps81]; exact of_decide_eq_true rfl) ?_; rw [Try.ntmps81, Try.results81]
    repeat' (first
      | ((first | refine Pwp.step (kit _) rfl fun K hK => ?_ | refine Pwp.last (kit _) rfl fun K hK => ?_ | refine Pwp.stepD (kit _) rfl rfl fun K hK => ?_ | refine Pwp.lastD (kit _) rfl rfl fun K hK => ?_); simp (dsimp := false) only [↓opsP_nil, ↓opsP_cons, ↓opsD_nil, ↓opsD_cons, footOf, ↓opP, ↓stepP, ↓stepG, go_sem, reduceIte, Nat.reduceAdd, Nat.reduceMul, Nat.reduceEqDiff, Nat.reduceLT, Nat.reduceLeDiff, Nat.reduceSub, reduceCtorEq, Int.reduceToNat, Int.reduceAdd, Int.reduceSub, Int.reduceLT, Int.reduceLE, Int.reduceNeg, Int.reduceBEq, Int.reduceBNe, true_or, c0])
      | (refine Pwp.seq ?_)
      | (refine Pwp.block ?_)
      | (refine Pwp.exit ?_; simp only [thenS, blockS, if_true, if_false, reduceIte, Nat.reduceEqDiff, Nat.add_one_ne_zero, reduceCtorEq])
      | (refine Pwp.skip ?_; simp only [thenS, blockS])
      | (refine Pwp.cond rfl True.intro (fun h => ?_) (fun h => ?_) <;> (try (cases h; done)) <;> (try simp only [h]))
      | (refine Pwp.ret ?_; try simp only [thenS, blockS])
      | (refine hK _ ?_; clear hK K)
      | (refine hK _ _ rfl ?_; clear hK K)
      | (refine CallG.off ?_)
      | (with_reducible refine Or.inl ?_)
      | (simp only [thenS, blockS])
      | (with_reducible refine And.intro ?_ ?_)
      | (with_reducible exact True.intro)
      | (simp (dsimp := false) only [↓opsP_nil, ↓opsP_cons, ↓opsD_nil, ↓opsD_cons, footOf, ↓opP, ↓stepP, ↓stepG, go_sem, reduceIte, Nat.reduceAdd, Nat.reduceMul, Nat.reduceEqDiff, Nat.reduceLT, Nat.reduceLeDiff, Nat.reduceSub, reduceCtorEq, Int.reduceToNat, Int.reduceAdd, Int.reduceSub, Int.reduceLT, Int.reduceLE, Int.reduceNeg, Int.reduceBEq, Int.reduceBNe, true_or, c0]))
    all_goals (try (first | (intro hg; simp [hg]; done) | exact of_decide_eq_true rfl | (cases h; done)))
    (refine Fin.data (.inr rfl) (by simp (dsimp := false) only [↓opsP_nil, ↓opsP_cons, ↓opsD_nil, ↓opsD_cons, footOf, ↓opP, ↓stepP, ↓stepG, go_sem, reduceIte, Nat.reduceAdd, Nat.reduceMul, Nat.reduceEqDiff, Nat.reduceLT, Nat.reduceLeDiff, Nat.reduceSub, reduceCtorEq, Int.reduceToNat, Int.reduceAdd, Int.reduceSub, Int.reduceLT, Int.reduceLE, Int.reduceNeg, Int.reduceBEq, Int.reduceBNe, true_or, resL]; rfl) (by simp only [and_self]) (by simp (dsimp := false) only [↓opsP_nil, ↓opsP_cons, ↓opsD_nil, ↓opsD_cons, footOf, ↓opP, ↓stepP, ↓stepG, go_sem, reduceIte, Nat.reduceAdd, Nat.reduceMul, Nat.reduceEqDiff, Nat.reduceLT, Nat.reduceLeDiff, Nat.reduceSub, reduceCtorEq, Int.reduceToNat, Int.reduceAdd, Int.reduceSub, Int.reduceLT, Int.reduceLE, Int.reduceNeg, Int.reduceBEq, Int.reduceBNe, true_or, resP, Nat.le_refl, List.take_length]; try rfl) ?_)
    simp [subD, subL, subV]

end Go.Proofs.Ytdodgbhodkcckaa.Pv
