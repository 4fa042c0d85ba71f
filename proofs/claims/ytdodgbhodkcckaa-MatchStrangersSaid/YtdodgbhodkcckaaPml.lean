/- Walks of matching: who isn't a party of an item can do nothing to it. -/
import Derived.Test.YtdodgbhodkcckaaPmi
import Derived.Test.YtdodgbhodkcckaaPmk
set_option linter.unusedVariables false
set_option linter.unusedSimpArgs false
set_option autoImplicit false
set_option maxRecDepth 100000
namespace Go.Proofs.Ytdodgbhodkcckaa.Pv
open Go Go.RowKit

/-- What is said by a client, or by a node. -/
structure Word where
  from' : Int
  msg : Msg
def Word.d (w : Word) : D := .agg (I64 w.from' :: w.msg.cells)
def wordsD (ws : List Word) : List D := ws.map Word.d
theorem words_len (ws : List Word) : (wordsD ws).length = ws.length := by simp [wordsD]
theorem words_get {ws : List Word} {i : Nat} {w : Word} (h : ws[i]? = some w) : (wordsD ws)[i]? = some (.agg [I64 w.from', I64 w.msg.kind, I64 w.msg.seller, I64 w.msg.number, I64 w.msg.buyer, I64 w.msg.currency, I64 w.msg.round, I64 w.msg.cycle, I64 w.msg.amount, .v (.bool w.msg.yes), w.msg.lines, w.msg.nets]) := by
  simp [wordsD, h, Word.d, Msg.cells]
/-- A desk to which all is said. -/
def playR (d : Desk) (ws : List Word) : Desk := ws.foldl (fun d w => (doR d w.msg w.from').d) d
theorem play_take {d : Desk} {ws : List Word} {i : Nat} {w : Word} (h : ws[i]? = some w) : playR d (ws.take (i + 1)) = (doR (playR d (ws.take i)) w.msg w.from').d := by
  unfold playR; rw [List.take_add_one, h, List.foldl_append]; rfl
theorem play_gd : ∀ (ws : List Word) (d : Desk), DeskGd d → (∀ w ∈ ws, In64 w.msg.amount) → DeskGd (playR d ws)
  | [], d, h, _ => h
  | w :: ws, d, h, hw => play_gd ws _ (do_gd h (hw w (by simp)) _) fun x hx => hw x (by simp [hx])
theorem desk0_gd {me far : Int} (hf : In64 far) : DeskGd (desk0 me far) := ⟨desk0_ok hf, Good.nil me⟩
theorem gd_len {d : Desk} (h : DeskGd d) : d.items.length ≤ 1000000 := by have := h.ok.li; omega
def L18 (ws : List Word) (w : Word) (d : Desk) (i : Nat) : St := ⟨[(32, pint .i64 i), (31, pint .i64 ws.length), (30, .d (.slc 12 (wordsD ws))), (5, .ref 60 0), (3, .ref 8 0)],
  [(60, .box [.d (I64 d.me), .d (.slc 8 (itemsD d.items)), .d (.slc 3 (ordersD d.orders)), .d (I64 d.far), .d nilD]),
   (8, .box [.d (I64 w.from'), .d (I64 w.msg.kind), .d (I64 w.msg.seller), .d (I64 w.msg.number), .d (I64 w.msg.buyer), .d (I64 w.msg.currency), .d (I64 w.msg.round), .d (I64 w.msg.cycle), .d (I64 w.msg.amount), .d (.v (.bool w.msg.yes)), .d w.msg.lines, .d w.msg.nets])], 96⟩
set_option maxHeartbeats 32000000 in
theorem run18 (ws : List Word) (w : Word) (hws : ∀ x ∈ ws, In64 x.msg.amount) (hone : ∀ x ∈ ws, D.one x.msg.lines = true ∧ D.one x.msg.nets = true) (hwa : In64 w.msg.amount) : Runs Try.prog 18 [.d (.slc 12 (wordsD ws)), .d w.d] [] (pbool true) [] := by
  have hlen := words_len ws
  have r55 := run55
  have f10 : In64 10 := by simp [In64]
  unfold Word.d Msg.cells
  cases hc : (decide (40 < (ws.length : Int)) || decide (w.from' < 0)) with
  | true =>
    refine Runs.of (kit Try.prog) Try.func18 rfl rfl (by rw [Try.ntmps18]; exact of_decide_eq_true rfl) ?_; rw [Try.ntmps18, Try.results18]
    repeat' (first
      | ((first | refine Pwp.step (kit _) rfl fun K hK => ?_ | refine Pwp.last (kit _) rfl fun K hK => ?_ | refine Pwp.stepD (kit _) rfl rfl fun K hK => ?_ | refine Pwp.lastD (kit _) rfl rfl fun K hK => ?_); simp (dsimp := false) only [↓opsP_nil, ↓opsP_cons, ↓opsD_nil, ↓opsD_cons, footOf, ↓opP, ↓stepP, ↓stepG, go_sem, reduceIte, Nat.reduceAdd, Nat.reduceMul, Nat.reduceEqDiff, Nat.reduceLT, Nat.reduceLeDiff, Nat.reduceSub, reduceCtorEq, Int.reduceToNat, Int.reduceAdd, Int.reduceSub, Int.reduceLT, Int.reduceLE, Int.reduceNeg, Int.reduceBEq, Int.reduceBNe, true_or, hlen, hc])
      | (refine Pwp.seq ?_)
      | (refine Pwp.block ?_)
      | (refine Pwp.exit ?_; simp only [thenS, blockS, if_true, if_false, reduceIte, Nat.reduceEqDiff, Nat.add_one_ne_zero, reduceCtorEq])
      | (refine Pwp.skip ?_; simp only [thenS, blockS])
      | (refine Pwp.cond rfl True.intro (fun h => ?_) (fun h => ?_) <;> (try (cases h; done)) <;> (try simp only [h]))
      | (refine Pwp.ret ?_; try simp only [thenS, blockS])
      | (refine hK _ ?_; clear hK K)
      | (refine hK _ _ rfl ?_; clear hK K)
      | (refine CallK.toD (ds := []) rfl (r55) rfl ?_)
      | (refine CallG.off ?_)
      | (with_reducible refine Or.inl ?_)
      | (simp only [thenS, blockS])
      | (with_reducible refine And.intro ?_ ?_)
      | (with_reducible exact True.intro)
      | (simp (dsimp := false) only [↓opsP_nil, ↓opsP_cons, ↓opsD_nil, ↓opsD_cons, footOf, ↓opP, ↓stepP, ↓stepG, go_sem, reduceIte, Nat.reduceAdd, Nat.reduceMul, Nat.reduceEqDiff, Nat.reduceLT, Nat.reduceLeDiff, Nat.reduceSub, reduceCtorEq, Int.reduceToNat, Int.reduceAdd, Int.reduceSub, Int.reduceLT, Int.reduceLE, Int.reduceNeg, Int.reduceBEq, Int.reduceBNe, true_or, hlen, hc]))
    all_goals (try (first | (intro hg; simp [hg]; done) | exact of_decide_eq_true rfl | (cases h; done)))
    (refine Fin.data (.inr rfl) (by simp (dsimp := false) only [↓opsP_nil, ↓opsP_cons, ↓opsD_nil, ↓opsD_cons, footOf, ↓opP, ↓stepP, ↓stepG, go_sem, reduceIte, Nat.reduceAdd, Nat.reduceMul, Nat.reduceEqDiff, Nat.reduceLT, Nat.reduceLeDiff, Nat.reduceSub, reduceCtorEq, Int.reduceToNat, Int.reduceAdd, Int.reduceSub, Int.reduceLT, Int.reduceLE, Int.reduceNeg, Int.reduceBEq, Int.reduceBNe, true_or, resL]; rfl) (by simp only [and_self]) (by simp (dsimp := false) only [↓opsP_nil, ↓opsP_cons, ↓opsD_nil, ↓opsD_cons, footOf, ↓opP, ↓stepP, ↓stepG, go_sem, reduceIte, Nat.reduceAdd, Nat.reduceMul, Nat.reduceEqDiff, Nat.reduceLT, Nat.reduceLeDiff, Nat.reduceSub, reduceCtorEq, Int.reduceToNat, Int.reduceAdd, Int.reduceSub, Int.reduceLT, Int.reduceLE, Int.reduceNeg, Int.reduceBEq, Int.reduceBNe, true_or, resP, Nat.le_refl, List.take_length]; try rfl) ?_)
    exact subD_refl _
  | false =>
    have hc2 := hc
    rw [Bool.or_eq_false_iff, decide_eq_false_iff_not, decide_eq_false_iff_not] at hc2
    have r0 := run56 0 10 (by omega)
    simp only [deskD, desk0, Desk.cells, Desk.book, List.cons_append, List.nil_append] at r0
    refine Runs.of (kit Try.prog) Try.func18 rfl rfl (by rw [Try.ntmps18]; exact of_decide_eq_true rfl) ?_; rw [Try.ntmps18, Try.results18]
    repeat' (first
      | ((first | refine Pwp.step (kit _) rfl fun K hK => ?_ | refine Pwp.last (kit _) rfl fun K hK => ?_ | refine Pwp.stepD (kit _) rfl rfl fun K hK => ?_ | refine Pwp.lastD (kit _) rfl rfl fun K hK => ?_); simp (dsimp := false) only [↓opsP_nil, ↓opsP_cons, ↓opsD_nil, ↓opsD_cons, footOf, ↓opP, ↓stepP, ↓stepG, go_sem, reduceIte, Nat.reduceAdd, Nat.reduceMul, Nat.reduceEqDiff, Nat.reduceLT, Nat.reduceLeDiff, Nat.reduceSub, reduceCtorEq, Int.reduceToNat, Int.reduceAdd, Int.reduceSub, Int.reduceLT, Int.reduceLE, Int.reduceNeg, Int.reduceBEq, Int.reduceBNe, true_or, hlen, hc])
      | (refine Pwp.seq ?_)
      | (refine Pwp.block ?_)
      | (refine Pwp.exit ?_; simp only [thenS, blockS, if_true, if_false, reduceIte, Nat.reduceEqDiff, Nat.add_one_ne_zero, reduceCtorEq])
      | (refine Pwp.skip ?_; simp only [thenS, blockS])
      | (refine Pwp.cond rfl True.intro (fun h => ?_) (fun h => ?_) <;> (try (cases h; done)) <;> (try simp only [h]))
      | (refine Pwp.ret ?_; try simp only [thenS, blockS])
      | (refine hK _ ?_; clear hK K)
      | (refine hK _ _ rfl ?_; clear hK K)
      | (refine CallK.toD (ds := []) rfl (r55) rfl ?_)
      | (refine CallK.give (ds := [I64 0, I64 10]) rfl (r0) (by simp) ?_)
      | (refine CallG.off ?_)
      | (with_reducible refine Or.inl ?_)
      | (simp only [thenS, blockS])
      | (with_reducible refine And.intro ?_ ?_)
      | (with_reducible exact True.intro)
      | (simp (dsimp := false) only [↓opsP_nil, ↓opsP_cons, ↓opsD_nil, ↓opsD_cons, footOf, ↓opP, ↓stepP, ↓stepG, go_sem, reduceIte, Nat.reduceAdd, Nat.reduceMul, Nat.reduceEqDiff, Nat.reduceLT, Nat.reduceLeDiff, Nat.reduceSub, reduceCtorEq, Int.reduceToNat, Int.reduceAdd, Int.reduceSub, Int.reduceLT, Int.reduceLE, Int.reduceNeg, Int.reduceBEq, Int.reduceBNe, true_or, hlen, hc]))
    all_goals (try (first | (intro hg; simp [hg]; done) | exact of_decide_eq_true rfl | (cases h; done)))
    refine Pwp.range ws.length (S := fun i => L18 ws w (playR (desk0 0 10) (ws.take i)) i) (Sub.view V0 (by simp [L18]) rfl (by simp [viewH, viewP, viewL, viewO, V0, V9, V9n, VR, VN, keptOf, find, PVal.toD, subD, subL, subV, subD_refl, viewL_ds, disj, PVal.ids, pnil, List.range, List.range.loop, L18, playR, desk0]) (by simp [viewT, St.ev, viewH, viewP, viewL, viewO, V0, V9, V9n, VR, VN, keptOf, find, PVal.toD, subD, subL, subV, subD_refl, viewL_ds, disj, PVal.ids, pnil, List.range, List.range.loop, L18, playR, desk0])) (fun i hi => ?_) ?_
    · obtain ⟨x, hx, hm⟩ := at_lt hi
      have hg := words_get hx
      have c1 := dlt hi
      have w1 := wrap_succ (i := i) (by omega)
      have e := play_take (d := desk0 0 10) hx
      have hd := play_gd (ws.take i) (desk0 0 10) (desk0_gd f10) fun y hy => hws y (List.mem_of_mem_take hy)
      simp only [e]
      generalize playR (desk0 0 10) (ws.take i) = d at *
      have r57 := run57 d hd.ok x.msg (hws x hm) x.from'
      generalize doR d x.msg x.from' = R at *
      simp only [outD, deskD, saidL, Desk.cells, Desk.book, Msg.d, Msg.cells, List.cons_append, List.nil_append] at r57
      unfold L18
      repeat' (first
        | ((first | refine Pwp.step (kit _) rfl fun K hK => ?_ | refine Pwp.last (kit _) rfl fun K hK => ?_ | refine Pwp.stepD (kit _) rfl rfl fun K hK => ?_ | refine Pwp.lastD (kit _) rfl rfl fun K hK => ?_); simp (dsimp := false) only [↓opsP_nil, ↓opsP_cons, ↓opsD_nil, ↓opsD_cons, footOf, ↓opP, ↓stepP, ↓stepG, go_sem, reduceIte, Nat.reduceAdd, Nat.reduceMul, Nat.reduceEqDiff, Nat.reduceLT, Nat.reduceLeDiff, Nat.reduceSub, reduceCtorEq, Int.reduceToNat, Int.reduceAdd, Int.reduceSub, Int.reduceLT, Int.reduceLE, Int.reduceNeg, Int.reduceBEq, Int.reduceBNe, true_or, hg, c1, w1])
        | (refine Pwp.seq ?_)
        | (refine Pwp.block ?_)
        | (refine Pwp.exit ?_; simp only [thenS, blockS, if_true, if_false, reduceIte, Nat.reduceEqDiff, Nat.add_one_ne_zero, reduceCtorEq])
        | (refine Pwp.skip ?_; simp only [thenS, blockS])
        | (refine Pwp.cond rfl True.intro (fun h => ?_) (fun h => ?_) <;> (try (cases h; done)) <;> (try simp only [h]))
        | (refine Pwp.ret ?_; try simp only [thenS, blockS])
        | (refine hK _ ?_; clear hK K)
        | (refine hK _ _ rfl ?_; clear hK K)
        | (refine CallK.give (ds := [.agg [I64 d.me, .slc 8 (itemsD d.items), .slc 3 (ordersD d.orders), I64 d.far, nilD], .agg [I64 x.msg.kind, I64 x.msg.seller, I64 x.msg.number, I64 x.msg.buyer, I64 x.msg.currency, I64 x.msg.round, I64 x.msg.cycle, I64 x.msg.amount, .v (.bool x.msg.yes), x.msg.lines, x.msg.nets], I64 x.from']) rfl (r57) (by simp) ?_)
        | (refine CallG.off ?_)
        | (with_reducible refine Or.inl ?_)
        | (simp only [thenS, blockS])
        | (with_reducible refine And.intro ?_ ?_)
        | (with_reducible exact True.intro)
        | (simp (dsimp := false) only [↓opsP_nil, ↓opsP_cons, ↓opsD_nil, ↓opsD_cons, footOf, ↓opP, ↓stepP, ↓stepG, go_sem, reduceIte, Nat.reduceAdd, Nat.reduceMul, Nat.reduceEqDiff, Nat.reduceLT, Nat.reduceLeDiff, Nat.reduceSub, reduceCtorEq, Int.reduceToNat, Int.reduceAdd, Int.reduceSub, Int.reduceLT, Int.reduceLE, Int.reduceNeg, Int.reduceBEq, Int.reduceBNe, true_or, hg, c1, w1]))
      all_goals (try (first | (intro hg; simp [hg]; done) | exact of_decide_eq_true rfl | (cases h; done)))
      all_goals (try (rw [Bool.and_eq_true]; exact hone x hm))
      exact Sub.view V0 (by simp [L18]) rfl (by simp [viewH, viewP, viewL, viewO, V0, V9, V9n, VR, VN, keptOf, find, PVal.toD, subD, subL, subV, subD_refl, viewL_ds, disj, PVal.ids, pnil, List.range, List.range.loop, L18]) (by simp [viewT, St.ev, viewH, viewP, viewL, viewO, V0, V9, V9n, VR, VN, keptOf, find, PVal.toD, subD, subL, subV, subD_refl, viewL_ds, disj, PVal.ids, pnil, List.range, List.range.loop, L18])
    · have c1 := dge (Nat.le_refl ws.length)
      have hd := play_gd (ws.take ws.length) (desk0 0 10) (desk0_gd f10) fun y hy => hws y (List.mem_of_mem_take hy)
      generalize playR (desk0 0 10) (ws.take ws.length) = d at *
      have r57 := run57 d hd.ok w.msg hwa w.from'
      have hd2 := do_gd hd hwa w.from'
      have r65 := run65 d.me d.items (ordersD d.orders) w.msg.seller w.msg.number (gd_len hd)
      unfold bookD at r65
      have hst := stranger (d := d) (m := w.msg) (f := w.from') (by omega)
      have hrf := do_ref (d := d) (m := w.msg) (f := w.from')
      unfold L18
      cases hq : ((!isIn d.items w.msg.seller w.msg.number || (getI d.items w.msg.seller w.msg.number).seller == w.from') || (getI d.items w.msg.seller w.msg.number).buyer == w.from') with
      | true =>
        clear hst hrf
        generalize doR d w.msg w.from' = R at *
        have r65b := run65 R.d.me R.d.items (ordersD R.d.orders) w.msg.seller w.msg.number (gd_len hd2)
        unfold bookD at r65b
        generalize getI R.d.items w.msg.seller w.msg.number = y at *
        generalize isIn R.d.items w.msg.seller w.msg.number = b2 at *
        generalize getI d.items w.msg.seller w.msg.number = x at *
        generalize isIn d.items w.msg.seller w.msg.number = b at *
        simp only [outD, deskD, saidL, Desk.cells, Desk.book, Msg.d, Msg.cells, Item.d, Item.cells, List.cons_append, List.nil_append] at r57 r65 r65b
        repeat' (first
          | ((first | refine Pwp.step (kit _) rfl fun K hK => ?_ | refine Pwp.last (kit _) rfl fun K hK => ?_ | refine Pwp.stepD (kit _) rfl rfl fun K hK => ?_ | refine Pwp.lastD (kit _) rfl rfl fun K hK => ?_); simp (dsimp := false) only [↓opsP_nil, ↓opsP_cons, ↓opsD_nil, ↓opsD_cons, footOf, ↓opP, ↓stepP, ↓stepG, go_sem, reduceIte, Nat.reduceAdd, Nat.reduceMul, Nat.reduceEqDiff, Nat.reduceLT, Nat.reduceLeDiff, Nat.reduceSub, reduceCtorEq, Int.reduceToNat, Int.reduceAdd, Int.reduceSub, Int.reduceLT, Int.reduceLE, Int.reduceNeg, Int.reduceBEq, Int.reduceBNe, true_or, c1, hq])
          | (refine Pwp.seq ?_)
          | (refine Pwp.block ?_)
          | (refine Pwp.exit ?_; simp only [thenS, blockS, if_true, if_false, reduceIte, Nat.reduceEqDiff, Nat.add_one_ne_zero, reduceCtorEq])
          | (refine Pwp.skip ?_; simp only [thenS, blockS])
          | (refine Pwp.cond rfl True.intro (fun h => ?_) (fun h => ?_) <;> (try (cases h; done)) <;> (try simp only [h]))
          | (refine Pwp.ret ?_; try simp only [thenS, blockS])
          | (refine hK _ ?_; clear hK K)
          | (refine hK _ _ rfl ?_; clear hK K)
          | (refine CallK.toD (ds := [.agg [I64 d.me, .slc 8 (itemsD d.items), .slc 3 (ordersD d.orders)], .agg [I64 w.msg.seller, I64 w.msg.number]]) rfl (r65) rfl ?_)
          | (refine CallK.toD (ds := [.agg [I64 R.d.me, .slc 8 (itemsD R.d.items), .slc 3 (ordersD R.d.orders)], .agg [I64 w.msg.seller, I64 w.msg.number]]) rfl (r65b) rfl ?_)
          | (refine CallK.give (ds := [.agg [I64 d.me, .slc 8 (itemsD d.items), .slc 3 (ordersD d.orders), I64 d.far, nilD], .agg [I64 w.msg.kind, I64 w.msg.seller, I64 w.msg.number, I64 w.msg.buyer, I64 w.msg.currency, I64 w.msg.round, I64 w.msg.cycle, I64 w.msg.amount, .v (.bool w.msg.yes), w.msg.lines, w.msg.nets], I64 w.from']) rfl (r57) (by simp) ?_)
          | (refine CallG.off ?_)
          | (with_reducible refine Or.inl ?_)
          | (simp only [thenS, blockS])
          | (with_reducible refine And.intro ?_ ?_)
          | (with_reducible exact True.intro)
          | (simp (dsimp := false) only [↓opsP_nil, ↓opsP_cons, ↓opsD_nil, ↓opsD_cons, footOf, ↓opP, ↓stepP, ↓stepG, go_sem, reduceIte, Nat.reduceAdd, Nat.reduceMul, Nat.reduceEqDiff, Nat.reduceLT, Nat.reduceLeDiff, Nat.reduceSub, reduceCtorEq, Int.reduceToNat, Int.reduceAdd, Int.reduceSub, Int.reduceLT, Int.reduceLE, Int.reduceNeg, Int.reduceBEq, Int.reduceBNe, true_or, c1, hq]))
        all_goals (try (first | (intro hg; simp [hg]; done) | exact of_decide_eq_true rfl | (cases h; done)))
        (refine Fin.data (.inr rfl) (by simp (dsimp := false) only [↓opsP_nil, ↓opsP_cons, ↓opsD_nil, ↓opsD_cons, footOf, ↓opP, ↓stepP, ↓stepG, go_sem, reduceIte, Nat.reduceAdd, Nat.reduceMul, Nat.reduceEqDiff, Nat.reduceLT, Nat.reduceLeDiff, Nat.reduceSub, reduceCtorEq, Int.reduceToNat, Int.reduceAdd, Int.reduceSub, Int.reduceLT, Int.reduceLE, Int.reduceNeg, Int.reduceBEq, Int.reduceBNe, true_or, resL]; rfl) (by simp only [and_self]) (by simp (dsimp := false) only [↓opsP_nil, ↓opsP_cons, ↓opsD_nil, ↓opsD_cons, footOf, ↓opP, ↓stepP, ↓stepG, go_sem, reduceIte, Nat.reduceAdd, Nat.reduceMul, Nat.reduceEqDiff, Nat.reduceLT, Nat.reduceLeDiff, Nat.reduceSub, reduceCtorEq, Int.reduceToNat, Int.reduceAdd, Int.reduceSub, Int.reduceLT, Int.reduceLE, Int.reduceNeg, Int.reduceBEq, Int.reduceBNe, true_or, resP, Nat.le_refl, List.take_length]; try rfl) ?_)
        exact subD_refl _
      | false =>
        have hq2 := hq
        rw [Bool.or_eq_false_iff, Bool.or_eq_false_iff, beq_eq_false_iff_ne, beq_eq_false_iff_ne, Bool.not_eq_false'] at hq2
        have hne := hst hq2.1.1 hq2.1.2 hq2.2
        rw [hrf hne] at r57
        generalize (doR d w.msg w.from').e = e at *
        have n1 : (e != 0) = true := by simpa using hne
        have hin := hq2.1.1
        rw [hin] at r65 hq
        rw [Bool.not_true, Bool.false_or] at hq
        clear hst hrf hd2
        generalize getI d.items w.msg.seller w.msg.number = x at *
        simp only [outD, deskD, saidL, Option.toList, Desk.cells, Desk.book, Msg.d, Msg.cells, Item.d, Item.cells, List.cons_append, List.nil_append] at r57 r65
        repeat' (first
          | ((first | refine Pwp.step (kit _) rfl fun K hK => ?_ | refine Pwp.last (kit _) rfl fun K hK => ?_ | refine Pwp.stepD (kit _) rfl rfl fun K hK => ?_ | refine Pwp.lastD (kit _) rfl rfl fun K hK => ?_); simp (dsimp := false) only [↓opsP_nil, ↓opsP_cons, ↓opsD_nil, ↓opsD_cons, footOf, ↓opP, ↓stepP, ↓stepG, go_sem, reduceIte, Nat.reduceAdd, Nat.reduceMul, Nat.reduceEqDiff, Nat.reduceLT, Nat.reduceLeDiff, Nat.reduceSub, reduceCtorEq, Int.reduceToNat, Int.reduceAdd, Int.reduceSub, Int.reduceLT, Int.reduceLE, Int.reduceNeg, Int.reduceBEq, Int.reduceBNe, true_or, c1, hq, n1, beq_self_eq_true, Bool.and_self, Bool.false_or])
          | (refine Pwp.seq ?_)
          | (refine Pwp.block ?_)
          | (refine Pwp.exit ?_; simp only [thenS, blockS, if_true, if_false, reduceIte, Nat.reduceEqDiff, Nat.add_one_ne_zero, reduceCtorEq])
          | (refine Pwp.skip ?_; simp only [thenS, blockS])
          | (refine Pwp.cond rfl True.intro (fun h => ?_) (fun h => ?_) <;> (try (cases h; done)) <;> (try simp only [h]))
          | (refine Pwp.ret ?_; try simp only [thenS, blockS])
          | (refine hK _ ?_; clear hK K)
          | (refine hK _ _ rfl ?_; clear hK K)
          | (refine CallK.toD (ds := [.agg [I64 d.me, .slc 8 (itemsD d.items), .slc 3 (ordersD d.orders)], .agg [I64 w.msg.seller, I64 w.msg.number]]) rfl (r65) rfl ?_)
          | (refine CallK.give (ds := [.agg [I64 d.me, .slc 8 (itemsD d.items), .slc 3 (ordersD d.orders), I64 d.far, nilD], .agg [I64 w.msg.kind, I64 w.msg.seller, I64 w.msg.number, I64 w.msg.buyer, I64 w.msg.currency, I64 w.msg.round, I64 w.msg.cycle, I64 w.msg.amount, .v (.bool w.msg.yes), w.msg.lines, w.msg.nets], I64 w.from']) rfl (r57) (by simp) ?_)
          | (refine CallG.off ?_)
          | (with_reducible refine Or.inl ?_)
          | (simp only [thenS, blockS])
          | (with_reducible refine And.intro ?_ ?_)
          | (with_reducible exact True.intro)
          | (simp (dsimp := false) only [↓opsP_nil, ↓opsP_cons, ↓opsD_nil, ↓opsD_cons, footOf, ↓opP, ↓stepP, ↓stepG, go_sem, reduceIte, Nat.reduceAdd, Nat.reduceMul, Nat.reduceEqDiff, Nat.reduceLT, Nat.reduceLeDiff, Nat.reduceSub, reduceCtorEq, Int.reduceToNat, Int.reduceAdd, Int.reduceSub, Int.reduceLT, Int.reduceLE, Int.reduceNeg, Int.reduceBEq, Int.reduceBNe, true_or, c1, hq, n1, beq_self_eq_true, Bool.and_self, Bool.false_or]))
        all_goals (try (first | (intro hg; simp [hg]; done) | exact of_decide_eq_true rfl | (cases h; done)))
        (refine Fin.data (.inr rfl) (by simp (dsimp := false) only [↓opsP_nil, ↓opsP_cons, ↓opsD_nil, ↓opsD_cons, footOf, ↓opP, ↓stepP, ↓stepG, go_sem, reduceIte, Nat.reduceAdd, Nat.reduceMul, Nat.reduceEqDiff, Nat.reduceLT, Nat.reduceLeDiff, Nat.reduceSub, reduceCtorEq, Int.reduceToNat, Int.reduceAdd, Int.reduceSub, Int.reduceLT, Int.reduceLE, Int.reduceNeg, Int.reduceBEq, Int.reduceBNe, true_or, resL]; rfl) (by simp only [and_self]) (by simp (dsimp := false) only [↓opsP_nil, ↓opsP_cons, ↓opsD_nil, ↓opsD_cons, footOf, ↓opP, ↓stepP, ↓stepG, go_sem, reduceIte, Nat.reduceAdd, Nat.reduceMul, Nat.reduceEqDiff, Nat.reduceLT, Nat.reduceLeDiff, Nat.reduceSub, reduceCtorEq, Int.reduceToNat, Int.reduceAdd, Int.reduceSub, Int.reduceLT, Int.reduceLE, Int.reduceNeg, Int.reduceBEq, Int.reduceBNe, true_or, resP, Nat.le_refl, List.take_length]; try rfl) ?_)
        exact subD_refl _

end Go.Proofs.Ytdodgbhodkcckaa.Pv
