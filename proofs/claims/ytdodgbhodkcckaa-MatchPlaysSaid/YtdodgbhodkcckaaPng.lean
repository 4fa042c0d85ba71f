/- Walks of matching: the statement that a desk plays as the document says. -/
import Derived.Test.YtdodgbhodkcckaaPnf
set_option linter.unusedVariables false
set_option linter.unusedSimpArgs false
set_option autoImplicit false
set_option maxRecDepth 100000
namespace Go.Proofs.Ytdodgbhodkcckaa.Pv
open Go Go.RowKit

def L14 (ws : List Word) (d : Desk) (w : RDesk) (i : Nat) : St := ⟨[(48, pint .i64 i), (47, pint .i64 ws.length), (46, .d (.slc 12 (wordsD ws))), (9, .ref 127 0), (7, .ref 86 0)],
  [(86, .box [.d (I64 d.me), .d (.slc 8 (itemsD d.items)), .d (.slc 3 (ordersD d.orders)), .d (I64 d.far), .d nilD]), (127, .box [.d (I64 w.me), .d (I64 w.far), .d (.slc 8 (itemsD w.items)), .d (.slc 3 (ordersD w.orders))])], 156⟩
set_option maxHeartbeats 32000000 in
theorem run14 (me far : Int) (ws : List Word) (hf : In64 far) (hws : ∀ x ∈ ws, In64 x.msg.amount) (hnu : ∀ x ∈ ws, In64 x.msg.number) (hone : ∀ x ∈ ws, D.one x.msg.lines = true ∧ D.one x.msg.nets = true) : Runs Try.prog 14 [pint .i64 me, pint .i64 far, .d (.slc 12 (wordsD ws))] [] (pbool true) [] := by
  have hlen := words_len ws
  have r55 := run55
  cases hc : (((decide (me < 0) || decide (7 < me)) || decide (60 < (ws.length : Int))) || decide (far < 0)) with
  | true =>
    refine Runs.of (kit Try.prog) Try.func14 rfl rfl (by rw [Try.ntmps14]; exact of_decide_eq_true rfl) ?_; rw [Try.ntmps14, Try.results14]
    repeat' (first
      | ((first | refine Pwp.step (kit _) rfl fun K hK => ?_ | refine Pwp.last (kit _) rfl fun K hK => ?_ | refine Pwp.stepD (kit _) rfl rfl fun K hK => ?_ | refine Pwp.lastD (kit _) rfl rfl fun K hK => ?_); simp (dsimp := false) only [↓opsP_nil, ↓opsP_cons, ↓opsD_nil, ↓opsD_cons, ↓opP, ↓stepP, ↓stepG, go_sem, hlen, hc])
      | (refine Pwp.seq ?_)
      | (refine Pwp.block ?_)
      | (refine Pwp.exit ?_; simp only [thenS, blockS, if_true, if_false, reduceIte, Nat.reduceEqDiff, Nat.add_one_ne_zero, reduceCtorEq])
      | (refine Pwp.skip ?_; simp only [thenS, blockS])
      | (refine Pwp.cond rfl True.intro (fun h => ?_) (fun h => ?_) <;> (try (cases h; done)) <;> (try simp only [h]))
      | (refine Pwp.ret ?_; try simp only [thenS, blockS])
      | (refine hK _ ?_; clear hK K)
      | (refine hK _ _ rfl ?_; clear hK K)
      | (refine CallK.toD (ds := []) rfl (r55) rfl ?_)
      | (refine CallG.off ?_)
      | (with_reducible refine Or.inl ?_)
      | (simp only [thenS, blockS])
      | (with_reducible refine And.intro ?_ ?_)
      | (with_reducible exact True.intro)
      | (simp (dsimp := false) only [↓opsP_nil, ↓opsP_cons, ↓opsD_nil, ↓opsD_cons, ↓opP, ↓stepP, ↓stepG, go_sem, hlen, hc]))
    all_goals (try (first | (intro hg; simp [hg]; done) | exact of_decide_eq_true rfl | (cases h; done)))
    (refine Fin.data (.inr rfl) (by simp (dsimp := false) only [↓opsP_nil, ↓opsP_cons, ↓opsD_nil, ↓opsD_cons, ↓opP, ↓stepP, ↓stepG, go_sem, resL]; rfl) (by simp only [and_self]) (by simp (dsimp := false) only [↓opsP_nil, ↓opsP_cons, ↓opsD_nil, ↓opsD_cons, ↓opP, ↓stepP, ↓stepG, go_sem, resP, Nat.le_refl, List.take_length]; try rfl) ?_)
    exact subD_refl _
  | false =>
    have hc2 := hc
    simp only [Bool.or_eq_false_iff, decide_eq_false_iff_not] at hc2
    obtain ⟨⟨⟨h1, h2⟩, h3⟩, h4⟩ := hc2
    have r0 := run56 me far (by omega)
    simp only [deskD, desk0, Desk.cells, Desk.book, List.cons_append, List.nil_append] at r0
    refine Runs.of (kit Try.prog) Try.func14 rfl rfl (by rw [Try.ntmps14]; exact of_decide_eq_true rfl) ?_; rw [Try.ntmps14, Try.results14]
    repeat' (first
      | ((first | refine Pwp.step (kit _) rfl fun K hK => ?_ | refine Pwp.last (kit _) rfl fun K hK => ?_ | refine Pwp.stepD (kit _) rfl rfl fun K hK => ?_ | refine Pwp.lastD (kit _) rfl rfl fun K hK => ?_); simp (dsimp := false) only [↓opsP_nil, ↓opsP_cons, ↓opsD_nil, ↓opsD_cons, ↓opP, ↓stepP, ↓stepG, go_sem, hlen, hc, Bool.not_true])
      | (refine Pwp.seq ?_)
      | (refine Pwp.block ?_)
      | (refine Pwp.exit ?_; simp only [thenS, blockS, if_true, if_false, reduceIte, Nat.reduceEqDiff, Nat.add_one_ne_zero, reduceCtorEq])
      | (refine Pwp.skip ?_; simp only [thenS, blockS])
      | (refine Pwp.cond rfl True.intro (fun h => ?_) (fun h => ?_) <;> (try (cases h; done)) <;> (try simp only [h]))
      | (refine Pwp.ret ?_; try simp only [thenS, blockS])
      | (refine hK _ ?_; clear hK K)
      | (refine hK _ _ rfl ?_; clear hK K)
      | (refine CallK.toD (ds := []) rfl (r55) rfl ?_)
      | (refine CallK.give (ds := [I64 me, I64 far]) rfl (r0) (by simp) ?_)
      | (refine CallG.off ?_)
      | (with_reducible refine Or.inl ?_)
      | (simp only [thenS, blockS])
      | (with_reducible refine And.intro ?_ ?_)
      | (with_reducible exact True.intro)
      | (simp (dsimp := false) only [↓opsP_nil, ↓opsP_cons, ↓opsD_nil, ↓opsD_cons, ↓opP, ↓stepP, ↓stepG, go_sem, hlen, hc, Bool.not_true]))
    all_goals (try (first | (intro hg; simp [hg]; done) | exact of_decide_eq_true rfl | (cases h; done)))
    refine Pwp.rangeI ws.length (fun i s => ∃ d w, At14 d w i ∧ s = L14 ws d w i) (s0 := L14 ws (desk0 me far) ⟨me, far, [], []⟩ 0) (Sub.view V0 (by simp [L14]) rfl (by simp [viewH, viewP, viewL, viewO, V0, V9, V9n, VR, VN, keptOf, find, PVal.toD, subD, subL, subV, subD_refl, viewL_ds, disj, PVal.ids, pnil, List.range, List.range.loop, L14, desk0, itemsD, ordersD]) (by simp [viewT, St.ev, viewH, viewP, viewL, viewO, V0, V9, V9n, VR, VN, keptOf, find, PVal.toD, subD, subL, subV, subD_refl, viewL_ds, disj, PVal.ids, pnil, List.range, List.range.loop, L14, desk0, itemsD, ordersD])) ⟨_, _, at_start hf, rfl⟩ ?_ ?_
    · rintro i s hi ⟨d, w, ha, rfl⟩
      obtain ⟨x, hx, hm⟩ := at_lt hi
      have hg := words_get hx
      have c1 := dlt hi
      have w1 := wrap_succ (i := i) (by omega)
      obtain ⟨ok1, ok2⟩ := at_ok ha (by omega)
      have r57 := run57 d ok1 x.msg (hws x hm) x.from'
      have r58 := run58 w ok2 x.msg x.from'
      obtain ⟨q1, q2, q3⟩ := at_next ha (by omega) (hnu x hm) x.from'
      have r60 := run60r q3 (by omega)
      have r59 := run59o (do_fa d x.msg x.from').s
      have ho := hone x hm
      generalize doR d x.msg x.from' = R at *
      generalize rDo w x.msg x.from' = S at *
      obtain ⟨re, rd, ro⟩ := R
      obtain ⟨se, sd, so⟩ := S
      simp only at q1 q2 q3 r59 r60
      subst q1 q2
      simp only [outD, rOutD, deskD, saidL, Desk.cells, Desk.book, RDesk.d, RDesk.cells, Msg.d, Msg.cells, List.cons_append, List.nil_append] at r57 r58 r60
      unfold L14
      repeat' (first
        | ((first | refine Pwp.step (kit _) rfl fun K hK => ?_ | refine Pwp.last (kit _) rfl fun K hK => ?_ | refine Pwp.stepD (kit _) rfl rfl fun K hK => ?_ | refine Pwp.lastD (kit _) rfl rfl fun K hK => ?_); simp (dsimp := false) only [↓opsP_nil, ↓opsP_cons, ↓opsD_nil, ↓opsD_cons, ↓opP, ↓stepP, ↓stepG, go_sem, hg, c1, w1, bne_self_eq_false, Bool.not_true, Bool.or_self])
        | (refine Pwp.seq ?_)
        | (refine Pwp.block ?_)
        | (refine Pwp.exit ?_; simp only [thenS, blockS, if_true, if_false, reduceIte, Nat.reduceEqDiff, Nat.add_one_ne_zero, reduceCtorEq])
        | (refine Pwp.skip ?_; simp only [thenS, blockS])
        | (refine Pwp.cond rfl True.intro (fun h => ?_) (fun h => ?_) <;> (try (cases h; done)) <;> (try simp only [h]))
        | (refine Pwp.ret ?_; try simp only [thenS, blockS])
        | (refine hK _ ?_; clear hK K)
        | (refine hK _ _ rfl ?_; clear hK K)
        | (refine CallK.give (ds := [.agg [I64 d.me, .slc 8 (itemsD d.items), .slc 3 (ordersD d.orders), I64 d.far, nilD], .agg [I64 x.msg.kind, I64 x.msg.seller, I64 x.msg.number, I64 x.msg.buyer, I64 x.msg.currency, I64 x.msg.round, I64 x.msg.cycle, I64 x.msg.amount, .v (.bool x.msg.yes), x.msg.lines, x.msg.nets], I64 x.from']) rfl (r57) (by simp) ?_)
        | (refine CallK.give (ds := [.agg [I64 w.me, I64 w.far, .slc 8 (itemsD w.items), .slc 3 (ordersD w.orders)], .agg [I64 x.msg.kind, I64 x.msg.seller, I64 x.msg.number, I64 x.msg.buyer, I64 x.msg.currency, I64 x.msg.round, I64 x.msg.cycle, I64 x.msg.amount, .v (.bool x.msg.yes), x.msg.lines, x.msg.nets], I64 x.from']) rfl (r58) (by simp) ?_)
        | (refine CallG.toD (ds := [.slc 12 ro.toList, .slc 12 ro.toList]) rfl (r59) rfl ?_ ?_)
        | (refine CallG.toD (ds := [.agg [I64 rd.me, .slc 8 (itemsD rd.items), .slc 3 (ordersD rd.orders), I64 rd.far, nilD], .agg [I64 sd.me, I64 sd.far, .slc 8 (itemsD sd.items), .slc 3 (ordersD sd.orders)]]) rfl (r60) rfl ?_ ?_)
        | (refine CallG.off ?_)
        | (with_reducible refine Or.inl ?_)
        | (simp only [thenS, blockS])
        | (with_reducible refine And.intro ?_ ?_)
        | (with_reducible exact True.intro)
        | (simp (dsimp := false) only [↓opsP_nil, ↓opsP_cons, ↓opsD_nil, ↓opsD_cons, ↓opP, ↓stepP, ↓stepG, go_sem, hg, c1, w1, bne_self_eq_false, Bool.not_true, Bool.or_self]))
      all_goals (try (first | (intro hg; simp [hg]; done) | exact of_decide_eq_true rfl | (cases h; done)))
      all_goals (try (rw [Bool.and_eq_true]; exact ho))
      exact ⟨L14 ws rd sd (i + 1), Sub.view V0 (by simp [L14]) rfl (by simp [viewH, viewP, viewL, viewO, V0, V9, V9n, VR, VN, keptOf, find, PVal.toD, subD, subL, subV, subD_refl, viewL_ds, disj, PVal.ids, pnil, List.range, List.range.loop, L14]) (by simp [viewT, St.ev, viewH, viewP, viewL, viewO, V0, V9, V9n, VR, VN, keptOf, find, PVal.toD, subD, subL, subV, subD_refl, viewL_ds, disj, PVal.ids, pnil, List.range, List.range.loop, L14]), rd, sd, q3, rfl⟩
    · rintro s ⟨d, w, ha, rfl⟩
      have c1 := dge (Nat.le_refl ws.length)
      unfold L14
      repeat' (first
        | ((first | refine Pwp.step (kit _) rfl fun K hK => ?_ | refine Pwp.last (kit _) rfl fun K hK => ?_ | refine Pwp.stepD (kit _) rfl rfl fun K hK => ?_ | refine Pwp.lastD (kit _) rfl rfl fun K hK => ?_); simp (dsimp := false) only [↓opsP_nil, ↓opsP_cons, ↓opsD_nil, ↓opsD_cons, ↓opP, ↓stepP, ↓stepG, go_sem, c1])
        | (refine Pwp.seq ?_)
        | (refine Pwp.block ?_)
        | (refine Pwp.exit ?_; simp only [thenS, blockS, if_true, if_false, reduceIte, Nat.reduceEqDiff, Nat.add_one_ne_zero, reduceCtorEq])
        | (refine Pwp.skip ?_; simp only [thenS, blockS])
        | (refine Pwp.cond rfl True.intro (fun h => ?_) (fun h => ?_) <;> (try (cases h; done)) <;> (try simp only [h]))
        | (refine Pwp.ret ?_; try simp only [thenS, blockS])
        | (refine hK _ ?_; clear hK K)
        | (refine hK _ _ rfl ?_; clear hK K)
        | (refine CallG.off ?_)
        | (with_reducible refine Or.inl ?_)
        | (simp only [thenS, blockS])
        | (with_reducible refine And.intro ?_ ?_)
        | (with_reducible exact True.intro)
        | (simp (dsimp := false) only [↓opsP_nil, ↓opsP_cons, ↓opsD_nil, ↓opsD_cons, ↓opP, ↓stepP, ↓stepG, go_sem, c1]))
      all_goals (try (first | (intro hg; simp [hg]; done) | exact of_decide_eq_true rfl | (cases h; done)))
      (refine Fin.data (.inr rfl) (by simp (dsimp := false) only [↓opsP_nil, ↓opsP_cons, ↓opsD_nil, ↓opsD_cons, ↓opP, ↓stepP, ↓stepG, go_sem, resL]; rfl) (by simp only [and_self]) (by simp (dsimp := false) only [↓opsP_nil, ↓opsP_cons, ↓opsD_nil, ↓opsD_cons, ↓opP, ↓stepP, ↓stepG, go_sem, resP, Nat.le_refl, List.take_length]; try rfl) ?_)
      exact subD_refl _

end Go.Proofs.Ytdodgbhodkcckaa.Pv
