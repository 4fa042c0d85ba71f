/- Walks of matching, the document's answer: what clients say. -/
import Derived.Test.YtdodgbhodkcckaaPms
set_option linter.unusedVariables false
set_option linter.unusedSimpArgs false
set_option autoImplicit false
set_option maxRecDepth 100000
namespace Go.Proofs.Ytdodgbhodkcckaa.Pv
open Go Go.RowKit

def rMine (d : RDesk) (m : Msg) : Int := if d.has m.seller m.number = false then 4 else if (d.got m.seller m.number).seller ≠ d.me then 140 else if m.kind = 16 ∧ (d.got m.seller m.number).round ≠ m.round then 90 else 0
def rAdjust (d : RDesk) (m : Msg) : ROut := if rMine d m ≠ 0 then ⟨rMine d m, d, none⟩ else if adjE (d.got m.seller m.number) m.amount ≠ 0 then ⟨adjE (d.got m.seller m.number) m.amount, d, none⟩ else ⟨0, d.keep (adjI (d.got m.seller m.number) m.amount), some (saidD (adjI (d.got m.seller m.number) m.amount).buyer (about 6 (adjI (d.got m.seller m.number) m.amount)))⟩
def rGive (d : RDesk) (m : Msg) : ROut := if rMine d m ≠ 0 then ⟨rMine d m, d, none⟩ else if stepE (d.got m.seller m.number) 2 ≠ 0 then ⟨stepE (d.got m.seller m.number) 2, d, none⟩ else ⟨0, d.keep (stepI (d.got m.seller m.number) 2 4), some (saidD (stepI (d.got m.seller m.number) 2 4).buyer (about 9 (stepI (d.got m.seller m.number) 2 4)))⟩
def rIssue (d : RDesk) (m : Msg) : ROut := if m.seller ≠ d.me then ⟨140, d, none⟩ else if d.has m.seller m.number = true then ⟨5, d, none⟩ else if chk (newI m.seller m.number m.buyer m.currency m.amount 0) ≠ 0 then ⟨chk (newI m.seller m.number m.buyer m.currency m.amount 0), d, none⟩
  else ⟨0, d.keep (newI m.seller m.number m.buyer m.currency m.amount 0), some (saidD m.buyer (about 6 (newI m.seller m.number m.buyer m.currency m.amount 0)))⟩

set_option maxHeartbeats 32000000 in
theorem run119_3 (d : RDesk) (m : Msg) (hk : m.kind = 3) (hl : d.items.length ≤ 100000) (hr : ∀ x ∈ d.items, 0 ≤ x.round ∧ x.round ≤ 3) : Runs Try.prog 119 [.d d.d, .d m.d] [] (.d (rOutD (rAdjust d m))) [] := by
  obtain ⟨mk, ms, mn, mb, mc, mr, my, ma, mq, ml, mt⟩ := m
  simp only at hk
  subst hk
  have r181 := run181 d ms mn hl
  rcases fnd_at ms mn d.items 0 with ⟨h1, _⟩ | ⟨k, x, h1, h2, h3⟩
  · rw [h1] at r181
    have hA : rMine d ⟨3, ms, mn, mb, mc, mr, my, ma, mq, ml, mt⟩ = 4 := by
      unfold rMine
      simp only [has_none h1]
      rw [if_pos True.intro]
    unfold rAdjust
    simp only [hA]
    rw [if_pos (by simp)]
    simp only [rOutD, RDesk.d, RDesk.cells, saidD, about, Msg.d, Msg.cells, Item.d, Item.cells, Option.toList, List.cons_append, List.nil_append] at *
    refine Runs.of (kit Try.prog) Try.func119 rfl rfl (by rw [Try.ntmps119]; exact of_decide_eq_true rfl) ?_; rw [Try.ntmps119, Try.results119]
    repeat' (first
      | ((first | refine Pwp.step (kit _) rfl fun K hK => ?_ | refine Pwp.last (kit _) rfl fun K hK => ?_ | refine Pwp.stepD (kit _) rfl rfl fun K hK => ?_ | refine Pwp.lastD (kit _) rfl rfl fun K hK => ?_); simp (dsimp := false) only [↓opsP_nil, ↓opsP_cons, ↓opsD_nil, ↓opsD_cons, ↓opP, ↓stepP, ↓stepG, go_sem, Bool.false_and, Bool.true_and, Bool.false_or, Bool.or_false, Bool.and_false, bne_self_eq_false])
      | (refine Pwp.seq ?_)
      | (refine Pwp.block ?_)
      | (refine Pwp.exit ?_; simp only [thenS, blockS, if_true, if_false, reduceIte, Nat.reduceEqDiff, Nat.add_one_ne_zero, reduceCtorEq])
      | (refine Pwp.skip ?_; simp only [thenS, blockS])
      | (refine Pwp.cond rfl True.intro (fun h => ?_) (fun h => ?_) <;> (try (cases h; done)) <;> (try simp only [h]))
      | (refine Pwp.ret ?_; try simp only [thenS, blockS])
      | (refine hK _ ?_; clear hK K)
      | (refine hK _ _ rfl ?_; clear hK K)
      | (refine CallK.toD (ds := [.agg [I64 d.me, I64 d.far, .slc 8 (itemsD d.items), .slc 3 (ordersD d.orders)], .agg [I64 ms, I64 mn]]) rfl (r181) rfl ?_)
      | (refine CallG.off ?_)
      | (with_reducible refine Or.inl ?_)
      | (simp only [thenS, blockS])
      | (with_reducible refine And.intro ?_ ?_)
      | (with_reducible exact True.intro)
      | (simp (dsimp := false) only [↓opsP_nil, ↓opsP_cons, ↓opsD_nil, ↓opsD_cons, ↓opP, ↓stepP, ↓stepG, go_sem, Bool.false_and, Bool.true_and, Bool.false_or, Bool.or_false, Bool.and_false, bne_self_eq_false]))
    all_goals (try (first | (intro hg; simp [hg]; done) | exact of_decide_eq_true rfl | (cases h; done)))
    (refine Fin.data (.inr rfl) (by simp (dsimp := false) only [↓opsP_nil, ↓opsP_cons, ↓opsD_nil, ↓opsD_cons, ↓opP, ↓stepP, ↓stepG, go_sem, resL]; rfl) (by simp only [and_self]) (by simp (dsimp := false) only [↓opsP_nil, ↓opsP_cons, ↓opsD_nil, ↓opsD_cons, ↓opP, ↓stepP, ↓stepG, go_sem, resP, Nat.le_refl, List.take_length]; try rfl) ?_)
    simp [subD, subL, subV, subD_refl]
  · obtain ⟨e1, e2⟩ := has_some h1 h2
    rw [h1, Nat.zero_add] at r181
    have c0 : decide ((k : Int) < 0) = false := by rw [decide_eq_false_iff_not]; omega
    have hg := items_get8 h2
    have ht := Int.toNat_natCast k
    have p0 : (0 : Int) ≤ (k : Int) := by omega
    have hrx := hr x (List.mem_of_getElem? h2)
    have r184 := run184 x 4 ma (by simp) hrx
    rw [show actI x 4 ma = adjI x ma from rfl, show actE x 4 ma = adjE x ma from rfl] at r184
    have r121 := run121 d (adjI x ma) hl
    have r183 := run183 (adjI x ma).buyer 6 (adjI x ma)
    clear hr h1
    by_cases h3 : x.seller = d.me
    · have c1 : (x.seller != d.me) = false := by simp [h3]
      have hA : rMine d ⟨3, ms, mn, mb, mc, mr, my, ma, mq, ml, mt⟩ = 0 := by
        unfold rMine
        simp only [e1, e2]
        rw [if_neg (by simp), if_neg (by simpa using h3), if_neg (by simp)]
      unfold rAdjust
      simp only [hA, e2]
      rw [if_neg (by simp)]
      by_cases h5 : adjE x ma = 0
      · rw [h5] at r184
        rw [if_neg (by simpa using h5)]
        generalize adjI x ma = y at *
        generalize d.keep y = d2 at *
        simp only [rOutD, RDesk.d, RDesk.cells, saidD, about, Msg.d, Msg.cells, Item.d, Item.cells, Option.toList, List.cons_append, List.nil_append] at *
        refine Runs.of (kit Try.prog) Try.func119 rfl rfl (by rw [Try.ntmps119]; exact of_decide_eq_true rfl) ?_; rw [Try.ntmps119, Try.results119]
        repeat' (first
          | ((first | refine Pwp.step (kit _) rfl fun K hK => ?_ | refine Pwp.last (kit _) rfl fun K hK => ?_ | refine Pwp.stepD (kit _) rfl rfl fun K hK => ?_ | refine Pwp.lastD (kit _) rfl rfl fun K hK => ?_); simp (dsimp := false) only [↓opsP_nil, ↓opsP_cons, ↓opsD_nil, ↓opsD_cons, ↓opP, ↓stepP, ↓stepG, go_sem, c0, hg, ht, p0, c1, Bool.false_and, Bool.true_and, Bool.false_or, Bool.or_false, Bool.and_false, bne_self_eq_false])
          | (refine Pwp.seq ?_)
          | (refine Pwp.block ?_)
          | (refine Pwp.exit ?_; simp only [thenS, blockS, if_true, if_false, reduceIte, Nat.reduceEqDiff, Nat.add_one_ne_zero, reduceCtorEq])
          | (refine Pwp.skip ?_; simp only [thenS, blockS])
          | (refine Pwp.cond rfl True.intro (fun h => ?_) (fun h => ?_) <;> (try (cases h; done)) <;> (try simp only [h]))
          | (refine Pwp.ret ?_; try simp only [thenS, blockS])
          | (refine hK _ ?_; clear hK K)
          | (refine hK _ _ rfl ?_; clear hK K)
          | (refine CallK.toD (ds := [.agg [I64 d.me, I64 d.far, .slc 8 (itemsD d.items), .slc 3 (ordersD d.orders)], .agg [I64 ms, I64 mn]]) rfl (r181) rfl ?_)
          | (refine CallK.toD (ds := [.agg [I64 x.seller, I64 x.number, I64 x.buyer, I64 x.currency, I64 x.amount, I64 x.round, I64 x.state, I64 x.cycle], I64 4, I64 ma]) rfl (r184) rfl ?_)
          | (refine CallK.give (ds := [.agg [I64 d.me, I64 d.far, .slc 8 (itemsD d.items), .slc 3 (ordersD d.orders)], .agg [I64 y.seller, I64 y.number, I64 y.buyer, I64 y.currency, I64 y.amount, I64 y.round, I64 y.state, I64 y.cycle]]) rfl (r121) (by simp) ?_)
          | (refine CallK.give (ds := [I64 y.buyer, I64 6, .agg [I64 y.seller, I64 y.number, I64 y.buyer, I64 y.currency, I64 y.amount, I64 y.round, I64 y.state, I64 y.cycle]]) rfl (r183) (by simp) ?_)
          | (refine CallG.off ?_)
          | (with_reducible refine Or.inl ?_)
          | (simp only [thenS, blockS])
          | (with_reducible refine And.intro ?_ ?_)
          | (with_reducible exact True.intro)
          | (simp (dsimp := false) only [↓opsP_nil, ↓opsP_cons, ↓opsD_nil, ↓opsD_cons, ↓opP, ↓stepP, ↓stepG, go_sem, c0, hg, ht, p0, c1, Bool.false_and, Bool.true_and, Bool.false_or, Bool.or_false, Bool.and_false, bne_self_eq_false]))
        all_goals (try (first | (intro hg; simp [hg]; done) | exact of_decide_eq_true rfl | (cases h; done)))
        (refine Fin.data (.inr rfl) (by simp (dsimp := false) only [↓opsP_nil, ↓opsP_cons, ↓opsD_nil, ↓opsD_cons, ↓opP, ↓stepP, ↓stepG, go_sem, resL]; rfl) (by simp only [and_self]) (by simp (dsimp := false) only [↓opsP_nil, ↓opsP_cons, ↓opsD_nil, ↓opsD_cons, ↓opP, ↓stepP, ↓stepG, go_sem, resP, Nat.le_refl, List.take_length]; try rfl) ?_)
        simp [subD, subL, subV, subD_refl]
      · rw [if_pos h5]
        have n1 : (adjE x ma != 0) = true := by simpa using h5
        generalize adjE x ma = e at *
        simp only [rOutD, RDesk.d, RDesk.cells, saidD, about, Msg.d, Msg.cells, Item.d, Item.cells, Option.toList, List.cons_append, List.nil_append] at *
        refine Runs.of (kit Try.prog) Try.func119 rfl rfl (by rw [Try.ntmps119]; exact of_decide_eq_true rfl) ?_; rw [Try.ntmps119, Try.results119]
        repeat' (first
          | ((first | refine Pwp.step (kit _) rfl fun K hK => ?_ | refine Pwp.last (kit _) rfl fun K hK => ?_ | refine Pwp.stepD (kit _) rfl rfl fun K hK => ?_ | refine Pwp.lastD (kit _) rfl rfl fun K hK => ?_); simp (dsimp := false) only [↓opsP_nil, ↓opsP_cons, ↓opsD_nil, ↓opsD_cons, ↓opP, ↓stepP, ↓stepG, go_sem, c0, hg, ht, p0, c1, n1, Bool.false_and, Bool.true_and, Bool.false_or, Bool.or_false, Bool.and_false, bne_self_eq_false])
          | (refine Pwp.seq ?_)
          | (refine Pwp.block ?_)
          | (refine Pwp.exit ?_; simp only [thenS, blockS, if_true, if_false, reduceIte, Nat.reduceEqDiff, Nat.add_one_ne_zero, reduceCtorEq])
          | (refine Pwp.skip ?_; simp only [thenS, blockS])
          | (refine Pwp.cond rfl True.intro (fun h => ?_) (fun h => ?_) <;> (try (cases h; done)) <;> (try simp only [h]))
          | (refine Pwp.ret ?_; try simp only [thenS, blockS])
          | (refine hK _ ?_; clear hK K)
          | (refine hK _ _ rfl ?_; clear hK K)
          | (refine CallK.toD (ds := [.agg [I64 d.me, I64 d.far, .slc 8 (itemsD d.items), .slc 3 (ordersD d.orders)], .agg [I64 ms, I64 mn]]) rfl (r181) rfl ?_)
          | (refine CallK.toD (ds := [.agg [I64 x.seller, I64 x.number, I64 x.buyer, I64 x.currency, I64 x.amount, I64 x.round, I64 x.state, I64 x.cycle], I64 4, I64 ma]) rfl (r184) rfl ?_)
          | (refine CallG.off ?_)
          | (with_reducible refine Or.inl ?_)
          | (simp only [thenS, blockS])
          | (with_reducible refine And.intro ?_ ?_)
          | (with_reducible exact True.intro)
          | (simp (dsimp := false) only [↓opsP_nil, ↓opsP_cons, ↓opsD_nil, ↓opsD_cons, ↓opP, ↓stepP, ↓stepG, go_sem, c0, hg, ht, p0, c1, n1, Bool.false_and, Bool.true_and, Bool.false_or, Bool.or_false, Bool.and_false, bne_self_eq_false]))
        all_goals (try (first | (intro hg; simp [hg]; done) | exact of_decide_eq_true rfl | (cases h; done)))
        (refine Fin.data (.inr rfl) (by simp (dsimp := false) only [↓opsP_nil, ↓opsP_cons, ↓opsD_nil, ↓opsD_cons, ↓opP, ↓stepP, ↓stepG, go_sem, resL]; rfl) (by simp only [and_self]) (by simp (dsimp := false) only [↓opsP_nil, ↓opsP_cons, ↓opsD_nil, ↓opsD_cons, ↓opP, ↓stepP, ↓stepG, go_sem, resP, Nat.le_refl, List.take_length]; try rfl) ?_)
        simp [subD, subL, subV, subD_refl]
    · have c1 : (x.seller != d.me) = true := by simpa using h3
      have hA : rMine d ⟨3, ms, mn, mb, mc, mr, my, ma, mq, ml, mt⟩ = 140 := by
        unfold rMine
        simp only [e1, e2]
        rw [if_neg (by simp), if_pos h3]
      unfold rAdjust
      simp only [hA, e2]
      rw [if_pos (by simp)]
      simp only [rOutD, RDesk.d, RDesk.cells, saidD, about, Msg.d, Msg.cells, Item.d, Item.cells, Option.toList, List.cons_append, List.nil_append] at *
      refine Runs.of (kit Try.prog) Try.func119 rfl rfl (by rw [Try.ntmps119]; exact of_decide_eq_true rfl) ?_; rw [Try.ntmps119, Try.results119]
      repeat' (first
        | ((first | refine Pwp.step (kit _) rfl fun K hK => ?_ | refine Pwp.last (kit _) rfl fun K hK => ?_ | refine Pwp.stepD (kit _) rfl rfl fun K hK => ?_ | refine Pwp.lastD (kit _) rfl rfl fun K hK => ?_); simp (dsimp := false) only [↓opsP_nil, ↓opsP_cons, ↓opsD_nil, ↓opsD_cons, ↓opP, ↓stepP, ↓stepG, go_sem, c0, hg, ht, p0, c1, Bool.false_and, Bool.true_and, Bool.false_or, Bool.or_false, Bool.and_false, bne_self_eq_false])
        | (refine Pwp.seq ?_)
        | (refine Pwp.block ?_)
        | (refine Pwp.exit ?_; simp only [thenS, blockS, if_true, if_false, reduceIte, Nat.reduceEqDiff, Nat.add_one_ne_zero, reduceCtorEq])
        | (refine Pwp.skip ?_; simp only [thenS, blockS])
        | (refine Pwp.cond rfl True.intro (fun h => ?_) (fun h => ?_) <;> (try (cases h; done)) <;> (try simp only [h]))
        | (refine Pwp.ret ?_; try simp only [thenS, blockS])
        | (refine hK _ ?_; clear hK K)
        | (refine hK _ _ rfl ?_; clear hK K)
        | (refine CallK.toD (ds := [.agg [I64 d.me, I64 d.far, .slc 8 (itemsD d.items), .slc 3 (ordersD d.orders)], .agg [I64 ms, I64 mn]]) rfl (r181) rfl ?_)
        | (refine CallK.toD (ds := [.agg [I64 x.seller, I64 x.number, I64 x.buyer, I64 x.currency, I64 x.amount, I64 x.round, I64 x.state, I64 x.cycle], I64 4, I64 ma]) rfl (r184) rfl ?_)
        | (refine CallG.off ?_)
        | (with_reducible refine Or.inl ?_)
        | (simp only [thenS, blockS])
        | (with_reducible refine And.intro ?_ ?_)
        | (with_reducible exact True.intro)
        | (simp (dsimp := false) only [↓opsP_nil, ↓opsP_cons, ↓opsD_nil, ↓opsD_cons, ↓opP, ↓stepP, ↓stepG, go_sem, c0, hg, ht, p0, c1, Bool.false_and, Bool.true_and, Bool.false_or, Bool.or_false, Bool.and_false, bne_self_eq_false]))
      all_goals (try (first | (intro hg; simp [hg]; done) | exact of_decide_eq_true rfl | (cases h; done)))
      (refine Fin.data (.inr rfl) (by simp (dsimp := false) only [↓opsP_nil, ↓opsP_cons, ↓opsD_nil, ↓opsD_cons, ↓opP, ↓stepP, ↓stepG, go_sem, resL]; rfl) (by simp only [and_self]) (by simp (dsimp := false) only [↓opsP_nil, ↓opsP_cons, ↓opsD_nil, ↓opsD_cons, ↓opP, ↓stepP, ↓stepG, go_sem, resP, Nat.le_refl, List.take_length]; try rfl) ?_)
      simp [subD, subL, subV, subD_refl]

set_option maxHeartbeats 32000000 in
theorem run119_4 (d : RDesk) (m : Msg) (hk : m.kind = 4) (hl : d.items.length ≤ 100000) (hr : ∀ x ∈ d.items, 0 ≤ x.round ∧ x.round ≤ 3) : Runs Try.prog 119 [.d d.d, .d m.d] [] (.d (rOutD (rGive d m))) [] := by
  obtain ⟨mk, ms, mn, mb, mc, mr, my, ma, mq, ml, mt⟩ := m
  simp only at hk
  subst hk
  have r181 := run181 d ms mn hl
  rcases fnd_at ms mn d.items 0 with ⟨h1, _⟩ | ⟨k, x, h1, h2, h3⟩
  · rw [h1] at r181
    have hA : rMine d ⟨4, ms, mn, mb, mc, mr, my, ma, mq, ml, mt⟩ = 4 := by
      unfold rMine
      simp only [has_none h1]
      rw [if_pos True.intro]
    unfold rGive
    simp only [hA]
    rw [if_pos (by simp)]
    simp only [rOutD, RDesk.d, RDesk.cells, saidD, about, Msg.d, Msg.cells, Item.d, Item.cells, Option.toList, List.cons_append, List.nil_append] at *
    refine Runs.of (kit Try.prog) Try.func119 rfl rfl (by rw [Try.ntmps119]; exact of_decide_eq_true rfl) ?_; rw [Try.ntmps119, Try.results119]
    repeat' (first
      | ((first | refine Pwp.step (kit _) rfl fun K hK => ?_ | refine Pwp.last (kit _) rfl fun K hK => ?_ | refine Pwp.stepD (kit _) rfl rfl fun K hK => ?_ | refine Pwp.lastD (kit _) rfl rfl fun K hK => ?_); simp (dsimp := false) only [↓opsP_nil, ↓opsP_cons, ↓opsD_nil, ↓opsD_cons, ↓opP, ↓stepP, ↓stepG, go_sem, Bool.false_and, Bool.true_and, Bool.false_or, Bool.or_false, Bool.and_false, bne_self_eq_false])
      | (refine Pwp.seq ?_)
      | (refine Pwp.block ?_)
      | (refine Pwp.exit ?_; simp only [thenS, blockS, if_true, if_false, reduceIte, Nat.reduceEqDiff, Nat.add_one_ne_zero, reduceCtorEq])
      | (refine Pwp.skip ?_; simp only [thenS, blockS])
      | (refine Pwp.cond rfl True.intro (fun h => ?_) (fun h => ?_) <;> (try (cases h; done)) <;> (try simp only [h]))
      | (refine Pwp.ret ?_; try simp only [thenS, blockS])
      | (refine hK _ ?_; clear hK K)
      | (refine hK _ _ rfl ?_; clear hK K)
      | (refine CallK.toD (ds := [.agg [I64 d.me, I64 d.far, .slc 8 (itemsD d.items), .slc 3 (ordersD d.orders)], .agg [I64 ms, I64 mn]]) rfl (r181) rfl ?_)
      | (refine CallG.off ?_)
      | (with_reducible refine Or.inl ?_)
      | (simp only [thenS, blockS])
      | (with_reducible refine And.intro ?_ ?_)
      | (with_reducible exact True.intro)
      | (simp (dsimp := false) only [↓opsP_nil, ↓opsP_cons, ↓opsD_nil, ↓opsD_cons, ↓opP, ↓stepP, ↓stepG, go_sem, Bool.false_and, Bool.true_and, Bool.false_or, Bool.or_false, Bool.and_false, bne_self_eq_false]))
    all_goals (try (first | (intro hg; simp [hg]; done) | exact of_decide_eq_true rfl | (cases h; done)))
    (refine Fin.data (.inr rfl) (by simp (dsimp := false) only [↓opsP_nil, ↓opsP_cons, ↓opsD_nil, ↓opsD_cons, ↓opP, ↓stepP, ↓stepG, go_sem, resL]; rfl) (by simp only [and_self]) (by simp (dsimp := false) only [↓opsP_nil, ↓opsP_cons, ↓opsD_nil, ↓opsD_cons, ↓opP, ↓stepP, ↓stepG, go_sem, resP, Nat.le_refl, List.take_length]; try rfl) ?_)
    simp [subD, subL, subV, subD_refl]
  · obtain ⟨e1, e2⟩ := has_some h1 h2
    rw [h1, Nat.zero_add] at r181
    have c0 : decide ((k : Int) < 0) = false := by rw [decide_eq_false_iff_not]; omega
    have hg := items_get8 h2
    have ht := Int.toNat_natCast k
    have p0 : (0 : Int) ≤ (k : Int) := by omega
    have hrx := hr x (List.mem_of_getElem? h2)
    have r184 := run184 x 3 0 (by simp) hrx
    rw [show actI x 3 0 = stepI x 2 4 from rfl, show actE x 3 0 = stepE x 2 from rfl] at r184
    have r121 := run121 d (stepI x 2 4) hl
    have r183 := run183 (stepI x 2 4).buyer 9 (stepI x 2 4)
    clear hr h1
    by_cases h3 : x.seller = d.me
    · have c1 : (x.seller != d.me) = false := by simp [h3]
      have hA : rMine d ⟨4, ms, mn, mb, mc, mr, my, ma, mq, ml, mt⟩ = 0 := by
        unfold rMine
        simp only [e1, e2]
        rw [if_neg (by simp), if_neg (by simpa using h3), if_neg (by simp)]
      unfold rGive
      simp only [hA, e2]
      rw [if_neg (by simp)]
      by_cases h5 : stepE x 2 = 0
      · rw [h5] at r184
        rw [if_neg (by simpa using h5)]
        generalize stepI x 2 4 = y at *
        generalize d.keep y = d2 at *
        simp only [rOutD, RDesk.d, RDesk.cells, saidD, about, Msg.d, Msg.cells, Item.d, Item.cells, Option.toList, List.cons_append, List.nil_append] at *
        refine Runs.of (kit Try.prog) Try.func119 rfl rfl (by rw [Try.ntmps119]; exact of_decide_eq_true rfl) ?_; rw [Try.ntmps119, Try.results119]
        repeat' (first
          | ((first | refine Pwp.step (kit _) rfl fun K hK => ?_ | refine Pwp.last (kit _) rfl fun K hK => ?_ | refine Pwp.stepD (kit _) rfl rfl fun K hK => ?_ | refine Pwp.lastD (kit _) rfl rfl fun K hK => ?_); simp (dsimp := false) only [↓opsP_nil, ↓opsP_cons, ↓opsD_nil, ↓opsD_cons, ↓opP, ↓stepP, ↓stepG, go_sem, c0, hg, ht, p0, c1, Bool.false_and, Bool.true_and, Bool.false_or, Bool.or_false, Bool.and_false, bne_self_eq_false])
          | (refine Pwp.seq ?_)
          | (refine Pwp.block ?_)
          | (refine Pwp.exit ?_; simp only [thenS, blockS, if_true, if_false, reduceIte, Nat.reduceEqDiff, Nat.add_one_ne_zero, reduceCtorEq])
          | (refine Pwp.skip ?_; simp only [thenS, blockS])
          | (refine Pwp.cond rfl True.intro (fun h => ?_) (fun h => ?_) <;> (try (cases h; done)) <;> (try simp only [h]))
          | (refine Pwp.ret ?_; try simp only [thenS, blockS])
          | (refine hK _ ?_; clear hK K)
          | (refine hK _ _ rfl ?_; clear hK K)
          | (refine CallK.toD (ds := [.agg [I64 d.me, I64 d.far, .slc 8 (itemsD d.items), .slc 3 (ordersD d.orders)], .agg [I64 ms, I64 mn]]) rfl (r181) rfl ?_)
          | (refine CallK.toD (ds := [.agg [I64 x.seller, I64 x.number, I64 x.buyer, I64 x.currency, I64 x.amount, I64 x.round, I64 x.state, I64 x.cycle], I64 3, I64 0]) rfl (r184) rfl ?_)
          | (refine CallK.give (ds := [.agg [I64 d.me, I64 d.far, .slc 8 (itemsD d.items), .slc 3 (ordersD d.orders)], .agg [I64 y.seller, I64 y.number, I64 y.buyer, I64 y.currency, I64 y.amount, I64 y.round, I64 y.state, I64 y.cycle]]) rfl (r121) (by simp) ?_)
          | (refine CallK.give (ds := [I64 y.buyer, I64 9, .agg [I64 y.seller, I64 y.number, I64 y.buyer, I64 y.currency, I64 y.amount, I64 y.round, I64 y.state, I64 y.cycle]]) rfl (r183) (by simp) ?_)
          | (refine CallG.off ?_)
          | (with_reducible refine Or.inl ?_)
          | (simp only [thenS, blockS])
          | (with_reducible refine And.intro ?_ ?_)
          | (with_reducible exact True.intro)
          | (simp (dsimp := false) only [↓opsP_nil, ↓opsP_cons, ↓opsD_nil, ↓opsD_cons, ↓opP, ↓stepP, ↓stepG, go_sem, c0, hg, ht, p0, c1, Bool.false_and, Bool.true_and, Bool.false_or, Bool.or_false, Bool.and_false, bne_self_eq_false]))
        all_goals (try (first | (intro hg; simp [hg]; done) | exact of_decide_eq_true rfl | (cases h; done)))
        (refine Fin.data (.inr rfl) (by simp (dsimp := false) only [↓opsP_nil, ↓opsP_cons, ↓opsD_nil, ↓opsD_cons, ↓opP, ↓stepP, ↓stepG, go_sem, resL]; rfl) (by simp only [and_self]) (by simp (dsimp := false) only [↓opsP_nil, ↓opsP_cons, ↓opsD_nil, ↓opsD_cons, ↓opP, ↓stepP, ↓stepG, go_sem, resP, Nat.le_refl, List.take_length]; try rfl) ?_)
        simp [subD, subL, subV, subD_refl]
      · rw [if_pos h5]
        have n1 : (stepE x 2 != 0) = true := by simpa using h5
        generalize stepE x 2 = e at *
        simp only [rOutD, RDesk.d, RDesk.cells, saidD, about, Msg.d, Msg.cells, Item.d, Item.cells, Option.toList, List.cons_append, List.nil_append] at *
        refine Runs.of (kit Try.prog) Try.func119 rfl rfl (by rw [Try.ntmps119]; exact of_decide_eq_true rfl) ?_; rw [Try.ntmps119, Try.results119]
        repeat' (first
          | ((first | refine Pwp.step (kit _) rfl fun K hK => ?_ | refine Pwp.last (kit _) rfl fun K hK => ?_ | refine Pwp.stepD (kit _) rfl rfl fun K hK => ?_ | refine Pwp.lastD (kit _) rfl rfl fun K hK => ?_); simp (dsimp := false) only [↓opsP_nil, ↓opsP_cons, ↓opsD_nil, ↓opsD_cons, ↓opP, ↓stepP, ↓stepG, go_sem, c0, hg, ht, p0, c1, n1, Bool.false_and, Bool.true_and, Bool.false_or, Bool.or_false, Bool.and_false, bne_self_eq_false])
          | (refine Pwp.seq ?_)
          | (refine Pwp.block ?_)
          | (refine Pwp.exit ?_; simp only [thenS, blockS, if_true, if_false, reduceIte, Nat.reduceEqDiff, Nat.add_one_ne_zero, reduceCtorEq])
          | (refine Pwp.skip ?_; simp only [thenS, blockS])
          | (refine Pwp.cond rfl True.intro (fun h => ?_) (fun h => ?_) <;> (try (cases h; done)) <;> (try simp only [h]))
          | (refine Pwp.ret ?_; try simp only [thenS, blockS])
          | (refine hK _ ?_; clear hK K)
          | (refine hK _ _ rfl ?_; clear hK K)
          | (refine CallK.toD (ds := [.agg [I64 d.me, I64 d.far, .slc 8 (itemsD d.items), .slc 3 (ordersD d.orders)], .agg [I64 ms, I64 mn]]) rfl (r181) rfl ?_)
          | (refine CallK.toD (ds := [.agg [I64 x.seller, I64 x.number, I64 x.buyer, I64 x.currency, I64 x.amount, I64 x.round, I64 x.state, I64 x.cycle], I64 3, I64 0]) rfl (r184) rfl ?_)
          | (refine CallG.off ?_)
          | (with_reducible refine Or.inl ?_)
          | (simp only [thenS, blockS])
          | (with_reducible refine And.intro ?_ ?_)
          | (with_reducible exact True.intro)
          | (simp (dsimp := false) only [↓opsP_nil, ↓opsP_cons, ↓opsD_nil, ↓opsD_cons, ↓opP, ↓stepP, ↓stepG, go_sem, c0, hg, ht, p0, c1, n1, Bool.false_and, Bool.true_and, Bool.false_or, Bool.or_false, Bool.and_false, bne_self_eq_false]))
        all_goals (try (first | (intro hg; simp [hg]; done) | exact of_decide_eq_true rfl | (cases h; done)))
        (refine Fin.data (.inr rfl) (by simp (dsimp := false) only [↓opsP_nil, ↓opsP_cons, ↓opsD_nil, ↓opsD_cons, ↓opP, ↓stepP, ↓stepG, go_sem, resL]; rfl) (by simp only [and_self]) (by simp (dsimp := false) only [↓opsP_nil, ↓opsP_cons, ↓opsD_nil, ↓opsD_cons, ↓opP, ↓stepP, ↓stepG, go_sem, resP, Nat.le_refl, List.take_length]; try rfl) ?_)
        simp [subD, subL, subV, subD_refl]
    · have c1 : (x.seller != d.me) = true := by simpa using h3
      have hA : rMine d ⟨4, ms, mn, mb, mc, mr, my, ma, mq, ml, mt⟩ = 140 := by
        unfold rMine
        simp only [e1, e2]
        rw [if_neg (by simp), if_pos h3]
      unfold rGive
      simp only [hA, e2]
      rw [if_pos (by simp)]
      simp only [rOutD, RDesk.d, RDesk.cells, saidD, about, Msg.d, Msg.cells, Item.d, Item.cells, Option.toList, List.cons_append, List.nil_append] at *
      refine Runs.of (kit Try.prog) Try.func119 rfl rfl (by rw [Try.ntmps119]; exact of_decide_eq_true rfl) ?_; rw [Try.ntmps119, Try.results119]
      repeat' (first
        | ((first | refine Pwp.step (kit _) rfl fun K hK => ?_ | refine Pwp.last (kit _) rfl fun K hK => ?_ | refine Pwp.stepD (kit _) rfl rfl fun K hK => ?_ | refine Pwp.lastD (kit _) rfl rfl fun K hK => ?_); simp (dsimp := false) only [↓opsP_nil, ↓opsP_cons, ↓opsD_nil, ↓opsD_cons, ↓opP, ↓stepP, ↓stepG, go_sem, c0, hg, ht, p0, c1, Bool.false_and, Bool.true_and, Bool.false_or, Bool.or_false, Bool.and_false, bne_self_eq_false])
        | (refine Pwp.seq ?_)
        | (refine Pwp.block ?_)
        | (refine Pwp.exit ?_; simp only [thenS, blockS, if_true, if_false, reduceIte, Nat.reduceEqDiff, Nat.add_one_ne_zero, reduceCtorEq])
        | (refine Pwp.skip ?_; simp only [thenS, blockS])
        | (refine Pwp.cond rfl True.intro (fun h => ?_) (fun h => ?_) <;> (try (cases h; done)) <;> (try simp only [h]))
        | (refine Pwp.ret ?_; try simp only [thenS, blockS])
        | (refine hK _ ?_; clear hK K)
        | (refine hK _ _ rfl ?_; clear hK K)
        | (refine CallK.toD (ds := [.agg [I64 d.me, I64 d.far, .slc 8 (itemsD d.items), .slc 3 (ordersD d.orders)], .agg [I64 ms, I64 mn]]) rfl (r181) rfl ?_)
        | (refine CallK.toD (ds := [.agg [I64 x.seller, I64 x.number, I64 x.buyer, I64 x.currency, I64 x.amount, I64 x.round, I64 x.state, I64 x.cycle], I64 3, I64 0]) rfl (r184) rfl ?_)
        | (refine CallG.off ?_)
        | (with_reducible refine Or.inl ?_)
        | (simp only [thenS, blockS])
        | (with_reducible refine And.intro ?_ ?_)
        | (with_reducible exact True.intro)
        | (simp (dsimp := false) only [↓opsP_nil, ↓opsP_cons, ↓opsD_nil, ↓opsD_cons, ↓opP, ↓stepP, ↓stepG, go_sem, c0, hg, ht, p0, c1, Bool.false_and, Bool.true_and, Bool.false_or, Bool.or_false, Bool.and_false, bne_self_eq_false]))
      all_goals (try (first | (intro hg; simp [hg]; done) | exact of_decide_eq_true rfl | (cases h; done)))
      (refine Fin.data (.inr rfl) (by simp (dsimp := false) only [↓opsP_nil, ↓opsP_cons, ↓opsD_nil, ↓opsD_cons, ↓opP, ↓stepP, ↓stepG, go_sem, resL]; rfl) (by simp only [and_self]) (by simp (dsimp := false) only [↓opsP_nil, ↓opsP_cons, ↓opsD_nil, ↓opsD_cons, ↓opP, ↓stepP, ↓stepG, go_sem, resP, Nat.le_refl, List.take_length]; try rfl) ?_)
      simp [subD, subL, subV, subD_refl]

set_option maxHeartbeats 32000000 in
theorem run119_16 (d : RDesk) (m : Msg) (hk : m.kind = 16) (hl : d.items.length ≤ 100000) (hr : ∀ x ∈ d.items, 0 ≤ x.round ∧ x.round ≤ 3) : Runs Try.prog 119 [.d d.d, .d m.d] [] (.d (rOutD (rGive d m))) [] := by
  obtain ⟨mk, ms, mn, mb, mc, mr, my, ma, mq, ml, mt⟩ := m
  simp only at hk
  subst hk
  have r181 := run181 d ms mn hl
  rcases fnd_at ms mn d.items 0 with ⟨h1, _⟩ | ⟨k, x, h1, h2, h3⟩
  · rw [h1] at r181
    have hA : rMine d ⟨16, ms, mn, mb, mc, mr, my, ma, mq, ml, mt⟩ = 4 := by
      unfold rMine
      simp only [has_none h1]
      rw [if_pos True.intro]
    unfold rGive
    simp only [hA]
    rw [if_pos (by simp)]
    simp only [rOutD, RDesk.d, RDesk.cells, saidD, about, Msg.d, Msg.cells, Item.d, Item.cells, Option.toList, List.cons_append, List.nil_append] at *
    refine Runs.of (kit Try.prog) Try.func119 rfl rfl (by rw [Try.ntmps119]; exact of_decide_eq_true rfl) ?_; rw [Try.ntmps119, Try.results119]
    repeat' (first
      | ((first | refine Pwp.step (kit _) rfl fun K hK => ?_ | refine Pwp.last (kit _) rfl fun K hK => ?_ | refine Pwp.stepD (kit _) rfl rfl fun K hK => ?_ | refine Pwp.lastD (kit _) rfl rfl fun K hK => ?_); simp (dsimp := false) only [↓opsP_nil, ↓opsP_cons, ↓opsD_nil, ↓opsD_cons, ↓opP, ↓stepP, ↓stepG, go_sem, Bool.false_and, Bool.true_and, Bool.false_or, Bool.or_false, Bool.and_false, bne_self_eq_false])
      | (refine Pwp.seq ?_)
      | (refine Pwp.block ?_)
      | (refine Pwp.exit ?_; simp only [thenS, blockS, if_true, if_false, reduceIte, Nat.reduceEqDiff, Nat.add_one_ne_zero, reduceCtorEq])
      | (refine Pwp.skip ?_; simp only [thenS, blockS])
      | (refine Pwp.cond rfl True.intro (fun h => ?_) (fun h => ?_) <;> (try (cases h; done)) <;> (try simp only [h]))
      | (refine Pwp.ret ?_; try simp only [thenS, blockS])
      | (refine hK _ ?_; clear hK K)
      | (refine hK _ _ rfl ?_; clear hK K)
      | (refine CallK.toD (ds := [.agg [I64 d.me, I64 d.far, .slc 8 (itemsD d.items), .slc 3 (ordersD d.orders)], .agg [I64 ms, I64 mn]]) rfl (r181) rfl ?_)
      | (refine CallG.off ?_)
      | (with_reducible refine Or.inl ?_)
      | (simp only [thenS, blockS])
      | (with_reducible refine And.intro ?_ ?_)
      | (with_reducible exact True.intro)
      | (simp (dsimp := false) only [↓opsP_nil, ↓opsP_cons, ↓opsD_nil, ↓opsD_cons, ↓opP, ↓stepP, ↓stepG, go_sem, Bool.false_and, Bool.true_and, Bool.false_or, Bool.or_false, Bool.and_false, bne_self_eq_false]))
    all_goals (try (first | (intro hg; simp [hg]; done) | exact of_decide_eq_true rfl | (cases h; done)))
    (refine Fin.data (.inr rfl) (by simp (dsimp := false) only [↓opsP_nil, ↓opsP_cons, ↓opsD_nil, ↓opsD_cons, ↓opP, ↓stepP, ↓stepG, go_sem, resL]; rfl) (by simp only [and_self]) (by simp (dsimp := false) only [↓opsP_nil, ↓opsP_cons, ↓opsD_nil, ↓opsD_cons, ↓opP, ↓stepP, ↓stepG, go_sem, resP, Nat.le_refl, List.take_length]; try rfl) ?_)
    simp [subD, subL, subV, subD_refl]
  · obtain ⟨e1, e2⟩ := has_some h1 h2
    rw [h1, Nat.zero_add] at r181
    have c0 : decide ((k : Int) < 0) = false := by rw [decide_eq_false_iff_not]; omega
    have hg := items_get8 h2
    have ht := Int.toNat_natCast k
    have p0 : (0 : Int) ≤ (k : Int) := by omega
    have hrx := hr x (List.mem_of_getElem? h2)
    have r184 := run184 x 3 0 (by simp) hrx
    rw [show actI x 3 0 = stepI x 2 4 from rfl, show actE x 3 0 = stepE x 2 from rfl] at r184
    have r121 := run121 d (stepI x 2 4) hl
    have r183 := run183 (stepI x 2 4).buyer 9 (stepI x 2 4)
    clear hr h1
    by_cases h3 : x.seller = d.me
    · have c1 : (x.seller != d.me) = false := by simp [h3]
      by_cases h4 : x.round = mr
      · have c2 : (x.round != mr) = false := by simp [h4]
        have hA : rMine d ⟨16, ms, mn, mb, mc, mr, my, ma, mq, ml, mt⟩ = 0 := by
          unfold rMine
          simp only [e1, e2]
          rw [if_neg (by simp), if_neg (by simpa using h3), if_neg (by simp [h4])]
        unfold rGive
        simp only [hA, e2]
        rw [if_neg (by simp)]
        by_cases h5 : stepE x 2 = 0
        · rw [h5] at r184
          rw [if_neg (by simpa using h5)]
          generalize stepI x 2 4 = y at *
          generalize d.keep y = d2 at *
          simp only [rOutD, RDesk.d, RDesk.cells, saidD, about, Msg.d, Msg.cells, Item.d, Item.cells, Option.toList, List.cons_append, List.nil_append] at *
          refine Runs.of (kit Try.prog) Try.func119 rfl rfl (by rw [Try.ntmps119]; exact of_decide_eq_true rfl) ?_; rw [Try.ntmps119, Try.results119]
          repeat' (first
            | ((first | refine Pwp.step (kit _) rfl fun K hK => ?_ | refine Pwp.last (kit _) rfl fun K hK => ?_ | refine Pwp.stepD (kit _) rfl rfl fun K hK => ?_ | refine Pwp.lastD (kit _) rfl rfl fun K hK => ?_); simp (dsimp := false) only [↓opsP_nil, ↓opsP_cons, ↓opsD_nil, ↓opsD_cons, ↓opP, ↓stepP, ↓stepG, go_sem, c0, hg, ht, p0, c1, c2, Bool.false_and, Bool.true_and, Bool.false_or, Bool.or_false, Bool.and_false, bne_self_eq_false])
            | (refine Pwp.seq ?_)
            | (refine Pwp.block ?_)
            | (refine Pwp.exit ?_; simp only [thenS, blockS, if_true, if_false, reduceIte, Nat.reduceEqDiff, Nat.add_one_ne_zero, reduceCtorEq])
            | (refine Pwp.skip ?_; simp only [thenS, blockS])
            | (refine Pwp.cond rfl True.intro (fun h => ?_) (fun h => ?_) <;> (try (cases h; done)) <;> (try simp only [h]))
            | (refine Pwp.ret ?_; try simp only [thenS, blockS])
            | (refine hK _ ?_; clear hK K)
            | (refine hK _ _ rfl ?_; clear hK K)
            | (refine CallK.toD (ds := [.agg [I64 d.me, I64 d.far, .slc 8 (itemsD d.items), .slc 3 (ordersD d.orders)], .agg [I64 ms, I64 mn]]) rfl (r181) rfl ?_)
            | (refine CallK.toD (ds := [.agg [I64 x.seller, I64 x.number, I64 x.buyer, I64 x.currency, I64 x.amount, I64 x.round, I64 x.state, I64 x.cycle], I64 3, I64 0]) rfl (r184) rfl ?_)
            | (refine CallK.give (ds := [.agg [I64 d.me, I64 d.far, .slc 8 (itemsD d.items), .slc 3 (ordersD d.orders)], .agg [I64 y.seller, I64 y.number, I64 y.buyer, I64 y.currency, I64 y.amount, I64 y.round, I64 y.state, I64 y.cycle]]) rfl (r121) (by simp) ?_)
            | (refine CallK.give (ds := [I64 y.buyer, I64 9, .agg [I64 y.seller, I64 y.number, I64 y.buyer, I64 y.currency, I64 y.amount, I64 y.round, I64 y.state, I64 y.cycle]]) rfl (r183) (by simp) ?_)
            | (refine CallG.off ?_)
            | (with_reducible refine Or.inl ?_)
            | (simp only [thenS, blockS])
            | (with_reducible refine And.intro ?_ ?_)
            | (with_reducible exact True.intro)
            | (simp (dsimp := false) only [↓opsP_nil, ↓opsP_cons, ↓opsD_nil, ↓opsD_cons, ↓opP, ↓stepP, ↓stepG, go_sem, c0, hg, ht, p0, c1, c2, Bool.false_and, Bool.true_and, Bool.false_or, Bool.or_false, Bool.and_false, bne_self_eq_false]))
          all_goals (try (first | (intro hg; simp [hg]; done) | exact of_decide_eq_true rfl | (cases h; done)))
          (refine Fin.data (.inr rfl) (by simp (dsimp := false) only [↓opsP_nil, ↓opsP_cons, ↓opsD_nil, ↓opsD_cons, ↓opP, ↓stepP, ↓stepG, go_sem, resL]; rfl) (by simp only [and_self]) (by simp (dsimp := false) only [↓opsP_nil, ↓opsP_cons, ↓opsD_nil, ↓opsD_cons, ↓opP, ↓stepP, ↓stepG, go_sem, resP, Nat.le_refl, List.take_length]; try rfl) ?_)
          simp [subD, subL, subV, subD_refl]
        · rw [if_pos h5]
          have n1 : (stepE x 2 != 0) = true := by simpa using h5
          generalize stepE x 2 = e at *
          simp only [rOutD, RDesk.d, RDesk.cells, saidD, about, Msg.d, Msg.cells, Item.d, Item.cells, Option.toList, List.cons_append, List.nil_append] at *
          refine Runs.of (kit Try.prog) Try.func119 rfl rfl (by rw [Try.ntmps119]; exact of_decide_eq_true rfl) ?_; rw [Try.ntmps119, Try.results119]
          repeat' (first
            | ((first | refine Pwp.step (kit _) rfl fun K hK => ?_ | refine Pwp.last (kit _) rfl fun K hK => ?_ | refine Pwp.stepD (kit _) rfl rfl fun K hK => ?_ | refine Pwp.lastD (kit _) rfl rfl fun K hK => ?_); simp (dsimp := false) only [↓opsP_nil, ↓opsP_cons, ↓opsD_nil, ↓opsD_cons, ↓opP, ↓stepP, ↓stepG, go_sem, c0, hg, ht, p0, c1, c2, n1, Bool.false_and, Bool.true_and, Bool.false_or, Bool.or_false, Bool.and_false, bne_self_eq_false])
            | (refine Pwp.seq ?_)
            | (refine Pwp.block ?_)
            | (refine Pwp.exit ?_; simp only [thenS, blockS, if_true, if_false, reduceIte, Nat.reduceEqDiff, Nat.add_one_ne_zero, reduceCtorEq])
            | (refine Pwp.skip ?_; simp only [thenS, blockS])
            | (refine Pwp.cond rfl True.intro (fun h => ?_) (fun h => ?_) <;> (try (cases h; done)) <;> (try simp only [h]))
            | (refine Pwp.ret ?_; try simp only [thenS, blockS])
            | (refine hK _ ?_; clear hK K)
            | (refine hK _ _ rfl ?_; clear hK K)
            | (refine CallK.toD (ds := [.agg [I64 d.me, I64 d.far, .slc 8 (itemsD d.items), .slc 3 (ordersD d.orders)], .agg [I64 ms, I64 mn]]) rfl (r181) rfl ?_)
            | (refine CallK.toD (ds := [.agg [I64 x.seller, I64 x.number, I64 x.buyer, I64 x.currency, I64 x.amount, I64 x.round, I64 x.state, I64 x.cycle], I64 3, I64 0]) rfl (r184) rfl ?_)
            | (refine CallG.off ?_)
            | (with_reducible refine Or.inl ?_)
            | (simp only [thenS, blockS])
            | (with_reducible refine And.intro ?_ ?_)
            | (with_reducible exact True.intro)
            | (simp (dsimp := false) only [↓opsP_nil, ↓opsP_cons, ↓opsD_nil, ↓opsD_cons, ↓opP, ↓stepP, ↓stepG, go_sem, c0, hg, ht, p0, c1, c2, n1, Bool.false_and, Bool.true_and, Bool.false_or, Bool.or_false, Bool.and_false, bne_self_eq_false]))
          all_goals (try (first | (intro hg; simp [hg]; done) | exact of_decide_eq_true rfl | (cases h; done)))
          (refine Fin.data (.inr rfl) (by simp (dsimp := false) only [↓opsP_nil, ↓opsP_cons, ↓opsD_nil, ↓opsD_cons, ↓opP, ↓stepP, ↓stepG, go_sem, resL]; rfl) (by simp only [and_self]) (by simp (dsimp := false) only [↓opsP_nil, ↓opsP_cons, ↓opsD_nil, ↓opsD_cons, ↓opP, ↓stepP, ↓stepG, go_sem, resP, Nat.le_refl, List.take_length]; try rfl) ?_)
          simp [subD, subL, subV, subD_refl]
      · have c2 : (x.round != mr) = true := by simpa using h4
        have hA : rMine d ⟨16, ms, mn, mb, mc, mr, my, ma, mq, ml, mt⟩ = 90 := by
          unfold rMine
          simp only [e1, e2]
          rw [if_neg (by simp), if_neg (by simpa using h3), if_pos (by simpa using h4)]
        unfold rGive
        simp only [hA, e2]
        rw [if_pos (by simp)]
        simp only [rOutD, RDesk.d, RDesk.cells, saidD, about, Msg.d, Msg.cells, Item.d, Item.cells, Option.toList, List.cons_append, List.nil_append] at *
        refine Runs.of (kit Try.prog) Try.func119 rfl rfl (by rw [Try.ntmps119]; exact of_decide_eq_true rfl) ?_; rw [Try.ntmps119, Try.results119]
        repeat' (first
          | ((first | refine Pwp.step (kit _) rfl fun K hK => ?_ | refine Pwp.last (kit _) rfl fun K hK => ?_ | refine Pwp.stepD (kit _) rfl rfl fun K hK => ?_ | refine Pwp.lastD (kit _) rfl rfl fun K hK => ?_); simp (dsimp := false) only [↓opsP_nil, ↓opsP_cons, ↓opsD_nil, ↓opsD_cons, ↓opP, ↓stepP, ↓stepG, go_sem, c0, hg, ht, p0, c1, c2, Bool.false_and, Bool.true_and, Bool.false_or, Bool.or_false, Bool.and_false, bne_self_eq_false])
          | (refine Pwp.seq ?_)
          | (refine Pwp.block ?_)
          | (refine Pwp.exit ?_; simp only [thenS, blockS, if_true, if_false, reduceIte, Nat.reduceEqDiff, Nat.add_one_ne_zero, reduceCtorEq])
          | (refine Pwp.skip ?_; simp only [thenS, blockS])
          | (refine Pwp.cond rfl True.intro (fun h => ?_) (fun h => ?_) <;> (try (cases h; done)) <;> (try simp only [h]))
          | (refine Pwp.ret ?_; try simp only [thenS, blockS])
          | (refine hK _ ?_; clear hK K)
          | (refine hK _ _ rfl ?_; clear hK K)
          | (refine CallK.toD (ds := [.agg [I64 d.me, I64 d.far, .slc 8 (itemsD d.items), .slc 3 (ordersD d.orders)], .agg [I64 ms, I64 mn]]) rfl (r181) rfl ?_)
          | (refine CallK.toD (ds := [.agg [I64 x.seller, I64 x.number, I64 x.buyer, I64 x.currency, I64 x.amount, I64 x.round, I64 x.state, I64 x.cycle], I64 3, I64 0]) rfl (r184) rfl ?_)
          | (refine CallG.off ?_)
          | (with_reducible refine Or.inl ?_)
          | (simp only [thenS, blockS])
          | (with_reducible refine And.intro ?_ ?_)
          | (with_reducible exact True.intro)
          | (simp (dsimp := false) only [↓opsP_nil, ↓opsP_cons, ↓opsD_nil, ↓opsD_cons, ↓opP, ↓stepP, ↓stepG, go_sem, c0, hg, ht, p0, c1, c2, Bool.false_and, Bool.true_and, Bool.false_or, Bool.or_false, Bool.and_false, bne_self_eq_false]))
        all_goals (try (first | (intro hg; simp [hg]; done) | exact of_decide_eq_true rfl | (cases h; done)))
        (refine Fin.data (.inr rfl) (by simp (dsimp := false) only [↓opsP_nil, ↓opsP_cons, ↓opsD_nil, ↓opsD_cons, ↓opP, ↓stepP, ↓stepG, go_sem, resL]; rfl) (by simp only [and_self]) (by simp (dsimp := false) only [↓opsP_nil, ↓opsP_cons, ↓opsD_nil, ↓opsD_cons, ↓opP, ↓stepP, ↓stepG, go_sem, resP, Nat.le_refl, List.take_length]; try rfl) ?_)
        simp [subD, subL, subV, subD_refl]
    · have c1 : (x.seller != d.me) = true := by simpa using h3
      have hA : rMine d ⟨16, ms, mn, mb, mc, mr, my, ma, mq, ml, mt⟩ = 140 := by
        unfold rMine
        simp only [e1, e2]
        rw [if_neg (by simp), if_pos h3]
      unfold rGive
      simp only [hA, e2]
      rw [if_pos (by simp)]
      simp only [rOutD, RDesk.d, RDesk.cells, saidD, about, Msg.d, Msg.cells, Item.d, Item.cells, Option.toList, List.cons_append, List.nil_append] at *
      refine Runs.of (kit Try.prog) Try.func119 rfl rfl (by rw [Try.ntmps119]; exact of_decide_eq_true rfl) ?_; rw [Try.ntmps119, Try.results119]
      repeat' (first
        | ((first | refine Pwp.step (kit _) rfl fun K hK => ?_ | refine Pwp.last (kit _) rfl fun K hK => ?_ | refine Pwp.stepD (kit _) rfl rfl fun K hK => ?_ | refine Pwp.lastD (kit _) rfl rfl fun K hK => ?_); simp (dsimp := false) only [↓opsP_nil, ↓opsP_cons, ↓opsD_nil, ↓opsD_cons, ↓opP, ↓stepP, ↓stepG, go_sem, c0, hg, ht, p0, c1, Bool.false_and, Bool.true_and, Bool.false_or, Bool.or_false, Bool.and_false, bne_self_eq_false])
        | (refine Pwp.seq ?_)
        | (refine Pwp.block ?_)
        | (refine Pwp.exit ?_; simp only [thenS, blockS, if_true, if_false, reduceIte, Nat.reduceEqDiff, Nat.add_one_ne_zero, reduceCtorEq])
        | (refine Pwp.skip ?_; simp only [thenS, blockS])
        | (refine Pwp.cond rfl True.intro (fun h => ?_) (fun h => ?_) <;> (try (cases h; done)) <;> (try simp only [h]))
        | (refine Pwp.ret ?_; try simp only [thenS, blockS])
        | (refine hK _ ?_; clear hK K)
        | (refine hK _ _ rfl ?_; clear hK K)
        | (refine CallK.toD (ds := [.agg [I64 d.me, I64 d.far, .slc 8 (itemsD d.items), .slc 3 (ordersD d.orders)], .agg [I64 ms, I64 mn]]) rfl (r181) rfl ?_)
        | (refine CallK.toD (ds := [.agg [I64 x.seller, I64 x.number, I64 x.buyer, I64 x.currency, I64 x.amount, I64 x.round, I64 x.state, I64 x.cycle], I64 3, I64 0]) rfl (r184) rfl ?_)
        | (refine CallG.off ?_)
        | (with_reducible refine Or.inl ?_)
        | (simp only [thenS, blockS])
        | (with_reducible refine And.intro ?_ ?_)
        | (with_reducible exact True.intro)
        | (simp (dsimp := false) only [↓opsP_nil, ↓opsP_cons, ↓opsD_nil, ↓opsD_cons, ↓opP, ↓stepP, ↓stepG, go_sem, c0, hg, ht, p0, c1, Bool.false_and, Bool.true_and, Bool.false_or, Bool.or_false, Bool.and_false, bne_self_eq_false]))
      all_goals (try (first | (intro hg; simp [hg]; done) | exact of_decide_eq_true rfl | (cases h; done)))
      (refine Fin.data (.inr rfl) (by simp (dsimp := false) only [↓opsP_nil, ↓opsP_cons, ↓opsD_nil, ↓opsD_cons, ↓opP, ↓stepP, ↓stepG, go_sem, resL]; rfl) (by simp only [and_self]) (by simp (dsimp := false) only [↓opsP_nil, ↓opsP_cons, ↓opsD_nil, ↓opsD_cons, ↓opP, ↓stepP, ↓stepG, go_sem, resP, Nat.le_refl, List.take_length]; try rfl) ?_)
      simp [subD, subL, subV, subD_refl]

set_option maxHeartbeats 32000000 in
theorem run119_1 (d : RDesk) (m : Msg) (hk : m.kind = 1) (hl : d.items.length ≤ 100000) : Runs Try.prog 119 [.d d.d, .d m.d] [] (.d (rOutD (rIssue d m))) [] := by
  obtain ⟨mk, ms, mn, mb, mc, mr, my, ma, mq, ml, mt⟩ := m
  simp only at hk
  subst hk
  have r181 := run181 d ms mn hl
  have r182 := run182 (newI ms mn mb mc ma 0)
  have r121 := run121 d (newI ms mn mb mc ma 0) hl
  have r183 := run183 mb 6 (newI ms mn mb mc ma 0)
  unfold rIssue
  simp only
  have hf : ∃ at' : Int, fndV ms mn 0 d.items = at' ∧ decide (0 ≤ at') = d.has ms mn := ⟨_, rfl, rfl⟩
  obtain ⟨at', hat, hh⟩ := hf
  rw [hat] at r181
  by_cases h1 : ms = d.me
  · have c1 : (ms != d.me) = false := by simp [h1]
    rw [if_neg (by simpa using h1)]
    cases hb : d.has ms mn with
    | true =>
      rw [hb] at hh
      rw [if_pos rfl]
      simp only [rOutD, RDesk.d, RDesk.cells, saidD, about, Msg.d, Msg.cells, Item.d, Item.cells, Option.toList, List.cons_append, List.nil_append] at *
      refine Runs.of (kit Try.prog) Try.func119 rfl rfl (by rw [Try.ntmps119]; exact of_decide_eq_true rfl) ?_; rw [Try.ntmps119, Try.results119]
      repeat' (first
        | ((first | refine Pwp.step (kit _) rfl fun K hK => ?_ | refine Pwp.last (kit _) rfl fun K hK => ?_ | refine Pwp.stepD (kit _) rfl rfl fun K hK => ?_ | refine Pwp.lastD (kit _) rfl rfl fun K hK => ?_); simp (dsimp := false) only [↓opsP_nil, ↓opsP_cons, ↓opsD_nil, ↓opsD_cons, ↓opP, ↓stepP, ↓stepG, go_sem, c1, hh, Bool.false_and, Bool.true_and, Bool.false_or, Bool.or_false, Bool.and_false, bne_self_eq_false])
        | (refine Pwp.seq ?_)
        | (refine Pwp.block ?_)
        | (refine Pwp.exit ?_; simp only [thenS, blockS, if_true, if_false, reduceIte, Nat.reduceEqDiff, Nat.add_one_ne_zero, reduceCtorEq])
        | (refine Pwp.skip ?_; simp only [thenS, blockS])
        | (refine Pwp.cond rfl True.intro (fun h => ?_) (fun h => ?_) <;> (try (cases h; done)) <;> (try simp only [h]))
        | (refine Pwp.ret ?_; try simp only [thenS, blockS])
        | (refine hK _ ?_; clear hK K)
        | (refine hK _ _ rfl ?_; clear hK K)
        | (refine CallK.toD (ds := [.agg [I64 d.me, I64 d.far, .slc 8 (itemsD d.items), .slc 3 (ordersD d.orders)], .agg [I64 ms, I64 mn]]) rfl (r181) rfl ?_)
        | (refine CallG.off ?_)
        | (with_reducible refine Or.inl ?_)
        | (simp only [thenS, blockS])
        | (with_reducible refine And.intro ?_ ?_)
        | (with_reducible exact True.intro)
        | (simp (dsimp := false) only [↓opsP_nil, ↓opsP_cons, ↓opsD_nil, ↓opsD_cons, ↓opP, ↓stepP, ↓stepG, go_sem, c1, hh, Bool.false_and, Bool.true_and, Bool.false_or, Bool.or_false, Bool.and_false, bne_self_eq_false]))
      all_goals (try (first | (intro hg; simp [hg]; done) | exact of_decide_eq_true rfl | (cases h; done)))
      (refine Fin.data (.inr rfl) (by simp (dsimp := false) only [↓opsP_nil, ↓opsP_cons, ↓opsD_nil, ↓opsD_cons, ↓opP, ↓stepP, ↓stepG, go_sem, resL]; rfl) (by simp only [and_self]) (by simp (dsimp := false) only [↓opsP_nil, ↓opsP_cons, ↓opsD_nil, ↓opsD_cons, ↓opP, ↓stepP, ↓stepG, go_sem, resP, Nat.le_refl, List.take_length]; try rfl) ?_)
      simp [subD, subL, subV, subD_refl]
    | false =>
      rw [hb] at hh
      rw [if_neg (by simp)]
      generalize d.keep (newI ms mn mb mc ma 0) = d2 at *
      generalize hc : chk (newI ms mn mb mc ma 0) = e at *
      unfold newI at *
      by_cases h2 : e = 0
      · subst h2
        rw [if_neg (by simp)]
        simp only [rOutD, RDesk.d, RDesk.cells, saidD, about, Msg.d, Msg.cells, Item.d, Item.cells, Option.toList, List.cons_append, List.nil_append] at *
        refine Runs.of (kit Try.prog) Try.func119 rfl rfl (by rw [Try.ntmps119]; exact of_decide_eq_true rfl) ?_; rw [Try.ntmps119, Try.results119]
        repeat' (first
          | ((first | refine Pwp.step (kit _) rfl fun K hK => ?_ | refine Pwp.last (kit _) rfl fun K hK => ?_ | refine Pwp.stepD (kit _) rfl rfl fun K hK => ?_ | refine Pwp.lastD (kit _) rfl rfl fun K hK => ?_); simp (dsimp := false) only [↓opsP_nil, ↓opsP_cons, ↓opsD_nil, ↓opsD_cons, ↓opP, ↓stepP, ↓stepG, go_sem, c1, hh, Bool.false_and, Bool.true_and, Bool.false_or, Bool.or_false, Bool.and_false, bne_self_eq_false])
          | (refine Pwp.seq ?_)
          | (refine Pwp.block ?_)
          | (refine Pwp.exit ?_; simp only [thenS, blockS, if_true, if_false, reduceIte, Nat.reduceEqDiff, Nat.add_one_ne_zero, reduceCtorEq])
          | (refine Pwp.skip ?_; simp only [thenS, blockS])
          | (refine Pwp.cond rfl True.intro (fun h => ?_) (fun h => ?_) <;> (try (cases h; done)) <;> (try simp only [h]))
          | (refine Pwp.ret ?_; try simp only [thenS, blockS])
          | (refine hK _ ?_; clear hK K)
          | (refine hK _ _ rfl ?_; clear hK K)
          | (refine CallK.toD (ds := [.agg [I64 d.me, I64 d.far, .slc 8 (itemsD d.items), .slc 3 (ordersD d.orders)], .agg [I64 ms, I64 mn]]) rfl (r181) rfl ?_)
          | (refine CallK.toD (ds := [.agg [I64 ms, I64 mn, I64 mb, I64 mc, I64 ma, I64 0, I64 1, I64 0]]) rfl (r182) rfl ?_)
          | (refine CallK.give (ds := [.agg [I64 d.me, I64 d.far, .slc 8 (itemsD d.items), .slc 3 (ordersD d.orders)], .agg [I64 ms, I64 mn, I64 mb, I64 mc, I64 ma, I64 0, I64 1, I64 0]]) rfl (r121) (by simp) ?_)
          | (refine CallK.give (ds := [I64 mb, I64 6, .agg [I64 ms, I64 mn, I64 mb, I64 mc, I64 ma, I64 0, I64 1, I64 0]]) rfl (r183) (by simp) ?_)
          | (refine CallG.off ?_)
          | (with_reducible refine Or.inl ?_)
          | (simp only [thenS, blockS])
          | (with_reducible refine And.intro ?_ ?_)
          | (with_reducible exact True.intro)
          | (simp (dsimp := false) only [↓opsP_nil, ↓opsP_cons, ↓opsD_nil, ↓opsD_cons, ↓opP, ↓stepP, ↓stepG, go_sem, c1, hh, Bool.false_and, Bool.true_and, Bool.false_or, Bool.or_false, Bool.and_false, bne_self_eq_false]))
        all_goals (try (first | (intro hg; simp [hg]; done) | exact of_decide_eq_true rfl | (cases h; done)))
        (refine Fin.data (.inr rfl) (by simp (dsimp := false) only [↓opsP_nil, ↓opsP_cons, ↓opsD_nil, ↓opsD_cons, ↓opP, ↓stepP, ↓stepG, go_sem, resL]; rfl) (by simp only [and_self]) (by simp (dsimp := false) only [↓opsP_nil, ↓opsP_cons, ↓opsD_nil, ↓opsD_cons, ↓opP, ↓stepP, ↓stepG, go_sem, resP, Nat.le_refl, List.take_length]; try rfl) ?_)
        simp [subD, subL, subV, subD_refl]
      · have n2 : (e != 0) = true := by simpa using h2
        rw [if_pos h2]
        clear hc
        simp only [rOutD, RDesk.d, RDesk.cells, saidD, about, Msg.d, Msg.cells, Item.d, Item.cells, Option.toList, List.cons_append, List.nil_append] at *
        refine Runs.of (kit Try.prog) Try.func119 rfl rfl (by rw [Try.ntmps119]; exact of_decide_eq_true rfl) ?_; rw [Try.ntmps119, Try.results119]
        repeat' (first
          | ((first | refine Pwp.step (kit _) rfl fun K hK => ?_ | refine Pwp.last (kit _) rfl fun K hK => ?_ | refine Pwp.stepD (kit _) rfl rfl fun K hK => ?_ | refine Pwp.lastD (kit _) rfl rfl fun K hK => ?_); simp (dsimp := false) only [↓opsP_nil, ↓opsP_cons, ↓opsD_nil, ↓opsD_cons, ↓opP, ↓stepP, ↓stepG, go_sem, c1, hh, n2, Bool.false_and, Bool.true_and, Bool.false_or, Bool.or_false, Bool.and_false, bne_self_eq_false])
          | (refine Pwp.seq ?_)
          | (refine Pwp.block ?_)
          | (refine Pwp.exit ?_; simp only [thenS, blockS, if_true, if_false, reduceIte, Nat.reduceEqDiff, Nat.add_one_ne_zero, reduceCtorEq])
          | (refine Pwp.skip ?_; simp only [thenS, blockS])
          | (refine Pwp.cond rfl True.intro (fun h => ?_) (fun h => ?_) <;> (try (cases h; done)) <;> (try simp only [h]))
          | (refine Pwp.ret ?_; try simp only [thenS, blockS])
          | (refine hK _ ?_; clear hK K)
          | (refine hK _ _ rfl ?_; clear hK K)
          | (refine CallK.toD (ds := [.agg [I64 d.me, I64 d.far, .slc 8 (itemsD d.items), .slc 3 (ordersD d.orders)], .agg [I64 ms, I64 mn]]) rfl (r181) rfl ?_)
          | (refine CallK.toD (ds := [.agg [I64 ms, I64 mn, I64 mb, I64 mc, I64 ma, I64 0, I64 1, I64 0]]) rfl (r182) rfl ?_)
          | (refine CallG.off ?_)
          | (with_reducible refine Or.inl ?_)
          | (simp only [thenS, blockS])
          | (with_reducible refine And.intro ?_ ?_)
          | (with_reducible exact True.intro)
          | (simp (dsimp := false) only [↓opsP_nil, ↓opsP_cons, ↓opsD_nil, ↓opsD_cons, ↓opP, ↓stepP, ↓stepG, go_sem, c1, hh, n2, Bool.false_and, Bool.true_and, Bool.false_or, Bool.or_false, Bool.and_false, bne_self_eq_false]))
        all_goals (try (first | (intro hg; simp [hg]; done) | exact of_decide_eq_true rfl | (cases h; done)))
        (refine Fin.data (.inr rfl) (by simp (dsimp := false) only [↓opsP_nil, ↓opsP_cons, ↓opsD_nil, ↓opsD_cons, ↓opP, ↓stepP, ↓stepG, go_sem, resL]; rfl) (by simp only [and_self]) (by simp (dsimp := false) only [↓opsP_nil, ↓opsP_cons, ↓opsD_nil, ↓opsD_cons, ↓opP, ↓stepP, ↓stepG, go_sem, resP, Nat.le_refl, List.take_length]; try rfl) ?_)
        simp [subD, subL, subV, subD_refl]
  · have c1 : (ms != d.me) = true := by simpa using h1
    rw [if_pos h1]
    simp only [rOutD, RDesk.d, RDesk.cells, saidD, about, Msg.d, Msg.cells, Item.d, Item.cells, Option.toList, List.cons_append, List.nil_append] at *
    refine Runs.of (kit Try.prog) Try.func119 rfl rfl (by rw [Try.ntmps119]; exact of_decide_eq_true rfl) ?_; rw [Try.ntmps119, Try.results119]
    repeat' (first
      | ((first | refine Pwp.step (kit _) rfl fun K hK => ?_ | refine Pwp.last (kit _) rfl fun K hK => ?_ | refine Pwp.stepD (kit _) rfl rfl fun K hK => ?_ | refine Pwp.lastD (kit _) rfl rfl fun K hK => ?_); simp (dsimp := false) only [↓opsP_nil, ↓opsP_cons, ↓opsD_nil, ↓opsD_cons, ↓opP, ↓stepP, ↓stepG, go_sem, c1, Bool.false_and, Bool.true_and, Bool.false_or, Bool.or_false, Bool.and_false, bne_self_eq_false])
      | (refine Pwp.seq ?_)
      | (refine Pwp.block ?_)
      | (refine Pwp.exit ?_; simp only [thenS, blockS, if_true, if_false, reduceIte, Nat.reduceEqDiff, Nat.add_one_ne_zero, reduceCtorEq])
      | (refine Pwp.skip ?_; simp only [thenS, blockS])
      | (refine Pwp.cond rfl True.intro (fun h => ?_) (fun h => ?_) <;> (try (cases h; done)) <;> (try simp only [h]))
      | (refine Pwp.ret ?_; try simp only [thenS, blockS])
      | (refine hK _ ?_; clear hK K)
      | (refine hK _ _ rfl ?_; clear hK K)
      | (refine CallK.toD (ds := [.agg [I64 d.me, I64 d.far, .slc 8 (itemsD d.items), .slc 3 (ordersD d.orders)], .agg [I64 ms, I64 mn]]) rfl (r181) rfl ?_)
      | (refine CallG.off ?_)
      | (with_reducible refine Or.inl ?_)
      | (simp only [thenS, blockS])
      | (with_reducible refine And.intro ?_ ?_)
      | (with_reducible exact True.intro)
      | (simp (dsimp := false) only [↓opsP_nil, ↓opsP_cons, ↓opsD_nil, ↓opsD_cons, ↓opP, ↓stepP, ↓stepG, go_sem, c1, Bool.false_and, Bool.true_and, Bool.false_or, Bool.or_false, Bool.and_false, bne_self_eq_false]))
    all_goals (try (first | (intro hg; simp [hg]; done) | exact of_decide_eq_true rfl | (cases h; done)))
    (refine Fin.data (.inr rfl) (by simp (dsimp := false) only [↓opsP_nil, ↓opsP_cons, ↓opsD_nil, ↓opsD_cons, ↓opP, ↓stepP, ↓stepG, go_sem, resL]; rfl) (by simp only [and_self]) (by simp (dsimp := false) only [↓opsP_nil, ↓opsP_cons, ↓opsD_nil, ↓opsD_cons, ↓opP, ↓stepP, ↓stepG, go_sem, resP, Nat.le_refl, List.take_length]; try rfl) ?_)
    simp [subD, subL, subV, subD_refl]


end Go.Proofs.Ytdodgbhodkcckaa.Pv
