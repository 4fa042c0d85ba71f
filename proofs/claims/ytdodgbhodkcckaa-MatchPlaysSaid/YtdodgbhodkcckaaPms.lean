/- Walks of matching, the document's answer: what nodes say. -/
import Derived.Test.YtdodgbhodkcckaaPmp
set_option linter.unusedVariables false
set_option linter.unusedSimpArgs false
set_option autoImplicit false
set_option maxRecDepth 100000
namespace Go.Proofs.Ytdodgbhodkcckaa.Pv
open Go Go.RowKit

structure ROut where
  e : Int
  d : RDesk
  o : Option D
def rOutD (R : ROut) : D := .tup [R.d.d, .slc 12 R.o.toList, I64 R.e]
def RDesk.has (d : RDesk) (s n : Int) : Bool := decide (0 ≤ fndV s n 0 d.items)
def RDesk.got (d : RDesk) (s n : Int) : Item := (d.items[(fndV s n 0 d.items).toNat]?).getD Item.zero
theorem has_none {d : RDesk} {s n : Int} (h : fndV s n 0 d.items = -1) : d.has s n = false := by unfold RDesk.has; rw [h]; rfl
theorem has_some {d : RDesk} {s n : Int} {k : Nat} {x : Item} (h : fndV s n 0 d.items = ((0 + k : Nat) : Int)) (hx : d.items[k]? = some x) : d.has s n = true ∧ d.got s n = x := by
  unfold RDesk.has RDesk.got
  rw [h, Nat.zero_add, Int.toNat_natCast, hx]
  exact ⟨decide_eq_true (by omega), rfl⟩
def rAns (d : RDesk) (m : Msg) (f : Int) : Int := if d.has m.seller m.number = false then 4 else if ((d.got m.seller m.number).seller != d.me || f != (d.got m.seller m.number).buyer) = true then 140 else if (d.got m.seller m.number).round ≠ m.round then 90 else 0
def rConfirm (d : RDesk) (m : Msg) (f : Int) : ROut := if rAns d m f ≠ 0 then ⟨rAns d m f, d, none⟩ else if stepE (d.got m.seller m.number) 1 ≠ 0 then ⟨stepE (d.got m.seller m.number) 1, d, none⟩ else ⟨0, d.keep (stepI (d.got m.seller m.number) 1 3), none⟩
def goneI (x : Item) : Item := ⟨x.seller, x.number, x.buyer, x.currency, x.amount, x.round, 4, x.cycle⟩
def rDispute (d : RDesk) (m : Msg) (f : Int) : ROut := if rAns d m f ≠ 0 then ⟨rAns d m f, d, none⟩ else if stepE (d.got m.seller m.number) 1 ≠ 0 then ⟨stepE (d.got m.seller m.number) 1, d, none⟩
  else if (stepI (d.got m.seller m.number) 1 2).round = 3 then ⟨0, d.keep (goneI (stepI (d.got m.seller m.number) 1 2)), some (saidD f (about 9 (goneI (stepI (d.got m.seller m.number) 1 2))))⟩ else ⟨0, d.keep (stepI (d.got m.seller m.number) 1 2), none⟩
def rCanc (d : RDesk) (m : Msg) (f : Int) : Int := if d.has m.seller m.number = false then 4 else if (f != (d.got m.seller m.number).seller || (d.got m.seller m.number).buyer != d.me) = true then 140 else if (d.got m.seller m.number).round ≠ m.round then 90 else 0
def rCancel (d : RDesk) (m : Msg) (f : Int) : ROut := if rCanc d m f ≠ 0 then ⟨rCanc d m f, d, none⟩ else if stepE (d.got m.seller m.number) 2 ≠ 0 then ⟨stepE (d.got m.seller m.number) 2, d, none⟩ else ⟨0, d.keep (stepI (d.got m.seller m.number) 2 4), none⟩

set_option maxHeartbeats 32000000 in
theorem run120_7 (d : RDesk) (m : Msg) (f : Int) (hk : m.kind = 7) (hl : d.items.length ≤ 100000) (hr : ∀ x ∈ d.items, 0 ≤ x.round ∧ x.round ≤ 3) : Runs Try.prog 120 [.d d.d, .d m.d, pint .i64 f] [] (.d (rOutD (rConfirm d m f))) [] := by
  obtain ⟨mk, ms, mn, mb, mc, mr, my, ma, mq, ml, mt⟩ := m
  simp only at hk
  subst hk
  have r181 := run181 d ms mn hl
  rcases fnd_at ms mn d.items 0 with ⟨h1, _⟩ | ⟨k, x, h1, h2, h3⟩
  · rw [h1] at r181
    have hA : rAns d ⟨7, ms, mn, mb, mc, mr, my, ma, mq, ml, mt⟩ f = 4 := by
      unfold rAns
      simp only [has_none h1]
      rw [if_pos True.intro]
    unfold rConfirm
    simp only [hA]
    rw [if_pos (by simp)]
    simp only [rOutD, RDesk.d, RDesk.cells, saidD, about, Msg.d, Msg.cells, Item.d, Item.cells, Option.toList, List.cons_append, List.nil_append] at *
    refine Runs.of (kit Try.prog) Try.func120 rfl rfl (by rw [Try.ntmps120]; exact of_decide_eq_true rfl) ?_; rw [Try.ntmps120, Try.results120]
    repeat' (first
      | ((first | refine Pwp.step (kit _) rfl fun K hK => ?_ | refine Pwp.last (kit _) rfl fun K hK => ?_ | refine Pwp.stepD (kit _) rfl rfl fun K hK => ?_ | refine Pwp.lastD (kit _) rfl rfl fun K hK => ?_); simp (dsimp := false) only [↓opsP_nil, ↓opsP_cons, ↓opsD_nil, ↓opsD_cons, ↓opP, ↓stepP, ↓stepG, go_sem, Bool.false_and, Bool.true_and, Bool.false_or, Bool.or_false, Bool.and_false, bne_self_eq_false])
      | (refine Pwp.seq ?_)
      | (refine Pwp.block ?_)
      | (refine Pwp.exit ?_; simp only [thenS, blockS, if_true, if_false, reduceIte, Nat.reduceEqDiff, Nat.add_one_ne_zero, reduceCtorEq])
      | (refine Pwp.skip ?_; simp only [thenS, blockS])
      | (refine Pwp.cond rfl True.intro (fun h => ?_) (fun h => ?_) <;> (try (cases h; done)) <;> (try simp only [h]))
      | (refine Pwp.ret ?_; try simp only [thenS, blockS])
      | (refine hK _ ?_; clear hK K)
      | (refine hK _ _ rfl ?_; clear hK K)
      | (refine CallK.toD (ds := [.agg [I64 d.me, I64 d.far, .slc 8 (itemsD d.items), .slc 3 (ordersD d.orders)], .agg [I64 ms, I64 mn]]) rfl (r181) rfl ?_)
      | (refine CallG.off ?_)
      | (with_reducible refine Or.inl ?_)
      | (simp only [thenS, blockS])
      | (with_reducible refine And.intro ?_ ?_)
      | (with_reducible exact True.intro)
      | (simp (dsimp := false) only [↓opsP_nil, ↓opsP_cons, ↓opsD_nil, ↓opsD_cons, ↓opP, ↓stepP, ↓stepG, go_sem, Bool.false_and, Bool.true_and, Bool.false_or, Bool.or_false, Bool.and_false, bne_self_eq_false]))
    all_goals (try (first | (intro hg; simp [hg]; done) | exact of_decide_eq_true rfl | (cases h; done)))
    (refine Fin.data (.inr rfl) (by simp (dsimp := false) only [↓opsP_nil, ↓opsP_cons, ↓opsD_nil, ↓opsD_cons, ↓opP, ↓stepP, ↓stepG, go_sem, resL]; rfl) (by simp only [and_self]) (by simp (dsimp := false) only [↓opsP_nil, ↓opsP_cons, ↓opsD_nil, ↓opsD_cons, ↓opP, ↓stepP, ↓stepG, go_sem, resP, Nat.le_refl, List.take_length]; try rfl) ?_)
    simp [subD, subL, subV, subD_refl]
  · obtain ⟨e1, e2⟩ := has_some h1 h2
    rw [h1, Nat.zero_add] at r181
    have c0 : decide ((k : Int) < 0) = false := by rw [decide_eq_false_iff_not]; omega
    have hg := items_get8 h2
    have ht := Int.toNat_natCast k
    have p0 : (0 : Int) ≤ (k : Int) := by omega
    have hrx := hr x (List.mem_of_getElem? h2)
    have r184 := run184 x 2 0 (by simp) hrx
    rw [show actI x 2 0 = stepI x 1 3 from rfl, show actE x 2 0 = stepE x 1 from rfl] at r184
    have r121 := run121 d (stepI x 1 3) hl
    clear hr h1
    cases c1 : (x.seller != d.me || f != x.buyer) with
    | true =>
      have hA : rAns d ⟨7, ms, mn, mb, mc, mr, my, ma, mq, ml, mt⟩ f = 140 := by
        unfold rAns
        simp only [e1, e2]
        rw [if_neg (by simp), if_pos c1]
      unfold rConfirm
      simp only [hA, e2]
      rw [if_pos (by simp)]
      simp only [rOutD, RDesk.d, RDesk.cells, saidD, about, Msg.d, Msg.cells, Item.d, Item.cells, Option.toList, List.cons_append, List.nil_append] at *
      refine Runs.of (kit Try.prog) Try.func120 rfl rfl (by rw [Try.ntmps120]; exact of_decide_eq_true rfl) ?_; rw [Try.ntmps120, Try.results120]
      repeat' (first
        | ((first | refine Pwp.step (kit _) rfl fun K hK => ?_ | refine Pwp.last (kit _) rfl fun K hK => ?_ | refine Pwp.stepD (kit _) rfl rfl fun K hK => ?_ | refine Pwp.lastD (kit _) rfl rfl fun K hK => ?_); simp (dsimp := false) only [↓opsP_nil, ↓opsP_cons, ↓opsD_nil, ↓opsD_cons, ↓opP, ↓stepP, ↓stepG, go_sem, c0, hg, ht, p0, c1, Bool.false_and, Bool.true_and, Bool.false_or, Bool.or_false, Bool.and_false, bne_self_eq_false])
        | (refine Pwp.seq ?_)
        | (refine Pwp.block ?_)
        | (refine Pwp.exit ?_; simp only [thenS, blockS, if_true, if_false, reduceIte, Nat.reduceEqDiff, Nat.add_one_ne_zero, reduceCtorEq])
        | (refine Pwp.skip ?_; simp only [thenS, blockS])
        | (refine Pwp.cond rfl True.intro (fun h => ?_) (fun h => ?_) <;> (try (cases h; done)) <;> (try simp only [h]))
        | (refine Pwp.ret ?_; try simp only [thenS, blockS])
        | (refine hK _ ?_; clear hK K)
        | (refine hK _ _ rfl ?_; clear hK K)
        | (refine CallK.toD (ds := [.agg [I64 d.me, I64 d.far, .slc 8 (itemsD d.items), .slc 3 (ordersD d.orders)], .agg [I64 ms, I64 mn]]) rfl (r181) rfl ?_)
        | (refine CallK.toD (ds := [.agg [I64 x.seller, I64 x.number, I64 x.buyer, I64 x.currency, I64 x.amount, I64 x.round, I64 x.state, I64 x.cycle], I64 2, I64 0]) rfl (r184) rfl ?_)
        | (refine CallG.off ?_)
        | (with_reducible refine Or.inl ?_)
        | (simp only [thenS, blockS])
        | (with_reducible refine And.intro ?_ ?_)
        | (with_reducible exact True.intro)
        | (simp (dsimp := false) only [↓opsP_nil, ↓opsP_cons, ↓opsD_nil, ↓opsD_cons, ↓opP, ↓stepP, ↓stepG, go_sem, c0, hg, ht, p0, c1, Bool.false_and, Bool.true_and, Bool.false_or, Bool.or_false, Bool.and_false, bne_self_eq_false]))
      all_goals (try (first | (intro hg; simp [hg]; done) | exact of_decide_eq_true rfl | (cases h; done)))
      (refine Fin.data (.inr rfl) (by simp (dsimp := false) only [↓opsP_nil, ↓opsP_cons, ↓opsD_nil, ↓opsD_cons, ↓opP, ↓stepP, ↓stepG, go_sem, resL]; rfl) (by simp only [and_self]) (by simp (dsimp := false) only [↓opsP_nil, ↓opsP_cons, ↓opsD_nil, ↓opsD_cons, ↓opP, ↓stepP, ↓stepG, go_sem, resP, Nat.le_refl, List.take_length]; try rfl) ?_)
      simp [subD, subL, subV, subD_refl]
    | false =>
      by_cases h4 : x.round = mr
      · have c2 : (x.round != mr) = false := by simp [h4]
        have hA : rAns d ⟨7, ms, mn, mb, mc, mr, my, ma, mq, ml, mt⟩ f = 0 := by
          unfold rAns
          simp only [e1, e2]
          rw [if_neg (by simp), if_neg (by rw [c1]; simp), if_neg (by simpa using h4)]
        unfold rConfirm
        simp only [hA, e2]
        rw [if_neg (by simp)]
        by_cases h5 : stepE x 1 = 0
        · rw [h5] at r184
          rw [if_neg (by simpa using h5)]
          generalize stepI x 1 3 = y at *
          generalize d.keep y = d2 at *
          simp only [rOutD, RDesk.d, RDesk.cells, saidD, about, Msg.d, Msg.cells, Item.d, Item.cells, Option.toList, List.cons_append, List.nil_append] at *
          refine Runs.of (kit Try.prog) Try.func120 rfl rfl (by rw [Try.ntmps120]; exact of_decide_eq_true rfl) ?_; rw [Try.ntmps120, Try.results120]
          repeat' (first
            | ((first | refine Pwp.step (kit _) rfl fun K hK => ?_ | refine Pwp.last (kit _) rfl fun K hK => ?_ | refine Pwp.stepD (kit _) rfl rfl fun K hK => ?_ | refine Pwp.lastD (kit _) rfl rfl fun K hK => ?_); simp (dsimp := false) only [↓opsP_nil, ↓opsP_cons, ↓opsD_nil, ↓opsD_cons, ↓opP, ↓stepP, ↓stepG, go_sem, c0, hg, ht, p0, c1, c2, Bool.false_and, Bool.true_and, Bool.false_or, Bool.or_false, Bool.and_false, bne_self_eq_false])
            | (refine Pwp.seq ?_)
            | (refine Pwp.block ?_)
            | (refine Pwp.exit ?_; simp only [thenS, blockS, if_true, if_false, reduceIte, Nat.reduceEqDiff, Nat.add_one_ne_zero, reduceCtorEq])
            | (refine Pwp.skip ?_; simp only [thenS, blockS])
            | (refine Pwp.cond rfl True.intro (fun h => ?_) (fun h => ?_) <;> (try (cases h; done)) <;> (try simp only [h]))
            | (refine Pwp.ret ?_; try simp only [thenS, blockS])
            | (refine hK _ ?_; clear hK K)
            | (refine hK _ _ rfl ?_; clear hK K)
            | (refine CallK.toD (ds := [.agg [I64 d.me, I64 d.far, .slc 8 (itemsD d.items), .slc 3 (ordersD d.orders)], .agg [I64 ms, I64 mn]]) rfl (r181) rfl ?_)
            | (refine CallK.toD (ds := [.agg [I64 x.seller, I64 x.number, I64 x.buyer, I64 x.currency, I64 x.amount, I64 x.round, I64 x.state, I64 x.cycle], I64 2, I64 0]) rfl (r184) rfl ?_)
            | (refine CallK.give (ds := [.agg [I64 d.me, I64 d.far, .slc 8 (itemsD d.items), .slc 3 (ordersD d.orders)], .agg [I64 y.seller, I64 y.number, I64 y.buyer, I64 y.currency, I64 y.amount, I64 y.round, I64 y.state, I64 y.cycle]]) rfl (r121) (by simp) ?_)
            | (refine CallG.off ?_)
            | (with_reducible refine Or.inl ?_)
            | (simp only [thenS, blockS])
            | (with_reducible refine And.intro ?_ ?_)
            | (with_reducible exact True.intro)
            | (simp (dsimp := false) only [↓opsP_nil, ↓opsP_cons, ↓opsD_nil, ↓opsD_cons, ↓opP, ↓stepP, ↓stepG, go_sem, c0, hg, ht, p0, c1, c2, Bool.false_and, Bool.true_and, Bool.false_or, Bool.or_false, Bool.and_false, bne_self_eq_false]))
          all_goals (try (first | (intro hg; simp [hg]; done) | exact of_decide_eq_true rfl | (cases h; done)))
          (refine Fin.data (.inr rfl) (by simp (dsimp := false) only [↓opsP_nil, ↓opsP_cons, ↓opsD_nil, ↓opsD_cons, ↓opP, ↓stepP, ↓stepG, go_sem, resL]; rfl) (by simp only [and_self]) (by simp (dsimp := false) only [↓opsP_nil, ↓opsP_cons, ↓opsD_nil, ↓opsD_cons, ↓opP, ↓stepP, ↓stepG, go_sem, resP, Nat.le_refl, List.take_length]; try rfl) ?_)
          simp [subD, subL, subV, subD_refl]
        · rw [if_pos h5]
          have n1 : (stepE x 1 != 0) = true := by simpa using h5
          generalize stepE x 1 = e at *
          simp only [rOutD, RDesk.d, RDesk.cells, saidD, about, Msg.d, Msg.cells, Item.d, Item.cells, Option.toList, List.cons_append, List.nil_append] at *
          refine Runs.of (kit Try.prog) Try.func120 rfl rfl (by rw [Try.ntmps120]; exact of_decide_eq_true rfl) ?_; rw [Try.ntmps120, Try.results120]
          repeat' (first
            | ((first | refine Pwp.step (kit _) rfl fun K hK => ?_ | refine Pwp.last (kit _) rfl fun K hK => ?_ | refine Pwp.stepD (kit _) rfl rfl fun K hK => ?_ | refine Pwp.lastD (kit _) rfl rfl fun K hK => ?_); simp (dsimp := false) only [↓opsP_nil, ↓opsP_cons, ↓opsD_nil, ↓opsD_cons, ↓opP, ↓stepP, ↓stepG, go_sem, c0, hg, ht, p0, c1, c2, n1, Bool.false_and, Bool.true_and, Bool.false_or, Bool.or_false, Bool.and_false, bne_self_eq_false])
            | (refine Pwp.seq ?_)
            | (refine Pwp.block ?_)
            | (refine Pwp.exit ?_; simp only [thenS, blockS, if_true, if_false, reduceIte, Nat.reduceEqDiff, Nat.add_one_ne_zero, reduceCtorEq])
            | (refine Pwp.skip ?_; simp only [thenS, blockS])
            | (refine Pwp.cond rfl True.intro (fun h => ?_) (fun h => ?_) <;> (try (cases h; done)) <;> (try simp only [h]))
            | (refine Pwp.ret ?_; try simp only [thenS, blockS])
            | (refine hK _ ?_; clear hK K)
            | (refine hK _ _ rfl ?_; clear hK K)
            | (refine CallK.toD (ds := [.agg [I64 d.me, I64 d.far, .slc 8 (itemsD d.items), .slc 3 (ordersD d.orders)], .agg [I64 ms, I64 mn]]) rfl (r181) rfl ?_)
            | (refine CallK.toD (ds := [.agg [I64 x.seller, I64 x.number, I64 x.buyer, I64 x.currency, I64 x.amount, I64 x.round, I64 x.state, I64 x.cycle], I64 2, I64 0]) rfl (r184) rfl ?_)
            | (refine CallG.off ?_)
            | (with_reducible refine Or.inl ?_)
            | (simp only [thenS, blockS])
            | (with_reducible refine And.intro ?_ ?_)
            | (with_reducible exact True.intro)
            | (simp (dsimp := false) only [↓opsP_nil, ↓opsP_cons, ↓opsD_nil, ↓opsD_cons, ↓opP, ↓stepP, ↓stepG, go_sem, c0, hg, ht, p0, c1, c2, n1, Bool.false_and, Bool.true_and, Bool.false_or, Bool.or_false, Bool.and_false, bne_self_eq_false]))
          all_goals (try (first | (intro hg; simp [hg]; done) | exact of_decide_eq_true rfl | (cases h; done)))
          (refine Fin.data (.inr rfl) (by simp (dsimp := false) only [↓opsP_nil, ↓opsP_cons, ↓opsD_nil, ↓opsD_cons, ↓opP, ↓stepP, ↓stepG, go_sem, resL]; rfl) (by simp only [and_self]) (by simp (dsimp := false) only [↓opsP_nil, ↓opsP_cons, ↓opsD_nil, ↓opsD_cons, ↓opP, ↓stepP, ↓stepG, go_sem, resP, Nat.le_refl, List.take_length]; try rfl) ?_)
          simp [subD, subL, subV, subD_refl]
      · have c2 : (x.round != mr) = true := by simpa using h4
        have hA : rAns d ⟨7, ms, mn, mb, mc, mr, my, ma, mq, ml, mt⟩ f = 90 := by
          unfold rAns
          simp only [e1, e2]
          rw [if_neg (by simp), if_neg (by rw [c1]; simp), if_pos h4]
        unfold rConfirm
        simp only [hA, e2]
        rw [if_pos (by simp)]
        simp only [rOutD, RDesk.d, RDesk.cells, saidD, about, Msg.d, Msg.cells, Item.d, Item.cells, Option.toList, List.cons_append, List.nil_append] at *
        refine Runs.of (kit Try.prog) Try.func120 rfl rfl (by rw [Try.ntmps120]; exact of_decide_eq_true rfl) ?_; rw [Try.ntmps120, Try.results120]
        repeat' (first
          | ((first | refine Pwp.step (kit _) rfl fun K hK => ?_ | refine Pwp.last (kit _) rfl fun K hK => ?_ | refine Pwp.stepD (kit _) rfl rfl fun K hK => ?_ | refine Pwp.lastD (kit _) rfl rfl fun K hK => ?_); simp (dsimp := false) only [↓opsP_nil, ↓opsP_cons, ↓opsD_nil, ↓opsD_cons, ↓opP, ↓stepP, ↓stepG, go_sem, c0, hg, ht, p0, c1, c2, Bool.false_and, Bool.true_and, Bool.false_or, Bool.or_false, Bool.and_false, bne_self_eq_false])
          | (refine Pwp.seq ?_)
          | (refine Pwp.block ?_)
          | (refine Pwp.exit ?_; simp only [thenS, blockS, if_true, if_false, reduceIte, Nat.reduceEqDiff, Nat.add_one_ne_zero, reduceCtorEq])
          | (refine Pwp.skip ?_; simp only [thenS, blockS])
          | (refine Pwp.cond rfl True.intro (fun h => ?_) (fun h => ?_) <;> (try (cases h; done)) <;> (try simp only [h]))
          | (refine Pwp.ret ?_; try simp only [thenS, blockS])
          | (refine hK _ ?_; clear hK K)
          | (refine hK _ _ rfl ?_; clear hK K)
          | (refine CallK.toD (ds := [.agg [I64 d.me, I64 d.far, .slc 8 (itemsD d.items), .slc 3 (ordersD d.orders)], .agg [I64 ms, I64 mn]]) rfl (r181) rfl ?_)
          | (refine CallK.toD (ds := [.agg [I64 x.seller, I64 x.number, I64 x.buyer, I64 x.currency, I64 x.amount, I64 x.round, I64 x.state, I64 x.cycle], I64 2, I64 0]) rfl (r184) rfl ?_)
          | (refine CallG.off ?_)
          | (with_reducible refine Or.inl ?_)
          | (simp only [thenS, blockS])
          | (with_reducible refine And.intro ?_ ?_)
          | (with_reducible exact True.intro)
          | (simp (dsimp := false) only [↓opsP_nil, ↓opsP_cons, ↓opsD_nil, ↓opsD_cons, ↓opP, ↓stepP, ↓stepG, go_sem, c0, hg, ht, p0, c1, c2, Bool.false_and, Bool.true_and, Bool.false_or, Bool.or_false, Bool.and_false, bne_self_eq_false]))
        all_goals (try (first | (intro hg; simp [hg]; done) | exact of_decide_eq_true rfl | (cases h; done)))
        (refine Fin.data (.inr rfl) (by simp (dsimp := false) only [↓opsP_nil, ↓opsP_cons, ↓opsD_nil, ↓opsD_cons, ↓opP, ↓stepP, ↓stepG, go_sem, resL]; rfl) (by simp only [and_self]) (by simp (dsimp := false) only [↓opsP_nil, ↓opsP_cons, ↓opsD_nil, ↓opsD_cons, ↓opP, ↓stepP, ↓stepG, go_sem, resP, Nat.le_refl, List.take_length]; try rfl) ?_)
        simp [subD, subL, subV, subD_refl]

set_option maxHeartbeats 32000000 in
theorem run120_8 (d : RDesk) (m : Msg) (f : Int) (hk : m.kind = 8) (hl : d.items.length ≤ 100000) (hr : ∀ x ∈ d.items, 0 ≤ x.round ∧ x.round ≤ 3) : Runs Try.prog 120 [.d d.d, .d m.d, pint .i64 f] [] (.d (rOutD (rDispute d m f))) [] := by
  obtain ⟨mk, ms, mn, mb, mc, mr, my, ma, mq, ml, mt⟩ := m
  simp only at hk
  subst hk
  have r181 := run181 d ms mn hl
  rcases fnd_at ms mn d.items 0 with ⟨h1, _⟩ | ⟨k, x, h1, h2, h3⟩
  · rw [h1] at r181
    have hA : rAns d ⟨8, ms, mn, mb, mc, mr, my, ma, mq, ml, mt⟩ f = 4 := by
      unfold rAns
      simp only [has_none h1]
      rw [if_pos True.intro]
    unfold rDispute
    simp only [hA]
    rw [if_pos (by simp)]
    simp only [rOutD, RDesk.d, RDesk.cells, saidD, about, Msg.d, Msg.cells, Item.d, Item.cells, Option.toList, List.cons_append, List.nil_append] at *
    refine Runs.of (kit Try.prog) Try.func120 rfl rfl (by rw [Try.ntmps120]; exact of_decide_eq_true rfl) ?_; rw [Try.ntmps120, Try.results120]
    repeat' (first
      | ((first | refine Pwp.step (kit _) rfl fun K hK => ?_ | refine Pwp.last (kit _) rfl fun K hK => ?_ | refine Pwp.stepD (kit _) rfl rfl fun K hK => ?_ | refine Pwp.lastD (kit _) rfl rfl fun K hK => ?_); simp (dsimp := false) only [↓opsP_nil, ↓opsP_cons, ↓opsD_nil, ↓opsD_cons, ↓opP, ↓stepP, ↓stepG, go_sem, Bool.false_and, Bool.true_and, Bool.false_or, Bool.or_false, Bool.and_false, bne_self_eq_false])
      | (refine Pwp.seq ?_)
      | (refine Pwp.block ?_)
      | (refine Pwp.exit ?_; simp only [thenS, blockS, if_true, if_false, reduceIte, Nat.reduceEqDiff, Nat.add_one_ne_zero, reduceCtorEq])
      | (refine Pwp.skip ?_; simp only [thenS, blockS])
      | (refine Pwp.cond rfl True.intro (fun h => ?_) (fun h => ?_) <;> (try (cases h; done)) <;> (try simp only [h]))
      | (refine Pwp.ret ?_; try simp only [thenS, blockS])
      | (refine hK _ ?_; clear hK K)
      | (refine hK _ _ rfl ?_; clear hK K)
      | (refine CallK.toD (ds := [.agg [I64 d.me, I64 d.far, .slc 8 (itemsD d.items), .slc 3 (ordersD d.orders)], .agg [I64 ms, I64 mn]]) rfl (r181) rfl ?_)
      | (refine CallG.off ?_)
      | (with_reducible refine Or.inl ?_)
      | (simp only [thenS, blockS])
      | (with_reducible refine And.intro ?_ ?_)
      | (with_reducible exact True.intro)
      | (simp (dsimp := false) only [↓opsP_nil, ↓opsP_cons, ↓opsD_nil, ↓opsD_cons, ↓opP, ↓stepP, ↓stepG, go_sem, Bool.false_and, Bool.true_and, Bool.false_or, Bool.or_false, Bool.and_false, bne_self_eq_false]))
    all_goals (try (first | (intro hg; simp [hg]; done) | exact of_decide_eq_true rfl | (cases h; done)))
    (refine Fin.data (.inr rfl) (by simp (dsimp := false) only [↓opsP_nil, ↓opsP_cons, ↓opsD_nil, ↓opsD_cons, ↓opP, ↓stepP, ↓stepG, go_sem, resL]; rfl) (by simp only [and_self]) (by simp (dsimp := false) only [↓opsP_nil, ↓opsP_cons, ↓opsD_nil, ↓opsD_cons, ↓opP, ↓stepP, ↓stepG, go_sem, resP, Nat.le_refl, List.take_length]; try rfl) ?_)
    simp [subD, subL, subV, subD_refl]
  · obtain ⟨e1, e2⟩ := has_some h1 h2
    rw [h1, Nat.zero_add] at r181
    have c0 : decide ((k : Int) < 0) = false := by rw [decide_eq_false_iff_not]; omega
    have hg := items_get8 h2
    have ht := Int.toNat_natCast k
    have p0 : (0 : Int) ≤ (k : Int) := by omega
    have hrx := hr x (List.mem_of_getElem? h2)
    have r184 := run184 x 1 0 (by simp) hrx
    rw [show actI x 1 0 = stepI x 1 2 from rfl, show actE x 1 0 = stepE x 1 from rfl] at r184
    have r121 := run121 d (stepI x 1 2) hl
    have r121b := run121 d (goneI (stepI x 1 2)) hl
    have r183 := run183 f 9 (goneI (stepI x 1 2))
    clear hr h1
    cases c1 : (x.seller != d.me || f != x.buyer) with
    | true =>
      have hA : rAns d ⟨8, ms, mn, mb, mc, mr, my, ma, mq, ml, mt⟩ f = 140 := by
        unfold rAns
        simp only [e1, e2]
        rw [if_neg (by simp), if_pos c1]
      unfold rDispute
      simp only [hA, e2]
      rw [if_pos (by simp)]
      simp only [rOutD, RDesk.d, RDesk.cells, saidD, about, Msg.d, Msg.cells, Item.d, Item.cells, Option.toList, List.cons_append, List.nil_append] at *
      refine Runs.of (kit Try.prog) Try.func120 rfl rfl (by rw [Try.ntmps120]; exact of_decide_eq_true rfl) ?_; rw [Try.ntmps120, Try.results120]
      repeat' (first
        | ((first | refine Pwp.step (kit _) rfl fun K hK => ?_ | refine Pwp.last (kit _) rfl fun K hK => ?_ | refine Pwp.stepD (kit _) rfl rfl fun K hK => ?_ | refine Pwp.lastD (kit _) rfl rfl fun K hK => ?_); simp (dsimp := false) only [↓opsP_nil, ↓opsP_cons, ↓opsD_nil, ↓opsD_cons, ↓opP, ↓stepP, ↓stepG, go_sem, c0, hg, ht, p0, c1, Bool.false_and, Bool.true_and, Bool.false_or, Bool.or_false, Bool.and_false, bne_self_eq_false])
        | (refine Pwp.seq ?_)
        | (refine Pwp.block ?_)
        | (refine Pwp.exit ?_; simp only [thenS, blockS, if_true, if_false, reduceIte, Nat.reduceEqDiff, Nat.add_one_ne_zero, reduceCtorEq])
        | (refine Pwp.skip ?_; simp only [thenS, blockS])
        | (refine Pwp.cond rfl True.intro (fun h => ?_) (fun h => ?_) <;> (try (cases h; done)) <;> (try simp only [h]))
        | (refine Pwp.ret ?_; try simp only [thenS, blockS])
        | (refine hK _ ?_; clear hK K)
        | (refine hK _ _ rfl ?_; clear hK K)
        | (refine CallK.toD (ds := [.agg [I64 d.me, I64 d.far, .slc 8 (itemsD d.items), .slc 3 (ordersD d.orders)], .agg [I64 ms, I64 mn]]) rfl (r181) rfl ?_)
        | (refine CallK.toD (ds := [.agg [I64 x.seller, I64 x.number, I64 x.buyer, I64 x.currency, I64 x.amount, I64 x.round, I64 x.state, I64 x.cycle], I64 1, I64 0]) rfl (r184) rfl ?_)
        | (refine CallG.off ?_)
        | (with_reducible refine Or.inl ?_)
        | (simp only [thenS, blockS])
        | (with_reducible refine And.intro ?_ ?_)
        | (with_reducible exact True.intro)
        | (simp (dsimp := false) only [↓opsP_nil, ↓opsP_cons, ↓opsD_nil, ↓opsD_cons, ↓opP, ↓stepP, ↓stepG, go_sem, c0, hg, ht, p0, c1, Bool.false_and, Bool.true_and, Bool.false_or, Bool.or_false, Bool.and_false, bne_self_eq_false]))
      all_goals (try (first | (intro hg; simp [hg]; done) | exact of_decide_eq_true rfl | (cases h; done)))
      (refine Fin.data (.inr rfl) (by simp (dsimp := false) only [↓opsP_nil, ↓opsP_cons, ↓opsD_nil, ↓opsD_cons, ↓opP, ↓stepP, ↓stepG, go_sem, resL]; rfl) (by simp only [and_self]) (by simp (dsimp := false) only [↓opsP_nil, ↓opsP_cons, ↓opsD_nil, ↓opsD_cons, ↓opP, ↓stepP, ↓stepG, go_sem, resP, Nat.le_refl, List.take_length]; try rfl) ?_)
      simp [subD, subL, subV, subD_refl]
    | false =>
      by_cases h4 : x.round = mr
      · have c2 : (x.round != mr) = false := by simp [h4]
        have hA : rAns d ⟨8, ms, mn, mb, mc, mr, my, ma, mq, ml, mt⟩ f = 0 := by
          unfold rAns
          simp only [e1, e2]
          rw [if_neg (by simp), if_neg (by rw [c1]; simp), if_neg (by simpa using h4)]
        unfold rDispute
        simp only [hA, e2]
        rw [if_neg (by simp)]
        by_cases h5 : stepE x 1 = 0
        · rw [h5] at r184
          rw [if_neg (by simpa using h5)]
          generalize stepI x 1 2 = y at *
          by_cases h6 : y.round = 3
          · have c3 : (y.round == 3) = true := by simp [h6]
            rw [if_pos h6]
            unfold goneI at *
            generalize d.keep ⟨y.seller, y.number, y.buyer, y.currency, y.amount, y.round, 4, y.cycle⟩ = d2 at *
            simp only [rOutD, RDesk.d, RDesk.cells, saidD, about, Msg.d, Msg.cells, Item.d, Item.cells, Option.toList, List.cons_append, List.nil_append] at *
            refine Runs.of (kit Try.prog) Try.func120 rfl rfl (by rw [Try.ntmps120]; exact of_decide_eq_true rfl) ?_; rw [Try.ntmps120, Try.results120]
            repeat' (first
              | ((first | refine Pwp.step (kit _) rfl fun K hK => ?_ | refine Pwp.last (kit _) rfl fun K hK => ?_ | refine Pwp.stepD (kit _) rfl rfl fun K hK => ?_ | refine Pwp.lastD (kit _) rfl rfl fun K hK => ?_); simp (dsimp := false) only [↓opsP_nil, ↓opsP_cons, ↓opsD_nil, ↓opsD_cons, ↓opP, ↓stepP, ↓stepG, go_sem, c0, hg, ht, p0, c1, c2, c3, Bool.false_and, Bool.true_and, Bool.false_or, Bool.or_false, Bool.and_false, bne_self_eq_false])
              | (refine Pwp.seq ?_)
              | (refine Pwp.block ?_)
              | (refine Pwp.exit ?_; simp only [thenS, blockS, if_true, if_false, reduceIte, Nat.reduceEqDiff, Nat.add_one_ne_zero, reduceCtorEq])
              | (refine Pwp.skip ?_; simp only [thenS, blockS])
              | (refine Pwp.cond rfl True.intro (fun h => ?_) (fun h => ?_) <;> (try (cases h; done)) <;> (try simp only [h]))
              | (refine Pwp.ret ?_; try simp only [thenS, blockS])
              | (refine hK _ ?_; clear hK K)
              | (refine hK _ _ rfl ?_; clear hK K)
              | (refine CallK.toD (ds := [.agg [I64 d.me, I64 d.far, .slc 8 (itemsD d.items), .slc 3 (ordersD d.orders)], .agg [I64 ms, I64 mn]]) rfl (r181) rfl ?_)
              | (refine CallK.toD (ds := [.agg [I64 x.seller, I64 x.number, I64 x.buyer, I64 x.currency, I64 x.amount, I64 x.round, I64 x.state, I64 x.cycle], I64 1, I64 0]) rfl (r184) rfl ?_)
              | (refine CallK.give (ds := [.agg [I64 d.me, I64 d.far, .slc 8 (itemsD d.items), .slc 3 (ordersD d.orders)], .agg [I64 y.seller, I64 y.number, I64 y.buyer, I64 y.currency, I64 y.amount, I64 y.round, I64 4, I64 y.cycle]]) rfl (r121b) (by simp) ?_)
              | (refine CallK.give (ds := [I64 f, I64 9, .agg [I64 y.seller, I64 y.number, I64 y.buyer, I64 y.currency, I64 y.amount, I64 y.round, I64 4, I64 y.cycle]]) rfl (r183) (by simp) ?_)
              | (refine CallG.off ?_)
              | (with_reducible refine Or.inl ?_)
              | (simp only [thenS, blockS])
              | (with_reducible refine And.intro ?_ ?_)
              | (with_reducible exact True.intro)
              | (simp (dsimp := false) only [↓opsP_nil, ↓opsP_cons, ↓opsD_nil, ↓opsD_cons, ↓opP, ↓stepP, ↓stepG, go_sem, c0, hg, ht, p0, c1, c2, c3, Bool.false_and, Bool.true_and, Bool.false_or, Bool.or_false, Bool.and_false, bne_self_eq_false]))
            all_goals (try (first | (intro hg; simp [hg]; done) | exact of_decide_eq_true rfl | (cases h; done)))
            (refine Fin.data (.inr rfl) (by simp (dsimp := false) only [↓opsP_nil, ↓opsP_cons, ↓opsD_nil, ↓opsD_cons, ↓opP, ↓stepP, ↓stepG, go_sem, resL]; rfl) (by simp only [and_self]) (by simp (dsimp := false) only [↓opsP_nil, ↓opsP_cons, ↓opsD_nil, ↓opsD_cons, ↓opP, ↓stepP, ↓stepG, go_sem, resP, Nat.le_refl, List.take_length]; try rfl) ?_)
            simp [subD, subL, subV, subD_refl]
          · have c3 : (y.round == 3) = false := by simpa using h6
            rw [if_neg h6]
            generalize d.keep y = d2 at *
            simp only [rOutD, RDesk.d, RDesk.cells, saidD, about, Msg.d, Msg.cells, Item.d, Item.cells, Option.toList, List.cons_append, List.nil_append] at *
            refine Runs.of (kit Try.prog) Try.func120 rfl rfl (by rw [Try.ntmps120]; exact of_decide_eq_true rfl) ?_; rw [Try.ntmps120, Try.results120]
            repeat' (first
              | ((first | refine Pwp.step (kit _) rfl fun K hK => ?_ | refine Pwp.last (kit _) rfl fun K hK => ?_ | refine Pwp.stepD (kit _) rfl rfl fun K hK => ?_ | refine Pwp.lastD (kit _) rfl rfl fun K hK => ?_); simp (dsimp := false) only [↓opsP_nil, ↓opsP_cons, ↓opsD_nil, ↓opsD_cons, ↓opP, ↓stepP, ↓stepG, go_sem, c0, hg, ht, p0, c1, c2, c3, Bool.false_and, Bool.true_and, Bool.false_or, Bool.or_false, Bool.and_false, bne_self_eq_false])
              | (refine Pwp.seq ?_)
              | (refine Pwp.block ?_)
              | (refine Pwp.exit ?_; simp only [thenS, blockS, if_true, if_false, reduceIte, Nat.reduceEqDiff, Nat.add_one_ne_zero, reduceCtorEq])
              | (refine Pwp.skip ?_; simp only [thenS, blockS])
              | (refine Pwp.cond rfl True.intro (fun h => ?_) (fun h => ?_) <;> (try (cases h; done)) <;> (try simp only [h]))
              | (refine Pwp.ret ?_; try simp only [thenS, blockS])
              | (refine hK _ ?_; clear hK K)
              | (refine hK _ _ rfl ?_; clear hK K)
              | (refine CallK.toD (ds := [.agg [I64 d.me, I64 d.far, .slc 8 (itemsD d.items), .slc 3 (ordersD d.orders)], .agg [I64 ms, I64 mn]]) rfl (r181) rfl ?_)
              | (refine CallK.toD (ds := [.agg [I64 x.seller, I64 x.number, I64 x.buyer, I64 x.currency, I64 x.amount, I64 x.round, I64 x.state, I64 x.cycle], I64 1, I64 0]) rfl (r184) rfl ?_)
              | (refine CallK.give (ds := [.agg [I64 d.me, I64 d.far, .slc 8 (itemsD d.items), .slc 3 (ordersD d.orders)], .agg [I64 y.seller, I64 y.number, I64 y.buyer, I64 y.currency, I64 y.amount, I64 y.round, I64 y.state, I64 y.cycle]]) rfl (r121) (by simp) ?_)
              | (refine CallG.off ?_)
              | (with_reducible refine Or.inl ?_)
              | (simp only [thenS, blockS])
              | (with_reducible refine And.intro ?_ ?_)
              | (with_reducible exact True.intro)
              | (simp (dsimp := false) only [↓opsP_nil, ↓opsP_cons, ↓opsD_nil, ↓opsD_cons, ↓opP, ↓stepP, ↓stepG, go_sem, c0, hg, ht, p0, c1, c2, c3, Bool.false_and, Bool.true_and, Bool.false_or, Bool.or_false, Bool.and_false, bne_self_eq_false]))
            all_goals (try (first | (intro hg; simp [hg]; done) | exact of_decide_eq_true rfl | (cases h; done)))
            (refine Fin.data (.inr rfl) (by simp (dsimp := false) only [↓opsP_nil, ↓opsP_cons, ↓opsD_nil, ↓opsD_cons, ↓opP, ↓stepP, ↓stepG, go_sem, resL]; rfl) (by simp only [and_self]) (by simp (dsimp := false) only [↓opsP_nil, ↓opsP_cons, ↓opsD_nil, ↓opsD_cons, ↓opP, ↓stepP, ↓stepG, go_sem, resP, Nat.le_refl, List.take_length]; try rfl) ?_)
            simp [subD, subL, subV, subD_refl]
        · rw [if_pos h5]
          have n1 : (stepE x 1 != 0) = true := by simpa using h5
          generalize stepE x 1 = e at *
          simp only [rOutD, RDesk.d, RDesk.cells, saidD, about, Msg.d, Msg.cells, Item.d, Item.cells, Option.toList, List.cons_append, List.nil_append] at *
          refine Runs.of (kit Try.prog) Try.func120 rfl rfl (by rw [Try.ntmps120]; exact of_decide_eq_true rfl) ?_; rw [Try.ntmps120, Try.results120]
          repeat' (first
            | ((first | refine Pwp.step (kit _) rfl fun K hK => ?_ | refine Pwp.last (kit _) rfl fun K hK => ?_ | refine Pwp.stepD (kit _) rfl rfl fun K hK => ?_ | refine Pwp.lastD (kit _) rfl rfl fun K hK => ?_); simp (dsimp := false) only [↓opsP_nil, ↓opsP_cons, ↓opsD_nil, ↓opsD_cons, ↓opP, ↓stepP, ↓stepG, go_sem, c0, hg, ht, p0, c1, c2, n1, Bool.false_and, Bool.true_and, Bool.false_or, Bool.or_false, Bool.and_false, bne_self_eq_false])
            | (refine Pwp.seq ?_)
            | (refine Pwp.block ?_)
            | (refine Pwp.exit ?_; simp only [thenS, blockS, if_true, if_false, reduceIte, Nat.reduceEqDiff, Nat.add_one_ne_zero, reduceCtorEq])
            | (refine Pwp.skip ?_; simp only [thenS, blockS])
            | (refine Pwp.cond rfl True.intro (fun h => ?_) (fun h => ?_) <;> (try (cases h; done)) <;> (try simp only [h]))
            | (refine Pwp.ret ?_; try simp only [thenS, blockS])
            | (refine hK _ ?_; clear hK K)
            | (refine hK _ _ rfl ?_; clear hK K)
            | (refine CallK.toD (ds := [.agg [I64 d.me, I64 d.far, .slc 8 (itemsD d.items), .slc 3 (ordersD d.orders)], .agg [I64 ms, I64 mn]]) rfl (r181) rfl ?_)
            | (refine CallK.toD (ds := [.agg [I64 x.seller, I64 x.number, I64 x.buyer, I64 x.currency, I64 x.amount, I64 x.round, I64 x.state, I64 x.cycle], I64 1, I64 0]) rfl (r184) rfl ?_)
            | (refine CallG.off ?_)
            | (with_reducible refine Or.inl ?_)
            | (simp only [thenS, blockS])
            | (with_reducible refine And.intro ?_ ?_)
            | (with_reducible exact True.intro)
            | (simp (dsimp := false) only [↓opsP_nil, ↓opsP_cons, ↓opsD_nil, ↓opsD_cons, ↓opP, ↓stepP, ↓stepG, go_sem, c0, hg, ht, p0, c1, c2, n1, Bool.false_and, Bool.true_and, Bool.false_or, Bool.or_false, Bool.and_false, bne_self_eq_false]))
          all_goals (try (first | (intro hg; simp [hg]; done) | exact of_decide_eq_true rfl | (cases h; done)))
          (refine Fin.data (.inr rfl) (by simp (dsimp := false) only [↓opsP_nil, ↓opsP_cons, ↓opsD_nil, ↓opsD_cons, ↓opP, ↓stepP, ↓stepG, go_sem, resL]; rfl) (by simp only [and_self]) (by simp (dsimp := false) only [↓opsP_nil, ↓opsP_cons, ↓opsD_nil, ↓opsD_cons, ↓opP, ↓stepP, ↓stepG, go_sem, resP, Nat.le_refl, List.take_length]; try rfl) ?_)
          simp [subD, subL, subV, subD_refl]
      · have c2 : (x.round != mr) = true := by simpa using h4
        have hA : rAns d ⟨8, ms, mn, mb, mc, mr, my, ma, mq, ml, mt⟩ f = 90 := by
          unfold rAns
          simp only [e1, e2]
          rw [if_neg (by simp), if_neg (by rw [c1]; simp), if_pos h4]
        unfold rDispute
        simp only [hA, e2]
        rw [if_pos (by simp)]
        simp only [rOutD, RDesk.d, RDesk.cells, saidD, about, Msg.d, Msg.cells, Item.d, Item.cells, Option.toList, List.cons_append, List.nil_append] at *
        refine Runs.of (kit Try.prog) Try.func120 rfl rfl (by rw [Try.ntmps120]; exact of_decide_eq_true rfl) ?_; rw [Try.ntmps120, Try.results120]
        repeat' (first
          | ((first | refine Pwp.step (kit _) rfl fun K hK => ?_ | refine Pwp.last (kit _) rfl fun K hK => ?_ | refine Pwp.stepD (kit _) rfl rfl fun K hK => ?_ | refine Pwp.lastD (kit _) rfl rfl fun K hK => ?_); simp (dsimp := false) only [↓opsP_nil, ↓opsP_cons, ↓opsD_nil, ↓opsD_cons, ↓opP, ↓stepP, ↓stepG, go_sem, c0, hg, ht, p0, c1, c2, Bool.false_and, Bool.true_and, Bool.false_or, Bool.or_false, Bool.and_false, bne_self_eq_false])
          | (refine Pwp.seq ?_)
          | (refine Pwp.block ?_)
          | (refine Pwp.exit ?_; simp only [thenS, blockS, if_true, if_false, reduceIte, Nat.reduceEqDiff, Nat.add_one_ne_zero, reduceCtorEq])
          | (refine Pwp.skip ?_; simp only [thenS, blockS])
          | (refine Pwp.cond rfl True.intro (fun h => ?_) (fun h => ?_) <;> (try (cases h; done)) <;> (try simp only [h]))
          | (refine Pwp.ret ?_; try simp only [thenS, blockS])
          | (refine hK _ ?_; clear hK K)
          | (refine hK _ _ rfl ?_; clear hK K)
          | (refine CallK.toD (ds := [.agg [I64 d.me, I64 d.far, .slc 8 (itemsD d.items), .slc 3 (ordersD d.orders)], .agg [I64 ms, I64 mn]]) rfl (r181) rfl ?_)
          | (refine CallK.toD (ds := [.agg [I64 x.seller, I64 x.number, I64 x.buyer, I64 x.currency, I64 x.amount, I64 x.round, I64 x.state, I64 x.cycle], I64 1, I64 0]) rfl (r184) rfl ?_)
          | (refine CallG.off ?_)
          | (with_reducible refine Or.inl ?_)
          | (simp only [thenS, blockS])
          | (with_reducible refine And.intro ?_ ?_)
          | (with_reducible exact True.intro)
          | (simp (dsimp := false) only [↓opsP_nil, ↓opsP_cons, ↓opsD_nil, ↓opsD_cons, ↓opP, ↓stepP, ↓stepG, go_sem, c0, hg, ht, p0, c1, c2, Bool.false_and, Bool.true_and, Bool.false_or, Bool.or_false, Bool.and_false, bne_self_eq_false]))
        all_goals (try (first | (intro hg; simp [hg]; done) | exact of_decide_eq_true rfl | (cases h; done)))
        (refine Fin.data (.inr rfl) (by simp (dsimp := false) only [↓opsP_nil, ↓opsP_cons, ↓opsD_nil, ↓opsD_cons, ↓opP, ↓stepP, ↓stepG, go_sem, resL]; rfl) (by simp only [and_self]) (by simp (dsimp := false) only [↓opsP_nil, ↓opsP_cons, ↓opsD_nil, ↓opsD_cons, ↓opP, ↓stepP, ↓stepG, go_sem, resP, Nat.le_refl, List.take_length]; try rfl) ?_)
        simp [subD, subL, subV, subD_refl]

set_option maxHeartbeats 32000000 in
theorem run120_9 (d : RDesk) (m : Msg) (f : Int) (hk : m.kind = 9) (hl : d.items.length ≤ 100000) (hr : ∀ x ∈ d.items, 0 ≤ x.round ∧ x.round ≤ 3) : Runs Try.prog 120 [.d d.d, .d m.d, pint .i64 f] [] (.d (rOutD (rCancel d m f))) [] := by
  obtain ⟨mk, ms, mn, mb, mc, mr, my, ma, mq, ml, mt⟩ := m
  simp only at hk
  subst hk
  have r181 := run181 d ms mn hl
  rcases fnd_at ms mn d.items 0 with ⟨h1, _⟩ | ⟨k, x, h1, h2, h3⟩
  · rw [h1] at r181
    have hA : rCanc d ⟨9, ms, mn, mb, mc, mr, my, ma, mq, ml, mt⟩ f = 4 := by
      unfold rCanc
      simp only [has_none h1]
      rw [if_pos True.intro]
    unfold rCancel
    simp only [hA]
    rw [if_pos (by simp)]
    simp only [rOutD, RDesk.d, RDesk.cells, saidD, about, Msg.d, Msg.cells, Item.d, Item.cells, Option.toList, List.cons_append, List.nil_append] at *
    refine Runs.of (kit Try.prog) Try.func120 rfl rfl (by rw [Try.ntmps120]; exact of_decide_eq_true rfl) ?_; rw [Try.ntmps120, Try.results120]
    repeat' (first
      | ((first | refine Pwp.step (kit _) rfl fun K hK => ?_ | refine Pwp.last (kit _) rfl fun K hK => ?_ | refine Pwp.stepD (kit _) rfl rfl fun K hK => ?_ | refine Pwp.lastD (kit _) rfl rfl fun K hK => ?_); simp (dsimp := false) only [↓opsP_nil, ↓opsP_cons, ↓opsD_nil, ↓opsD_cons, ↓opP, ↓stepP, ↓stepG, go_sem, Bool.false_and, Bool.true_and, Bool.false_or, Bool.or_false, Bool.and_false, bne_self_eq_false])
      | (refine Pwp.seq ?_)
      | (refine Pwp.block ?_)
      | (refine Pwp.exit ?_; simp only [thenS, blockS, if_true, if_false, reduceIte, Nat.reduceEqDiff, Nat.add_one_ne_zero, reduceCtorEq])
      | (refine Pwp.skip ?_; simp only [thenS, blockS])
      | (refine Pwp.cond rfl True.intro (fun h => ?_) (fun h => ?_) <;> (try (cases h; done)) <;> (try simp only [h]))
      | (refine Pwp.ret ?_; try simp only [thenS, blockS])
      | (refine hK _ ?_; clear hK K)
      | (refine hK _ _ rfl ?_; clear hK K)
      | (refine CallK.toD (ds := [.agg [I64 d.me, I64 d.far, .slc 8 (itemsD d.items), .slc 3 (ordersD d.orders)], .agg [I64 ms, I64 mn]]) rfl (r181) rfl ?_)
      | (refine CallG.off ?_)
      | (with_reducible refine Or.inl ?_)
      | (simp only [thenS, blockS])
      | (with_reducible refine And.intro ?_ ?_)
      | (with_reducible exact True.intro)
      | (simp (dsimp := false) only [↓opsP_nil, ↓opsP_cons, ↓opsD_nil, ↓opsD_cons, ↓opP, ↓stepP, ↓stepG, go_sem, Bool.false_and, Bool.true_and, Bool.false_or, Bool.or_false, Bool.and_false, bne_self_eq_false]))
    all_goals (try (first | (intro hg; simp [hg]; done) | exact of_decide_eq_true rfl | (cases h; done)))
    (refine Fin.data (.inr rfl) (by simp (dsimp := false) only [↓opsP_nil, ↓opsP_cons, ↓opsD_nil, ↓opsD_cons, ↓opP, ↓stepP, ↓stepG, go_sem, resL]; rfl) (by simp only [and_self]) (by simp (dsimp := false) only [↓opsP_nil, ↓opsP_cons, ↓opsD_nil, ↓opsD_cons, ↓opP, ↓stepP, ↓stepG, go_sem, resP, Nat.le_refl, List.take_length]; try rfl) ?_)
    simp [subD, subL, subV, subD_refl]
  · obtain ⟨e1, e2⟩ := has_some h1 h2
    rw [h1, Nat.zero_add] at r181
    have c0 : decide ((k : Int) < 0) = false := by rw [decide_eq_false_iff_not]; omega
    have hg := items_get8 h2
    have ht := Int.toNat_natCast k
    have p0 : (0 : Int) ≤ (k : Int) := by omega
    have hrx := hr x (List.mem_of_getElem? h2)
    have r184 := run184 x 3 0 (by simp) hrx
    rw [show actI x 3 0 = stepI x 2 4 from rfl, show actE x 3 0 = stepE x 2 from rfl] at r184
    have r121 := run121 d (stepI x 2 4) hl
    clear hr h1
    cases c1 : (f != x.seller || x.buyer != d.me) with
    | true =>
      have hA : rCanc d ⟨9, ms, mn, mb, mc, mr, my, ma, mq, ml, mt⟩ f = 140 := by
        unfold rCanc
        simp only [e1, e2]
        rw [if_neg (by simp), if_pos c1]
      unfold rCancel
      simp only [hA, e2]
      rw [if_pos (by simp)]
      simp only [rOutD, RDesk.d, RDesk.cells, saidD, about, Msg.d, Msg.cells, Item.d, Item.cells, Option.toList, List.cons_append, List.nil_append] at *
      refine Runs.of (kit Try.prog) Try.func120 rfl rfl (by rw [Try.ntmps120]; exact of_decide_eq_true rfl) ?_; rw [Try.ntmps120, Try.results120]
      repeat' (first
        | ((first | refine Pwp.step (kit _) rfl fun K hK => ?_ | refine Pwp.last (kit _) rfl fun K hK => ?_ | refine Pwp.stepD (kit _) rfl rfl fun K hK => ?_ | refine Pwp.lastD (kit _) rfl rfl fun K hK => ?_); simp (dsimp := false) only [↓opsP_nil, ↓opsP_cons, ↓opsD_nil, ↓opsD_cons, ↓opP, ↓stepP, ↓stepG, go_sem, c0, hg, ht, p0, c1, Bool.false_and, Bool.true_and, Bool.false_or, Bool.or_false, Bool.and_false, bne_self_eq_false])
        | (refine Pwp.seq ?_)
        | (refine Pwp.block ?_)
        | (refine Pwp.exit ?_; simp only [thenS, blockS, if_true, if_false, reduceIte, Nat.reduceEqDiff, Nat.add_one_ne_zero, reduceCtorEq])
        | (refine Pwp.skip ?_; simp only [thenS, blockS])
        | (refine Pwp.cond rfl True.intro (fun h => ?_) (fun h => ?_) <;> (try (cases h; done)) <;> (try simp only [h]))
        | (refine Pwp.ret ?_; try simp only [thenS, blockS])
        | (refine hK _ ?_; clear hK K)
        | (refine hK _ _ rfl ?_; clear hK K)
        | (refine CallK.toD (ds := [.agg [I64 d.me, I64 d.far, .slc 8 (itemsD d.items), .slc 3 (ordersD d.orders)], .agg [I64 ms, I64 mn]]) rfl (r181) rfl ?_)
        | (refine CallK.toD (ds := [.agg [I64 x.seller, I64 x.number, I64 x.buyer, I64 x.currency, I64 x.amount, I64 x.round, I64 x.state, I64 x.cycle], I64 3, I64 0]) rfl (r184) rfl ?_)
        | (refine CallG.off ?_)
        | (with_reducible refine Or.inl ?_)
        | (simp only [thenS, blockS])
        | (with_reducible refine And.intro ?_ ?_)
        | (with_reducible exact True.intro)
        | (simp (dsimp := false) only [↓opsP_nil, ↓opsP_cons, ↓opsD_nil, ↓opsD_cons, ↓opP, ↓stepP, ↓stepG, go_sem, c0, hg, ht, p0, c1, Bool.false_and, Bool.true_and, Bool.false_or, Bool.or_false, Bool.and_false, bne_self_eq_false]))
      all_goals (try (first | (intro hg; simp [hg]; done) | exact of_decide_eq_true rfl | (cases h; done)))
      (refine Fin.data (.inr rfl) (by simp (dsimp := false) only [↓opsP_nil, ↓opsP_cons, ↓opsD_nil, ↓opsD_cons, ↓opP, ↓stepP, ↓stepG, go_sem, resL]; rfl) (by simp only [and_self]) (by simp (dsimp := false) only [↓opsP_nil, ↓opsP_cons, ↓opsD_nil, ↓opsD_cons, ↓opP, ↓stepP, ↓stepG, go_sem, resP, Nat.le_refl, List.take_length]; try rfl) ?_)
      simp [subD, subL, subV, subD_refl]
    | false =>
      by_cases h4 : x.round = mr
      · have c2 : (x.round != mr) = false := by simp [h4]
        have hA : rCanc d ⟨9, ms, mn, mb, mc, mr, my, ma, mq, ml, mt⟩ f = 0 := by
          unfold rCanc
          simp only [e1, e2]
          rw [if_neg (by simp), if_neg (by rw [c1]; simp), if_neg (by simpa using h4)]
        unfold rCancel
        simp only [hA, e2]
        rw [if_neg (by simp)]
        by_cases h5 : stepE x 2 = 0
        · rw [h5] at r184
          rw [if_neg (by simpa using h5)]
          generalize stepI x 2 4 = y at *
          generalize d.keep y = d2 at *
          simp only [rOutD, RDesk.d, RDesk.cells, saidD, about, Msg.d, Msg.cells, Item.d, Item.cells, Option.toList, List.cons_append, List.nil_append] at *
          refine Runs.of (kit Try.prog) Try.func120 rfl rfl (by rw [Try.ntmps120]; exact of_decide_eq_true rfl) ?_; rw [Try.ntmps120, Try.results120]
          repeat' (first
            | ((first | refine Pwp.step (kit _) rfl fun K hK => ?_ | refine Pwp.last (kit _) rfl fun K hK => ?_ | refine Pwp.stepD (kit _) rfl rfl fun K hK => ?_ | refine Pwp.lastD (kit _) rfl rfl fun K hK => ?_); simp (dsimp := false) only [↓opsP_nil, ↓opsP_cons, ↓opsD_nil, ↓opsD_cons, ↓opP, ↓stepP, ↓stepG, go_sem, c0, hg, ht, p0, c1, c2, Bool.false_and, Bool.true_and, Bool.false_or, Bool.or_false, Bool.and_false, bne_self_eq_false])
            | (refine Pwp.seq ?_)
            | (refine Pwp.block ?_)
            | (refine Pwp.exit ?_; simp only [thenS, blockS, if_true, if_false, reduceIte, Nat.reduceEqDiff, Nat.add_one_ne_zero, reduceCtorEq])
            | (refine Pwp.skip ?_; simp only [thenS, blockS])
            | (refine Pwp.cond rfl True.intro (fun h => ?_) (fun h => ?_) <;> (try (cases h; done)) <;> (try simp only [h]))
            | (refine Pwp.ret ?_; try simp only [thenS, blockS])
            | (refine hK _ ?_; clear hK K)
            | (refine hK _ _ rfl ?_; clear hK K)
            | (refine CallK.toD (ds := [.agg [I64 d.me, I64 d.far, .slc 8 (itemsD d.items), .slc 3 (ordersD d.orders)], .agg [I64 ms, I64 mn]]) rfl (r181) rfl ?_)
            | (refine CallK.toD (ds := [.agg [I64 x.seller, I64 x.number, I64 x.buyer, I64 x.currency, I64 x.amount, I64 x.round, I64 x.state, I64 x.cycle], I64 3, I64 0]) rfl (r184) rfl ?_)
            | (refine CallK.give (ds := [.agg [I64 d.me, I64 d.far, .slc 8 (itemsD d.items), .slc 3 (ordersD d.orders)], .agg [I64 y.seller, I64 y.number, I64 y.buyer, I64 y.currency, I64 y.amount, I64 y.round, I64 y.state, I64 y.cycle]]) rfl (r121) (by simp) ?_)
            | (refine CallG.off ?_)
            | (with_reducible refine Or.inl ?_)
            | (simp only [thenS, blockS])
            | (with_reducible refine And.intro ?_ ?_)
            | (with_reducible exact True.intro)
            | (simp (dsimp := false) only [↓opsP_nil, ↓opsP_cons, ↓opsD_nil, ↓opsD_cons, ↓opP, ↓stepP, ↓stepG, go_sem, c0, hg, ht, p0, c1, c2, Bool.false_and, Bool.true_and, Bool.false_or, Bool.or_false, Bool.and_false, bne_self_eq_false]))
          all_goals (try (first | (intro hg; simp [hg]; done) | exact of_decide_eq_true rfl | (cases h; done)))
          (refine Fin.data (.inr rfl) (by simp (dsimp := false) only [↓opsP_nil, ↓opsP_cons, ↓opsD_nil, ↓opsD_cons, ↓opP, ↓stepP, ↓stepG, go_sem, resL]; rfl) (by simp only [and_self]) (by simp (dsimp := false) only [↓opsP_nil, ↓opsP_cons, ↓opsD_nil, ↓opsD_cons, ↓opP, ↓stepP, ↓stepG, go_sem, resP, Nat.le_refl, List.take_length]; try rfl) ?_)
          simp [subD, subL, subV, subD_refl]
        · rw [if_pos h5]
          have n1 : (stepE x 2 != 0) = true := by simpa using h5
          generalize stepE x 2 = e at *
          simp only [rOutD, RDesk.d, RDesk.cells, saidD, about, Msg.d, Msg.cells, Item.d, Item.cells, Option.toList, List.cons_append, List.nil_append] at *
          refine Runs.of (kit Try.prog) Try.func120 rfl rfl (by rw [Try.ntmps120]; exact of_decide_eq_true rfl) ?_; rw [Try.ntmps120, Try.results120]
          repeat' (first
            | ((first | refine Pwp.step (kit _) rfl fun K hK => ?_ | refine Pwp.last (kit _) rfl fun K hK => ?_ | refine Pwp.stepD (kit _) rfl rfl fun K hK => ?_ | refine Pwp.lastD (kit _) rfl rfl fun K hK => ?_); simp (dsimp := false) only [↓opsP_nil, ↓opsP_cons, ↓opsD_nil, ↓opsD_cons, ↓opP, ↓stepP, ↓stepG, go_sem, c0, hg, ht, p0, c1, c2, n1, Bool.false_and, Bool.true_and, Bool.false_or, Bool.or_false, Bool.and_false, bne_self_eq_false])
            | (refine Pwp.seq ?_)
            | (refine Pwp.block ?_)
            | (refine Pwp.exit ?_; simp only [thenS, blockS, if_true, if_false, reduceIte, Nat.reduceEqDiff, Nat.add_one_ne_zero, reduceCtorEq])
            | (refine Pwp.skip ?_; simp only [thenS, blockS])
            | (refine Pwp.cond rfl True.intro (fun h => ?_) (fun h => ?_) <;> (try (cases h; done)) <;> (try simp only [h]))
            | (refine Pwp.ret ?_; try simp only [thenS, blockS])
            | (refine hK _ ?_; clear hK K)
            | (refine hK _ _ rfl ?_; clear hK K)
            | (refine CallK.toD (ds := [.agg [I64 d.me, I64 d.far, .slc 8 (itemsD d.items), .slc 3 (ordersD d.orders)], .agg [I64 ms, I64 mn]]) rfl (r181) rfl ?_)
            | (refine CallK.toD (ds := [.agg [I64 x.seller, I64 x.number, I64 x.buyer, I64 x.currency, I64 x.amount, I64 x.round, I64 x.state, I64 x.cycle], I64 3, I64 0]) rfl (r184) rfl ?_)
            | (refine CallG.off ?_)
            | (with_reducible refine Or.inl ?_)
            | (simp only [thenS, blockS])
            | (with_reducible refine And.intro ?_ ?_)
            | (with_reducible exact True.intro)
            | (simp (dsimp := false) only [↓opsP_nil, ↓opsP_cons, ↓opsD_nil, ↓opsD_cons, ↓opP, ↓stepP, ↓stepG, go_sem, c0, hg, ht, p0, c1, c2, n1, Bool.false_and, Bool.true_and, Bool.false_or, Bool.or_false, Bool.and_false, bne_self_eq_false]))
          all_goals (try (first | (intro hg; simp [hg]; done) | exact of_decide_eq_true rfl | (cases h; done)))
          (refine Fin.data (.inr rfl) (by simp (dsimp := false) only [↓opsP_nil, ↓opsP_cons, ↓opsD_nil, ↓opsD_cons, ↓opP, ↓stepP, ↓stepG, go_sem, resL]; rfl) (by simp only [and_self]) (by simp (dsimp := false) only [↓opsP_nil, ↓opsP_cons, ↓opsD_nil, ↓opsD_cons, ↓opP, ↓stepP, ↓stepG, go_sem, resP, Nat.le_refl, List.take_length]; try rfl) ?_)
          simp [subD, subL, subV, subD_refl]
      · have c2 : (x.round != mr) = true := by simpa using h4
        have hA : rCanc d ⟨9, ms, mn, mb, mc, mr, my, ma, mq, ml, mt⟩ f = 90 := by
          unfold rCanc
          simp only [e1, e2]
          rw [if_neg (by simp), if_neg (by rw [c1]; simp), if_pos h4]
        unfold rCancel
        simp only [hA, e2]
        rw [if_pos (by simp)]
        simp only [rOutD, RDesk.d, RDesk.cells, saidD, about, Msg.d, Msg.cells, Item.d, Item.cells, Option.toList, List.cons_append, List.nil_append] at *
        refine Runs.of (kit Try.prog) Try.func120 rfl rfl (by rw [Try.ntmps120]; exact of_decide_eq_true rfl) ?_; rw [Try.ntmps120, Try.results120]
        repeat' (first
          | ((first | refine Pwp.step (kit _) rfl fun K hK => ?_ | refine Pwp.last (kit _) rfl fun K hK => ?_ | refine Pwp.stepD (kit _) rfl rfl fun K hK => ?_ | refine Pwp.lastD (kit _) rfl rfl fun K hK => ?_); simp (dsimp := false) only [↓opsP_nil, ↓opsP_cons, ↓opsD_nil, ↓opsD_cons, ↓opP, ↓stepP, ↓stepG, go_sem, c0, hg, ht, p0, c1, c2, Bool.false_and, Bool.true_and, Bool.false_or, Bool.or_false, Bool.and_false, bne_self_eq_false])
          | (refine Pwp.seq ?_)
          | (refine Pwp.block ?_)
          | (refine Pwp.exit ?_; simp only [thenS, blockS, if_true, if_false, reduceIte, Nat.reduceEqDiff, Nat.add_one_ne_zero, reduceCtorEq])
          | (refine Pwp.skip ?_; simp only [thenS, blockS])
          | (refine Pwp.cond rfl True.intro (fun h => ?_) (fun h => ?_) <;> (try (cases h; done)) <;> (try simp only [h]))
          | (refine Pwp.ret ?_; try simp only [thenS, blockS])
          | (refine hK _ ?_; clear hK K)
          | (refine hK _ _ rfl ?_; clear hK K)
          | (refine CallK.toD (ds := [.agg [I64 d.me, I64 d.far, .slc 8 (itemsD d.items), .slc 3 (ordersD d.orders)], .agg [I64 ms, I64 mn]]) rfl (r181) rfl ?_)
          | (refine CallK.toD (ds := [.agg [I64 x.seller, I64 x.number, I64 x.buyer, I64 x.currency, I64 x.amount, I64 x.round, I64 x.state, I64 x.cycle], I64 3, I64 0]) rfl (r184) rfl ?_)
          | (refine CallG.off ?_)
          | (with_reducible refine Or.inl ?_)
          | (simp only [thenS, blockS])
          | (with_reducible refine And.intro ?_ ?_)
          | (with_reducible exact True.intro)
          | (simp (dsimp := false) only [↓opsP_nil, ↓opsP_cons, ↓opsD_nil, ↓opsD_cons, ↓opP, ↓stepP, ↓stepG, go_sem, c0, hg, ht, p0, c1, c2, Bool.false_and, Bool.true_and, Bool.false_or, Bool.or_false, Bool.and_false, bne_self_eq_false]))
        all_goals (try (first | (intro hg; simp [hg]; done) | exact of_decide_eq_true rfl | (cases h; done)))
        (refine Fin.data (.inr rfl) (by simp (dsimp := false) only [↓opsP_nil, ↓opsP_cons, ↓opsD_nil, ↓opsD_cons, ↓opP, ↓stepP, ↓stepG, go_sem, resL]; rfl) (by simp only [and_self]) (by simp (dsimp := false) only [↓opsP_nil, ↓opsP_cons, ↓opsD_nil, ↓opsD_cons, ↓opP, ↓stepP, ↓stepG, go_sem, resP, Nat.le_refl, List.take_length]; try rfl) ?_)
        simp [subD, subL, subV, subD_refl]

end Go.Proofs.Ytdodgbhodkcckaa.Pv
