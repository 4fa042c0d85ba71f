/- Walks of matching, the document's answer: what is proposed. -/
import Derived.Test.YtdodgbhodkcckaaPmw
set_option linter.unusedVariables false
set_option linter.unusedSimpArgs false
set_option autoImplicit false
set_option maxRecDepth 100000
namespace Go.Proofs.Ytdodgbhodkcckaa.Pv
open Go Go.RowKit

/-- Is it expected, and near? -/
def nearL (s n a far : Int) (l : List Order) : Bool := l.any fun o => isNmO s n o && nearV o.amount a far
theorem nearL_take {s n a far : Int} {l : List Order} {i : Nat} {x : Order} (h : l[i]? = some x) : nearL s n a far (l.take (i + 1)) = (nearL s n a far (l.take i) || (isNmO s n x && nearV x.amount a far)) := by
  unfold nearL
  rw [List.take_add_one, h]
  simp
def rPropS (d : RDesk) (m : Msg) : Bool := (!d.has m.seller m.number && m.round != 0) || (d.has m.seller m.number && (((d.got m.seller m.number).state != 2 || (d.got m.seller m.number).round + 1 != m.round) || (d.got m.seller m.number).currency != m.currency))
def rPropY (d : RDesk) (m : Msg) : Item := ⟨m.seller, m.number, m.buyer, m.currency, m.amount, m.round, if nearL m.seller m.number m.amount d.far d.orders = true then 3 else 2, 0⟩
def rPropose (d : RDesk) (m : Msg) (f : Int) : ROut := if chk (newI m.seller m.number m.buyer m.currency m.amount m.round) ≠ 0 then ⟨chk (newI m.seller m.number m.buyer m.currency m.amount m.round), d, none⟩ else if (f != m.seller || m.buyer != d.me) = true then ⟨140, d, none⟩ else if rPropS d m = true then ⟨90, d, none⟩
  else ⟨0, d.keep (rPropY d m), some (saidD f (about (if nearL m.seller m.number m.amount d.far d.orders = true then 7 else 8) (rPropY d m)))⟩
def L185 (d : RDesk) (m : Msg) (f : Int) (i : Nat) : St := ⟨[(13, pint .i64 i), (12, pint .i64 (if nearL m.seller m.number m.amount d.far (d.orders.take i) = true then 7 else 8)), (9, .ref 39 0), (6, .ref 10 0), (3, .ref 8 0), (2, pint .i64 f)],
  [(8, .box [.d (I64 d.me), .d (I64 d.far), .d (.slc 8 (itemsD d.items)), .d (.slc 3 (ordersD d.orders))]),
   (10, .box [.d (.v (.int .i64 0)), .d (.v (.int .i64 0)), .d nilD, .d nilD]),
   (39, .box [.d (I64 m.seller), .d (I64 m.number), .d (I64 m.buyer), .d (I64 m.currency), .d (I64 m.amount), .d (I64 m.round), .d (I64 (if nearL m.seller m.number m.amount d.far (d.orders.take i) = true then 3 else 2)), .d (I64 0)])], 348⟩
set_option maxHeartbeats 32000000 in
theorem run185 (d : RDesk) (m : Msg) (f : Int) (hl : d.items.length ≤ 100000) (hlo : d.orders.length ≤ 100000) (hr : ∀ x ∈ d.items, 0 ≤ x.round ∧ x.round ≤ 3) (hoa : ∀ o ∈ d.orders, 0 ≤ o.amount ∧ o.amount ≤ 1125899906842624) (hma : chk (newI m.seller m.number m.buyer m.currency m.amount m.round) = 0 → 0 ≤ m.amount ∧ m.amount ≤ 1125899906842624) :
    Runs Try.prog 185 [.d d.d, .d m.d, pint .i64 f] [] (.d (rOutD (rPropose d m f))) [] := by
  have r181 := run181 d m.seller m.number hl
  have r182 := run182 (newI m.seller m.number m.buyer m.currency m.amount m.round)
  have hlen := orders_len d.orders
  unfold rPropose
  generalize hc : chk (newI m.seller m.number m.buyer m.currency m.amount m.round) = e at *
  by_cases h0 : e = 0
  · subst h0
    have hma := hma rfl
    rw [if_neg (by simp)]
    cases c1 : (f != m.seller || m.buyer != d.me) with
    | true =>
      rw [if_pos rfl]
      clear hc
      unfold newI at *
      simp only [rOutD, RDesk.d, RDesk.cells, saidD, about, Msg.d, Msg.cells, Item.d, Item.cells, Option.toList, List.cons_append, List.nil_append] at *
      refine Runs.of (kit Try.prog) Try.func185 rfl rfl (by rw [Try.ntmps185]; exact of_decide_eq_true rfl) ?_; rw [Try.ntmps185, Try.results185]
      repeat' (first
        | ((first | refine Pwp.step (kit _) rfl fun K hK => ?_ | refine Pwp.last (kit _) rfl fun K hK => ?_ | refine Pwp.stepD (kit _) rfl rfl fun K hK => ?_ | refine Pwp.lastD (kit _) rfl rfl fun K hK => ?_); simp (dsimp := false) only [↓opsP_nil, ↓opsP_cons, ↓opsD_nil, ↓opsD_cons, ↓opP, ↓stepP, ↓stepG, go_sem, c1, bne_self_eq_false])
        | (refine Pwp.seq ?_)
        | (refine Pwp.block ?_)
        | (refine Pwp.exit ?_; simp only [thenS, blockS, if_true, if_false, reduceIte, Nat.reduceEqDiff, Nat.add_one_ne_zero, reduceCtorEq])
        | (refine Pwp.skip ?_; simp only [thenS, blockS])
        | (refine Pwp.cond rfl True.intro (fun h => ?_) (fun h => ?_) <;> (try (cases h; done)) <;> (try simp only [h]))
        | (refine Pwp.ret ?_; try simp only [thenS, blockS])
        | (refine hK _ ?_; clear hK K)
        | (refine hK _ _ rfl ?_; clear hK K)
        | (refine CallK.toD (ds := [.agg [I64 m.seller, I64 m.number, I64 m.buyer, I64 m.currency, I64 m.amount, I64 m.round, I64 1, I64 0]]) rfl (r182) rfl ?_)
        | (refine CallG.off ?_)
        | (with_reducible refine Or.inl ?_)
        | (simp only [thenS, blockS])
        | (with_reducible refine And.intro ?_ ?_)
        | (with_reducible exact True.intro)
        | (simp (dsimp := false) only [↓opsP_nil, ↓opsP_cons, ↓opsD_nil, ↓opsD_cons, ↓opP, ↓stepP, ↓stepG, go_sem, c1, bne_self_eq_false]))
      all_goals (try (first | (intro hg; simp [hg]; done) | exact of_decide_eq_true rfl | (cases h; done)))
      (refine Fin.data (.inr rfl) (by simp (dsimp := false) only [↓opsP_nil, ↓opsP_cons, ↓opsD_nil, ↓opsD_cons, ↓opP, ↓stepP, ↓stepG, go_sem, resL]; rfl) (by simp only [and_self]) (by simp (dsimp := false) only [↓opsP_nil, ↓opsP_cons, ↓opsD_nil, ↓opsD_cons, ↓opP, ↓stepP, ↓stepG, go_sem, resP, Nat.le_refl, List.take_length]; try rfl) ?_)
      simp [subD, subL, subV, subD_refl]
    | false =>
      rw [if_neg (by simp)]
      rcases fnd_at m.seller m.number d.items 0 with ⟨h1, _⟩ | ⟨k, x, h1, h2, h3⟩
      · rw [h1] at r181
        have hS : rPropS d m = (m.round != 0) := by unfold rPropS; rw [has_none h1]; simp
        cases hs : (m.round != 0) with
        | true =>
          rw [hs] at hS
          rw [if_pos hS]
          clear hc hma
          unfold newI at *
          simp only [rOutD, RDesk.d, RDesk.cells, saidD, about, Msg.d, Msg.cells, Item.d, Item.cells, Option.toList, List.cons_append, List.nil_append] at *
          refine Runs.of (kit Try.prog) Try.func185 rfl rfl (by rw [Try.ntmps185]; exact of_decide_eq_true rfl) ?_; rw [Try.ntmps185, Try.results185]
          repeat' (first
            | ((first | refine Pwp.step (kit _) rfl fun K hK => ?_ | refine Pwp.last (kit _) rfl fun K hK => ?_ | refine Pwp.stepD (kit _) rfl rfl fun K hK => ?_ | refine Pwp.lastD (kit _) rfl rfl fun K hK => ?_); simp (dsimp := false) only [↓opsP_nil, ↓opsP_cons, ↓opsD_nil, ↓opsD_cons, ↓opP, ↓stepP, ↓stepG, go_sem, hs, c1, Bool.false_and, Bool.true_and, Bool.false_or, Bool.or_false, Bool.and_false, bne_self_eq_false])
            | (refine Pwp.seq ?_)
            | (refine Pwp.block ?_)
            | (refine Pwp.exit ?_; simp only [thenS, blockS, if_true, if_false, reduceIte, Nat.reduceEqDiff, Nat.add_one_ne_zero, reduceCtorEq])
            | (refine Pwp.skip ?_; simp only [thenS, blockS])
            | (refine Pwp.cond rfl True.intro (fun h => ?_) (fun h => ?_) <;> (try (cases h; done)) <;> (try simp only [h]))
            | (refine Pwp.ret ?_; try simp only [thenS, blockS])
            | (refine hK _ ?_; clear hK K)
            | (refine hK _ _ rfl ?_; clear hK K)
            | (refine CallK.toD (ds := [.agg [I64 m.seller, I64 m.number, I64 m.buyer, I64 m.currency, I64 m.amount, I64 m.round, I64 1, I64 0]]) rfl (r182) rfl ?_)
            | (refine CallK.toD (ds := [.agg [I64 d.me, I64 d.far, .slc 8 (itemsD d.items), .slc 3 (ordersD d.orders)], .agg [I64 m.seller, I64 m.number]]) rfl (r181) rfl ?_)
            | (refine CallG.off ?_)
            | (with_reducible refine Or.inl ?_)
            | (simp only [thenS, blockS])
            | (with_reducible refine And.intro ?_ ?_)
            | (with_reducible exact True.intro)
            | (simp (dsimp := false) only [↓opsP_nil, ↓opsP_cons, ↓opsD_nil, ↓opsD_cons, ↓opP, ↓stepP, ↓stepG, go_sem, hs, c1, Bool.false_and, Bool.true_and, Bool.false_or, Bool.or_false, Bool.and_false, bne_self_eq_false]))
          all_goals (try (first | (intro hg; simp [hg]; done) | exact of_decide_eq_true rfl | (cases h; done)))
          all_goals (try (intro hz; rw [hz]; rfl))
          (refine Fin.data (.inr rfl) (by simp (dsimp := false) only [↓opsP_nil, ↓opsP_cons, ↓opsD_nil, ↓opsD_cons, ↓opP, ↓stepP, ↓stepG, go_sem, resL]; rfl) (by simp only [and_self]) (by simp (dsimp := false) only [↓opsP_nil, ↓opsP_cons, ↓opsD_nil, ↓opsD_cons, ↓opP, ↓stepP, ↓stepG, go_sem, resP, Nat.le_refl, List.take_length]; try rfl) ?_)
          simp [subD, subL, subV, subD_refl]
        | false =>
          rw [hs] at hS
          rw [if_neg (by rw [hS]; simp)]
          clear hc
          unfold newI at *
          have h0i : (itemsD d.items)[0]? = none ∨ ∃ z : Item, (itemsD d.items)[0]? = some (.agg [I64 z.seller, I64 z.number, I64 z.buyer, I64 z.currency, I64 z.amount, I64 z.round, I64 z.state, I64 z.cycle]) := by
            cases hz : d.items[0]? with
            | none => left; simp [itemsD, hz]
            | some z => right; exact ⟨z, items_get8 hz⟩
          rcases h0i with hz | ⟨z, hz⟩
          · simp only [rOutD, RDesk.d, RDesk.cells, Msg.d, Msg.cells, Item.d, Item.cells] at r181 r182 ⊢
            refine Runs.of (kit Try.prog) Try.func185 rfl rfl (by rw [Try.ntmps185]; exact of_decide_eq_true rfl) ?_; rw [Try.ntmps185, Try.results185]
            repeat' (first
              | ((first | refine Pwp.step (kit _) rfl fun K hK => ?_ | refine Pwp.last (kit _) rfl fun K hK => ?_ | refine Pwp.stepD (kit _) rfl rfl fun K hK => ?_ | refine Pwp.lastD (kit _) rfl rfl fun K hK => ?_); simp (dsimp := false) only [↓opsP_nil, ↓opsP_cons, ↓opsD_nil, ↓opsD_cons, ↓opP, ↓stepP, ↓stepG, go_sem, hs, hz, c1, hlen, Bool.false_and, Bool.true_and, Bool.false_or, Bool.or_false, Bool.and_false, bne_self_eq_false])
              | (refine Pwp.seq ?_)
              | (refine Pwp.block ?_)
              | (refine Pwp.exit ?_; simp only [thenS, blockS, if_true, if_false, reduceIte, Nat.reduceEqDiff, Nat.add_one_ne_zero, reduceCtorEq])
              | (refine Pwp.skip ?_; simp only [thenS, blockS])
              | (refine Pwp.cond rfl True.intro (fun h => ?_) (fun h => ?_) <;> (try (cases h; done)) <;> (try simp only [h]))
              | (refine Pwp.ret ?_; try simp only [thenS, blockS])
              | (refine hK _ ?_; clear hK K)
              | (refine hK _ _ rfl ?_; clear hK K)
              | (refine CallK.toD (ds := [.agg [I64 m.seller, I64 m.number, I64 m.buyer, I64 m.currency, I64 m.amount, I64 m.round, I64 1, I64 0]]) rfl (r182) rfl ?_)
              | (refine CallK.toD (ds := [.agg [I64 d.me, I64 d.far, .slc 8 (itemsD d.items), .slc 3 (ordersD d.orders)], .agg [I64 m.seller, I64 m.number]]) rfl (r181) rfl ?_)
              | (refine CallG.off ?_)
              | (with_reducible refine Or.inl ?_)
              | (simp only [thenS, blockS])
              | (with_reducible refine And.intro ?_ ?_)
              | (with_reducible exact True.intro)
              | (simp (dsimp := false) only [↓opsP_nil, ↓opsP_cons, ↓opsD_nil, ↓opsD_cons, ↓opP, ↓stepP, ↓stepG, go_sem, hs, hz, c1, hlen, Bool.false_and, Bool.true_and, Bool.false_or, Bool.or_false, Bool.and_false, bne_self_eq_false]))
            all_goals (try (first | (intro hg; simp [hg]; done) | exact of_decide_eq_true rfl | (cases h; done)))
            all_goals (try (intro hz; rw [hz]; rfl))
            refine Pwp.range d.orders.length (S := L185 d m f) (Sub.view V0 (by simp [L185]) rfl (by simp [viewH, viewP, viewL, viewO, V0, V9, V9n, VR, VN, keptOf, find, PVal.toD, subD, subL, subV, subD_refl, viewL_ds, disj, PVal.ids, pnil, List.range, List.range.loop, L185, nearL]) (by simp [viewT, St.ev, viewH, viewP, viewL, viewO, V0, V9, V9n, VR, VN, keptOf, find, PVal.toD, subD, subL, subV, subD_refl, viewL_ds, disj, PVal.ids, pnil, List.range, List.range.loop, L185, nearL])) (fun i hi => ?_) ?_
            · obtain ⟨y, hy, hym⟩ := at_lt hi
              have hgy := orders_get3 hy
              have c2 := dlt hi
              have w2 := wrap_succ (i := i) (by omega)
              have e := nearL_take (s := m.seller) (n := m.number) (a := m.amount) (far := d.far) hy
              have r228 := run228 y.amount m.amount d.far (hoa y hym) hma
              generalize hN : nearL m.seller m.number m.amount d.far (d.orders.take i) = nb at *
              unfold L185
              rw [hN]
              cases hq : (isNmO m.seller m.number y && nearV y.amount m.amount d.far) with
              | true =>
                rw [hq, Bool.or_true] at e
                unfold isNmO at hq
                repeat' (first
                  | ((first | refine Pwp.step (kit _) rfl fun K hK => ?_ | refine Pwp.last (kit _) rfl fun K hK => ?_ | refine Pwp.stepD (kit _) rfl rfl fun K hK => ?_ | refine Pwp.lastD (kit _) rfl rfl fun K hK => ?_); simp (dsimp := false) only [↓opsP_nil, ↓opsP_cons, ↓opsD_nil, ↓opsD_cons, ↓opP, ↓stepP, ↓stepG, go_sem, hgy, c2, w2, hlen, hq])
                  | (refine Pwp.seq ?_)
                  | (refine Pwp.block ?_)
                  | (refine Pwp.exit ?_; simp only [thenS, blockS, if_true, if_false, reduceIte, Nat.reduceEqDiff, Nat.add_one_ne_zero, reduceCtorEq])
                  | (refine Pwp.skip ?_; simp only [thenS, blockS])
                  | (refine Pwp.cond rfl True.intro (fun h => ?_) (fun h => ?_) <;> (try (cases h; done)) <;> (try simp only [h]))
                  | (refine Pwp.ret ?_; try simp only [thenS, blockS])
                  | (refine hK _ ?_; clear hK K)
                  | (refine hK _ _ rfl ?_; clear hK K)
                  | (refine CallG.toD (ds := [I64 y.amount, I64 m.amount, I64 d.far]) rfl (r228) rfl ?_ ?_)
                  | (refine CallG.off ?_)
                  | (with_reducible refine Or.inl ?_)
                  | (simp only [thenS, blockS])
                  | (with_reducible refine And.intro ?_ ?_)
                  | (with_reducible exact True.intro)
                  | (simp (dsimp := false) only [↓opsP_nil, ↓opsP_cons, ↓opsD_nil, ↓opsD_cons, ↓opP, ↓stepP, ↓stepG, go_sem, hgy, c2, w2, hlen, hq]))
                all_goals (try (first | (intro hg; simp [hg]; done) | exact of_decide_eq_true rfl | (cases h; done)))
                exact Sub.view V0 (by simp [L185]) rfl (by simp [viewH, viewP, viewL, viewO, V0, V9, V9n, VR, VN, keptOf, find, PVal.toD, subD, subL, subV, subD_refl, viewL_ds, disj, PVal.ids, pnil, List.range, List.range.loop, L185, e]) (by simp [viewT, St.ev, viewH, viewP, viewL, viewO, V0, V9, V9n, VR, VN, keptOf, find, PVal.toD, subD, subL, subV, subD_refl, viewL_ds, disj, PVal.ids, pnil, List.range, List.range.loop, L185, e])
              | false =>
                rw [hq, Bool.or_false] at e
                unfold isNmO at hq
                repeat' (first
                  | ((first | refine Pwp.step (kit _) rfl fun K hK => ?_ | refine Pwp.last (kit _) rfl fun K hK => ?_ | refine Pwp.stepD (kit _) rfl rfl fun K hK => ?_ | refine Pwp.lastD (kit _) rfl rfl fun K hK => ?_); simp (dsimp := false) only [↓opsP_nil, ↓opsP_cons, ↓opsD_nil, ↓opsD_cons, ↓opP, ↓stepP, ↓stepG, go_sem, hgy, c2, w2, hlen, hq])
                  | (refine Pwp.seq ?_)
                  | (refine Pwp.block ?_)
                  | (refine Pwp.exit ?_; simp only [thenS, blockS, if_true, if_false, reduceIte, Nat.reduceEqDiff, Nat.add_one_ne_zero, reduceCtorEq])
                  | (refine Pwp.skip ?_; simp only [thenS, blockS])
                  | (refine Pwp.cond rfl True.intro (fun h => ?_) (fun h => ?_) <;> (try (cases h; done)) <;> (try simp only [h]))
                  | (refine Pwp.ret ?_; try simp only [thenS, blockS])
                  | (refine hK _ ?_; clear hK K)
                  | (refine hK _ _ rfl ?_; clear hK K)
                  | (refine CallG.toD (ds := [I64 y.amount, I64 m.amount, I64 d.far]) rfl (r228) rfl ?_ ?_)
                  | (refine CallG.off ?_)
                  | (with_reducible refine Or.inl ?_)
                  | (simp only [thenS, blockS])
                  | (with_reducible refine And.intro ?_ ?_)
                  | (with_reducible exact True.intro)
                  | (simp (dsimp := false) only [↓opsP_nil, ↓opsP_cons, ↓opsD_nil, ↓opsD_cons, ↓opP, ↓stepP, ↓stepG, go_sem, hgy, c2, w2, hlen, hq]))
                all_goals (try (first | (intro hg; simp [hg]; done) | exact of_decide_eq_true rfl | (cases h; done)))
                exact Sub.view V0 (by simp [L185]) rfl (by simp [viewH, viewP, viewL, viewO, V0, V9, V9n, VR, VN, keptOf, find, PVal.toD, subD, subL, subV, subD_refl, viewL_ds, disj, PVal.ids, pnil, List.range, List.range.loop, L185, e]) (by simp [viewT, St.ev, viewH, viewP, viewL, viewO, V0, V9, V9n, VR, VN, keptOf, find, PVal.toD, subD, subL, subV, subD_refl, viewL_ds, disj, PVal.ids, pnil, List.range, List.range.loop, L185, e])
            · have c2 := dge (Nat.le_refl d.orders.length)
              have r121 := run121 d (rPropY d m) hl
              have r183 := run183 f (if nearL m.seller m.number m.amount d.far d.orders = true then 7 else 8) (rPropY d m)
              unfold L185
              rw [List.take_length]
              generalize d.keep (rPropY d m) = d2 at *
              unfold rPropY at *
              generalize nearL m.seller m.number m.amount d.far d.orders = nb at *
              cases nb with
              | true =>
                simp only [reduceIte, Bool.false_eq_true] at r121 r183 ⊢
                simp only [rOutD, RDesk.d, RDesk.cells, saidD, about, Msg.d, Msg.cells, Item.d, Item.cells, Option.toList, List.cons_append, List.nil_append] at r121 r183 ⊢
                repeat' (first
                  | ((first | refine Pwp.step (kit _) rfl fun K hK => ?_ | refine Pwp.last (kit _) rfl fun K hK => ?_ | refine Pwp.stepD (kit _) rfl rfl fun K hK => ?_ | refine Pwp.lastD (kit _) rfl rfl fun K hK => ?_); simp (dsimp := false) only [↓opsP_nil, ↓opsP_cons, ↓opsD_nil, ↓opsD_cons, ↓opP, ↓stepP, ↓stepG, go_sem, c2, hlen])
                  | (refine Pwp.seq ?_)
                  | (refine Pwp.block ?_)
                  | (refine Pwp.exit ?_; simp only [thenS, blockS, if_true, if_false, reduceIte, Nat.reduceEqDiff, Nat.add_one_ne_zero, reduceCtorEq])
                  | (refine Pwp.skip ?_; simp only [thenS, blockS])
                  | (refine Pwp.cond rfl True.intro (fun h => ?_) (fun h => ?_) <;> (try (cases h; done)) <;> (try simp only [h]))
                  | (refine Pwp.ret ?_; try simp only [thenS, blockS])
                  | (refine hK _ ?_; clear hK K)
                  | (refine hK _ _ rfl ?_; clear hK K)
                  | (refine CallK.give (ds := [.agg [I64 d.me, I64 d.far, .slc 8 (itemsD d.items), .slc 3 (ordersD d.orders)], .agg [I64 m.seller, I64 m.number, I64 m.buyer, I64 m.currency, I64 m.amount, I64 m.round, I64 3, I64 0]]) rfl (r121) (by simp) ?_)
                  | (refine CallK.give (ds := [I64 f, I64 7, .agg [I64 m.seller, I64 m.number, I64 m.buyer, I64 m.currency, I64 m.amount, I64 m.round, I64 3, I64 0]]) rfl (r183) (by simp) ?_)
                  | (refine CallG.off ?_)
                  | (with_reducible refine Or.inl ?_)
                  | (simp only [thenS, blockS])
                  | (with_reducible refine And.intro ?_ ?_)
                  | (with_reducible exact True.intro)
                  | (simp (dsimp := false) only [↓opsP_nil, ↓opsP_cons, ↓opsD_nil, ↓opsD_cons, ↓opP, ↓stepP, ↓stepG, go_sem, c2, hlen]))
                all_goals (try (first | (intro hg; simp [hg]; done) | exact of_decide_eq_true rfl | (cases h; done)))
                (refine Fin.data (.inr rfl) (by simp (dsimp := false) only [↓opsP_nil, ↓opsP_cons, ↓opsD_nil, ↓opsD_cons, ↓opP, ↓stepP, ↓stepG, go_sem, resL]; rfl) (by simp only [and_self]) (by simp (dsimp := false) only [↓opsP_nil, ↓opsP_cons, ↓opsD_nil, ↓opsD_cons, ↓opP, ↓stepP, ↓stepG, go_sem, resP, Nat.le_refl, List.take_length]; try rfl) ?_)
                simp [subD, subL, subV, subD_refl]
              | false =>
                simp only [reduceIte, Bool.false_eq_true] at r121 r183 ⊢
                simp only [rOutD, RDesk.d, RDesk.cells, saidD, about, Msg.d, Msg.cells, Item.d, Item.cells, Option.toList, List.cons_append, List.nil_append] at r121 r183 ⊢
                repeat' (first
                  | ((first | refine Pwp.step (kit _) rfl fun K hK => ?_ | refine Pwp.last (kit _) rfl fun K hK => ?_ | refine Pwp.stepD (kit _) rfl rfl fun K hK => ?_ | refine Pwp.lastD (kit _) rfl rfl fun K hK => ?_); simp (dsimp := false) only [↓opsP_nil, ↓opsP_cons, ↓opsD_nil, ↓opsD_cons, ↓opP, ↓stepP, ↓stepG, go_sem, c2, hlen])
                  | (refine Pwp.seq ?_)
                  | (refine Pwp.block ?_)
                  | (refine Pwp.exit ?_; simp only [thenS, blockS, if_true, if_false, reduceIte, Nat.reduceEqDiff, Nat.add_one_ne_zero, reduceCtorEq])
                  | (refine Pwp.skip ?_; simp only [thenS, blockS])
                  | (refine Pwp.cond rfl True.intro (fun h => ?_) (fun h => ?_) <;> (try (cases h; done)) <;> (try simp only [h]))
                  | (refine Pwp.ret ?_; try simp only [thenS, blockS])
                  | (refine hK _ ?_; clear hK K)
                  | (refine hK _ _ rfl ?_; clear hK K)
                  | (refine CallK.give (ds := [.agg [I64 d.me, I64 d.far, .slc 8 (itemsD d.items), .slc 3 (ordersD d.orders)], .agg [I64 m.seller, I64 m.number, I64 m.buyer, I64 m.currency, I64 m.amount, I64 m.round, I64 2, I64 0]]) rfl (r121) (by simp) ?_)
                  | (refine CallK.give (ds := [I64 f, I64 8, .agg [I64 m.seller, I64 m.number, I64 m.buyer, I64 m.currency, I64 m.amount, I64 m.round, I64 2, I64 0]]) rfl (r183) (by simp) ?_)
                  | (refine CallG.off ?_)
                  | (with_reducible refine Or.inl ?_)
                  | (simp only [thenS, blockS])
                  | (with_reducible refine And.intro ?_ ?_)
                  | (with_reducible exact True.intro)
                  | (simp (dsimp := false) only [↓opsP_nil, ↓opsP_cons, ↓opsD_nil, ↓opsD_cons, ↓opP, ↓stepP, ↓stepG, go_sem, c2, hlen]))
                all_goals (try (first | (intro hg; simp [hg]; done) | exact of_decide_eq_true rfl | (cases h; done)))
                (refine Fin.data (.inr rfl) (by simp (dsimp := false) only [↓opsP_nil, ↓opsP_cons, ↓opsD_nil, ↓opsD_cons, ↓opP, ↓stepP, ↓stepG, go_sem, resL]; rfl) (by simp only [and_self]) (by simp (dsimp := false) only [↓opsP_nil, ↓opsP_cons, ↓opsD_nil, ↓opsD_cons, ↓opP, ↓stepP, ↓stepG, go_sem, resP, Nat.le_refl, List.take_length]; try rfl) ?_)
                simp [subD, subL, subV, subD_refl]
          · simp only [rOutD, RDesk.d, RDesk.cells, Msg.d, Msg.cells, Item.d, Item.cells] at r181 r182 ⊢
            refine Runs.of (kit Try.prog) Try.func185 rfl rfl (by rw [Try.ntmps185]; exact of_decide_eq_true rfl) ?_; rw [Try.ntmps185, Try.results185]
            repeat' (first
              | ((first | refine Pwp.step (kit _) rfl fun K hK => ?_ | refine Pwp.last (kit _) rfl fun K hK => ?_ | refine Pwp.stepD (kit _) rfl rfl fun K hK => ?_ | refine Pwp.lastD (kit _) rfl rfl fun K hK => ?_); simp (dsimp := false) only [↓opsP_nil, ↓opsP_cons, ↓opsD_nil, ↓opsD_cons, ↓opP, ↓stepP, ↓stepG, go_sem, hs, hz, c1, hlen, Bool.false_and, Bool.true_and, Bool.false_or, Bool.or_false, Bool.and_false, bne_self_eq_false])
              | (refine Pwp.seq ?_)
              | (refine Pwp.block ?_)
              | (refine Pwp.exit ?_; simp only [thenS, blockS, if_true, if_false, reduceIte, Nat.reduceEqDiff, Nat.add_one_ne_zero, reduceCtorEq])
              | (refine Pwp.skip ?_; simp only [thenS, blockS])
              | (refine Pwp.cond rfl True.intro (fun h => ?_) (fun h => ?_) <;> (try (cases h; done)) <;> (try simp only [h]))
              | (refine Pwp.ret ?_; try simp only [thenS, blockS])
              | (refine hK _ ?_; clear hK K)
              | (refine hK _ _ rfl ?_; clear hK K)
              | (refine CallK.toD (ds := [.agg [I64 m.seller, I64 m.number, I64 m.buyer, I64 m.currency, I64 m.amount, I64 m.round, I64 1, I64 0]]) rfl (r182) rfl ?_)
              | (refine CallK.toD (ds := [.agg [I64 d.me, I64 d.far, .slc 8 (itemsD d.items), .slc 3 (ordersD d.orders)], .agg [I64 m.seller, I64 m.number]]) rfl (r181) rfl ?_)
              | (refine CallG.off ?_)
              | (with_reducible refine Or.inl ?_)
              | (simp only [thenS, blockS])
              | (with_reducible refine And.intro ?_ ?_)
              | (with_reducible exact True.intro)
              | (simp (dsimp := false) only [↓opsP_nil, ↓opsP_cons, ↓opsD_nil, ↓opsD_cons, ↓opP, ↓stepP, ↓stepG, go_sem, hs, hz, c1, hlen, Bool.false_and, Bool.true_and, Bool.false_or, Bool.or_false, Bool.and_false, bne_self_eq_false]))
            all_goals (try (first | (intro hg; simp [hg]; done) | exact of_decide_eq_true rfl | (cases h; done)))
            all_goals (try (intro hz; rw [hz]; rfl))
            refine Pwp.range d.orders.length (S := L185 d m f) (Sub.view V0 (by simp [L185]) rfl (by simp [viewH, viewP, viewL, viewO, V0, V9, V9n, VR, VN, keptOf, find, PVal.toD, subD, subL, subV, subD_refl, viewL_ds, disj, PVal.ids, pnil, List.range, List.range.loop, L185, nearL]) (by simp [viewT, St.ev, viewH, viewP, viewL, viewO, V0, V9, V9n, VR, VN, keptOf, find, PVal.toD, subD, subL, subV, subD_refl, viewL_ds, disj, PVal.ids, pnil, List.range, List.range.loop, L185, nearL])) (fun i hi => ?_) ?_
            · obtain ⟨y, hy, hym⟩ := at_lt hi
              have hgy := orders_get3 hy
              have c2 := dlt hi
              have w2 := wrap_succ (i := i) (by omega)
              have e := nearL_take (s := m.seller) (n := m.number) (a := m.amount) (far := d.far) hy
              have r228 := run228 y.amount m.amount d.far (hoa y hym) hma
              generalize hN : nearL m.seller m.number m.amount d.far (d.orders.take i) = nb at *
              unfold L185
              rw [hN]
              cases hq : (isNmO m.seller m.number y && nearV y.amount m.amount d.far) with
              | true =>
                rw [hq, Bool.or_true] at e
                unfold isNmO at hq
                repeat' (first
                  | ((first | refine Pwp.step (kit _) rfl fun K hK => ?_ | refine Pwp.last (kit _) rfl fun K hK => ?_ | refine Pwp.stepD (kit _) rfl rfl fun K hK => ?_ | refine Pwp.lastD (kit _) rfl rfl fun K hK => ?_); simp (dsimp := false) only [↓opsP_nil, ↓opsP_cons, ↓opsD_nil, ↓opsD_cons, ↓opP, ↓stepP, ↓stepG, go_sem, hgy, c2, w2, hlen, hq])
                  | (refine Pwp.seq ?_)
                  | (refine Pwp.block ?_)
                  | (refine Pwp.exit ?_; simp only [thenS, blockS, if_true, if_false, reduceIte, Nat.reduceEqDiff, Nat.add_one_ne_zero, reduceCtorEq])
                  | (refine Pwp.skip ?_; simp only [thenS, blockS])
                  | (refine Pwp.cond rfl True.intro (fun h => ?_) (fun h => ?_) <;> (try (cases h; done)) <;> (try simp only [h]))
                  | (refine Pwp.ret ?_; try simp only [thenS, blockS])
                  | (refine hK _ ?_; clear hK K)
                  | (refine hK _ _ rfl ?_; clear hK K)
                  | (refine CallG.toD (ds := [I64 y.amount, I64 m.amount, I64 d.far]) rfl (r228) rfl ?_ ?_)
                  | (refine CallG.off ?_)
                  | (with_reducible refine Or.inl ?_)
                  | (simp only [thenS, blockS])
                  | (with_reducible refine And.intro ?_ ?_)
                  | (with_reducible exact True.intro)
                  | (simp (dsimp := false) only [↓opsP_nil, ↓opsP_cons, ↓opsD_nil, ↓opsD_cons, ↓opP, ↓stepP, ↓stepG, go_sem, hgy, c2, w2, hlen, hq]))
                all_goals (try (first | (intro hg; simp [hg]; done) | exact of_decide_eq_true rfl | (cases h; done)))
                exact Sub.view V0 (by simp [L185]) rfl (by simp [viewH, viewP, viewL, viewO, V0, V9, V9n, VR, VN, keptOf, find, PVal.toD, subD, subL, subV, subD_refl, viewL_ds, disj, PVal.ids, pnil, List.range, List.range.loop, L185, e]) (by simp [viewT, St.ev, viewH, viewP, viewL, viewO, V0, V9, V9n, VR, VN, keptOf, find, PVal.toD, subD, subL, subV, subD_refl, viewL_ds, disj, PVal.ids, pnil, List.range, List.range.loop, L185, e])
              | false =>
                rw [hq, Bool.or_false] at e
                unfold isNmO at hq
                repeat' (first
                  | ((first | refine Pwp.step (kit _) rfl fun K hK => ?_ | refine Pwp.last (kit _) rfl fun K hK => ?_ | refine Pwp.stepD (kit _) rfl rfl fun K hK => ?_ | refine Pwp.lastD (kit _) rfl rfl fun K hK => ?_); simp (dsimp := false) only [↓opsP_nil, ↓opsP_cons, ↓opsD_nil, ↓opsD_cons, ↓opP, ↓stepP, ↓stepG, go_sem, hgy, c2, w2, hlen, hq])
                  | (refine Pwp.seq ?_)
                  | (refine Pwp.block ?_)
                  | (refine Pwp.exit ?_; simp only [thenS, blockS, if_true, if_false, reduceIte, Nat.reduceEqDiff, Nat.add_one_ne_zero, reduceCtorEq])
                  | (refine Pwp.skip ?_; simp only [thenS, blockS])
                  | (refine Pwp.cond rfl True.intro (fun h => ?_) (fun h => ?_) <;> (try (cases h; done)) <;> (try simp only [h]))
                  | (refine Pwp.ret ?_; try simp only [thenS, blockS])
                  | (refine hK _ ?_; clear hK K)
                  | (refine hK _ _ rfl ?_; clear hK K)
                  | (refine CallG.toD (ds := [I64 y.amount, I64 m.amount, I64 d.far]) rfl (r228) rfl ?_ ?_)
                  | (refine CallG.off ?_)
                  | (with_reducible refine Or.inl ?_)
                  | (simp only [thenS, blockS])
                  | (with_reducible refine And.intro ?_ ?_)
                  | (with_reducible exact True.intro)
                  | (simp (dsimp := false) only [↓opsP_nil, ↓opsP_cons, ↓opsD_nil, ↓opsD_cons, ↓opP, ↓stepP, ↓stepG, go_sem, hgy, c2, w2, hlen, hq]))
                all_goals (try (first | (intro hg; simp [hg]; done) | exact of_decide_eq_true rfl | (cases h; done)))
                exact Sub.view V0 (by simp [L185]) rfl (by simp [viewH, viewP, viewL, viewO, V0, V9, V9n, VR, VN, keptOf, find, PVal.toD, subD, subL, subV, subD_refl, viewL_ds, disj, PVal.ids, pnil, List.range, List.range.loop, L185, e]) (by simp [viewT, St.ev, viewH, viewP, viewL, viewO, V0, V9, V9n, VR, VN, keptOf, find, PVal.toD, subD, subL, subV, subD_refl, viewL_ds, disj, PVal.ids, pnil, List.range, List.range.loop, L185, e])
            · have c2 := dge (Nat.le_refl d.orders.length)
              have r121 := run121 d (rPropY d m) hl
              have r183 := run183 f (if nearL m.seller m.number m.amount d.far d.orders = true then 7 else 8) (rPropY d m)
              unfold L185
              rw [List.take_length]
              generalize d.keep (rPropY d m) = d2 at *
              unfold rPropY at *
              generalize nearL m.seller m.number m.amount d.far d.orders = nb at *
              cases nb with
              | true =>
                simp only [reduceIte, Bool.false_eq_true] at r121 r183 ⊢
                simp only [rOutD, RDesk.d, RDesk.cells, saidD, about, Msg.d, Msg.cells, Item.d, Item.cells, Option.toList, List.cons_append, List.nil_append] at r121 r183 ⊢
                repeat' (first
                  | ((first | refine Pwp.step (kit _) rfl fun K hK => ?_ | refine Pwp.last (kit _) rfl fun K hK => ?_ | refine Pwp.stepD (kit _) rfl rfl fun K hK => ?_ | refine Pwp.lastD (kit _) rfl rfl fun K hK => ?_); simp (dsimp := false) only [↓opsP_nil, ↓opsP_cons, ↓opsD_nil, ↓opsD_cons, ↓opP, ↓stepP, ↓stepG, go_sem, c2, hlen])
                  | (refine Pwp.seq ?_)
                  | (refine Pwp.block ?_)
                  | (refine Pwp.exit ?_; simp only [thenS, blockS, if_true, if_false, reduceIte, Nat.reduceEqDiff, Nat.add_one_ne_zero, reduceCtorEq])
                  | (refine Pwp.skip ?_; simp only [thenS, blockS])
                  | (refine Pwp.cond rfl True.intro (fun h => ?_) (fun h => ?_) <;> (try (cases h; done)) <;> (try simp only [h]))
                  | (refine Pwp.ret ?_; try simp only [thenS, blockS])
                  | (refine hK _ ?_; clear hK K)
                  | (refine hK _ _ rfl ?_; clear hK K)
                  | (refine CallK.give (ds := [.agg [I64 d.me, I64 d.far, .slc 8 (itemsD d.items), .slc 3 (ordersD d.orders)], .agg [I64 m.seller, I64 m.number, I64 m.buyer, I64 m.currency, I64 m.amount, I64 m.round, I64 3, I64 0]]) rfl (r121) (by simp) ?_)
                  | (refine CallK.give (ds := [I64 f, I64 7, .agg [I64 m.seller, I64 m.number, I64 m.buyer, I64 m.currency, I64 m.amount, I64 m.round, I64 3, I64 0]]) rfl (r183) (by simp) ?_)
                  | (refine CallG.off ?_)
                  | (with_reducible refine Or.inl ?_)
                  | (simp only [thenS, blockS])
                  | (with_reducible refine And.intro ?_ ?_)
                  | (with_reducible exact True.intro)
                  | (simp (dsimp := false) only [↓opsP_nil, ↓opsP_cons, ↓opsD_nil, ↓opsD_cons, ↓opP, ↓stepP, ↓stepG, go_sem, c2, hlen]))
                all_goals (try (first | (intro hg; simp [hg]; done) | exact of_decide_eq_true rfl | (cases h; done)))
                (refine Fin.data (.inr rfl) (by simp (dsimp := false) only [↓opsP_nil, ↓opsP_cons, ↓opsD_nil, ↓opsD_cons, ↓opP, ↓stepP, ↓stepG, go_sem, resL]; rfl) (by simp only [and_self]) (by simp (dsimp := false) only [↓opsP_nil, ↓opsP_cons, ↓opsD_nil, ↓opsD_cons, ↓opP, ↓stepP, ↓stepG, go_sem, resP, Nat.le_refl, List.take_length]; try rfl) ?_)
                simp [subD, subL, subV, subD_refl]
              | false =>
                simp only [reduceIte, Bool.false_eq_true] at r121 r183 ⊢
                simp only [rOutD, RDesk.d, RDesk.cells, saidD, about, Msg.d, Msg.cells, Item.d, Item.cells, Option.toList, List.cons_append, List.nil_append] at r121 r183 ⊢
                repeat' (first
                  | ((first | refine Pwp.step (kit _) rfl fun K hK => ?_ | refine Pwp.last (kit _) rfl fun K hK => ?_ | refine Pwp.stepD (kit _) rfl rfl fun K hK => ?_ | refine Pwp.lastD (kit _) rfl rfl fun K hK => ?_); simp (dsimp := false) only [↓opsP_nil, ↓opsP_cons, ↓opsD_nil, ↓opsD_cons, ↓opP, ↓stepP, ↓stepG, go_sem, c2, hlen])
                  | (refine Pwp.seq ?_)
                  | (refine Pwp.block ?_)
                  | (refine Pwp.exit ?_; simp only [thenS, blockS, if_true, if_false, reduceIte, Nat.reduceEqDiff, Nat.add_one_ne_zero, reduceCtorEq])
                  | (refine Pwp.skip ?_; simp only [thenS, blockS])
                  | (refine Pwp.cond rfl True.intro (fun h => ?_) (fun h => ?_) <;> (try (cases h; done)) <;> (try simp only [h]))
                  | (refine Pwp.ret ?_; try simp only [thenS, blockS])
                  | (refine hK _ ?_; clear hK K)
                  | (refine hK _ _ rfl ?_; clear hK K)
                  | (refine CallK.give (ds := [.agg [I64 d.me, I64 d.far, .slc 8 (itemsD d.items), .slc 3 (ordersD d.orders)], .agg [I64 m.seller, I64 m.number, I64 m.buyer, I64 m.currency, I64 m.amount, I64 m.round, I64 2, I64 0]]) rfl (r121) (by simp) ?_)
                  | (refine CallK.give (ds := [I64 f, I64 8, .agg [I64 m.seller, I64 m.number, I64 m.buyer, I64 m.currency, I64 m.amount, I64 m.round, I64 2, I64 0]]) rfl (r183) (by simp) ?_)
                  | (refine CallG.off ?_)
                  | (with_reducible refine Or.inl ?_)
                  | (simp only [thenS, blockS])
                  | (with_reducible refine And.intro ?_ ?_)
                  | (with_reducible exact True.intro)
                  | (simp (dsimp := false) only [↓opsP_nil, ↓opsP_cons, ↓opsD_nil, ↓opsD_cons, ↓opP, ↓stepP, ↓stepG, go_sem, c2, hlen]))
                all_goals (try (first | (intro hg; simp [hg]; done) | exact of_decide_eq_true rfl | (cases h; done)))
                (refine Fin.data (.inr rfl) (by simp (dsimp := false) only [↓opsP_nil, ↓opsP_cons, ↓opsD_nil, ↓opsD_cons, ↓opP, ↓stepP, ↓stepG, go_sem, resL]; rfl) (by simp only [and_self]) (by simp (dsimp := false) only [↓opsP_nil, ↓opsP_cons, ↓opsD_nil, ↓opsD_cons, ↓opP, ↓stepP, ↓stepG, go_sem, resP, Nat.le_refl, List.take_length]; try rfl) ?_)
                simp [subD, subL, subV, subD_refl]
      · obtain ⟨e1, e2⟩ := has_some h1 h2
        rw [h1, Nat.zero_add] at r181
        have k0 : decide ((k : Int) < 0) = false := by rw [decide_eq_false_iff_not]; omega
        have k1 : decide (0 ≤ (k : Int)) = true := decide_eq_true (by omega)
        have hg := items_get8 h2
        have ht := Int.toNat_natCast k
        have p0 : (0 : Int) ≤ (k : Int) := by omega
        have hrx := hr x (List.mem_of_getElem? h2)
        have w1 : IntKind.wrap .i64 (x.round + 1) = x.round + 1 := wrap_of (by omega) (by omega)
        have hS : rPropS d m = ((x.state != 2 || x.round + 1 != m.round) || x.currency != m.currency) := by unfold rPropS; rw [e1, e2]; simp
        cases hs : ((x.state != 2 || x.round + 1 != m.round) || x.currency != m.currency) with
        | true =>
          rw [hs] at hS
          rw [if_pos hS]
          clear hc hma
          unfold newI at *
          simp only [rOutD, RDesk.d, RDesk.cells, saidD, about, Msg.d, Msg.cells, Item.d, Item.cells, Option.toList, List.cons_append, List.nil_append] at *
          refine Runs.of (kit Try.prog) Try.func185 rfl rfl (by rw [Try.ntmps185]; exact of_decide_eq_true rfl) ?_; rw [Try.ntmps185, Try.results185]
          repeat' (first
            | ((first | refine Pwp.step (kit _) rfl fun K hK => ?_ | refine Pwp.last (kit _) rfl fun K hK => ?_ | refine Pwp.stepD (kit _) rfl rfl fun K hK => ?_ | refine Pwp.lastD (kit _) rfl rfl fun K hK => ?_); simp (dsimp := false) only [↓opsP_nil, ↓opsP_cons, ↓opsD_nil, ↓opsD_cons, ↓opP, ↓stepP, ↓stepG, go_sem, hs, k0, k1, hg, ht, p0, w1, c1, Bool.false_and, Bool.true_and, Bool.false_or, Bool.or_false, Bool.and_false, bne_self_eq_false])
            | (refine Pwp.seq ?_)
            | (refine Pwp.block ?_)
            | (refine Pwp.exit ?_; simp only [thenS, blockS, if_true, if_false, reduceIte, Nat.reduceEqDiff, Nat.add_one_ne_zero, reduceCtorEq])
            | (refine Pwp.skip ?_; simp only [thenS, blockS])
            | (refine Pwp.cond rfl True.intro (fun h => ?_) (fun h => ?_) <;> (try (cases h; done)) <;> (try simp only [h]))
            | (refine Pwp.ret ?_; try simp only [thenS, blockS])
            | (refine hK _ ?_; clear hK K)
            | (refine hK _ _ rfl ?_; clear hK K)
            | (refine CallK.toD (ds := [.agg [I64 m.seller, I64 m.number, I64 m.buyer, I64 m.currency, I64 m.amount, I64 m.round, I64 1, I64 0]]) rfl (r182) rfl ?_)
            | (refine CallK.toD (ds := [.agg [I64 d.me, I64 d.far, .slc 8 (itemsD d.items), .slc 3 (ordersD d.orders)], .agg [I64 m.seller, I64 m.number]]) rfl (r181) rfl ?_)
            | (refine CallG.off ?_)
            | (with_reducible refine Or.inl ?_)
            | (simp only [thenS, blockS])
            | (with_reducible refine And.intro ?_ ?_)
            | (with_reducible exact True.intro)
            | (simp (dsimp := false) only [↓opsP_nil, ↓opsP_cons, ↓opsD_nil, ↓opsD_cons, ↓opP, ↓stepP, ↓stepG, go_sem, hs, k0, k1, hg, ht, p0, w1, c1, Bool.false_and, Bool.true_and, Bool.false_or, Bool.or_false, Bool.and_false, bne_self_eq_false]))
          all_goals (try (first | (intro hg; simp [hg]; done) | exact of_decide_eq_true rfl | (cases h; done)))
          all_goals (try (intro hz; rw [hz]; rfl))
          (refine Fin.data (.inr rfl) (by simp (dsimp := false) only [↓opsP_nil, ↓opsP_cons, ↓opsD_nil, ↓opsD_cons, ↓opP, ↓stepP, ↓stepG, go_sem, resL]; rfl) (by simp only [and_self]) (by simp (dsimp := false) only [↓opsP_nil, ↓opsP_cons, ↓opsD_nil, ↓opsD_cons, ↓opP, ↓stepP, ↓stepG, go_sem, resP, Nat.le_refl, List.take_length]; try rfl) ?_)
          simp [subD, subL, subV, subD_refl]
        | false =>
          rw [hs] at hS
          rw [if_neg (by rw [hS]; simp)]
          clear hc
          unfold newI at *
          simp only [rOutD, RDesk.d, RDesk.cells, Msg.d, Msg.cells, Item.d, Item.cells] at r181 r182 ⊢
          refine Runs.of (kit Try.prog) Try.func185 rfl rfl (by rw [Try.ntmps185]; exact of_decide_eq_true rfl) ?_; rw [Try.ntmps185, Try.results185]
          repeat' (first
            | ((first | refine Pwp.step (kit _) rfl fun K hK => ?_ | refine Pwp.last (kit _) rfl fun K hK => ?_ | refine Pwp.stepD (kit _) rfl rfl fun K hK => ?_ | refine Pwp.lastD (kit _) rfl rfl fun K hK => ?_); simp (dsimp := false) only [↓opsP_nil, ↓opsP_cons, ↓opsD_nil, ↓opsD_cons, ↓opP, ↓stepP, ↓stepG, go_sem, hs, k0, k1, hg, ht, p0, w1, c1, hlen, Bool.false_and, Bool.true_and, Bool.false_or, Bool.or_false, Bool.and_false, bne_self_eq_false])
            | (refine Pwp.seq ?_)
            | (refine Pwp.block ?_)
            | (refine Pwp.exit ?_; simp only [thenS, blockS, if_true, if_false, reduceIte, Nat.reduceEqDiff, Nat.add_one_ne_zero, reduceCtorEq])
            | (refine Pwp.skip ?_; simp only [thenS, blockS])
            | (refine Pwp.cond rfl True.intro (fun h => ?_) (fun h => ?_) <;> (try (cases h; done)) <;> (try simp only [h]))
            | (refine Pwp.ret ?_; try simp only [thenS, blockS])
            | (refine hK _ ?_; clear hK K)
            | (refine hK _ _ rfl ?_; clear hK K)
            | (refine CallK.toD (ds := [.agg [I64 m.seller, I64 m.number, I64 m.buyer, I64 m.currency, I64 m.amount, I64 m.round, I64 1, I64 0]]) rfl (r182) rfl ?_)
            | (refine CallK.toD (ds := [.agg [I64 d.me, I64 d.far, .slc 8 (itemsD d.items), .slc 3 (ordersD d.orders)], .agg [I64 m.seller, I64 m.number]]) rfl (r181) rfl ?_)
            | (refine CallG.off ?_)
            | (with_reducible refine Or.inl ?_)
            | (simp only [thenS, blockS])
            | (with_reducible refine And.intro ?_ ?_)
            | (with_reducible exact True.intro)
            | (simp (dsimp := false) only [↓opsP_nil, ↓opsP_cons, ↓opsD_nil, ↓opsD_cons, ↓opP, ↓stepP, ↓stepG, go_sem, hs, k0, k1, hg, ht, p0, w1, c1, hlen, Bool.false_and, Bool.true_and, Bool.false_or, Bool.or_false, Bool.and_false, bne_self_eq_false]))
          all_goals (try (first | (intro hg; simp [hg]; done) | exact of_decide_eq_true rfl | (cases h; done)))
          all_goals (try (intro hz; rw [hz]; rfl))
          refine Pwp.range d.orders.length (S := L185 d m f) (Sub.view V0 (by simp [L185]) rfl (by simp [viewH, viewP, viewL, viewO, V0, V9, V9n, VR, VN, keptOf, find, PVal.toD, subD, subL, subV, subD_refl, viewL_ds, disj, PVal.ids, pnil, List.range, List.range.loop, L185, nearL]) (by simp [viewT, St.ev, viewH, viewP, viewL, viewO, V0, V9, V9n, VR, VN, keptOf, find, PVal.toD, subD, subL, subV, subD_refl, viewL_ds, disj, PVal.ids, pnil, List.range, List.range.loop, L185, nearL])) (fun i hi => ?_) ?_
          · obtain ⟨y, hy, hym⟩ := at_lt hi
            have hgy := orders_get3 hy
            have c2 := dlt hi
            have w2 := wrap_succ (i := i) (by omega)
            have e := nearL_take (s := m.seller) (n := m.number) (a := m.amount) (far := d.far) hy
            have r228 := run228 y.amount m.amount d.far (hoa y hym) hma
            generalize hN : nearL m.seller m.number m.amount d.far (d.orders.take i) = nb at *
            unfold L185
            rw [hN]
            cases hq : (isNmO m.seller m.number y && nearV y.amount m.amount d.far) with
            | true =>
              rw [hq, Bool.or_true] at e
              unfold isNmO at hq
              repeat' (first
                | ((first | refine Pwp.step (kit _) rfl fun K hK => ?_ | refine Pwp.last (kit _) rfl fun K hK => ?_ | refine Pwp.stepD (kit _) rfl rfl fun K hK => ?_ | refine Pwp.lastD (kit _) rfl rfl fun K hK => ?_); simp (dsimp := false) only [↓opsP_nil, ↓opsP_cons, ↓opsD_nil, ↓opsD_cons, ↓opP, ↓stepP, ↓stepG, go_sem, hgy, c2, w2, hlen, hq])
                | (refine Pwp.seq ?_)
                | (refine Pwp.block ?_)
                | (refine Pwp.exit ?_; simp only [thenS, blockS, if_true, if_false, reduceIte, Nat.reduceEqDiff, Nat.add_one_ne_zero, reduceCtorEq])
                | (refine Pwp.skip ?_; simp only [thenS, blockS])
                | (refine Pwp.cond rfl True.intro (fun h => ?_) (fun h => ?_) <;> (try (cases h; done)) <;> (try simp only [h]))
                | (refine Pwp.ret ?_; try simp only [thenS, blockS])
                | (refine hK _ ?_; clear hK K)
                | (refine hK _ _ rfl ?_; clear hK K)
                | (refine CallG.toD (ds := [I64 y.amount, I64 m.amount, I64 d.far]) rfl (r228) rfl ?_ ?_)
                | (refine CallG.off ?_)
                | (with_reducible refine Or.inl ?_)
                | (simp only [thenS, blockS])
                | (with_reducible refine And.intro ?_ ?_)
                | (with_reducible exact True.intro)
                | (simp (dsimp := false) only [↓opsP_nil, ↓opsP_cons, ↓opsD_nil, ↓opsD_cons, ↓opP, ↓stepP, ↓stepG, go_sem, hgy, c2, w2, hlen, hq]))
              all_goals (try (first | (intro hg; simp [hg]; done) | exact of_decide_eq_true rfl | (cases h; done)))
              exact Sub.view V0 (by simp [L185]) rfl (by simp [viewH, viewP, viewL, viewO, V0, V9, V9n, VR, VN, keptOf, find, PVal.toD, subD, subL, subV, subD_refl, viewL_ds, disj, PVal.ids, pnil, List.range, List.range.loop, L185, e]) (by simp [viewT, St.ev, viewH, viewP, viewL, viewO, V0, V9, V9n, VR, VN, keptOf, find, PVal.toD, subD, subL, subV, subD_refl, viewL_ds, disj, PVal.ids, pnil, List.range, List.range.loop, L185, e])
            | false =>
              rw [hq, Bool.or_false] at e
              unfold isNmO at hq
              repeat' (first
                | ((first | refine Pwp.step (kit _) rfl fun K hK => ?_ | refine Pwp.last (kit _) rfl fun K hK => ?_ | refine Pwp.stepD (kit _) rfl rfl fun K hK => ?_ | refine Pwp.lastD (kit _) rfl rfl fun K hK => ?_); simp (dsimp := false) only [↓opsP_nil, ↓opsP_cons, ↓opsD_nil, ↓opsD_cons, ↓opP, ↓stepP, ↓stepG, go_sem, hgy, c2, w2, hlen, hq])
                | (refine Pwp.seq ?_)
                | (refine Pwp.block ?_)
                | (refine Pwp.exit ?_; simp only [thenS, blockS, if_true, if_false, reduceIte, Nat.reduceEqDiff, Nat.add_one_ne_zero, reduceCtorEq])
                | (refine Pwp.skip ?_; simp only [thenS, blockS])
                | (refine Pwp.cond rfl True.intro (fun h => ?_) (fun h => ?_) <;> (try (cases h; done)) <;> (try simp only [h]))
                | (refine Pwp.ret ?_; try simp only [thenS, blockS])
                | (refine hK _ ?_; clear hK K)
                | (refine hK _ _ rfl ?_; clear hK K)
                | (refine CallG.toD (ds := [I64 y.amount, I64 m.amount, I64 d.far]) rfl (r228) rfl ?_ ?_)
                | (refine CallG.off ?_)
                | (with_reducible refine Or.inl ?_)
                | (simp only [thenS, blockS])
                | (with_reducible refine And.intro ?_ ?_)
                | (with_reducible exact True.intro)
                | (simp (dsimp := false) only [↓opsP_nil, ↓opsP_cons, ↓opsD_nil, ↓opsD_cons, ↓opP, ↓stepP, ↓stepG, go_sem, hgy, c2, w2, hlen, hq]))
              all_goals (try (first | (intro hg; simp [hg]; done) | exact of_decide_eq_true rfl | (cases h; done)))
              exact Sub.view V0 (by simp [L185]) rfl (by simp [viewH, viewP, viewL, viewO, V0, V9, V9n, VR, VN, keptOf, find, PVal.toD, subD, subL, subV, subD_refl, viewL_ds, disj, PVal.ids, pnil, List.range, List.range.loop, L185, e]) (by simp [viewT, St.ev, viewH, viewP, viewL, viewO, V0, V9, V9n, VR, VN, keptOf, find, PVal.toD, subD, subL, subV, subD_refl, viewL_ds, disj, PVal.ids, pnil, List.range, List.range.loop, L185, e])
          · have c2 := dge (Nat.le_refl d.orders.length)
            have r121 := run121 d (rPropY d m) hl
            have r183 := run183 f (if nearL m.seller m.number m.amount d.far d.orders = true then 7 else 8) (rPropY d m)
            unfold L185
            rw [List.take_length]
            generalize d.keep (rPropY d m) = d2 at *
            unfold rPropY at *
            generalize nearL m.seller m.number m.amount d.far d.orders = nb at *
            cases nb with
            | true =>
              simp only [reduceIte, Bool.false_eq_true] at r121 r183 ⊢
              simp only [rOutD, RDesk.d, RDesk.cells, saidD, about, Msg.d, Msg.cells, Item.d, Item.cells, Option.toList, List.cons_append, List.nil_append] at r121 r183 ⊢
              repeat' (first
                | ((first | refine Pwp.step (kit _) rfl fun K hK => ?_ | refine Pwp.last (kit _) rfl fun K hK => ?_ | refine Pwp.stepD (kit _) rfl rfl fun K hK => ?_ | refine Pwp.lastD (kit _) rfl rfl fun K hK => ?_); simp (dsimp := false) only [↓opsP_nil, ↓opsP_cons, ↓opsD_nil, ↓opsD_cons, ↓opP, ↓stepP, ↓stepG, go_sem, c2, hlen])
                | (refine Pwp.seq ?_)
                | (refine Pwp.block ?_)
                | (refine Pwp.exit ?_; simp only [thenS, blockS, if_true, if_false, reduceIte, Nat.reduceEqDiff, Nat.add_one_ne_zero, reduceCtorEq])
                | (refine Pwp.skip ?_; simp only [thenS, blockS])
                | (refine Pwp.cond rfl True.intro (fun h => ?_) (fun h => ?_) <;> (try (cases h; done)) <;> (try simp only [h]))
                | (refine Pwp.ret ?_; try simp only [thenS, blockS])
                | (refine hK _ ?_; clear hK K)
                | (refine hK _ _ rfl ?_; clear hK K)
                | (refine CallK.give (ds := [.agg [I64 d.me, I64 d.far, .slc 8 (itemsD d.items), .slc 3 (ordersD d.orders)], .agg [I64 m.seller, I64 m.number, I64 m.buyer, I64 m.currency, I64 m.amount, I64 m.round, I64 3, I64 0]]) rfl (r121) (by simp) ?_)
                | (refine CallK.give (ds := [I64 f, I64 7, .agg [I64 m.seller, I64 m.number, I64 m.buyer, I64 m.currency, I64 m.amount, I64 m.round, I64 3, I64 0]]) rfl (r183) (by simp) ?_)
                | (refine CallG.off ?_)
                | (with_reducible refine Or.inl ?_)
                | (simp only [thenS, blockS])
                | (with_reducible refine And.intro ?_ ?_)
                | (with_reducible exact True.intro)
                | (simp (dsimp := false) only [↓opsP_nil, ↓opsP_cons, ↓opsD_nil, ↓opsD_cons, ↓opP, ↓stepP, ↓stepG, go_sem, c2, hlen]))
              all_goals (try (first | (intro hg; simp [hg]; done) | exact of_decide_eq_true rfl | (cases h; done)))
              (refine Fin.data (.inr rfl) (by simp (dsimp := false) only [↓opsP_nil, ↓opsP_cons, ↓opsD_nil, ↓opsD_cons, ↓opP, ↓stepP, ↓stepG, go_sem, resL]; rfl) (by simp only [and_self]) (by simp (dsimp := false) only [↓opsP_nil, ↓opsP_cons, ↓opsD_nil, ↓opsD_cons, ↓opP, ↓stepP, ↓stepG, go_sem, resP, Nat.le_refl, List.take_length]; try rfl) ?_)
              simp [subD, subL, subV, subD_refl]
            | false =>
              simp only [reduceIte, Bool.false_eq_true] at r121 r183 ⊢
              simp only [rOutD, RDesk.d, RDesk.cells, saidD, about, Msg.d, Msg.cells, Item.d, Item.cells, Option.toList, List.cons_append, List.nil_append] at r121 r183 ⊢
              repeat' (first
                | ((first | refine Pwp.step (kit _) rfl fun K hK => ?_ | refine Pwp.last (kit _) rfl fun K hK => ?_ | refine Pwp.stepD (kit _) rfl rfl fun K hK => ?_ | refine Pwp.lastD (kit _) rfl rfl fun K hK => ?_); simp (dsimp := false) only [↓opsP_nil, ↓opsP_cons, ↓opsD_nil, ↓opsD_cons, ↓opP, ↓stepP, ↓stepG, go_sem, c2, hlen])
                | (refine Pwp.seq ?_)
                | (refine Pwp.block ?_)
                | (refine Pwp.exit ?_; simp only [thenS, blockS, if_true, if_false, reduceIte, Nat.reduceEqDiff, Nat.add_one_ne_zero, reduceCtorEq])
                | (refine Pwp.skip ?_; simp only [thenS, blockS])
                | (refine Pwp.cond rfl True.intro (fun h => ?_) (fun h => ?_) <;> (try (cases h; done)) <;> (try simp only [h]))
                | (refine Pwp.ret ?_; try simp only [thenS, blockS])
                | (refine hK _ ?_; clear hK K)
                | (refine hK _ _ rfl ?_; clear hK K)
                | (refine CallK.give (ds := [.agg [I64 d.me, I64 d.far, .slc 8 (itemsD d.items), .slc 3 (ordersD d.orders)], .agg [I64 m.seller, I64 m.number, I64 m.buyer, I64 m.currency, I64 m.amount, I64 m.round, I64 2, I64 0]]) rfl (r121) (by simp) ?_)
                | (refine CallK.give (ds := [I64 f, I64 8, .agg [I64 m.seller, I64 m.number, I64 m.buyer, I64 m.currency, I64 m.amount, I64 m.round, I64 2, I64 0]]) rfl (r183) (by simp) ?_)
                | (refine CallG.off ?_)
                | (with_reducible refine Or.inl ?_)
                | (simp only [thenS, blockS])
                | (with_reducible refine And.intro ?_ ?_)
                | (with_reducible exact True.intro)
                | (simp (dsimp := false) only [↓opsP_nil, ↓opsP_cons, ↓opsD_nil, ↓opsD_cons, ↓opP, ↓stepP, ↓stepG, go_sem, c2, hlen]))
              all_goals (try (first | (intro hg; simp [hg]; done) | exact of_decide_eq_true rfl | (cases h; done)))
              (refine Fin.data (.inr rfl) (by simp (dsimp := false) only [↓opsP_nil, ↓opsP_cons, ↓opsD_nil, ↓opsD_cons, ↓opP, ↓stepP, ↓stepG, go_sem, resL]; rfl) (by simp only [and_self]) (by simp (dsimp := false) only [↓opsP_nil, ↓opsP_cons, ↓opsD_nil, ↓opsD_cons, ↓opP, ↓stepP, ↓stepG, go_sem, resP, Nat.le_refl, List.take_length]; try rfl) ?_)
              simp [subD, subL, subV, subD_refl]
  · have n0 : (e != 0) = true := by simpa using h0
    rw [if_pos h0]
    clear hma hc
    unfold newI at *
    simp only [rOutD, RDesk.d, RDesk.cells, saidD, about, Msg.d, Msg.cells, Item.d, Item.cells, Option.toList, List.cons_append, List.nil_append] at *
    refine Runs.of (kit Try.prog) Try.func185 rfl rfl (by rw [Try.ntmps185]; exact of_decide_eq_true rfl) ?_; rw [Try.ntmps185, Try.results185]
    repeat' (first
      | ((first | refine Pwp.step (kit _) rfl fun K hK => ?_ | refine Pwp.last (kit _) rfl fun K hK => ?_ | refine Pwp.stepD (kit _) rfl rfl fun K hK => ?_ | refine Pwp.lastD (kit _) rfl rfl fun K hK => ?_); simp (dsimp := false) only [↓opsP_nil, ↓opsP_cons, ↓opsD_nil, ↓opsD_cons, ↓opP, ↓stepP, ↓stepG, go_sem, n0])
      | (refine Pwp.seq ?_)
      | (refine Pwp.block ?_)
      | (refine Pwp.exit ?_; simp only [thenS, blockS, if_true, if_false, reduceIte, Nat.reduceEqDiff, Nat.add_one_ne_zero, reduceCtorEq])
      | (refine Pwp.skip ?_; simp only [thenS, blockS])
      | (refine Pwp.cond rfl True.intro (fun h => ?_) (fun h => ?_) <;> (try (cases h; done)) <;> (try simp only [h]))
      | (refine Pwp.ret ?_; try simp only [thenS, blockS])
      | (refine hK _ ?_; clear hK K)
      | (refine hK _ _ rfl ?_; clear hK K)
      | (refine CallK.toD (ds := [.agg [I64 m.seller, I64 m.number, I64 m.buyer, I64 m.currency, I64 m.amount, I64 m.round, I64 1, I64 0]]) rfl (r182) rfl ?_)
      | (refine CallG.off ?_)
      | (with_reducible refine Or.inl ?_)
      | (simp only [thenS, blockS])
      | (with_reducible refine And.intro ?_ ?_)
      | (with_reducible exact True.intro)
      | (simp (dsimp := false) only [↓opsP_nil, ↓opsP_cons, ↓opsD_nil, ↓opsD_cons, ↓opP, ↓stepP, ↓stepG, go_sem, n0]))
    all_goals (try (first | (intro hg; simp [hg]; done) | exact of_decide_eq_true rfl | (cases h; done)))
    (refine Fin.data (.inr rfl) (by simp (dsimp := false) only [↓opsP_nil, ↓opsP_cons, ↓opsD_nil, ↓opsD_cons, ↓opP, ↓stepP, ↓stepG, go_sem, resL]; rfl) (by simp only [and_self]) (by simp (dsimp := false) only [↓opsP_nil, ↓opsP_cons, ↓opsD_nil, ↓opsD_cons, ↓opP, ↓stepP, ↓stepG, go_sem, resP, Nat.le_refl, List.take_length]; try rfl) ?_)
    simp [subD, subL, subV, subD_refl]

end Go.Proofs.Ytdodgbhodkcckaa.Pv
