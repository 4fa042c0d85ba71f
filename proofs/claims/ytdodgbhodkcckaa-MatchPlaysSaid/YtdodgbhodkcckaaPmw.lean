/- Walks of matching, the document's answer: what is expected. -/
import Derived.Test.YtdodgbhodkcckaaPms
set_option linter.unusedVariables false
set_option linter.unusedSimpArgs false
set_option autoImplicit false
set_option maxRecDepth 100000
namespace Go.Proofs.Ytdodgbhodkcckaa.Pv
open Go Go.RowKit

def ordC (d : RDesk) (s n a : Int) : Bool := ((((((decide (s < 0) || decide (7 < s)) || s == d.me) || decide (n < 1)) || decide (1048576 < n)) || decide (a < 1)) || decide (1125899906842624 < a))
def isNmO (s n : Int) (o : Order) : Bool := o.seller == s && o.number == n
def keepO (s n : Int) (l : List Order) : List Order := l.filter fun o => !isNmO s n o
theorem keepO_take {s n : Int} {l : List Order} {i : Nat} {x : Order} (h : l[i]? = some x) : keepO s n (l.take (i + 1)) = keepO s n (l.take i) ++ if isNmO s n x = true then [] else [x] := by
  unfold keepO
  rw [List.take_add_one, h]
  simp only [Option.toList, List.filter_append, List.filter_cons, List.filter_nil]
  cases isNmO s n x <;> simp
theorem keepO_len (s n : Int) (l : List Order) : (keepO s n l).length ≤ l.length := List.length_filter_le _ _
theorem orders_get3 {l : List Order} {i : Nat} {x : Order} (h : l[i]? = some x) : (ordersD l)[i]? = some (.agg [I64 x.seller, I64 x.number, I64 x.amount]) := by simp [ordersD, h, Order.cells]
theorem orders_app (l m : List Order) : ordersD (l ++ m) = ordersD l ++ ordersD m := by simp [ordersD]
def rOrder (d : RDesk) (m : Msg) : ROut := if ordC d m.seller m.number m.amount = true then ⟨1, d, none⟩ else ⟨0, ⟨d.me, d.far, d.items, keepO m.seller m.number d.orders ++ [⟨m.seller, m.number, m.amount⟩]⟩, none⟩
def L119 (d : RDesk) (m : Msg) (i : Nat) : St := ⟨[(8, pint .i64 i), (7, .own 12 0 3 0 (keepO m.seller m.number (d.orders.take i)).length), (4, .ref 10 0), (3, .ref 9 0), (2, .ref 8 0)],
  [(8, .box [.d (I64 d.me), .d (I64 d.far), .d (.slc 8 (itemsD d.items)), .d (.slc 3 (ordersD d.orders))]),
   (9, .box [.d (I64 m.kind), .d (I64 m.seller), .d (I64 m.number), .d (I64 m.buyer), .d (I64 m.currency), .d (I64 m.round), .d (I64 m.cycle), .d (I64 m.amount), .d (.v (.bool m.yes)), .d m.lines, .d m.nets]),
   (10, .box [.d (.v (.int .i64 0)), .d (.v (.int .i64 0)), .d nilD, .d nilD]), (12, .arr 229 3 0 none (ordersD (keepO m.seller m.number (d.orders.take i))))], 208⟩
set_option maxHeartbeats 32000000 in
theorem run119_2 (d : RDesk) (m : Msg) (hk : m.kind = 2) (hl : d.orders.length ≤ 100000) : Runs Try.prog 119 [.d d.d, .d m.d] [] (.d (rOutD (rOrder d m))) [] := by
  have hlen := orders_len d.orders
  have ck : (m.kind == 2) = true := by simp [hk]
  unfold rOrder
  cases hc : ordC d m.seller m.number m.amount with
  | true =>
    rw [if_pos rfl]
    unfold ordC at hc
    simp only [rOutD, RDesk.d, RDesk.cells, Msg.d, Msg.cells, Option.toList] at *
    refine Runs.of (kit Try.prog) Try.func119 rfl rfl (by rw [Try.ntmps119]; exact of_decide_eq_true rfl) ?_; rw [Try.ntmps119, Try.results119]
    repeat' (first
      | ((first | refine Pwp.step (kit _) rfl fun K hK => ?_ | refine Pwp.last (kit _) rfl fun K hK => ?_ | refine Pwp.stepD (kit _) rfl rfl fun K hK => ?_ | refine Pwp.lastD (kit _) rfl rfl fun K hK => ?_); simp (dsimp := false) only [↓opsP_nil, ↓opsP_cons, ↓opsD_nil, ↓opsD_cons, ↓opP, ↓stepP, ↓stepG, go_sem, ck, hc])
      | (refine Pwp.seq ?_)
      | (refine Pwp.block ?_)
      | (refine Pwp.exit ?_; simp only [thenS, blockS, if_true, if_false, reduceIte, Nat.reduceEqDiff, Nat.add_one_ne_zero, reduceCtorEq])
      | (refine Pwp.skip ?_; simp only [thenS, blockS])
      | (refine Pwp.cond rfl True.intro (fun h => ?_) (fun h => ?_) <;> (try (cases h; done)) <;> (try simp only [h]))
      | (refine Pwp.ret ?_; try simp only [thenS, blockS])
      | (refine hK _ ?_; clear hK K)
      | (refine hK _ _ rfl ?_; clear hK K)
      | (refine CallG.off ?_)
      | (with_reducible refine Or.inl ?_)
      | (simp only [thenS, blockS])
      | (with_reducible refine And.intro ?_ ?_)
      | (with_reducible exact True.intro)
      | (simp (dsimp := false) only [↓opsP_nil, ↓opsP_cons, ↓opsD_nil, ↓opsD_cons, ↓opP, ↓stepP, ↓stepG, go_sem, ck, hc]))
    all_goals (try (first | (intro hg; simp [hg]; done) | exact of_decide_eq_true rfl | (cases h; done)))
    (refine Fin.data (.inr rfl) (by simp (dsimp := false) only [↓opsP_nil, ↓opsP_cons, ↓opsD_nil, ↓opsD_cons, ↓opP, ↓stepP, ↓stepG, go_sem, resL]; rfl) (by simp only [and_self]) (by simp (dsimp := false) only [↓opsP_nil, ↓opsP_cons, ↓opsD_nil, ↓opsD_cons, ↓opP, ↓stepP, ↓stepG, go_sem, resP, Nat.le_refl, List.take_length]; try rfl) ?_)
    simp [subD, subL, subV, subD_refl]
  | false =>
    rw [if_neg (by simp)]
    unfold ordC at hc
    simp only [rOutD, RDesk.d, RDesk.cells, Msg.d, Msg.cells, Option.toList] at *
    refine Runs.of (kit Try.prog) Try.func119 rfl rfl (by rw [Try.ntmps119]; exact of_decide_eq_true rfl) ?_; rw [Try.ntmps119, Try.results119]
    repeat' (first
      | ((first | refine Pwp.step (kit _) rfl fun K hK => ?_ | refine Pwp.last (kit _) rfl fun K hK => ?_ | refine Pwp.stepD (kit _) rfl rfl fun K hK => ?_ | refine Pwp.lastD (kit _) rfl rfl fun K hK => ?_); simp (dsimp := false) only [↓opsP_nil, ↓opsP_cons, ↓opsD_nil, ↓opsD_cons, ↓opP, ↓stepP, ↓stepG, go_sem, ck, hc])
      | (refine Pwp.seq ?_)
      | (refine Pwp.block ?_)
      | (refine Pwp.exit ?_; simp only [thenS, blockS, if_true, if_false, reduceIte, Nat.reduceEqDiff, Nat.add_one_ne_zero, reduceCtorEq])
      | (refine Pwp.skip ?_; simp only [thenS, blockS])
      | (refine Pwp.cond rfl True.intro (fun h => ?_) (fun h => ?_) <;> (try (cases h; done)) <;> (try simp only [h]))
      | (refine Pwp.ret ?_; try simp only [thenS, blockS])
      | (refine hK _ ?_; clear hK K)
      | (refine hK _ _ rfl ?_; clear hK K)
      | (refine CallG.off ?_)
      | (with_reducible refine Or.inl ?_)
      | (simp only [thenS, blockS])
      | (with_reducible refine And.intro ?_ ?_)
      | (with_reducible exact True.intro)
      | (simp (dsimp := false) only [↓opsP_nil, ↓opsP_cons, ↓opsD_nil, ↓opsD_cons, ↓opP, ↓stepP, ↓stepG, go_sem, ck, hc]))
    all_goals (try (first | (intro hg; simp [hg]; done) | exact of_decide_eq_true rfl | (cases h; done)))
    refine Pwp.range d.orders.length (S := L119 d m) (Sub.view (VN 12) (by simp [L119]) rfl (by simp [viewH, viewP, viewL, viewO, V0, V9, V9n, VR, VN, keptOf, find, PVal.toD, subD, subL, subV, subD_refl, viewL_ds, disj, PVal.ids, pnil, List.range, List.range.loop, L119, keepO, ordersD]) (by simp [viewT, St.ev, viewH, viewP, viewL, viewO, V0, V9, V9n, VR, VN, keptOf, find, PVal.toD, subD, subL, subV, subD_refl, viewL_ds, disj, PVal.ids, pnil, List.range, List.range.loop, L119, keepO, ordersD])) (fun i hi => ?_) ?_
    · obtain ⟨x, hx, hm⟩ := at_lt hi
      have hg := orders_get3 hx
      have c1 := dlt hi
      have w := wrap_succ (i := i) (by omega)
      have e := keepO_take (s := m.seller) (n := m.number) hx
      have hol := keepO_len m.seller m.number (d.orders.take i)
      rw [List.length_take] at hol
      have hll := orders_len (keepO m.seller m.number (d.orders.take i))
      have htk : (ordersD (keepO m.seller m.number (d.orders.take i))).take (keepO m.seller m.number (d.orders.take i)).length = ordersD (keepO m.seller m.number (d.orders.take i)) := List.take_of_length_le (by omega)
      unfold L119
      cases hq : isNmO m.seller m.number x with
      | true =>
        rw [hq, if_pos rfl, List.append_nil] at e
        unfold isNmO at hq
        repeat' (first
          | ((first | refine Pwp.step (kit _) rfl fun K hK => ?_ | refine Pwp.last (kit _) rfl fun K hK => ?_ | refine Pwp.stepD (kit _) rfl rfl fun K hK => ?_ | refine Pwp.lastD (kit _) rfl rfl fun K hK => ?_); simp (dsimp := false) only [↓opsP_nil, ↓opsP_cons, ↓opsD_nil, ↓opsD_cons, ↓opP, ↓stepP, ↓stepG, go_sem, hg, c1, w, hlen, hq, Bool.not_true])
          | (refine Pwp.seq ?_)
          | (refine Pwp.block ?_)
          | (refine Pwp.exit ?_; simp only [thenS, blockS, if_true, if_false, reduceIte, Nat.reduceEqDiff, Nat.add_one_ne_zero, reduceCtorEq])
          | (refine Pwp.skip ?_; simp only [thenS, blockS])
          | (refine Pwp.cond rfl True.intro (fun h => ?_) (fun h => ?_) <;> (try (cases h; done)) <;> (try simp only [h]))
          | (refine Pwp.ret ?_; try simp only [thenS, blockS])
          | (refine hK _ ?_; clear hK K)
          | (refine hK _ _ rfl ?_; clear hK K)
          | (refine CallG.off ?_)
          | (with_reducible refine Or.inl ?_)
          | (simp only [thenS, blockS])
          | (with_reducible refine And.intro ?_ ?_)
          | (with_reducible exact True.intro)
          | (simp (dsimp := false) only [↓opsP_nil, ↓opsP_cons, ↓opsD_nil, ↓opsD_cons, ↓opP, ↓stepP, ↓stepG, go_sem, hg, c1, w, hlen, hq, Bool.not_true]))
        all_goals (try (first | (intro hg; simp [hg]; done) | exact of_decide_eq_true rfl | (cases h; done)))
        exact Sub.view V0 (by simp [L119]) rfl (by simp [viewH, viewP, viewL, viewO, V0, V9, V9n, VR, VN, keptOf, find, PVal.toD, subD, subL, subV, subD_refl, viewL_ds, disj, PVal.ids, pnil, List.range, List.range.loop, L119, e]) (by simp [viewT, St.ev, viewH, viewP, viewL, viewO, V0, V9, V9n, VR, VN, keptOf, find, PVal.toD, subD, subL, subV, subD_refl, viewL_ds, disj, PVal.ids, pnil, List.range, List.range.loop, L119, e])
      | false =>
        rw [hq, if_neg (by simp)] at e
        unfold isNmO at hq
        repeat' (first
          | ((first | refine Pwp.step (kit _) rfl fun K hK => ?_ | refine Pwp.last (kit _) rfl fun K hK => ?_ | refine Pwp.stepD (kit _) rfl rfl fun K hK => ?_ | refine Pwp.lastD (kit _) rfl rfl fun K hK => ?_); simp (dsimp := false) only [↓opsP_nil, ↓opsP_cons, ↓opsD_nil, ↓opsD_cons, ↓opP, ↓stepP, ↓stepG, go_sem, hg, c1, w, hlen, hq, htk, hll, Bool.not_false])
          | (refine Pwp.seq ?_)
          | (refine Pwp.block ?_)
          | (refine Pwp.exit ?_; simp only [thenS, blockS, if_true, if_false, reduceIte, Nat.reduceEqDiff, Nat.add_one_ne_zero, reduceCtorEq])
          | (refine Pwp.skip ?_; simp only [thenS, blockS])
          | (refine Pwp.cond rfl True.intro (fun h => ?_) (fun h => ?_) <;> (try (cases h; done)) <;> (try simp only [h]))
          | (refine Pwp.ret ?_; try simp only [thenS, blockS])
          | (refine hK _ ?_; clear hK K)
          | (refine hK _ _ rfl ?_; clear hK K)
          | (refine CallG.off ?_)
          | (with_reducible refine Or.inl ?_)
          | (simp only [thenS, blockS])
          | (with_reducible refine And.intro ?_ ?_)
          | (with_reducible exact True.intro)
          | (simp (dsimp := false) only [↓opsP_nil, ↓opsP_cons, ↓opsD_nil, ↓opsD_cons, ↓opP, ↓stepP, ↓stepG, go_sem, hg, c1, w, hlen, hq, htk, hll, Bool.not_false]))
        all_goals (try (first | (intro hg; simp [hg]; done) | exact of_decide_eq_true rfl | (cases h; done)))
        all_goals (try (first | (simp; done) | (simp [maxLen]; omega) | omega))
        exact Sub.view (VR 12 1) (by simp [L119]) rfl (by simp [viewH, viewP, viewL, viewO, V0, V9, V9n, VR, VN, keptOf, find, PVal.toD, subD, subL, subV, subD_refl, viewL_ds, disj, PVal.ids, pnil, List.range, List.range.loop, L119, e, orders_app, ordersD, Order.cells]) (by simp [viewT, St.ev, viewH, viewP, viewL, viewO, V0, V9, V9n, VR, VN, keptOf, find, PVal.toD, subD, subL, subV, subD_refl, viewL_ds, disj, PVal.ids, pnil, List.range, List.range.loop, L119, e, orders_app, ordersD, Order.cells])
    · have c1 := dge (Nat.le_refl d.orders.length)
      have hkl := keepO_len m.seller m.number d.orders
      have hll := orders_len (keepO m.seller m.number d.orders)
      have htk : (ordersD (keepO m.seller m.number d.orders)).take (keepO m.seller m.number d.orders).length = ordersD (keepO m.seller m.number d.orders) := List.take_of_length_le (by omega)
      have e : ordersD (keepO m.seller m.number d.orders ++ [⟨m.seller, m.number, m.amount⟩]) = ordersD (keepO m.seller m.number d.orders) ++ [.agg [I64 m.seller, I64 m.number, I64 m.amount]] := by rw [orders_app]; rfl
      have hle : (ordersD (keepO m.seller m.number d.orders) ++ [(.agg [I64 m.seller, I64 m.number, I64 m.amount] : D)]).length = (keepO m.seller m.number d.orders).length + 1 := by simp [hll]
      unfold L119
      rw [List.take_length, e]
      repeat' (first
        | ((first | refine Pwp.step (kit _) rfl fun K hK => ?_ | refine Pwp.last (kit _) rfl fun K hK => ?_ | refine Pwp.stepD (kit _) rfl rfl fun K hK => ?_ | refine Pwp.lastD (kit _) rfl rfl fun K hK => ?_); simp (dsimp := false) only [↓opsP_nil, ↓opsP_cons, ↓opsD_nil, ↓opsD_cons, ↓opP, ↓stepP, ↓stepG, go_sem, c1, hlen, htk])
        | (refine Pwp.seq ?_)
        | (refine Pwp.block ?_)
        | (refine Pwp.exit ?_; simp only [thenS, blockS, if_true, if_false, reduceIte, Nat.reduceEqDiff, Nat.add_one_ne_zero, reduceCtorEq])
        | (refine Pwp.skip ?_; simp only [thenS, blockS])
        | (refine Pwp.cond rfl True.intro (fun h => ?_) (fun h => ?_) <;> (try (cases h; done)) <;> (try simp only [h]))
        | (refine Pwp.ret ?_; try simp only [thenS, blockS])
        | (refine hK _ ?_; clear hK K)
        | (refine hK _ _ rfl ?_; clear hK K)
        | (refine CallG.off ?_)
        | (with_reducible refine Or.inl ?_)
        | (simp only [thenS, blockS])
        | (with_reducible refine And.intro ?_ ?_)
        | (with_reducible exact True.intro)
        | (simp (dsimp := false) only [↓opsP_nil, ↓opsP_cons, ↓opsD_nil, ↓opsD_cons, ↓opP, ↓stepP, ↓stepG, go_sem, c1, hlen, htk]))
      all_goals (try (first | (intro hg; simp [hg]; done) | exact of_decide_eq_true rfl | (cases h; done)))
      all_goals (try (first | (simp; done) | (simp [maxLen]; omega) | omega))
      (refine Fin.data (.inr rfl) (by simp (dsimp := false) only [↓opsP_nil, ↓opsP_cons, ↓opsD_nil, ↓opsD_cons, ↓opP, ↓stepP, ↓stepG, go_sem, resL, List.take_of_length_le, hle, hll, Nat.le_refl]; rfl) (by simp only [and_self]) (by simp (dsimp := false) only [↓opsP_nil, ↓opsP_cons, ↓opsD_nil, ↓opsD_cons, ↓opP, ↓stepP, ↓stepG, go_sem, resP, Nat.le_refl, List.take_length, List.take_of_length_le, hle, hll, Nat.le_refl]; try rfl) ?_)
      simp [subD, subL, subV, subD_refl]

end Go.Proofs.Ytdodgbhodkcckaa.Pv
