/- Walks of matching: what is proposed. -/
import Derived.Test.YtdodgbhodkcckaaPmb
set_option linter.unusedVariables false
set_option linter.unusedSimpArgs false
set_option autoImplicit false
set_option maxRecDepth 100000
namespace Go.Proofs.Ytdodgbhodkcckaa.Pv
open Go Go.RowKit

def propI (m : Msg) : Item := newI m.seller m.number m.buyer m.currency m.amount m.round
/-- Cannot be proposed now. -/
def propS (d : Desk) (m : Msg) : Bool := (isIn d.items m.seller m.number && (((getI d.items m.seller m.number).state != 2 || (getI d.items m.seller m.number).round + 1 != m.round) || (getI d.items m.seller m.number).currency != m.currency)) || (!isIn d.items m.seller m.number && m.round != 0)
/-- Is it taken? -/
def propN (d : Desk) (m : Msg) : Bool := isInO d.orders m.seller m.number && nearV (getO d.orders m.seller m.number) m.amount d.far
def propY (d : Desk) (m : Msg) : Item := if propN d m = true then stepI (propI m) 1 3 else stepI (propI m) 1 2
def propK (d : Desk) (m : Msg) : Int := if propN d m = true then 7 else 8
def proposeR (d : Desk) (m : Msg) (from' : Int) : Out := if chk (propI m) ≠ 0 then ⟨chk (propI m), d, none⟩ else if (from' != m.seller || m.buyer != d.me) = true then ⟨140, d, none⟩ else if propS d m = true then ⟨90, d, none⟩
  else if putE d.me d.items (propY d m) ≠ 0 then ⟨putE d.me d.items (propY d m), d.put (propY d m), none⟩ else ⟨0, d.put (propY d m), some (saidD from' (about (propK d m) (propY d m)))⟩
set_option maxHeartbeats 32000000 in
theorem run177 (d : Desk) (m : Msg) (from' : Int) (hl : d.items.length ≤ 100000) (hlo : d.orders.length ≤ 100000) (hr : 0 ≤ (getI d.items m.seller m.number).round ∧ (getI d.items m.seller m.number).round ≤ 3) (hg : In64 (getO d.orders m.seller m.number)) (hm : In64 m.amount) (hf : In64 d.far) :
    Runs Try.prog 177 [.ref 0 0, .d m.d, pint .i64 from'] [(0, deskB d)] (pint .i64 (proposeR d m from').e) (deskH (proposeR d m from').d (proposeR d m from').o) := by
  have r222 := run222 m
  have r65 := run65 d.me d.items (ordersD d.orders) m.seller m.number (by omega)
  unfold bookD at r65
  have r107 := run107 d.me (itemsD d.items) d.orders m.seller m.number (by omega)
  unfold bookO at r107
  have r223 := run223 (getO d.orders m.seller m.number) m.amount d.far hg hm hf
  have r224 := run224 (propI m)
  have r225 := run225 (propI m)
  have w : IntKind.wrap .i64 ((getI d.items m.seller m.number).round + 1) = (getI d.items m.seller m.number).round + 1 := wrap_of (by omega) (by omega)
  have r3 := run217 d (propY d m) hl
  have r2 := run218 (d.put (propY d m)) from' (propK d m) (propY d m)
  unfold proposeR
  change Runs Try.prog 222 _ _ (.d (.tup [(if chk (propI m) = 0 then propI m else Item.zero).d, I64 (chk (propI m))])) _ at r222
  by_cases he : chk (propI m) = 0
  · rw [he, if_pos rfl] at r222
    rw [if_neg (by simpa using he)]
    generalize hpe : putE d.me d.items (propY d m) = pe at *
    generalize hpd : d.put (propY d m) = d2 at *
    clear hpe hpd he
    cases c1 : (from' != m.seller || m.buyer != d.me) with
    | true =>
      rw [if_pos rfl]
      unfold propI newI at *
      simp only [deskH, deskB, deskB2, Desk.cells, Desk.book, saidD, Msg.d, Msg.cells, about, Item.d, Item.cells, List.cons_append, List.nil_append, List.map_cons, List.map_nil] at *
      refine Runs.of (kit Try.prog) Try.func177 rfl rfl (by rw [Try.ntmps177]; exact of_decide_eq_true rfl) ?_; rw [Try.ntmps177, Try.results177]
      repeat' (first
        | ((first | refine Pwp.step (kit _) rfl fun K hK => ?_ | refine Pwp.last (kit _) rfl fun K hK => ?_ | refine Pwp.stepD (kit _) rfl rfl fun K hK => ?_ | refine Pwp.lastD (kit _) rfl rfl fun K hK => ?_); simp (dsimp := false) only [↓opsP_nil, ↓opsP_cons, ↓opsD_nil, ↓opsD_cons, ↓opP, ↓stepP, ↓stepG, go_sem, c1, bne_self_eq_false])
        | (refine Pwp.seq ?_)
        | (refine Pwp.block ?_)
        | (refine Pwp.exit ?_; simp only [thenS, blockS, if_true, if_false, reduceIte, Nat.reduceEqDiff, Nat.add_one_ne_zero, reduceCtorEq])
        | (refine Pwp.skip ?_; simp only [thenS, blockS])
        | (refine Pwp.cond rfl True.intro (fun h => ?_) (fun h => ?_) <;> (try (cases h; done)) <;> (try simp only [h]))
        | (refine Pwp.ret ?_; try simp only [thenS, blockS])
        | (refine hK _ ?_; clear hK K)
        | (refine hK _ _ rfl ?_; clear hK K)
        | (refine CallK.toD (ds := [.agg [I64 m.kind, I64 m.seller, I64 m.number, I64 m.buyer, I64 m.currency, I64 m.round, I64 m.cycle, I64 m.amount, .v (.bool m.yes), m.lines, m.nets]]) rfl (r222) rfl ?_)
        | (refine CallG.off ?_)
        | (with_reducible refine Or.inl ?_)
        | (simp only [thenS, blockS])
        | (with_reducible refine And.intro ?_ ?_)
        | (with_reducible exact True.intro)
        | (simp (dsimp := false) only [↓opsP_nil, ↓opsP_cons, ↓opsD_nil, ↓opsD_cons, ↓opP, ↓stepP, ↓stepG, go_sem, c1, bne_self_eq_false]))
      all_goals (try (first | (intro hg; simp [hg]; done) | exact of_decide_eq_true rfl | (cases h; done)))
      (refine Fin.valV V0 (by first | exact .inr rfl | exact .inl rfl) (by simp (dsimp := false) only [↓opsP_nil, ↓opsP_cons, ↓opsD_nil, ↓opsD_cons, ↓opP, ↓stepP, ↓stepG, go_sem, resL]; rfl) (by simp only [and_self]) rfl (by simp [viewH, viewP, viewL, viewO, V0, V9, V9n, VR, VN, keptOf, find, PVal.toD, subD, subL, subV, subD_refl, viewL_ds, disj, PVal.ids, pnil, List.range, List.range.loop, V8]) (by simp [resP, toDL, idsL, viewH, viewP, viewL, viewO, V0, V9, V9n, VR, VN, keptOf, find, PVal.toD, subD, subL, subV, subD_refl, viewL_ds, disj, PVal.ids, pnil, List.range, List.range.loop, V8]))
    | false =>
      rw [if_neg (by simp)]
      unfold propS propY propK propN at *
      generalize getI d.items m.seller m.number = x at *
      generalize isIn d.items m.seller m.number = b at *
      generalize getO d.orders m.seller m.number = og at *
      generalize isInO d.orders m.seller m.number = bo at *
      generalize nearV og m.amount d.far = nr at *
      cases c2 : (b && ((x.state != 2 || x.round + 1 != m.round) || x.currency != m.currency)) || (!b && m.round != 0) with
      | true =>
        rw [if_pos rfl]
        unfold propI newI at *
        simp only [deskH, deskB, deskB2, Desk.cells, Desk.book, saidD, Msg.d, Msg.cells, about, Item.d, Item.cells, List.cons_append, List.nil_append, List.map_cons, List.map_nil] at *
        refine Runs.of (kit Try.prog) Try.func177 rfl rfl (by rw [Try.ntmps177]; exact of_decide_eq_true rfl) ?_; rw [Try.ntmps177, Try.results177]
        repeat' (first
          | ((first | refine Pwp.step (kit _) rfl fun K hK => ?_ | refine Pwp.last (kit _) rfl fun K hK => ?_ | refine Pwp.stepD (kit _) rfl rfl fun K hK => ?_ | refine Pwp.lastD (kit _) rfl rfl fun K hK => ?_); simp (dsimp := false) only [↓opsP_nil, ↓opsP_cons, ↓opsD_nil, ↓opsD_cons, ↓opP, ↓stepP, ↓stepG, go_sem, c1, c2, w, bne_self_eq_false])
          | (refine Pwp.seq ?_)
          | (refine Pwp.block ?_)
          | (refine Pwp.exit ?_; simp only [thenS, blockS, if_true, if_false, reduceIte, Nat.reduceEqDiff, Nat.add_one_ne_zero, reduceCtorEq])
          | (refine Pwp.skip ?_; simp only [thenS, blockS])
          | (refine Pwp.cond rfl True.intro (fun h => ?_) (fun h => ?_) <;> (try (cases h; done)) <;> (try simp only [h]))
          | (refine Pwp.ret ?_; try simp only [thenS, blockS])
          | (refine hK _ ?_; clear hK K)
          | (refine hK _ _ rfl ?_; clear hK K)
          | (refine CallK.toD (ds := [.agg [I64 m.kind, I64 m.seller, I64 m.number, I64 m.buyer, I64 m.currency, I64 m.round, I64 m.cycle, I64 m.amount, .v (.bool m.yes), m.lines, m.nets]]) rfl (r222) rfl ?_)
          | (refine CallK.toD (ds := [.agg [I64 d.me, .slc 8 (itemsD d.items), .slc 3 (ordersD d.orders)], .agg [I64 m.seller, I64 m.number]]) rfl (r65) rfl ?_)
          | (refine CallG.off ?_)
          | (with_reducible refine Or.inl ?_)
          | (simp only [thenS, blockS])
          | (with_reducible refine And.intro ?_ ?_)
          | (with_reducible exact True.intro)
          | (simp (dsimp := false) only [↓opsP_nil, ↓opsP_cons, ↓opsD_nil, ↓opsD_cons, ↓opP, ↓stepP, ↓stepG, go_sem, c1, c2, w, bne_self_eq_false]))
        all_goals (try (first | (intro hg; simp [hg]; done) | exact of_decide_eq_true rfl | (cases h; done)))
        (refine Fin.valV V0 (by first | exact .inr rfl | exact .inl rfl) (by simp (dsimp := false) only [↓opsP_nil, ↓opsP_cons, ↓opsD_nil, ↓opsD_cons, ↓opP, ↓stepP, ↓stepG, go_sem, resL]; rfl) (by simp only [and_self]) rfl (by simp [viewH, viewP, viewL, viewO, V0, V9, V9n, VR, VN, keptOf, find, PVal.toD, subD, subL, subV, subD_refl, viewL_ds, disj, PVal.ids, pnil, List.range, List.range.loop, V8]) (by simp [resP, toDL, idsL, viewH, viewP, viewL, viewO, V0, V9, V9n, VR, VN, keptOf, find, PVal.toD, subD, subL, subV, subD_refl, viewL_ds, disj, PVal.ids, pnil, List.range, List.range.loop, V8]))
      | false =>
        rw [if_neg (by simp)]
        cases c3 : (bo && nr) with
        | true =>
          simp only [c3, reduceIte, Bool.false_eq_true] at r2 r3 ⊢
          generalize stepI (propI m) 1 3 = y at *
          unfold propI newI at *
          by_cases h2 : pe = 0
          · subst h2
            rw [if_neg (by simp)]
            simp only [deskH, deskB, deskB2, Desk.cells, Desk.book, saidD, Msg.d, Msg.cells, about, Item.d, Item.cells, List.cons_append, List.nil_append, List.map_cons, List.map_nil] at *
            refine Runs.of (kit Try.prog) Try.func177 rfl rfl (by rw [Try.ntmps177]; exact of_decide_eq_true rfl) ?_; rw [Try.ntmps177, Try.results177]
            repeat' (first
              | ((first | refine Pwp.step (kit _) rfl fun K hK => ?_ | refine Pwp.last (kit _) rfl fun K hK => ?_ | refine Pwp.stepD (kit _) rfl rfl fun K hK => ?_ | refine Pwp.lastD (kit _) rfl rfl fun K hK => ?_); simp (dsimp := false) only [↓opsP_nil, ↓opsP_cons, ↓opsD_nil, ↓opsD_cons, ↓opP, ↓stepP, ↓stepG, go_sem, c1, c2, c3, w, bne_self_eq_false])
              | (refine Pwp.seq ?_)
              | (refine Pwp.block ?_)
              | (refine Pwp.exit ?_; simp only [thenS, blockS, if_true, if_false, reduceIte, Nat.reduceEqDiff, Nat.add_one_ne_zero, reduceCtorEq])
              | (refine Pwp.skip ?_; simp only [thenS, blockS])
              | (refine Pwp.cond rfl True.intro (fun h => ?_) (fun h => ?_) <;> (try (cases h; done)) <;> (try simp only [h]))
              | (refine Pwp.ret ?_; try simp only [thenS, blockS])
              | (refine hK _ ?_; clear hK K)
              | (refine hK _ _ rfl ?_; clear hK K)
              | (refine CallK.desk (cs := [I64 d.me, .slc 8 (itemsD d.items), .slc 3 (ordersD d.orders), I64 d.far, nilD]) rfl rfl rfl r3 (by simp) ?_)
              | (refine CallK.desk (cs := [I64 d2.me, .slc 8 (itemsD d2.items), .slc 3 (ordersD d2.orders), I64 d2.far, nilD]) rfl rfl rfl r2 (by simp) ?_)
              | (refine CallK.toD (ds := [.agg [I64 m.kind, I64 m.seller, I64 m.number, I64 m.buyer, I64 m.currency, I64 m.round, I64 m.cycle, I64 m.amount, .v (.bool m.yes), m.lines, m.nets]]) rfl (r222) rfl ?_)
              | (refine CallK.toD (ds := [.agg [I64 d.me, .slc 8 (itemsD d.items), .slc 3 (ordersD d.orders)], .agg [I64 m.seller, I64 m.number]]) rfl (r65) rfl ?_)
              | (refine CallK.toD (ds := [.agg [I64 d.me, .slc 8 (itemsD d.items), .slc 3 (ordersD d.orders)], .agg [I64 m.seller, I64 m.number]]) rfl (r107) rfl ?_)
              | (refine CallK.toD (ds := [.agg [I64 m.seller, I64 m.number, I64 m.buyer, I64 m.currency, I64 m.amount, I64 m.round, I64 1, I64 0]]) rfl (r224) rfl ?_)
              | (refine CallG.toD (ds := [I64 og, I64 m.amount, I64 d.far]) rfl (r223) rfl ?_ ?_)
              | (refine CallG.off ?_)
              | (with_reducible refine Or.inl ?_)
              | (simp only [thenS, blockS])
              | (with_reducible refine And.intro ?_ ?_)
              | (with_reducible exact True.intro)
              | (simp (dsimp := false) only [↓opsP_nil, ↓opsP_cons, ↓opsD_nil, ↓opsD_cons, ↓opP, ↓stepP, ↓stepG, go_sem, c1, c2, c3, w, bne_self_eq_false]))
            all_goals (try (first | (intro hg; simp [hg]; done) | exact of_decide_eq_true rfl | (cases h; done)))
            (refine Fin.valV (V8 448 0) (by first | exact .inr rfl | exact .inl rfl) (by simp (dsimp := false) only [↓opsP_nil, ↓opsP_cons, ↓opsD_nil, ↓opsD_cons, ↓opP, ↓stepP, ↓stepG, go_sem, resL]; rfl) (by simp only [and_self]) rfl (by simp [viewH, viewP, viewL, viewO, V0, V9, V9n, VR, VN, keptOf, find, PVal.toD, subD, subL, subV, subD_refl, viewL_ds, disj, PVal.ids, pnil, List.range, List.range.loop, V8]) (by simp [resP, toDL, idsL, viewH, viewP, viewL, viewO, V0, V9, V9n, VR, VN, keptOf, find, PVal.toD, subD, subL, subV, subD_refl, viewL_ds, disj, PVal.ids, pnil, List.range, List.range.loop, V8]))
          · have n2 : (pe != 0) = true := by simpa using h2
            rw [if_pos h2]
            simp only [deskH, deskB, deskB2, Desk.cells, Desk.book, saidD, Msg.d, Msg.cells, about, Item.d, Item.cells, List.cons_append, List.nil_append, List.map_cons, List.map_nil] at *
            refine Runs.of (kit Try.prog) Try.func177 rfl rfl (by rw [Try.ntmps177]; exact of_decide_eq_true rfl) ?_; rw [Try.ntmps177, Try.results177]
            repeat' (first
              | ((first | refine Pwp.step (kit _) rfl fun K hK => ?_ | refine Pwp.last (kit _) rfl fun K hK => ?_ | refine Pwp.stepD (kit _) rfl rfl fun K hK => ?_ | refine Pwp.lastD (kit _) rfl rfl fun K hK => ?_); simp (dsimp := false) only [↓opsP_nil, ↓opsP_cons, ↓opsD_nil, ↓opsD_cons, ↓opP, ↓stepP, ↓stepG, go_sem, c1, c2, c3, w, n2, bne_self_eq_false])
              | (refine Pwp.seq ?_)
              | (refine Pwp.block ?_)
              | (refine Pwp.exit ?_; simp only [thenS, blockS, if_true, if_false, reduceIte, Nat.reduceEqDiff, Nat.add_one_ne_zero, reduceCtorEq])
              | (refine Pwp.skip ?_; simp only [thenS, blockS])
              | (refine Pwp.cond rfl True.intro (fun h => ?_) (fun h => ?_) <;> (try (cases h; done)) <;> (try simp only [h]))
              | (refine Pwp.ret ?_; try simp only [thenS, blockS])
              | (refine hK _ ?_; clear hK K)
              | (refine hK _ _ rfl ?_; clear hK K)
              | (refine CallK.desk (cs := [I64 d.me, .slc 8 (itemsD d.items), .slc 3 (ordersD d.orders), I64 d.far, nilD]) rfl rfl rfl r3 (by simp) ?_)
              | (refine CallK.toD (ds := [.agg [I64 m.kind, I64 m.seller, I64 m.number, I64 m.buyer, I64 m.currency, I64 m.round, I64 m.cycle, I64 m.amount, .v (.bool m.yes), m.lines, m.nets]]) rfl (r222) rfl ?_)
              | (refine CallK.toD (ds := [.agg [I64 d.me, .slc 8 (itemsD d.items), .slc 3 (ordersD d.orders)], .agg [I64 m.seller, I64 m.number]]) rfl (r65) rfl ?_)
              | (refine CallK.toD (ds := [.agg [I64 d.me, .slc 8 (itemsD d.items), .slc 3 (ordersD d.orders)], .agg [I64 m.seller, I64 m.number]]) rfl (r107) rfl ?_)
              | (refine CallK.toD (ds := [.agg [I64 m.seller, I64 m.number, I64 m.buyer, I64 m.currency, I64 m.amount, I64 m.round, I64 1, I64 0]]) rfl (r224) rfl ?_)
              | (refine CallG.toD (ds := [I64 og, I64 m.amount, I64 d.far]) rfl (r223) rfl ?_ ?_)
              | (refine CallG.off ?_)
              | (with_reducible refine Or.inl ?_)
              | (simp only [thenS, blockS])
              | (with_reducible refine And.intro ?_ ?_)
              | (with_reducible exact True.intro)
              | (simp (dsimp := false) only [↓opsP_nil, ↓opsP_cons, ↓opsD_nil, ↓opsD_cons, ↓opP, ↓stepP, ↓stepG, go_sem, c1, c2, c3, w, n2, bne_self_eq_false]))
            all_goals (try (first | (intro hg; simp [hg]; done) | exact of_decide_eq_true rfl | (cases h; done)))
            (refine Fin.valV V0 (by first | exact .inr rfl | exact .inl rfl) (by simp (dsimp := false) only [↓opsP_nil, ↓opsP_cons, ↓opsD_nil, ↓opsD_cons, ↓opP, ↓stepP, ↓stepG, go_sem, resL]; rfl) (by simp only [and_self]) rfl (by simp [viewH, viewP, viewL, viewO, V0, V9, V9n, VR, VN, keptOf, find, PVal.toD, subD, subL, subV, subD_refl, viewL_ds, disj, PVal.ids, pnil, List.range, List.range.loop, V8]) (by simp [resP, toDL, idsL, viewH, viewP, viewL, viewO, V0, V9, V9n, VR, VN, keptOf, find, PVal.toD, subD, subL, subV, subD_refl, viewL_ds, disj, PVal.ids, pnil, List.range, List.range.loop, V8]))
        | false =>
          simp only [c3, reduceIte, Bool.false_eq_true] at r2 r3 ⊢
          generalize stepI (propI m) 1 2 = y at *
          unfold propI newI at *
          by_cases h2 : pe = 0
          · subst h2
            rw [if_neg (by simp)]
            simp only [deskH, deskB, deskB2, Desk.cells, Desk.book, saidD, Msg.d, Msg.cells, about, Item.d, Item.cells, List.cons_append, List.nil_append, List.map_cons, List.map_nil] at *
            refine Runs.of (kit Try.prog) Try.func177 rfl rfl (by rw [Try.ntmps177]; exact of_decide_eq_true rfl) ?_; rw [Try.ntmps177, Try.results177]
            repeat' (first
              | ((first | refine Pwp.step (kit _) rfl fun K hK => ?_ | refine Pwp.last (kit _) rfl fun K hK => ?_ | refine Pwp.stepD (kit _) rfl rfl fun K hK => ?_ | refine Pwp.lastD (kit _) rfl rfl fun K hK => ?_); simp (dsimp := false) only [↓opsP_nil, ↓opsP_cons, ↓opsD_nil, ↓opsD_cons, ↓opP, ↓stepP, ↓stepG, go_sem, c1, c2, c3, w, bne_self_eq_false])
              | (refine Pwp.seq ?_)
              | (refine Pwp.block ?_)
              | (refine Pwp.exit ?_; simp only [thenS, blockS, if_true, if_false, reduceIte, Nat.reduceEqDiff, Nat.add_one_ne_zero, reduceCtorEq])
              | (refine Pwp.skip ?_; simp only [thenS, blockS])
              | (refine Pwp.cond rfl True.intro (fun h => ?_) (fun h => ?_) <;> (try (cases h; done)) <;> (try simp only [h]))
              | (refine Pwp.ret ?_; try simp only [thenS, blockS])
              | (refine hK _ ?_; clear hK K)
              | (refine hK _ _ rfl ?_; clear hK K)
              | (refine CallK.desk (cs := [I64 d.me, .slc 8 (itemsD d.items), .slc 3 (ordersD d.orders), I64 d.far, nilD]) rfl rfl rfl r3 (by simp) ?_)
              | (refine CallK.desk (cs := [I64 d2.me, .slc 8 (itemsD d2.items), .slc 3 (ordersD d2.orders), I64 d2.far, nilD]) rfl rfl rfl r2 (by simp) ?_)
              | (refine CallK.toD (ds := [.agg [I64 m.kind, I64 m.seller, I64 m.number, I64 m.buyer, I64 m.currency, I64 m.round, I64 m.cycle, I64 m.amount, .v (.bool m.yes), m.lines, m.nets]]) rfl (r222) rfl ?_)
              | (refine CallK.toD (ds := [.agg [I64 d.me, .slc 8 (itemsD d.items), .slc 3 (ordersD d.orders)], .agg [I64 m.seller, I64 m.number]]) rfl (r65) rfl ?_)
              | (refine CallK.toD (ds := [.agg [I64 d.me, .slc 8 (itemsD d.items), .slc 3 (ordersD d.orders)], .agg [I64 m.seller, I64 m.number]]) rfl (r107) rfl ?_)
              | (refine CallK.toD (ds := [.agg [I64 m.seller, I64 m.number, I64 m.buyer, I64 m.currency, I64 m.amount, I64 m.round, I64 1, I64 0]]) rfl (r225) rfl ?_)
              | (refine CallG.toD (ds := [I64 og, I64 m.amount, I64 d.far]) rfl (r223) rfl ?_ ?_)
              | (refine CallG.off ?_)
              | (with_reducible refine Or.inl ?_)
              | (simp only [thenS, blockS])
              | (with_reducible refine And.intro ?_ ?_)
              | (with_reducible exact True.intro)
              | (simp (dsimp := false) only [↓opsP_nil, ↓opsP_cons, ↓opsD_nil, ↓opsD_cons, ↓opP, ↓stepP, ↓stepG, go_sem, c1, c2, c3, w, bne_self_eq_false]))
            all_goals (try (first | (intro hg; simp [hg]; done) | exact of_decide_eq_true rfl | (cases h; done)))
            (refine Fin.valV (V8 444 0) (by first | exact .inr rfl | exact .inl rfl) (by simp (dsimp := false) only [↓opsP_nil, ↓opsP_cons, ↓opsD_nil, ↓opsD_cons, ↓opP, ↓stepP, ↓stepG, go_sem, resL]; rfl) (by simp only [and_self]) rfl (by simp [viewH, viewP, viewL, viewO, V0, V9, V9n, VR, VN, keptOf, find, PVal.toD, subD, subL, subV, subD_refl, viewL_ds, disj, PVal.ids, pnil, List.range, List.range.loop, V8]) (by simp [resP, toDL, idsL, viewH, viewP, viewL, viewO, V0, V9, V9n, VR, VN, keptOf, find, PVal.toD, subD, subL, subV, subD_refl, viewL_ds, disj, PVal.ids, pnil, List.range, List.range.loop, V8]))
          · have n2 : (pe != 0) = true := by simpa using h2
            rw [if_pos h2]
            simp only [deskH, deskB, deskB2, Desk.cells, Desk.book, saidD, Msg.d, Msg.cells, about, Item.d, Item.cells, List.cons_append, List.nil_append, List.map_cons, List.map_nil] at *
            refine Runs.of (kit Try.prog) Try.func177 rfl rfl (by rw [Try.ntmps177]; exact of_decide_eq_true rfl) ?_; rw [Try.ntmps177, Try.results177]
            repeat' (first
              | ((first | refine Pwp.step (kit _) rfl fun K hK => ?_ | refine Pwp.last (kit _) rfl fun K hK => ?_ | refine Pwp.stepD (kit _) rfl rfl fun K hK => ?_ | refine Pwp.lastD (kit _) rfl rfl fun K hK => ?_); simp (dsimp := false) only [↓opsP_nil, ↓opsP_cons, ↓opsD_nil, ↓opsD_cons, ↓opP, ↓stepP, ↓stepG, go_sem, c1, c2, c3, w, n2, bne_self_eq_false])
              | (refine Pwp.seq ?_)
              | (refine Pwp.block ?_)
              | (refine Pwp.exit ?_; simp only [thenS, blockS, if_true, if_false, reduceIte, Nat.reduceEqDiff, Nat.add_one_ne_zero, reduceCtorEq])
              | (refine Pwp.skip ?_; simp only [thenS, blockS])
              | (refine Pwp.cond rfl True.intro (fun h => ?_) (fun h => ?_) <;> (try (cases h; done)) <;> (try simp only [h]))
              | (refine Pwp.ret ?_; try simp only [thenS, blockS])
              | (refine hK _ ?_; clear hK K)
              | (refine hK _ _ rfl ?_; clear hK K)
              | (refine CallK.desk (cs := [I64 d.me, .slc 8 (itemsD d.items), .slc 3 (ordersD d.orders), I64 d.far, nilD]) rfl rfl rfl r3 (by simp) ?_)
              | (refine CallK.toD (ds := [.agg [I64 m.kind, I64 m.seller, I64 m.number, I64 m.buyer, I64 m.currency, I64 m.round, I64 m.cycle, I64 m.amount, .v (.bool m.yes), m.lines, m.nets]]) rfl (r222) rfl ?_)
              | (refine CallK.toD (ds := [.agg [I64 d.me, .slc 8 (itemsD d.items), .slc 3 (ordersD d.orders)], .agg [I64 m.seller, I64 m.number]]) rfl (r65) rfl ?_)
              | (refine CallK.toD (ds := [.agg [I64 d.me, .slc 8 (itemsD d.items), .slc 3 (ordersD d.orders)], .agg [I64 m.seller, I64 m.number]]) rfl (r107) rfl ?_)
              | (refine CallK.toD (ds := [.agg [I64 m.seller, I64 m.number, I64 m.buyer, I64 m.currency, I64 m.amount, I64 m.round, I64 1, I64 0]]) rfl (r225) rfl ?_)
              | (refine CallG.toD (ds := [I64 og, I64 m.amount, I64 d.far]) rfl (r223) rfl ?_ ?_)
              | (refine CallG.off ?_)
              | (with_reducible refine Or.inl ?_)
              | (simp only [thenS, blockS])
              | (with_reducible refine And.intro ?_ ?_)
              | (with_reducible exact True.intro)
              | (simp (dsimp := false) only [↓opsP_nil, ↓opsP_cons, ↓opsD_nil, ↓opsD_cons, ↓opP, ↓stepP, ↓stepG, go_sem, c1, c2, c3, w, n2, bne_self_eq_false]))
            all_goals (try (first | (intro hg; simp [hg]; done) | exact of_decide_eq_true rfl | (cases h; done)))
            (refine Fin.valV V0 (by first | exact .inr rfl | exact .inl rfl) (by simp (dsimp := false) only [↓opsP_nil, ↓opsP_cons, ↓opsD_nil, ↓opsD_cons, ↓opP, ↓stepP, ↓stepG, go_sem, resL]; rfl) (by simp only [and_self]) rfl (by simp [viewH, viewP, viewL, viewO, V0, V9, V9n, VR, VN, keptOf, find, PVal.toD, subD, subL, subV, subD_refl, viewL_ds, disj, PVal.ids, pnil, List.range, List.range.loop, V8]) (by simp [resP, toDL, idsL, viewH, viewP, viewL, viewO, V0, V9, V9n, VR, VN, keptOf, find, PVal.toD, subD, subL, subV, subD_refl, viewL_ds, disj, PVal.ids, pnil, List.range, List.range.loop, V8]))
  · rw [if_neg he] at r222
    have n1 : (chk (propI m) != 0) = true := by simpa using he
    rw [if_pos he]
    unfold Item.zero at r222
    generalize chk (propI m) = e1 at *
    simp only [deskH, deskB, deskB2, Desk.cells, Desk.book, saidD, Msg.d, Msg.cells, about, Item.d, Item.cells, List.cons_append, List.nil_append, List.map_cons, List.map_nil] at *
    refine Runs.of (kit Try.prog) Try.func177 rfl rfl (by rw [Try.ntmps177]; exact of_decide_eq_true rfl) ?_; rw [Try.ntmps177, Try.results177]
    repeat' (first
      | ((first | refine Pwp.step (kit _) rfl fun K hK => ?_ | refine Pwp.last (kit _) rfl fun K hK => ?_ | refine Pwp.stepD (kit _) rfl rfl fun K hK => ?_ | refine Pwp.lastD (kit _) rfl rfl fun K hK => ?_); simp (dsimp := false) only [↓opsP_nil, ↓opsP_cons, ↓opsD_nil, ↓opsD_cons, ↓opP, ↓stepP, ↓stepG, go_sem, n1])
      | (refine Pwp.seq ?_)
      | (refine Pwp.block ?_)
      | (refine Pwp.exit ?_; simp only [thenS, blockS, if_true, if_false, reduceIte, Nat.reduceEqDiff, Nat.add_one_ne_zero, reduceCtorEq])
      | (refine Pwp.skip ?_; simp only [thenS, blockS])
      | (refine Pwp.cond rfl True.intro (fun h => ?_) (fun h => ?_) <;> (try (cases h; done)) <;> (try simp only [h]))
      | (refine Pwp.ret ?_; try simp only [thenS, blockS])
      | (refine hK _ ?_; clear hK K)
      | (refine hK _ _ rfl ?_; clear hK K)
      | (refine CallK.toD (ds := [.agg [I64 m.kind, I64 m.seller, I64 m.number, I64 m.buyer, I64 m.currency, I64 m.round, I64 m.cycle, I64 m.amount, .v (.bool m.yes), m.lines, m.nets]]) rfl (r222) rfl ?_)
      | (refine CallG.off ?_)
      | (with_reducible refine Or.inl ?_)
      | (simp only [thenS, blockS])
      | (with_reducible refine And.intro ?_ ?_)
      | (with_reducible exact True.intro)
      | (simp (dsimp := false) only [↓opsP_nil, ↓opsP_cons, ↓opsD_nil, ↓opsD_cons, ↓opP, ↓stepP, ↓stepG, go_sem, n1]))
    all_goals (try (first | (intro hg; simp [hg]; done) | exact of_decide_eq_true rfl | (cases h; done)))
    (refine Fin.valV V0 (by first | exact .inr rfl | exact .inl rfl) (by simp (dsimp := false) only [↓opsP_nil, ↓opsP_cons, ↓opsD_nil, ↓opsD_cons, ↓opP, ↓stepP, ↓stepG, go_sem, resL]; rfl) (by simp only [and_self]) rfl (by simp [viewH, viewP, viewL, viewO, V0, V9, V9n, VR, VN, keptOf, find, PVal.toD, subD, subL, subV, subD_refl, viewL_ds, disj, PVal.ids, pnil, List.range, List.range.loop, V8]) (by simp [resP, toDL, idsL, viewH, viewP, viewL, viewO, V0, V9, V9n, VR, VN, keptOf, find, PVal.toD, subD, subL, subV, subD_refl, viewL_ds, disj, PVal.ids, pnil, List.range, List.range.loop, V8]))

end Go.Proofs.Ytdodgbhodkcckaa.Pv
