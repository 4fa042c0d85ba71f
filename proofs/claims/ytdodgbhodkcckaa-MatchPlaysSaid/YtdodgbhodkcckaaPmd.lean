/- Walks of matching: a dispute, what is given up, what is expected, what is sold. -/
import Derived.Test.YtdodgbhodkcckaaPmb
set_option linter.unusedVariables false
set_option linter.unusedSimpArgs false
set_option autoImplicit false
set_option maxRecDepth 100000
namespace Go.Proofs.Ytdodgbhodkcckaa.Pv
open Go Go.RowKit

def disputeR (d : Desk) (m : Msg) (from' : Int) : Out := if ansE d m from' ≠ 0 then ⟨ansE d m from', d, none⟩ else if stepE (getI d.items m.seller m.number) 1 ≠ 0 then ⟨stepE (getI d.items m.seller m.number) 1, d, none⟩
  else if (stepI (getI d.items m.seller m.number) 1 2).round = 3 then ⟨putE d.me d.items (stepI (stepI (getI d.items m.seller m.number) 1 2) 2 4), d.put (stepI (stepI (getI d.items m.seller m.number) 1 2) 2 4), some (saidD from' (about 9 (stepI (stepI (getI d.items m.seller m.number) 1 2) 2 4)))⟩
  else ⟨putE d.me d.items (stepI (getI d.items m.seller m.number) 1 2), d.put (stepI (getI d.items m.seller m.number) 1 2), none⟩
set_option maxHeartbeats 16000000 in
theorem run179 (d : Desk) (m : Msg) (from' : Int) (hl : d.items.length ≤ 100000) : Runs Try.prog 179 [.ref 0 0, .d m.d, pint .i64 from'] [(0, deskB d)] (pint .i64 (disputeR d m from').e) (deskH (disputeR d m from').d (disputeR d m from').o) := by
  have r0 := run226 d m from' hl
  have r1 := run225 (getI d.items m.seller m.number)
  have r4 := run221 (stepI (getI d.items m.seller m.number) 1 2)
  have r2 := run218 d from' 9 (stepI (stepI (getI d.items m.seller m.number) 1 2) 2 4)
  have r3 := run217b d (stepI (stepI (getI d.items m.seller m.number) 1 2) 2 4) (saidD from' (about 9 (stepI (stepI (getI d.items m.seller m.number) 1 2) 2 4))) hl
  have r5 := run217 d (stepI (getI d.items m.seller m.number) 1 2) hl
  unfold disputeR
  generalize hz : stepI (stepI (getI d.items m.seller m.number) 1 2) 2 4 = z at *
  generalize he2 : stepE (stepI (getI d.items m.seller m.number) 1 2) 2 = e2 at *
  generalize hy : stepI (getI d.items m.seller m.number) 1 2 = y at *
  generalize he1 : stepE (getI d.items m.seller m.number) 1 = e1 at *
  generalize hx : getI d.items m.seller m.number = x at *
  generalize he0 : ansE d m from' = e0 at *
  generalize hpz : putE d.me d.items z = pz at *
  generalize hpe : putE d.me d.items y = pe at *
  generalize hdz : d.put z = dz at *
  generalize hpd : d.put y = d2 at *
  clear hz hy he2 he1 hx he0 hpe hpd hpz hdz
  by_cases h0 : e0 = 0
  · subst h0
    rw [if_neg (by simp)]
    by_cases h1 : e1 = 0
    · subst h1
      rw [if_neg (by simp)]
      by_cases h3 : y.round = 3
      · have c3 : (y.round == 3) = true := by simp [h3]
        rw [if_pos h3]
        simp only [deskH, deskB, deskB2, Desk.cells, Desk.book, saidD, Msg.d, Msg.cells, about, Item.d, Item.cells, List.cons_append, List.nil_append, List.map_cons, List.map_nil] at *
        refine Runs.of (kit Try.prog) Try.func179 rfl rfl (by rw [Try.ntmps179]; exact of_decide_eq_true rfl) ?_; rw [Try.ntmps179, Try.results179]
        repeat' (first
          | ((first | refine Pwp.step (kit _) rfl fun K hK => ?_ | refine Pwp.last (kit _) rfl fun K hK => ?_ | refine Pwp.stepD (kit _) rfl rfl fun K hK => ?_ | refine Pwp.lastD (kit _) rfl rfl fun K hK => ?_); simp (dsimp := false) only [↓opsP_nil, ↓opsP_cons, ↓opsD_nil, ↓opsD_cons, ↓opP, ↓stepP, ↓stepG, go_sem, bne_self_eq_false, c3])
          | (refine Pwp.seq ?_)
          | (refine Pwp.block ?_)
          | (refine Pwp.exit ?_; simp only [thenS, blockS, if_true, if_false, reduceIte, Nat.reduceEqDiff, Nat.add_one_ne_zero, reduceCtorEq])
          | (refine Pwp.skip ?_; simp only [thenS, blockS])
          | (refine Pwp.cond rfl True.intro (fun h => ?_) (fun h => ?_) <;> (try (cases h; done)) <;> (try simp only [h]))
          | (refine Pwp.ret ?_; try simp only [thenS, blockS])
          | (refine hK _ ?_; clear hK K)
          | (refine hK _ _ rfl ?_; clear hK K)
          | (refine CallK.desk (cs := [I64 d.me, .slc 8 (itemsD d.items), .slc 3 (ordersD d.orders), I64 d.far, nilD]) rfl rfl rfl r0 (by simp) ?_)
          | (refine CallK.desk (cs := [I64 d.me, .slc 8 (itemsD d.items), .slc 3 (ordersD d.orders), I64 d.far, nilD]) rfl rfl rfl r2 (by simp) ?_)
          | (refine CallK.desk2 (cs := [I64 d.me, .slc 8 (itemsD d.items), .slc 3 (ordersD d.orders), I64 d.far]) rfl rfl rfl rfl (of_decide_eq_true rfl) r3 (by simp) ?_)
          | (refine CallK.toD (ds := [.agg [I64 x.seller, I64 x.number, I64 x.buyer, I64 x.currency, I64 x.amount, I64 x.round, I64 x.state, I64 x.cycle]]) rfl (r1) rfl ?_)
          | (refine CallK.toD (ds := [.agg [I64 y.seller, I64 y.number, I64 y.buyer, I64 y.currency, I64 y.amount, I64 y.round, I64 y.state, I64 y.cycle]]) rfl (r4) rfl ?_)
          | (refine CallG.off ?_)
          | (with_reducible refine Or.inl ?_)
          | (simp only [thenS, blockS])
          | (with_reducible refine And.intro ?_ ?_)
          | (with_reducible exact True.intro)
          | (simp (dsimp := false) only [↓opsP_nil, ↓opsP_cons, ↓opsD_nil, ↓opsD_cons, ↓opP, ↓stepP, ↓stepG, go_sem, bne_self_eq_false, c3]))
        all_goals (try (first | (intro hg; simp [hg]; done) | exact of_decide_eq_true rfl | (cases h; done)))
        (refine Fin.valV (V8 139 0) (by first | exact .inr rfl | exact .inl rfl) (by simp (dsimp := false) only [↓opsP_nil, ↓opsP_cons, ↓opsD_nil, ↓opsD_cons, ↓opP, ↓stepP, ↓stepG, go_sem, resL]; rfl) (by simp only [and_self]) rfl (by simp [viewH, viewP, viewL, viewO, V0, V9, V9n, VR, VN, keptOf, find, PVal.toD, subD, subL, subV, subD_refl, viewL_ds, disj, PVal.ids, pnil, List.range, List.range.loop, V8]) (by simp [resP, toDL, idsL, viewH, viewP, viewL, viewO, V0, V9, V9n, VR, VN, keptOf, find, PVal.toD, subD, subL, subV, subD_refl, viewL_ds, disj, PVal.ids, pnil, List.range, List.range.loop, V8]))
      · have c3 : (y.round == 3) = false := by simpa using h3
        rw [if_neg h3]
        simp only [deskH, deskB, deskB2, Desk.cells, Desk.book, saidD, Msg.d, Msg.cells, about, Item.d, Item.cells, List.cons_append, List.nil_append, List.map_cons, List.map_nil] at *
        refine Runs.of (kit Try.prog) Try.func179 rfl rfl (by rw [Try.ntmps179]; exact of_decide_eq_true rfl) ?_; rw [Try.ntmps179, Try.results179]
        repeat' (first
          | ((first | refine Pwp.step (kit _) rfl fun K hK => ?_ | refine Pwp.last (kit _) rfl fun K hK => ?_ | refine Pwp.stepD (kit _) rfl rfl fun K hK => ?_ | refine Pwp.lastD (kit _) rfl rfl fun K hK => ?_); simp (dsimp := false) only [↓opsP_nil, ↓opsP_cons, ↓opsD_nil, ↓opsD_cons, ↓opP, ↓stepP, ↓stepG, go_sem, bne_self_eq_false, c3])
          | (refine Pwp.seq ?_)
          | (refine Pwp.block ?_)
          | (refine Pwp.exit ?_; simp only [thenS, blockS, if_true, if_false, reduceIte, Nat.reduceEqDiff, Nat.add_one_ne_zero, reduceCtorEq])
          | (refine Pwp.skip ?_; simp only [thenS, blockS])
          | (refine Pwp.cond rfl True.intro (fun h => ?_) (fun h => ?_) <;> (try (cases h; done)) <;> (try simp only [h]))
          | (refine Pwp.ret ?_; try simp only [thenS, blockS])
          | (refine hK _ ?_; clear hK K)
          | (refine hK _ _ rfl ?_; clear hK K)
          | (refine CallK.desk (cs := [I64 d.me, .slc 8 (itemsD d.items), .slc 3 (ordersD d.orders), I64 d.far, nilD]) rfl rfl rfl r0 (by simp) ?_)
          | (refine CallK.desk (cs := [I64 d.me, .slc 8 (itemsD d.items), .slc 3 (ordersD d.orders), I64 d.far, nilD]) rfl rfl rfl r5 (by simp) ?_)
          | (refine CallK.toD (ds := [.agg [I64 x.seller, I64 x.number, I64 x.buyer, I64 x.currency, I64 x.amount, I64 x.round, I64 x.state, I64 x.cycle]]) rfl (r1) rfl ?_)
          | (refine CallG.off ?_)
          | (with_reducible refine Or.inl ?_)
          | (simp only [thenS, blockS])
          | (with_reducible refine And.intro ?_ ?_)
          | (with_reducible exact True.intro)
          | (simp (dsimp := false) only [↓opsP_nil, ↓opsP_cons, ↓opsD_nil, ↓opsD_cons, ↓opP, ↓stepP, ↓stepG, go_sem, bne_self_eq_false, c3]))
        all_goals (try (first | (intro hg; simp [hg]; done) | exact of_decide_eq_true rfl | (cases h; done)))
        (refine Fin.valV V0 (by first | exact .inr rfl | exact .inl rfl) (by simp (dsimp := false) only [↓opsP_nil, ↓opsP_cons, ↓opsD_nil, ↓opsD_cons, ↓opP, ↓stepP, ↓stepG, go_sem, resL]; rfl) (by simp only [and_self]) rfl (by simp [viewH, viewP, viewL, viewO, V0, V9, V9n, VR, VN, keptOf, find, PVal.toD, subD, subL, subV, subD_refl, viewL_ds, disj, PVal.ids, pnil, List.range, List.range.loop, V8]) (by simp [resP, toDL, idsL, viewH, viewP, viewL, viewO, V0, V9, V9n, VR, VN, keptOf, find, PVal.toD, subD, subL, subV, subD_refl, viewL_ds, disj, PVal.ids, pnil, List.range, List.range.loop, V8]))
    · have n1 : (e1 != 0) = true := by simpa using h1
      rw [if_pos h1]
      simp only [deskH, deskB, deskB2, Desk.cells, Desk.book, saidD, Msg.d, Msg.cells, about, Item.d, Item.cells, List.cons_append, List.nil_append, List.map_cons, List.map_nil] at *
      refine Runs.of (kit Try.prog) Try.func179 rfl rfl (by rw [Try.ntmps179]; exact of_decide_eq_true rfl) ?_; rw [Try.ntmps179, Try.results179]
      repeat' (first
        | ((first | refine Pwp.step (kit _) rfl fun K hK => ?_ | refine Pwp.last (kit _) rfl fun K hK => ?_ | refine Pwp.stepD (kit _) rfl rfl fun K hK => ?_ | refine Pwp.lastD (kit _) rfl rfl fun K hK => ?_); simp (dsimp := false) only [↓opsP_nil, ↓opsP_cons, ↓opsD_nil, ↓opsD_cons, ↓opP, ↓stepP, ↓stepG, go_sem, bne_self_eq_false, n1])
        | (refine Pwp.seq ?_)
        | (refine Pwp.block ?_)
        | (refine Pwp.exit ?_; simp only [thenS, blockS, if_true, if_false, reduceIte, Nat.reduceEqDiff, Nat.add_one_ne_zero, reduceCtorEq])
        | (refine Pwp.skip ?_; simp only [thenS, blockS])
        | (refine Pwp.cond rfl True.intro (fun h => ?_) (fun h => ?_) <;> (try (cases h; done)) <;> (try simp only [h]))
        | (refine Pwp.ret ?_; try simp only [thenS, blockS])
        | (refine hK _ ?_; clear hK K)
        | (refine hK _ _ rfl ?_; clear hK K)
        | (refine CallK.desk (cs := [I64 d.me, .slc 8 (itemsD d.items), .slc 3 (ordersD d.orders), I64 d.far, nilD]) rfl rfl rfl r0 (by simp) ?_)
        | (refine CallK.toD (ds := [.agg [I64 x.seller, I64 x.number, I64 x.buyer, I64 x.currency, I64 x.amount, I64 x.round, I64 x.state, I64 x.cycle]]) rfl (r1) rfl ?_)
        | (refine CallG.off ?_)
        | (with_reducible refine Or.inl ?_)
        | (simp only [thenS, blockS])
        | (with_reducible refine And.intro ?_ ?_)
        | (with_reducible exact True.intro)
        | (simp (dsimp := false) only [↓opsP_nil, ↓opsP_cons, ↓opsD_nil, ↓opsD_cons, ↓opP, ↓stepP, ↓stepG, go_sem, bne_self_eq_false, n1]))
      all_goals (try (first | (intro hg; simp [hg]; done) | exact of_decide_eq_true rfl | (cases h; done)))
      (refine Fin.valV V0 (by first | exact .inr rfl | exact .inl rfl) (by simp (dsimp := false) only [↓opsP_nil, ↓opsP_cons, ↓opsD_nil, ↓opsD_cons, ↓opP, ↓stepP, ↓stepG, go_sem, resL]; rfl) (by simp only [and_self]) rfl (by simp [viewH, viewP, viewL, viewO, V0, V9, V9n, VR, VN, keptOf, find, PVal.toD, subD, subL, subV, subD_refl, viewL_ds, disj, PVal.ids, pnil, List.range, List.range.loop, V8]) (by simp [resP, toDL, idsL, viewH, viewP, viewL, viewO, V0, V9, V9n, VR, VN, keptOf, find, PVal.toD, subD, subL, subV, subD_refl, viewL_ds, disj, PVal.ids, pnil, List.range, List.range.loop, V8]))
  · have n0 : (e0 != 0) = true := by simpa using h0
    rw [if_pos h0]
    simp only [deskH, deskB, deskB2, Desk.cells, Desk.book, saidD, Msg.d, Msg.cells, about, Item.d, Item.cells, List.cons_append, List.nil_append, List.map_cons, List.map_nil] at *
    refine Runs.of (kit Try.prog) Try.func179 rfl rfl (by rw [Try.ntmps179]; exact of_decide_eq_true rfl) ?_; rw [Try.ntmps179, Try.results179]
    repeat' (first
      | ((first | refine Pwp.step (kit _) rfl fun K hK => ?_ | refine Pwp.last (kit _) rfl fun K hK => ?_ | refine Pwp.stepD (kit _) rfl rfl fun K hK => ?_ | refine Pwp.lastD (kit _) rfl rfl fun K hK => ?_); simp (dsimp := false) only [↓opsP_nil, ↓opsP_cons, ↓opsD_nil, ↓opsD_cons, ↓opP, ↓stepP, ↓stepG, go_sem, n0])
      | (refine Pwp.seq ?_)
      | (refine Pwp.block ?_)
      | (refine Pwp.exit ?_; simp only [thenS, blockS, if_true, if_false, reduceIte, Nat.reduceEqDiff, Nat.add_one_ne_zero, reduceCtorEq])
      | (refine Pwp.skip ?_; simp only [thenS, blockS])
      | (refine Pwp.cond rfl True.intro (fun h => ?_) (fun h => ?_) <;> (try (cases h; done)) <;> (try simp only [h]))
      | (refine Pwp.ret ?_; try simp only [thenS, blockS])
      | (refine hK _ ?_; clear hK K)
      | (refine hK _ _ rfl ?_; clear hK K)
      | (refine CallK.desk (cs := [I64 d.me, .slc 8 (itemsD d.items), .slc 3 (ordersD d.orders), I64 d.far, nilD]) rfl rfl rfl r0 (by simp) ?_)
      | (refine CallG.off ?_)
      | (with_reducible refine Or.inl ?_)
      | (simp only [thenS, blockS])
      | (with_reducible refine And.intro ?_ ?_)
      | (with_reducible exact True.intro)
      | (simp (dsimp := false) only [↓opsP_nil, ↓opsP_cons, ↓opsD_nil, ↓opsD_cons, ↓opP, ↓stepP, ↓stepG, go_sem, n0]))
    all_goals (try (first | (intro hg; simp [hg]; done) | exact of_decide_eq_true rfl | (cases h; done)))
    (refine Fin.valV V0 (by first | exact .inr rfl | exact .inl rfl) (by simp (dsimp := false) only [↓opsP_nil, ↓opsP_cons, ↓opsD_nil, ↓opsD_cons, ↓opP, ↓stepP, ↓stepG, go_sem, resL]; rfl) (by simp only [and_self]) rfl (by simp [viewH, viewP, viewL, viewO, V0, V9, V9n, VR, VN, keptOf, find, PVal.toD, subD, subL, subV, subD_refl, viewL_ds, disj, PVal.ids, pnil, List.range, List.range.loop, V8]) (by simp [resP, toDL, idsL, viewH, viewP, viewL, viewO, V0, V9, V9n, VR, VN, keptOf, find, PVal.toD, subD, subL, subV, subD_refl, viewL_ds, disj, PVal.ids, pnil, List.range, List.range.loop, V8]))

def cancelR (d : Desk) (m : Msg) (from' : Int) : Out := if isIn d.items m.seller m.number = false then ⟨4, d, none⟩ else if (from' != (getI d.items m.seller m.number).seller || (getI d.items m.seller m.number).buyer != d.me) = true then ⟨140, d, none⟩ else if (getI d.items m.seller m.number).round ≠ m.round then ⟨90, d, none⟩
  else if stepE (getI d.items m.seller m.number) 2 ≠ 0 then ⟨stepE (getI d.items m.seller m.number) 2, d, none⟩ else ⟨putE d.me d.items (stepI (getI d.items m.seller m.number) 2 4), d.put (stepI (getI d.items m.seller m.number) 2 4), none⟩
set_option maxHeartbeats 16000000 in
theorem run180 (d : Desk) (m : Msg) (from' : Int) (hl : d.items.length ≤ 100000) : Runs Try.prog 180 [.ref 0 0, .d m.d, pint .i64 from'] [(0, deskB d)] (pint .i64 (cancelR d m from').e) (deskH (cancelR d m from').d (cancelR d m from').o) := by
  have r0 := run65 d.me d.items (ordersD d.orders) m.seller m.number (by omega)
  unfold bookD at r0
  have r1 := run221 (getI d.items m.seller m.number)
  have r3 := run217 d (stepI (getI d.items m.seller m.number) 2 4) hl
  unfold cancelR
  generalize hy : stepI (getI d.items m.seller m.number) 2 4 = y at *
  generalize he1 : stepE (getI d.items m.seller m.number) 2 = e1 at *
  generalize hx : getI d.items m.seller m.number = x at *
  generalize hi : isIn d.items m.seller m.number = b at *
  generalize hpe : putE d.me d.items y = pe at *
  generalize hpd : d.put y = d2 at *
  clear hy he1 hx hi hpe hpd
  cases b with
  | false =>
    rw [if_pos rfl]
    simp only [deskH, deskB, deskB2, Desk.cells, Desk.book, saidD, Msg.d, Msg.cells, about, Item.d, Item.cells, List.cons_append, List.nil_append, List.map_cons, List.map_nil] at *
    refine Runs.of (kit Try.prog) Try.func180 rfl rfl (by rw [Try.ntmps180]; exact of_decide_eq_true rfl) ?_; rw [Try.ntmps180, Try.results180]
    repeat' (first
      | ((first | refine Pwp.step (kit _) rfl fun K hK => ?_ | refine Pwp.last (kit _) rfl fun K hK => ?_ | refine Pwp.stepD (kit _) rfl rfl fun K hK => ?_ | refine Pwp.lastD (kit _) rfl rfl fun K hK => ?_); simp (dsimp := false) only [↓opsP_nil, ↓opsP_cons, ↓opsD_nil, ↓opsD_cons, ↓opP, ↓stepP, ↓stepG, go_sem])
      | (refine Pwp.seq ?_)
      | (refine Pwp.block ?_)
      | (refine Pwp.exit ?_; simp only [thenS, blockS, if_true, if_false, reduceIte, Nat.reduceEqDiff, Nat.add_one_ne_zero, reduceCtorEq])
      | (refine Pwp.skip ?_; simp only [thenS, blockS])
      | (refine Pwp.cond rfl True.intro (fun h => ?_) (fun h => ?_) <;> (try (cases h; done)) <;> (try simp only [h]))
      | (refine Pwp.ret ?_; try simp only [thenS, blockS])
      | (refine hK _ ?_; clear hK K)
      | (refine hK _ _ rfl ?_; clear hK K)
      | (refine CallK.toD (ds := [.agg [I64 d.me, .slc 8 (itemsD d.items), .slc 3 (ordersD d.orders)], .agg [I64 m.seller, I64 m.number]]) rfl (r0) rfl ?_)
      | (refine CallG.off ?_)
      | (with_reducible refine Or.inl ?_)
      | (simp only [thenS, blockS])
      | (with_reducible refine And.intro ?_ ?_)
      | (with_reducible exact True.intro)
      | (simp (dsimp := false) only [↓opsP_nil, ↓opsP_cons, ↓opsD_nil, ↓opsD_cons, ↓opP, ↓stepP, ↓stepG, go_sem]))
    all_goals (try (first | (intro hg; simp [hg]; done) | exact of_decide_eq_true rfl | (cases h; done)))
    (refine Fin.valV V0 (by first | exact .inr rfl | exact .inl rfl) (by simp (dsimp := false) only [↓opsP_nil, ↓opsP_cons, ↓opsD_nil, ↓opsD_cons, ↓opP, ↓stepP, ↓stepG, go_sem, resL]; rfl) (by simp only [and_self]) rfl (by simp [viewH, viewP, viewL, viewO, V0, V9, V9n, VR, VN, keptOf, find, PVal.toD, subD, subL, subV, subD_refl, viewL_ds, disj, PVal.ids, pnil, List.range, List.range.loop, V8]) (by simp [resP, toDL, idsL, viewH, viewP, viewL, viewO, V0, V9, V9n, VR, VN, keptOf, find, PVal.toD, subD, subL, subV, subD_refl, viewL_ds, disj, PVal.ids, pnil, List.range, List.range.loop, V8]))
  | true =>
    rw [if_neg (by simp)]
    cases c1 : (from' != x.seller || x.buyer != d.me) with
    | true =>
      rw [if_pos rfl]
      simp only [deskH, deskB, deskB2, Desk.cells, Desk.book, saidD, Msg.d, Msg.cells, about, Item.d, Item.cells, List.cons_append, List.nil_append, List.map_cons, List.map_nil] at *
      refine Runs.of (kit Try.prog) Try.func180 rfl rfl (by rw [Try.ntmps180]; exact of_decide_eq_true rfl) ?_; rw [Try.ntmps180, Try.results180]
      repeat' (first
        | ((first | refine Pwp.step (kit _) rfl fun K hK => ?_ | refine Pwp.last (kit _) rfl fun K hK => ?_ | refine Pwp.stepD (kit _) rfl rfl fun K hK => ?_ | refine Pwp.lastD (kit _) rfl rfl fun K hK => ?_); simp (dsimp := false) only [↓opsP_nil, ↓opsP_cons, ↓opsD_nil, ↓opsD_cons, ↓opP, ↓stepP, ↓stepG, go_sem, c1])
        | (refine Pwp.seq ?_)
        | (refine Pwp.block ?_)
        | (refine Pwp.exit ?_; simp only [thenS, blockS, if_true, if_false, reduceIte, Nat.reduceEqDiff, Nat.add_one_ne_zero, reduceCtorEq])
        | (refine Pwp.skip ?_; simp only [thenS, blockS])
        | (refine Pwp.cond rfl True.intro (fun h => ?_) (fun h => ?_) <;> (try (cases h; done)) <;> (try simp only [h]))
        | (refine Pwp.ret ?_; try simp only [thenS, blockS])
        | (refine hK _ ?_; clear hK K)
        | (refine hK _ _ rfl ?_; clear hK K)
        | (refine CallK.toD (ds := [.agg [I64 d.me, .slc 8 (itemsD d.items), .slc 3 (ordersD d.orders)], .agg [I64 m.seller, I64 m.number]]) rfl (r0) rfl ?_)
        | (refine CallG.off ?_)
        | (with_reducible refine Or.inl ?_)
        | (simp only [thenS, blockS])
        | (with_reducible refine And.intro ?_ ?_)
        | (with_reducible exact True.intro)
        | (simp (dsimp := false) only [↓opsP_nil, ↓opsP_cons, ↓opsD_nil, ↓opsD_cons, ↓opP, ↓stepP, ↓stepG, go_sem, c1]))
      all_goals (try (first | (intro hg; simp [hg]; done) | exact of_decide_eq_true rfl | (cases h; done)))
      (refine Fin.valV V0 (by first | exact .inr rfl | exact .inl rfl) (by simp (dsimp := false) only [↓opsP_nil, ↓opsP_cons, ↓opsD_nil, ↓opsD_cons, ↓opP, ↓stepP, ↓stepG, go_sem, resL]; rfl) (by simp only [and_self]) rfl (by simp [viewH, viewP, viewL, viewO, V0, V9, V9n, VR, VN, keptOf, find, PVal.toD, subD, subL, subV, subD_refl, viewL_ds, disj, PVal.ids, pnil, List.range, List.range.loop, V8]) (by simp [resP, toDL, idsL, viewH, viewP, viewL, viewO, V0, V9, V9n, VR, VN, keptOf, find, PVal.toD, subD, subL, subV, subD_refl, viewL_ds, disj, PVal.ids, pnil, List.range, List.range.loop, V8]))
    | false =>
      rw [if_neg (by simp)]
      by_cases h2 : x.round = m.round
      · have c2 : (x.round != m.round) = false := by simp [h2]
        rw [if_neg (by simpa using h2)]
        by_cases h1 : e1 = 0
        · subst h1
          rw [if_neg (by simp)]
          simp only [deskH, deskB, deskB2, Desk.cells, Desk.book, saidD, Msg.d, Msg.cells, about, Item.d, Item.cells, List.cons_append, List.nil_append, List.map_cons, List.map_nil] at *
          refine Runs.of (kit Try.prog) Try.func180 rfl rfl (by rw [Try.ntmps180]; exact of_decide_eq_true rfl) ?_; rw [Try.ntmps180, Try.results180]
          repeat' (first
            | ((first | refine Pwp.step (kit _) rfl fun K hK => ?_ | refine Pwp.last (kit _) rfl fun K hK => ?_ | refine Pwp.stepD (kit _) rfl rfl fun K hK => ?_ | refine Pwp.lastD (kit _) rfl rfl fun K hK => ?_); simp (dsimp := false) only [↓opsP_nil, ↓opsP_cons, ↓opsD_nil, ↓opsD_cons, ↓opP, ↓stepP, ↓stepG, go_sem, c1, c2, bne_self_eq_false])
            | (refine Pwp.seq ?_)
            | (refine Pwp.block ?_)
            | (refine Pwp.exit ?_; simp only [thenS, blockS, if_true, if_false, reduceIte, Nat.reduceEqDiff, Nat.add_one_ne_zero, reduceCtorEq])
            | (refine Pwp.skip ?_; simp only [thenS, blockS])
            | (refine Pwp.cond rfl True.intro (fun h => ?_) (fun h => ?_) <;> (try (cases h; done)) <;> (try simp only [h]))
            | (refine Pwp.ret ?_; try simp only [thenS, blockS])
            | (refine hK _ ?_; clear hK K)
            | (refine hK _ _ rfl ?_; clear hK K)
            | (refine CallK.desk (cs := [I64 d.me, .slc 8 (itemsD d.items), .slc 3 (ordersD d.orders), I64 d.far, nilD]) rfl rfl rfl r3 (by simp) ?_)
            | (refine CallK.toD (ds := [.agg [I64 d.me, .slc 8 (itemsD d.items), .slc 3 (ordersD d.orders)], .agg [I64 m.seller, I64 m.number]]) rfl (r0) rfl ?_)
            | (refine CallK.toD (ds := [.agg [I64 x.seller, I64 x.number, I64 x.buyer, I64 x.currency, I64 x.amount, I64 x.round, I64 x.state, I64 x.cycle]]) rfl (r1) rfl ?_)
            | (refine CallG.off ?_)
            | (with_reducible refine Or.inl ?_)
            | (simp only [thenS, blockS])
            | (with_reducible refine And.intro ?_ ?_)
            | (with_reducible exact True.intro)
            | (simp (dsimp := false) only [↓opsP_nil, ↓opsP_cons, ↓opsD_nil, ↓opsD_cons, ↓opP, ↓stepP, ↓stepG, go_sem, c1, c2, bne_self_eq_false]))
          all_goals (try (first | (intro hg; simp [hg]; done) | exact of_decide_eq_true rfl | (cases h; done)))
          (refine Fin.valV V0 (by first | exact .inr rfl | exact .inl rfl) (by simp (dsimp := false) only [↓opsP_nil, ↓opsP_cons, ↓opsD_nil, ↓opsD_cons, ↓opP, ↓stepP, ↓stepG, go_sem, resL]; rfl) (by simp only [and_self]) rfl (by simp [viewH, viewP, viewL, viewO, V0, V9, V9n, VR, VN, keptOf, find, PVal.toD, subD, subL, subV, subD_refl, viewL_ds, disj, PVal.ids, pnil, List.range, List.range.loop, V8]) (by simp [resP, toDL, idsL, viewH, viewP, viewL, viewO, V0, V9, V9n, VR, VN, keptOf, find, PVal.toD, subD, subL, subV, subD_refl, viewL_ds, disj, PVal.ids, pnil, List.range, List.range.loop, V8]))
        · have n1 : (e1 != 0) = true := by simpa using h1
          rw [if_pos h1]
          simp only [deskH, deskB, deskB2, Desk.cells, Desk.book, saidD, Msg.d, Msg.cells, about, Item.d, Item.cells, List.cons_append, List.nil_append, List.map_cons, List.map_nil] at *
          refine Runs.of (kit Try.prog) Try.func180 rfl rfl (by rw [Try.ntmps180]; exact of_decide_eq_true rfl) ?_; rw [Try.ntmps180, Try.results180]
          repeat' (first
            | ((first | refine Pwp.step (kit _) rfl fun K hK => ?_ | refine Pwp.last (kit _) rfl fun K hK => ?_ | refine Pwp.stepD (kit _) rfl rfl fun K hK => ?_ | refine Pwp.lastD (kit _) rfl rfl fun K hK => ?_); simp (dsimp := false) only [↓opsP_nil, ↓opsP_cons, ↓opsD_nil, ↓opsD_cons, ↓opP, ↓stepP, ↓stepG, go_sem, c1, c2, n1])
            | (refine Pwp.seq ?_)
            | (refine Pwp.block ?_)
            | (refine Pwp.exit ?_; simp only [thenS, blockS, if_true, if_false, reduceIte, Nat.reduceEqDiff, Nat.add_one_ne_zero, reduceCtorEq])
            | (refine Pwp.skip ?_; simp only [thenS, blockS])
            | (refine Pwp.cond rfl True.intro (fun h => ?_) (fun h => ?_) <;> (try (cases h; done)) <;> (try simp only [h]))
            | (refine Pwp.ret ?_; try simp only [thenS, blockS])
            | (refine hK _ ?_; clear hK K)
            | (refine hK _ _ rfl ?_; clear hK K)
            | (refine CallK.toD (ds := [.agg [I64 d.me, .slc 8 (itemsD d.items), .slc 3 (ordersD d.orders)], .agg [I64 m.seller, I64 m.number]]) rfl (r0) rfl ?_)
            | (refine CallK.toD (ds := [.agg [I64 x.seller, I64 x.number, I64 x.buyer, I64 x.currency, I64 x.amount, I64 x.round, I64 x.state, I64 x.cycle]]) rfl (r1) rfl ?_)
            | (refine CallG.off ?_)
            | (with_reducible refine Or.inl ?_)
            | (simp only [thenS, blockS])
            | (with_reducible refine And.intro ?_ ?_)
            | (with_reducible exact True.intro)
            | (simp (dsimp := false) only [↓opsP_nil, ↓opsP_cons, ↓opsD_nil, ↓opsD_cons, ↓opP, ↓stepP, ↓stepG, go_sem, c1, c2, n1]))
          all_goals (try (first | (intro hg; simp [hg]; done) | exact of_decide_eq_true rfl | (cases h; done)))
          (refine Fin.valV V0 (by first | exact .inr rfl | exact .inl rfl) (by simp (dsimp := false) only [↓opsP_nil, ↓opsP_cons, ↓opsD_nil, ↓opsD_cons, ↓opP, ↓stepP, ↓stepG, go_sem, resL]; rfl) (by simp only [and_self]) rfl (by simp [viewH, viewP, viewL, viewO, V0, V9, V9n, VR, VN, keptOf, find, PVal.toD, subD, subL, subV, subD_refl, viewL_ds, disj, PVal.ids, pnil, List.range, List.range.loop, V8]) (by simp [resP, toDL, idsL, viewH, viewP, viewL, viewO, V0, V9, V9n, VR, VN, keptOf, find, PVal.toD, subD, subL, subV, subD_refl, viewL_ds, disj, PVal.ids, pnil, List.range, List.range.loop, V8]))
      · have c2 : (x.round != m.round) = true := by simpa using h2
        rw [if_pos (by simpa using h2)]
        simp only [deskH, deskB, deskB2, Desk.cells, Desk.book, saidD, Msg.d, Msg.cells, about, Item.d, Item.cells, List.cons_append, List.nil_append, List.map_cons, List.map_nil] at *
        refine Runs.of (kit Try.prog) Try.func180 rfl rfl (by rw [Try.ntmps180]; exact of_decide_eq_true rfl) ?_; rw [Try.ntmps180, Try.results180]
        repeat' (first
          | ((first | refine Pwp.step (kit _) rfl fun K hK => ?_ | refine Pwp.last (kit _) rfl fun K hK => ?_ | refine Pwp.stepD (kit _) rfl rfl fun K hK => ?_ | refine Pwp.lastD (kit _) rfl rfl fun K hK => ?_); simp (dsimp := false) only [↓opsP_nil, ↓opsP_cons, ↓opsD_nil, ↓opsD_cons, ↓opP, ↓stepP, ↓stepG, go_sem, c1, c2])
          | (refine Pwp.seq ?_)
          | (refine Pwp.block ?_)
          | (refine Pwp.exit ?_; simp only [thenS, blockS, if_true, if_false, reduceIte, Nat.reduceEqDiff, Nat.add_one_ne_zero, reduceCtorEq])
          | (refine Pwp.skip ?_; simp only [thenS, blockS])
          | (refine Pwp.cond rfl True.intro (fun h => ?_) (fun h => ?_) <;> (try (cases h; done)) <;> (try simp only [h]))
          | (refine Pwp.ret ?_; try simp only [thenS, blockS])
          | (refine hK _ ?_; clear hK K)
          | (refine hK _ _ rfl ?_; clear hK K)
          | (refine CallK.toD (ds := [.agg [I64 d.me, .slc 8 (itemsD d.items), .slc 3 (ordersD d.orders)], .agg [I64 m.seller, I64 m.number]]) rfl (r0) rfl ?_)
          | (refine CallG.off ?_)
          | (with_reducible refine Or.inl ?_)
          | (simp only [thenS, blockS])
          | (with_reducible refine And.intro ?_ ?_)
          | (with_reducible exact True.intro)
          | (simp (dsimp := false) only [↓opsP_nil, ↓opsP_cons, ↓opsD_nil, ↓opsD_cons, ↓opP, ↓stepP, ↓stepG, go_sem, c1, c2]))
        all_goals (try (first | (intro hg; simp [hg]; done) | exact of_decide_eq_true rfl | (cases h; done)))
        (refine Fin.valV V0 (by first | exact .inr rfl | exact .inl rfl) (by simp (dsimp := false) only [↓opsP_nil, ↓opsP_cons, ↓opsD_nil, ↓opsD_cons, ↓opP, ↓stepP, ↓stepG, go_sem, resL]; rfl) (by simp only [and_self]) rfl (by simp [viewH, viewP, viewL, viewO, V0, V9, V9n, VR, VN, keptOf, find, PVal.toD, subD, subL, subV, subD_refl, viewL_ds, disj, PVal.ids, pnil, List.range, List.range.loop, V8]) (by simp [resP, toDL, idsL, viewH, viewP, viewL, viewO, V0, V9, V9n, VR, VN, keptOf, find, PVal.toD, subD, subL, subV, subD_refl, viewL_ds, disj, PVal.ids, pnil, List.range, List.range.loop, V8]))

def orderR (d : Desk) (m : Msg) : Out := ⟨expE d.me d.orders ⟨m.seller, m.number, m.amount⟩, if expE d.me d.orders ⟨m.seller, m.number, m.amount⟩ = 0 then { d with orders := putO d.orders ⟨m.seller, m.number, m.amount⟩ } else d, none⟩
set_option maxHeartbeats 16000000 in
theorem run173 (d : Desk) (m : Msg) (from' : Int) (hl : d.orders.length ≤ 100000) : Runs Try.prog 173 [.ref 0 0, .d m.d, pint .i64 from'] [(0, deskB d)] (pint .i64 (orderR d m).e) (deskH (orderR d m).d (orderR d m).o) := by
  have r0 := run106 d.me (itemsD d.items) d.orders ⟨m.seller, m.number, m.amount⟩ (by omega)
  unfold bookO at r0
  unfold orderR
  simp only at r0 ⊢
  generalize hpo : putO d.orders ⟨m.seller, m.number, m.amount⟩ = po at *
  generalize he : expE d.me d.orders ⟨m.seller, m.number, m.amount⟩ = e at *
  clear hpo he
  by_cases h0 : e = 0
  · subst h0
    rw [if_pos rfl] at r0
    rw [if_pos rfl]
    simp only [deskH, deskB, deskB2, Desk.cells, Desk.book, saidD, Msg.d, Msg.cells, about, Item.d, Item.cells, List.cons_append, List.nil_append, List.map_cons, List.map_nil] at *
    refine Runs.of (kit Try.prog) Try.func173 rfl rfl (by rw [Try.ntmps173]; exact of_decide_eq_true rfl) ?_; rw [Try.ntmps173, Try.results173]
    repeat' (first
      | ((first | refine Pwp.step (kit _) rfl fun K hK => ?_ | refine Pwp.last (kit _) rfl fun K hK => ?_ | refine Pwp.stepD (kit _) rfl rfl fun K hK => ?_ | refine Pwp.lastD (kit _) rfl rfl fun K hK => ?_); simp (dsimp := false) only [↓opsP_nil, ↓opsP_cons, ↓opsD_nil, ↓opsD_cons, ↓opP, ↓stepP, ↓stepG, go_sem, beq_self_eq_true])
      | (refine Pwp.seq ?_)
      | (refine Pwp.block ?_)
      | (refine Pwp.exit ?_; simp only [thenS, blockS, if_true, if_false, reduceIte, Nat.reduceEqDiff, Nat.add_one_ne_zero, reduceCtorEq])
      | (refine Pwp.skip ?_; simp only [thenS, blockS])
      | (refine Pwp.cond rfl True.intro (fun h => ?_) (fun h => ?_) <;> (try (cases h; done)) <;> (try simp only [h]))
      | (refine Pwp.ret ?_; try simp only [thenS, blockS])
      | (refine hK _ ?_; clear hK K)
      | (refine hK _ _ rfl ?_; clear hK K)
      | (refine CallK.give (ds := [.agg [I64 d.me, .slc 8 (itemsD d.items), .slc 3 (ordersD d.orders)], .agg [I64 m.seller, I64 m.number], I64 m.amount]) rfl (r0) (by simp) ?_)
      | (refine CallG.off ?_)
      | (with_reducible refine Or.inl ?_)
      | (simp only [thenS, blockS])
      | (with_reducible refine And.intro ?_ ?_)
      | (with_reducible exact True.intro)
      | (simp (dsimp := false) only [↓opsP_nil, ↓opsP_cons, ↓opsD_nil, ↓opsD_cons, ↓opP, ↓stepP, ↓stepG, go_sem, beq_self_eq_true]))
    all_goals (try (first | (intro hg; simp [hg]; done) | exact of_decide_eq_true rfl | (cases h; done)))
    (refine Fin.valV V0 (by first | exact .inr rfl | exact .inl rfl) (by simp (dsimp := false) only [↓opsP_nil, ↓opsP_cons, ↓opsD_nil, ↓opsD_cons, ↓opP, ↓stepP, ↓stepG, go_sem, resL]; rfl) (by simp only [and_self]) rfl (by simp [viewH, viewP, viewL, viewO, V0, V9, V9n, VR, VN, keptOf, find, PVal.toD, subD, subL, subV, subD_refl, viewL_ds, disj, PVal.ids, pnil, List.range, List.range.loop, V8]) (by simp [resP, toDL, idsL, viewH, viewP, viewL, viewO, V0, V9, V9n, VR, VN, keptOf, find, PVal.toD, subD, subL, subV, subD_refl, viewL_ds, disj, PVal.ids, pnil, List.range, List.range.loop, V8]))
  · have n0 : (e == 0) = false := by simpa using h0
    rw [if_neg h0] at r0
    rw [if_neg h0]
    simp only [deskH, deskB, deskB2, Desk.cells, Desk.book, saidD, Msg.d, Msg.cells, about, Item.d, Item.cells, List.cons_append, List.nil_append, List.map_cons, List.map_nil] at *
    refine Runs.of (kit Try.prog) Try.func173 rfl rfl (by rw [Try.ntmps173]; exact of_decide_eq_true rfl) ?_; rw [Try.ntmps173, Try.results173]
    repeat' (first
      | ((first | refine Pwp.step (kit _) rfl fun K hK => ?_ | refine Pwp.last (kit _) rfl fun K hK => ?_ | refine Pwp.stepD (kit _) rfl rfl fun K hK => ?_ | refine Pwp.lastD (kit _) rfl rfl fun K hK => ?_); simp (dsimp := false) only [↓opsP_nil, ↓opsP_cons, ↓opsD_nil, ↓opsD_cons, ↓opP, ↓stepP, ↓stepG, go_sem, n0])
      | (refine Pwp.seq ?_)
      | (refine Pwp.block ?_)
      | (refine Pwp.exit ?_; simp only [thenS, blockS, if_true, if_false, reduceIte, Nat.reduceEqDiff, Nat.add_one_ne_zero, reduceCtorEq])
      | (refine Pwp.skip ?_; simp only [thenS, blockS])
      | (refine Pwp.cond rfl True.intro (fun h => ?_) (fun h => ?_) <;> (try (cases h; done)) <;> (try simp only [h]))
      | (refine Pwp.ret ?_; try simp only [thenS, blockS])
      | (refine hK _ ?_; clear hK K)
      | (refine hK _ _ rfl ?_; clear hK K)
      | (refine CallK.give (ds := [.agg [I64 d.me, .slc 8 (itemsD d.items), .slc 3 (ordersD d.orders)], .agg [I64 m.seller, I64 m.number], I64 m.amount]) rfl (r0) (by simp) ?_)
      | (refine CallG.off ?_)
      | (with_reducible refine Or.inl ?_)
      | (simp only [thenS, blockS])
      | (with_reducible refine And.intro ?_ ?_)
      | (with_reducible exact True.intro)
      | (simp (dsimp := false) only [↓opsP_nil, ↓opsP_cons, ↓opsD_nil, ↓opsD_cons, ↓opP, ↓stepP, ↓stepG, go_sem, n0]))
    all_goals (try (first | (intro hg; simp [hg]; done) | exact of_decide_eq_true rfl | (cases h; done)))
    (refine Fin.valV V0 (by first | exact .inr rfl | exact .inl rfl) (by simp (dsimp := false) only [↓opsP_nil, ↓opsP_cons, ↓opsD_nil, ↓opsD_cons, ↓opP, ↓stepP, ↓stepG, go_sem, resL]; rfl) (by simp only [and_self]) rfl (by simp [viewH, viewP, viewL, viewO, V0, V9, V9n, VR, VN, keptOf, find, PVal.toD, subD, subL, subV, subD_refl, viewL_ds, disj, PVal.ids, pnil, List.range, List.range.loop, V8]) (by simp [resP, toDL, idsL, viewH, viewP, viewL, viewO, V0, V9, V9n, VR, VN, keptOf, find, PVal.toD, subD, subL, subV, subD_refl, viewL_ds, disj, PVal.ids, pnil, List.range, List.range.loop, V8]))

def issueI (m : Msg) : Item := newI m.seller m.number m.buyer m.currency m.amount 0
def issueR (d : Desk) (m : Msg) : Out := if m.seller ≠ d.me then ⟨140, d, none⟩ else if isIn d.items m.seller m.number = true then ⟨5, d, none⟩ else if chk (issueI m) ≠ 0 then ⟨chk (issueI m), d, none⟩ else if putE d.me d.items (issueI m) ≠ 0 then ⟨putE d.me d.items (issueI m), d.put (issueI m), none⟩
  else ⟨0, d.put (issueI m), some (saidD (issueI m).buyer (about 6 (issueI m)))⟩
set_option maxHeartbeats 16000000 in
theorem run172 (d : Desk) (m : Msg) (from' : Int) (hl : d.items.length ≤ 100000) : Runs Try.prog 172 [.ref 0 0, .d m.d, pint .i64 from'] [(0, deskB d)] (pint .i64 (issueR d m).e) (deskH (issueR d m).d (issueR d m).o) := by
  have r0 := run65 d.me d.items (ordersD d.orders) m.seller m.number (by omega)
  unfold bookD at r0
  have r1 := run216 m.seller m.number m.buyer m.currency m.amount
  have r3 := run217 d (issueI m) hl
  have r2 := run218 (d.put (issueI m)) (issueI m).buyer 6 (issueI m)
  unfold issueR
  change Runs Try.prog 216 _ _ (.d (.tup [(if chk (issueI m) = 0 then issueI m else Item.zero).d, I64 (chk (issueI m))])) _ at r1
  generalize hx : getI d.items m.seller m.number = x at *
  generalize hi : isIn d.items m.seller m.number = b at *
  generalize hpe : putE d.me d.items (issueI m) = pe at *
  generalize hpd : d.put (issueI m) = d2 at *
  generalize hc : chk (issueI m) = e1 at *
  generalize hy : issueI m = y at *
  clear hy hx hi hpe hpd hc
  by_cases h0 : m.seller = d.me
  · have c0 : (m.seller != d.me) = false := by simp [h0]
    rw [if_neg (by simpa using h0)]
    cases b with
    | true =>
      rw [if_pos rfl]
      simp only [deskH, deskB, deskB2, Desk.cells, Desk.book, saidD, Msg.d, Msg.cells, about, Item.d, Item.cells, List.cons_append, List.nil_append, List.map_cons, List.map_nil] at *
      refine Runs.of (kit Try.prog) Try.func172 rfl rfl (by rw [Try.ntmps172]; exact of_decide_eq_true rfl) ?_; rw [Try.ntmps172, Try.results172]
      repeat' (first
        | ((first | refine Pwp.step (kit _) rfl fun K hK => ?_ | refine Pwp.last (kit _) rfl fun K hK => ?_ | refine Pwp.stepD (kit _) rfl rfl fun K hK => ?_ | refine Pwp.lastD (kit _) rfl rfl fun K hK => ?_); simp (dsimp := false) only [↓opsP_nil, ↓opsP_cons, ↓opsD_nil, ↓opsD_cons, ↓opP, ↓stepP, ↓stepG, go_sem, c0])
        | (refine Pwp.seq ?_)
        | (refine Pwp.block ?_)
        | (refine Pwp.exit ?_; simp only [thenS, blockS, if_true, if_false, reduceIte, Nat.reduceEqDiff, Nat.add_one_ne_zero, reduceCtorEq])
        | (refine Pwp.skip ?_; simp only [thenS, blockS])
        | (refine Pwp.cond rfl True.intro (fun h => ?_) (fun h => ?_) <;> (try (cases h; done)) <;> (try simp only [h]))
        | (refine Pwp.ret ?_; try simp only [thenS, blockS])
        | (refine hK _ ?_; clear hK K)
        | (refine hK _ _ rfl ?_; clear hK K)
        | (refine CallK.toD (ds := [.agg [I64 d.me, .slc 8 (itemsD d.items), .slc 3 (ordersD d.orders)], .agg [I64 m.seller, I64 m.number]]) rfl (r0) rfl ?_)
        | (refine CallG.off ?_)
        | (with_reducible refine Or.inl ?_)
        | (simp only [thenS, blockS])
        | (with_reducible refine And.intro ?_ ?_)
        | (with_reducible exact True.intro)
        | (simp (dsimp := false) only [↓opsP_nil, ↓opsP_cons, ↓opsD_nil, ↓opsD_cons, ↓opP, ↓stepP, ↓stepG, go_sem, c0]))
      all_goals (try (first | (intro hg; simp [hg]; done) | exact of_decide_eq_true rfl | (cases h; done)))
      (refine Fin.valV V0 (by first | exact .inr rfl | exact .inl rfl) (by simp (dsimp := false) only [↓opsP_nil, ↓opsP_cons, ↓opsD_nil, ↓opsD_cons, ↓opP, ↓stepP, ↓stepG, go_sem, resL]; rfl) (by simp only [and_self]) rfl (by simp [viewH, viewP, viewL, viewO, V0, V9, V9n, VR, VN, keptOf, find, PVal.toD, subD, subL, subV, subD_refl, viewL_ds, disj, PVal.ids, pnil, List.range, List.range.loop, V8]) (by simp [resP, toDL, idsL, viewH, viewP, viewL, viewO, V0, V9, V9n, VR, VN, keptOf, find, PVal.toD, subD, subL, subV, subD_refl, viewL_ds, disj, PVal.ids, pnil, List.range, List.range.loop, V8]))
    | false =>
      rw [if_neg (by simp)]
      by_cases h1 : e1 = 0
      · subst h1
        rw [if_pos rfl] at r1
        rw [if_neg (by simp)]
        by_cases h2 : pe = 0
        · subst h2
          rw [if_neg (by simp)]
          simp only [deskH, deskB, deskB2, Desk.cells, Desk.book, saidD, Msg.d, Msg.cells, about, Item.d, Item.cells, List.cons_append, List.nil_append, List.map_cons, List.map_nil] at *
          refine Runs.of (kit Try.prog) Try.func172 rfl rfl (by rw [Try.ntmps172]; exact of_decide_eq_true rfl) ?_; rw [Try.ntmps172, Try.results172]
          repeat' (first
            | ((first | refine Pwp.step (kit _) rfl fun K hK => ?_ | refine Pwp.last (kit _) rfl fun K hK => ?_ | refine Pwp.stepD (kit _) rfl rfl fun K hK => ?_ | refine Pwp.lastD (kit _) rfl rfl fun K hK => ?_); simp (dsimp := false) only [↓opsP_nil, ↓opsP_cons, ↓opsD_nil, ↓opsD_cons, ↓opP, ↓stepP, ↓stepG, go_sem, c0, bne_self_eq_false])
            | (refine Pwp.seq ?_)
            | (refine Pwp.block ?_)
            | (refine Pwp.exit ?_; simp only [thenS, blockS, if_true, if_false, reduceIte, Nat.reduceEqDiff, Nat.add_one_ne_zero, reduceCtorEq])
            | (refine Pwp.skip ?_; simp only [thenS, blockS])
            | (refine Pwp.cond rfl True.intro (fun h => ?_) (fun h => ?_) <;> (try (cases h; done)) <;> (try simp only [h]))
            | (refine Pwp.ret ?_; try simp only [thenS, blockS])
            | (refine hK _ ?_; clear hK K)
            | (refine hK _ _ rfl ?_; clear hK K)
            | (refine CallK.desk (cs := [I64 d.me, .slc 8 (itemsD d.items), .slc 3 (ordersD d.orders), I64 d.far, nilD]) rfl rfl rfl r3 (by simp) ?_)
            | (refine CallK.desk (cs := [I64 d2.me, .slc 8 (itemsD d2.items), .slc 3 (ordersD d2.orders), I64 d2.far, nilD]) rfl rfl rfl r2 (by simp) ?_)
            | (refine CallK.toD (ds := [.agg [I64 d.me, .slc 8 (itemsD d.items), .slc 3 (ordersD d.orders)], .agg [I64 m.seller, I64 m.number]]) rfl (r0) rfl ?_)
            | (refine CallK.toD (ds := [.agg [I64 m.seller, I64 m.number], I64 m.buyer, I64 m.currency, I64 m.amount]) rfl (r1) rfl ?_)
            | (refine CallG.off ?_)
            | (with_reducible refine Or.inl ?_)
            | (simp only [thenS, blockS])
            | (with_reducible refine And.intro ?_ ?_)
            | (with_reducible exact True.intro)
            | (simp (dsimp := false) only [↓opsP_nil, ↓opsP_cons, ↓opsD_nil, ↓opsD_cons, ↓opP, ↓stepP, ↓stepG, go_sem, c0, bne_self_eq_false]))
          all_goals (try (first | (intro hg; simp [hg]; done) | exact of_decide_eq_true rfl | (cases h; done)))
          (refine Fin.valV (V8 204 0) (by first | exact .inr rfl | exact .inl rfl) (by simp (dsimp := false) only [↓opsP_nil, ↓opsP_cons, ↓opsD_nil, ↓opsD_cons, ↓opP, ↓stepP, ↓stepG, go_sem, resL]; rfl) (by simp only [and_self]) rfl (by simp [viewH, viewP, viewL, viewO, V0, V9, V9n, VR, VN, keptOf, find, PVal.toD, subD, subL, subV, subD_refl, viewL_ds, disj, PVal.ids, pnil, List.range, List.range.loop, V8]) (by simp [resP, toDL, idsL, viewH, viewP, viewL, viewO, V0, V9, V9n, VR, VN, keptOf, find, PVal.toD, subD, subL, subV, subD_refl, viewL_ds, disj, PVal.ids, pnil, List.range, List.range.loop, V8]))
        · have n2 : (pe != 0) = true := by simpa using h2
          rw [if_pos h2]
          simp only [deskH, deskB, deskB2, Desk.cells, Desk.book, saidD, Msg.d, Msg.cells, about, Item.d, Item.cells, List.cons_append, List.nil_append, List.map_cons, List.map_nil] at *
          refine Runs.of (kit Try.prog) Try.func172 rfl rfl (by rw [Try.ntmps172]; exact of_decide_eq_true rfl) ?_; rw [Try.ntmps172, Try.results172]
          repeat' (first
            | ((first | refine Pwp.step (kit _) rfl fun K hK => ?_ | refine Pwp.last (kit _) rfl fun K hK => ?_ | refine Pwp.stepD (kit _) rfl rfl fun K hK => ?_ | refine Pwp.lastD (kit _) rfl rfl fun K hK => ?_); simp (dsimp := false) only [↓opsP_nil, ↓opsP_cons, ↓opsD_nil, ↓opsD_cons, ↓opP, ↓stepP, ↓stepG, go_sem, c0, n2, bne_self_eq_false])
            | (refine Pwp.seq ?_)
            | (refine Pwp.block ?_)
            | (refine Pwp.exit ?_; simp only [thenS, blockS, if_true, if_false, reduceIte, Nat.reduceEqDiff, Nat.add_one_ne_zero, reduceCtorEq])
            | (refine Pwp.skip ?_; simp only [thenS, blockS])
            | (refine Pwp.cond rfl True.intro (fun h => ?_) (fun h => ?_) <;> (try (cases h; done)) <;> (try simp only [h]))
            | (refine Pwp.ret ?_; try simp only [thenS, blockS])
            | (refine hK _ ?_; clear hK K)
            | (refine hK _ _ rfl ?_; clear hK K)
            | (refine CallK.desk (cs := [I64 d.me, .slc 8 (itemsD d.items), .slc 3 (ordersD d.orders), I64 d.far, nilD]) rfl rfl rfl r3 (by simp) ?_)
            | (refine CallK.toD (ds := [.agg [I64 d.me, .slc 8 (itemsD d.items), .slc 3 (ordersD d.orders)], .agg [I64 m.seller, I64 m.number]]) rfl (r0) rfl ?_)
            | (refine CallK.toD (ds := [.agg [I64 m.seller, I64 m.number], I64 m.buyer, I64 m.currency, I64 m.amount]) rfl (r1) rfl ?_)
            | (refine CallG.off ?_)
            | (with_reducible refine Or.inl ?_)
            | (simp only [thenS, blockS])
            | (with_reducible refine And.intro ?_ ?_)
            | (with_reducible exact True.intro)
            | (simp (dsimp := false) only [↓opsP_nil, ↓opsP_cons, ↓opsD_nil, ↓opsD_cons, ↓opP, ↓stepP, ↓stepG, go_sem, c0, n2, bne_self_eq_false]))
          all_goals (try (first | (intro hg; simp [hg]; done) | exact of_decide_eq_true rfl | (cases h; done)))
          (refine Fin.valV V0 (by first | exact .inr rfl | exact .inl rfl) (by simp (dsimp := false) only [↓opsP_nil, ↓opsP_cons, ↓opsD_nil, ↓opsD_cons, ↓opP, ↓stepP, ↓stepG, go_sem, resL]; rfl) (by simp only [and_self]) rfl (by simp [viewH, viewP, viewL, viewO, V0, V9, V9n, VR, VN, keptOf, find, PVal.toD, subD, subL, subV, subD_refl, viewL_ds, disj, PVal.ids, pnil, List.range, List.range.loop, V8]) (by simp [resP, toDL, idsL, viewH, viewP, viewL, viewO, V0, V9, V9n, VR, VN, keptOf, find, PVal.toD, subD, subL, subV, subD_refl, viewL_ds, disj, PVal.ids, pnil, List.range, List.range.loop, V8]))
      · have n1 : (e1 != 0) = true := by simpa using h1
        rw [if_neg h1] at r1
        rw [if_pos h1]
        unfold Item.zero at r1
        simp only [deskH, deskB, deskB2, Desk.cells, Desk.book, saidD, Msg.d, Msg.cells, about, Item.d, Item.cells, List.cons_append, List.nil_append, List.map_cons, List.map_nil] at *
        refine Runs.of (kit Try.prog) Try.func172 rfl rfl (by rw [Try.ntmps172]; exact of_decide_eq_true rfl) ?_; rw [Try.ntmps172, Try.results172]
        repeat' (first
          | ((first | refine Pwp.step (kit _) rfl fun K hK => ?_ | refine Pwp.last (kit _) rfl fun K hK => ?_ | refine Pwp.stepD (kit _) rfl rfl fun K hK => ?_ | refine Pwp.lastD (kit _) rfl rfl fun K hK => ?_); simp (dsimp := false) only [↓opsP_nil, ↓opsP_cons, ↓opsD_nil, ↓opsD_cons, ↓opP, ↓stepP, ↓stepG, go_sem, c0, n1])
          | (refine Pwp.seq ?_)
          | (refine Pwp.block ?_)
          | (refine Pwp.exit ?_; simp only [thenS, blockS, if_true, if_false, reduceIte, Nat.reduceEqDiff, Nat.add_one_ne_zero, reduceCtorEq])
          | (refine Pwp.skip ?_; simp only [thenS, blockS])
          | (refine Pwp.cond rfl True.intro (fun h => ?_) (fun h => ?_) <;> (try (cases h; done)) <;> (try simp only [h]))
          | (refine Pwp.ret ?_; try simp only [thenS, blockS])
          | (refine hK _ ?_; clear hK K)
          | (refine hK _ _ rfl ?_; clear hK K)
          | (refine CallK.toD (ds := [.agg [I64 d.me, .slc 8 (itemsD d.items), .slc 3 (ordersD d.orders)], .agg [I64 m.seller, I64 m.number]]) rfl (r0) rfl ?_)
          | (refine CallK.toD (ds := [.agg [I64 m.seller, I64 m.number], I64 m.buyer, I64 m.currency, I64 m.amount]) rfl (r1) rfl ?_)
          | (refine CallG.off ?_)
          | (with_reducible refine Or.inl ?_)
          | (simp only [thenS, blockS])
          | (with_reducible refine And.intro ?_ ?_)
          | (with_reducible exact True.intro)
          | (simp (dsimp := false) only [↓opsP_nil, ↓opsP_cons, ↓opsD_nil, ↓opsD_cons, ↓opP, ↓stepP, ↓stepG, go_sem, c0, n1]))
        all_goals (try (first | (intro hg; simp [hg]; done) | exact of_decide_eq_true rfl | (cases h; done)))
        (refine Fin.valV V0 (by first | exact .inr rfl | exact .inl rfl) (by simp (dsimp := false) only [↓opsP_nil, ↓opsP_cons, ↓opsD_nil, ↓opsD_cons, ↓opP, ↓stepP, ↓stepG, go_sem, resL]; rfl) (by simp only [and_self]) rfl (by simp [viewH, viewP, viewL, viewO, V0, V9, V9n, VR, VN, keptOf, find, PVal.toD, subD, subL, subV, subD_refl, viewL_ds, disj, PVal.ids, pnil, List.range, List.range.loop, V8]) (by simp [resP, toDL, idsL, viewH, viewP, viewL, viewO, V0, V9, V9n, VR, VN, keptOf, find, PVal.toD, subD, subL, subV, subD_refl, viewL_ds, disj, PVal.ids, pnil, List.range, List.range.loop, V8]))
  · have c0 : (m.seller != d.me) = true := by simpa using h0
    rw [if_pos (by simpa using h0)]
    simp only [deskH, deskB, deskB2, Desk.cells, Desk.book, saidD, Msg.d, Msg.cells, about, Item.d, Item.cells, List.cons_append, List.nil_append, List.map_cons, List.map_nil] at *
    refine Runs.of (kit Try.prog) Try.func172 rfl rfl (by rw [Try.ntmps172]; exact of_decide_eq_true rfl) ?_; rw [Try.ntmps172, Try.results172]
    repeat' (first
      | ((first | refine Pwp.step (kit _) rfl fun K hK => ?_ | refine Pwp.last (kit _) rfl fun K hK => ?_ | refine Pwp.stepD (kit _) rfl rfl fun K hK => ?_ | refine Pwp.lastD (kit _) rfl rfl fun K hK => ?_); simp (dsimp := false) only [↓opsP_nil, ↓opsP_cons, ↓opsD_nil, ↓opsD_cons, ↓opP, ↓stepP, ↓stepG, go_sem, c0])
      | (refine Pwp.seq ?_)
      | (refine Pwp.block ?_)
      | (refine Pwp.exit ?_; simp only [thenS, blockS, if_true, if_false, reduceIte, Nat.reduceEqDiff, Nat.add_one_ne_zero, reduceCtorEq])
      | (refine Pwp.skip ?_; simp only [thenS, blockS])
      | (refine Pwp.cond rfl True.intro (fun h => ?_) (fun h => ?_) <;> (try (cases h; done)) <;> (try simp only [h]))
      | (refine Pwp.ret ?_; try simp only [thenS, blockS])
      | (refine hK _ ?_; clear hK K)
      | (refine hK _ _ rfl ?_; clear hK K)
      | (refine CallG.off ?_)
      | (with_reducible refine Or.inl ?_)
      | (simp only [thenS, blockS])
      | (with_reducible refine And.intro ?_ ?_)
      | (with_reducible exact True.intro)
      | (simp (dsimp := false) only [↓opsP_nil, ↓opsP_cons, ↓opsD_nil, ↓opsD_cons, ↓opP, ↓stepP, ↓stepG, go_sem, c0]))
    all_goals (try (first | (intro hg; simp [hg]; done) | exact of_decide_eq_true rfl | (cases h; done)))
    (refine Fin.valV V0 (by first | exact .inr rfl | exact .inl rfl) (by simp (dsimp := false) only [↓opsP_nil, ↓opsP_cons, ↓opsD_nil, ↓opsD_cons, ↓opP, ↓stepP, ↓stepG, go_sem, resL]; rfl) (by simp only [and_self]) rfl (by simp [viewH, viewP, viewL, viewO, V0, V9, V9n, VR, VN, keptOf, find, PVal.toD, subD, subL, subV, subD_refl, viewL_ds, disj, PVal.ids, pnil, List.range, List.range.loop, V8]) (by simp [resP, toDL, idsL, viewH, viewP, viewL, viewO, V0, V9, V9n, VR, VN, keptOf, find, PVal.toD, subD, subL, subV, subD_refl, viewL_ds, disj, PVal.ids, pnil, List.range, List.range.loop, V8]))

end Go.Proofs.Ytdodgbhodkcckaa.Pv
