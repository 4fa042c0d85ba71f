/- Walks of an entity's part in cycles: the statement that no item is in two cycles at once, and none goes back. -/
import Derived.Test.YtdodgbhodkcckaaPoq
set_option linter.unusedVariables false
set_option linter.unusedSimpArgs false
set_option autoImplicit false
set_option maxRecDepth 100000
namespace Go.Proofs.Ytdodgbhodkcckaa.Pv
open Go Go.RowKit

def L22 (ws : List VW) (pl : List Part) (l : List Item) (i : Nat) : St := ⟨[(41, pint .i64 i), (40, pint .i64 ws.length), (39, .d (.slc 12 (vwsD ws))), (8, .ref 81 0), (5, .ref 42 0)], [(42, bxB l), (81, bxP pl)], 104⟩
def L22b (ws : List VW) (w : VW) (l : List Item) (pl' : List Part) (l' : List Item) (e : Int) (o : Option D) (i k : Nat) : St :=
  ⟨[(63, pint .i64 k), (62, pint .i64 l.length), (61, .d (.slc 8 (itemsD l))), (41, pint .i64 i), (40, pint .i64 ws.length), (39, .d (.slc 12 (vwsD ws))), (15, .d (I64 e)), (14, .d (.slc 12 o.toList)), (11, .ref 125 0), (10, .ref 110 0), (8, .ref 81 0), (5, .ref 42 0)],
   [(42, bxB l'), (81, bxP pl'), (110, bxW w), (125, bxB l)], 240⟩
def L22c (ws : List VW) (w : VW) (l : List Item) (pl' : List Part) (l' : List Item) (o : List D) (i j : Nat) : St :=
  ⟨[(115, pint .i64 j), (114, pint .i64 o.length), (113, .d (.slc 12 o)), (41, pint .i64 i), (40, pint .i64 ws.length), (39, .d (.slc 12 (vwsD ws))), (11, .ref 125 0), (10, .ref 110 0), (8, .ref 81 0), (5, .ref 42 0)],
   [(42, bxB l'), (81, bxP pl'), (110, bxW w), (125, bxB l)], 472⟩
def L22d (ws : List VW) (w : VW) (l : List Item) (pl' : List Part) (l' : List Item) (to : Int) (m : Msg) (q : D) (n : Nat) (o : List D) (i j k : Nat) : St :=
  ⟨[(123, pint .i64 k), (122, pint .i64 n), (121, .d q), (115, pint .i64 j), (114, pint .i64 o.length), (113, .d (.slc 12 o)), (41, pint .i64 i), (40, pint .i64 ws.length), (39, .d (.slc 12 (vwsD ws))), (21, .ref 478 0), (11, .ref 125 0), (10, .ref 110 0), (8, .ref 81 0), (5, .ref 42 0)],
   [(42, bxB l'), (81, bxP pl'), (110, bxW w), (125, bxB l), (478, bxS to m)], 512⟩
/-- As far as they were played. -/
structure At22 (pl : List Part) (l : List Item) (i n : Nat) : Prop where
  g : Good 0 l
  p : PGd ⟨0, 3, pl⟩ i
  n : l.length ≤ n
set_option maxHeartbeats 64000000 in
theorem run22 (a : List Item) (ws : List VW) : Runs Try.prog 22 [.d (.slc 8 (itemsD a)), .d (.slc 12 (vwsD ws))] [] (pbool true) [] := by
  have r67 := run67
  have r68 := run68 a ws
  have hvl := vws_len ws
  cases hf : fitsV a ws with
  | false =>
    rw [hf] at r68
    refine Runs.of (kit Try.prog) Try.func22 rfl rfl (by rw [Try.ntmps22]; exact of_decide_eq_true rfl) ?_; rw [Try.ntmps22, Try.results22]
    repeat' (first
      | ((first | refine Pwp.step (kit _) rfl fun K hK => ?_ | refine Pwp.last (kit _) rfl fun K hK => ?_ | refine Pwp.stepD (kit _) rfl rfl fun K hK => ?_ | refine Pwp.lastD (kit _) rfl rfl fun K hK => ?_); simp (dsimp := false) only [↓opsP_nil, ↓opsP_cons, ↓opsD_nil, ↓opsD_cons, ↓opP, ↓stepP, ↓stepG, go_sem, Bool.not_true, Bool.not_false])
      | (refine Pwp.seq ?_)
      | (refine Pwp.block ?_)
      | (refine Pwp.exit ?_; simp only [thenS, blockS, if_true, if_false, reduceIte, Nat.reduceEqDiff, Nat.add_one_ne_zero, reduceCtorEq])
      | (refine Pwp.skip ?_; simp only [thenS, blockS])
      | (refine Pwp.cond rfl True.intro (fun h => ?_) (fun h => ?_) <;> (try (cases h; done)) <;> (try simp only [h]))
      | (refine Pwp.ret ?_; try simp only [thenS, blockS])
      | (refine hK _ ?_; clear hK K)
      | (refine hK _ _ rfl ?_; clear hK K)
      | (refine CallK.toD (ds := []) rfl (r67) rfl ?_)
      | (refine CallK.toD (ds := [.slc 8 (itemsD a), .slc 12 (vwsD ws)]) rfl (r68) rfl ?_)
      | (refine CallG.off ?_)
      | (with_reducible refine Or.inl ?_)
      | (simp only [thenS, blockS])
      | (with_reducible refine And.intro ?_ ?_)
      | (with_reducible exact True.intro)
      | (simp (dsimp := false) only [↓opsP_nil, ↓opsP_cons, ↓opsD_nil, ↓opsD_cons, ↓opP, ↓stepP, ↓stepG, go_sem, Bool.not_true, Bool.not_false]))
    all_goals (try (first | (intro hg; simp [hg]; done) | exact of_decide_eq_true rfl | (cases h; done)))
    (refine Fin.data (.inr rfl) (by simp (dsimp := false) only [↓opsP_nil, ↓opsP_cons, ↓opsD_nil, ↓opsD_cons, ↓opP, ↓stepP, ↓stepG, go_sem, resL]; rfl) (by simp only [and_self]) (by simp (dsimp := false) only [↓opsP_nil, ↓opsP_cons, ↓opsD_nil, ↓opsD_cons, ↓opP, ↓stepP, ↓stepG, go_sem, resP, Nat.le_refl, List.take_length]; try rfl) ?_)
    exact subD_refl _
  | true =>
    rw [hf] at r68
    have hf2 := hf
    simp only [fitsV, Bool.and_eq_true, Bool.not_eq_true', Bool.or_eq_false_iff, decide_eq_false_iff_not, List.all_eq_true] at hf2
    obtain ⟨⟨ha, hw⟩, hall⟩ := hf2
    have r69 := run69 a (by omega)
    have hfl := fill_len a
    simp only [bookD, rdD, RDesk.d, RDesk.cells] at r69
    refine Runs.of (kit Try.prog) Try.func22 rfl rfl (by rw [Try.ntmps22]; exact of_decide_eq_true rfl) ?_; rw [Try.ntmps22, Try.results22]
    repeat' (first
      | ((first | refine Pwp.step (kit _) rfl fun K hK => ?_ | refine Pwp.last (kit _) rfl fun K hK => ?_ | refine Pwp.stepD (kit _) rfl rfl fun K hK => ?_ | refine Pwp.lastD (kit _) rfl rfl fun K hK => ?_); simp (dsimp := false) only [↓opsP_nil, ↓opsP_cons, ↓opsD_nil, ↓opsD_cons, ↓opP, ↓stepP, ↓stepG, go_sem, Bool.not_true, Bool.not_false, hvl])
      | (refine Pwp.seq ?_)
      | (refine Pwp.block ?_)
      | (refine Pwp.exit ?_; simp only [thenS, blockS, if_true, if_false, reduceIte, Nat.reduceEqDiff, Nat.add_one_ne_zero, reduceCtorEq])
      | (refine Pwp.skip ?_; simp only [thenS, blockS])
      | (refine Pwp.cond rfl True.intro (fun h => ?_) (fun h => ?_) <;> (try (cases h; done)) <;> (try simp only [h]))
      | (refine Pwp.ret ?_; try simp only [thenS, blockS])
      | (refine hK _ ?_; clear hK K)
      | (refine hK _ _ rfl ?_; clear hK K)
      | (refine CallK.toD (ds := []) rfl (r67) rfl ?_)
      | (refine CallK.toD (ds := [.slc 8 (itemsD a), .slc 12 (vwsD ws)]) rfl (r68) rfl ?_)
      | (refine CallK.give (ds := [.slc 8 (itemsD a)]) rfl (r69) (by simp) ?_)
      | (refine CallG.off ?_)
      | (with_reducible refine Or.inl ?_)
      | (simp only [thenS, blockS])
      | (with_reducible refine And.intro ?_ ?_)
      | (with_reducible exact True.intro)
      | (simp (dsimp := false) only [↓opsP_nil, ↓opsP_cons, ↓opsD_nil, ↓opsD_cons, ↓opP, ↓stepP, ↓stepG, go_sem, Bool.not_true, Bool.not_false, hvl]))
    all_goals (try (first | (intro hg; simp [hg]; done) | exact of_decide_eq_true rfl | (cases h; done)))
    refine Pwp.rangeI ws.length (fun i s => ∃ pl l, At22 pl l i a.length ∧ s = L22 ws pl l i) (s0 := L22 ws [] (fillS a).1 0) (Sub.view V0 (by simp [L22]) rfl (by simp [viewH, viewP, viewL, viewO, V0, V9, V9n, VR, VN, keptOf, find, PVal.toD, subD, subL, subV, subD_refl, viewL_ds, disj, PVal.ids, pnil, List.range, List.range.loop, L22, bxB, bxP, partsL, hvl]) (by simp [viewT, St.ev, viewH, viewP, viewL, viewO, V0, V9, V9n, VR, VN, keptOf, find, PVal.toD, subD, subL, subV, subD_refl, viewL_ds, disj, PVal.ids, pnil, List.range, List.range.loop, L22, bxB, bxP, partsL, hvl])) ⟨[], _, ⟨fill_good a, ⟨List.Pairwise.nil, by simp, by simp⟩, hfl.1⟩, rfl⟩ ?_ ?_
    · rintro i s hi ⟨pl, l, hA, rfl⟩
      obtain ⟨w, hx, hm⟩ := at_lt hi
      have hg := vws_get hx
      have c1 := dlt hi
      have w1 := wrap_succ (i := i) (by omega)
      have hwl := hall w hm
      simp only [badW, Bool.not_eq_true', Bool.or_eq_false_iff, decide_eq_false_iff_not] at hwl
      have hll := hA.n
      have hlen := items_len l
      have hpp := hA.p.pl
      simp only at hpp
      have r70 := run70 ⟨0, 3, pl⟩ 0 l [] w.m w.from' hA.g (by omega) (by simp only; omega) (fun x hx => by have := hA.p.ls x hx; omega) (by omega) (by omega)
      have hstep := voteR_step (p := ⟨0, 3, pl⟩) (m := w.m) (f := w.from') hA.g
      have hsaid := voteR_said (p := ⟨0, 3, pl⟩) (m := w.m) (f := w.from') hA.g
      have hinv := voteR_inv (p := ⟨0, 3, pl⟩) (m := w.m) (f := w.from') hA.g hA.p (by omega)
      generalize voteR ⟨0, 3, pl⟩ l w.m w.from' = R at *
      obtain ⟨e, ⟨pm, pn, pl'⟩, l', o⟩ := R
      simp only at hinv hstep hsaid
      obtain ⟨i1, i2, i3, rfl, rfl⟩ := hinv
      simp only [vOutD, VP.d, VP.cells, bookD, VMsg.msg, Msg.d, Msg.cells] at r70
      have hA' : At22 pl' l' (i + 1) a.length := ⟨i1, i3, by omega⟩
      unfold L22 bxB bxP
      repeat' (first
        | ((first | refine Pwp.step (kit _) rfl fun K hK => ?_ | refine Pwp.last (kit _) rfl fun K hK => ?_ | refine Pwp.stepD (kit _) rfl rfl fun K hK => ?_ | refine Pwp.lastD (kit _) rfl rfl fun K hK => ?_); simp (dsimp := false) only [↓opsP_nil, ↓opsP_cons, ↓opsD_nil, ↓opsD_cons, ↓opP, ↓stepP, ↓stepG, go_sem, hg, c1, hlen])
        | (refine Pwp.seq ?_)
        | (refine Pwp.block ?_)
        | (refine Pwp.exit ?_; simp only [thenS, blockS, if_true, if_false, reduceIte, Nat.reduceEqDiff, Nat.add_one_ne_zero, reduceCtorEq])
        | (refine Pwp.skip ?_; simp only [thenS, blockS])
        | (refine Pwp.cond rfl True.intro (fun h => ?_) (fun h => ?_) <;> (try (cases h; done)) <;> (try simp only [h]))
        | (refine Pwp.ret ?_; try simp only [thenS, blockS])
        | (refine hK _ ?_; clear hK K)
        | (refine hK _ _ rfl ?_; clear hK K)
        | (refine CallK.give (ds := [.agg [I64 0, I64 3, .slc 4 (partsL pl)], .agg [I64 0, .slc 8 (itemsD l), .slc 3 []], .agg [I64 w.m.kind, I64 w.m.seller, I64 w.m.number, I64 w.m.buyer, I64 w.m.currency, I64 w.m.round, I64 w.m.cycle, I64 w.m.amount, .v (.bool w.m.yes), .slc 4 (linesD w.m.ls), .slc 1 (w.m.ns.map I64)], I64 w.from']) rfl (r70) (by simp) ?_)
        | (refine CallG.off ?_)
        | (with_reducible refine Or.inl ?_)
        | (simp only [thenS, blockS])
        | (with_reducible refine And.intro ?_ ?_)
        | (with_reducible exact True.intro)
        | (simp (dsimp := false) only [↓opsP_nil, ↓opsP_cons, ↓opsD_nil, ↓opsD_cons, ↓opP, ↓stepP, ↓stepG, go_sem, hg, c1, hlen]))
      all_goals (try (first | (intro hg; simp [hg]; done) | exact of_decide_eq_true rfl | (cases h; done)))
      refine Pwp.range l.length (S := L22b ws w l pl' l' e o i) (Sub.view V0 (by simp [L22b]) rfl (by simp [viewH, viewP, viewL, viewO, V0, V9, V9n, VR, VN, keptOf, find, PVal.toD, subD, subL, subV, subD_refl, viewL_ds, disj, PVal.ids, pnil, List.range, List.range.loop, L22b, bxB, bxP, bxW]) (by simp [viewT, St.ev, viewH, viewP, viewL, viewO, V0, V9, V9n, VR, VN, keptOf, find, PVal.toD, subD, subL, subV, subD_refl, viewL_ds, disj, PVal.ids, pnil, List.range, List.range.loop, L22b, bxB, bxP, bxW])) (fun k hk => ?_) ?_
      · obtain ⟨x, hxx, hxm⟩ := at_lt hk
        have hgx := items_at hxx
        have c2 := dlt hk
        have w2 := wrap_succ (i := k) (by omega)
        obtain ⟨t1, t2⟩ := hstep x hxm
        have hfx := hA.g.fine x hxm
        have r65 := run65 0 l' [] x.seller x.number (by omega)
        have hfy := i1.fine _ (get_mem i1 hfx.num t1).1
        have hq := badS_no t2
        rw [t1] at r65
        generalize getI l' x.seller x.number = y at *
        have r75x := run75 x hfx
        have r75y := run75 y hfy
        unfold badS eqItm at hq
        generalize rankI x = rx at *
        generalize rankI y = ry at *
        unfold bookD Item.d Item.cells at r65
        unfold Item.d Item.cells at r75x r75y
        unfold L22b bxB bxP bxW
        repeat' (first
          | ((first | refine Pwp.step (kit _) rfl fun K hK => ?_ | refine Pwp.last (kit _) rfl fun K hK => ?_ | refine Pwp.stepD (kit _) rfl rfl fun K hK => ?_ | refine Pwp.lastD (kit _) rfl rfl fun K hK => ?_); simp (dsimp := false) only [↓opsP_nil, ↓opsP_cons, ↓opsD_nil, ↓opsD_cons, ↓opP, ↓stepP, ↓stepG, go_sem, hgx, c2, w2, hq, Bool.not_true, Bool.false_or])
          | (refine Pwp.seq ?_)
          | (refine Pwp.block ?_)
          | (refine Pwp.exit ?_; simp only [thenS, blockS, if_true, if_false, reduceIte, Nat.reduceEqDiff, Nat.add_one_ne_zero, reduceCtorEq])
          | (refine Pwp.skip ?_; simp only [thenS, blockS])
          | (refine Pwp.cond rfl True.intro (fun h => ?_) (fun h => ?_) <;> (try (cases h; done)) <;> (try simp only [h]))
          | (refine Pwp.ret ?_; try simp only [thenS, blockS])
          | (refine hK _ ?_; clear hK K)
          | (refine hK _ _ rfl ?_; clear hK K)
          | (refine CallK.toD (ds := [.agg [I64 0, .slc 8 (itemsD l'), .slc 3 []], .agg [I64 x.seller, I64 x.number]]) rfl (r65) rfl ?_)
          | (refine CallG.toD (ds := [.agg [I64 x.seller, I64 x.number, I64 x.buyer, I64 x.currency, I64 x.amount, I64 x.round, I64 x.state, I64 x.cycle]]) rfl (r75x) rfl ?_ ?_)
          | (refine CallG.toD (ds := [.agg [I64 y.seller, I64 y.number, I64 y.buyer, I64 y.currency, I64 y.amount, I64 y.round, I64 y.state, I64 y.cycle]]) rfl (r75y) rfl ?_ ?_)
          | (refine CallG.off ?_)
          | (with_reducible refine Or.inl ?_)
          | (simp only [thenS, blockS])
          | (with_reducible refine And.intro ?_ ?_)
          | (with_reducible exact True.intro)
          | (simp (dsimp := false) only [↓opsP_nil, ↓opsP_cons, ↓opsD_nil, ↓opsD_cons, ↓opP, ↓stepP, ↓stepG, go_sem, hgx, c2, w2, hq, Bool.not_true, Bool.false_or]))
        all_goals (try (first | (intro hg; simp [hg]; done) | exact of_decide_eq_true rfl | (cases h; done)))
        all_goals (try (intro hg; simp only [hg, Bool.not_false, Bool.not_true, Bool.and_self, Bool.true_and, Bool.and_true, true_and, and_self, imp_self, implies_true]; done))
        exact Sub.view V0 (by simp [L22b]) rfl (by simp [viewH, viewP, viewL, viewO, V0, V9, V9n, VR, VN, keptOf, find, PVal.toD, subD, subL, subV, subD_refl, viewL_ds, disj, PVal.ids, pnil, List.range, List.range.loop, L22b, bxB, bxP, bxW]) (by simp [viewT, St.ev, viewH, viewP, viewL, viewO, V0, V9, V9n, VR, VN, keptOf, find, PVal.toD, subD, subL, subV, subD_refl, viewL_ds, disj, PVal.ids, pnil, List.range, List.range.loop, L22b, bxB, bxP, bxW])
      · have c2 := dge (Nat.le_refl l.length)
        by_cases he : e = 0
        · subst he
          rcases hsaid rfl with rfl | ⟨ls, rfl, hl128, hls⟩ | ⟨yes, rfl⟩ | rfl
          · unfold L22b bxB bxP bxW
            simp only [Option.toList]
            repeat' (first
              | ((first | refine Pwp.step (kit _) rfl fun K hK => ?_ | refine Pwp.last (kit _) rfl fun K hK => ?_ | refine Pwp.stepD (kit _) rfl rfl fun K hK => ?_ | refine Pwp.lastD (kit _) rfl rfl fun K hK => ?_); simp (dsimp := false) only [↓opsP_nil, ↓opsP_cons, ↓opsD_nil, ↓opsD_cons, ↓opP, ↓stepP, ↓stepG, go_sem, c2, bne_self_eq_false])
              | (refine Pwp.seq ?_)
              | (refine Pwp.block ?_)
              | (refine Pwp.exit ?_; simp only [thenS, blockS, if_true, if_false, reduceIte, Nat.reduceEqDiff, Nat.add_one_ne_zero, reduceCtorEq])
              | (refine Pwp.skip ?_; simp only [thenS, blockS])
              | (refine Pwp.cond rfl True.intro (fun h => ?_) (fun h => ?_) <;> (try (cases h; done)) <;> (try simp only [h]))
              | (refine Pwp.ret ?_; try simp only [thenS, blockS])
              | (refine hK _ ?_; clear hK K)
              | (refine hK _ _ rfl ?_; clear hK K)
              | (refine CallG.off ?_)
              | (with_reducible refine Or.inl ?_)
              | (simp only [thenS, blockS])
              | (with_reducible refine And.intro ?_ ?_)
              | (with_reducible exact True.intro)
              | (simp (dsimp := false) only [↓opsP_nil, ↓opsP_cons, ↓opsD_nil, ↓opsD_cons, ↓opP, ↓stepP, ↓stepG, go_sem, c2, bne_self_eq_false]))
            all_goals (try (first | (intro hg; simp [hg]; done) | exact of_decide_eq_true rfl | (cases h; done)))
            refine Pwp.range 0 (S := fun _ => L22c ws w l pl' l' [] i 0) (Sub.view V0 (by simp [L22c]) rfl (by simp [viewH, viewP, viewL, viewO, V0, V9, V9n, VR, VN, keptOf, find, PVal.toD, subD, subL, subV, subD_refl, viewL_ds, disj, PVal.ids, pnil, List.range, List.range.loop, L22c, bxB, bxP, bxW]) (by simp [viewT, St.ev, viewH, viewP, viewL, viewO, V0, V9, V9n, VR, VN, keptOf, find, PVal.toD, subD, subL, subV, subD_refl, viewL_ds, disj, PVal.ids, pnil, List.range, List.range.loop, L22c, bxB, bxP, bxW])) (fun j hj => absurd hj (by omega)) ?_
            unfold L22c bxB bxP bxW
            repeat' (first
              | ((first | refine Pwp.step (kit _) rfl fun K hK => ?_ | refine Pwp.last (kit _) rfl fun K hK => ?_ | refine Pwp.stepD (kit _) rfl rfl fun K hK => ?_ | refine Pwp.lastD (kit _) rfl rfl fun K hK => ?_); simp (dsimp := false) only [↓opsP_nil, ↓opsP_cons, ↓opsD_nil, ↓opsD_cons, ↓opP, ↓stepP, ↓stepG, go_sem, w1])
              | (refine Pwp.seq ?_)
              | (refine Pwp.block ?_)
              | (refine Pwp.exit ?_; simp only [thenS, blockS, if_true, if_false, reduceIte, Nat.reduceEqDiff, Nat.add_one_ne_zero, reduceCtorEq])
              | (refine Pwp.skip ?_; simp only [thenS, blockS])
              | (refine Pwp.cond rfl True.intro (fun h => ?_) (fun h => ?_) <;> (try (cases h; done)) <;> (try simp only [h]))
              | (refine Pwp.ret ?_; try simp only [thenS, blockS])
              | (refine hK _ ?_; clear hK K)
              | (refine hK _ _ rfl ?_; clear hK K)
              | (refine CallG.off ?_)
              | (with_reducible refine Or.inl ?_)
              | (simp only [thenS, blockS])
              | (with_reducible refine And.intro ?_ ?_)
              | (with_reducible exact True.intro)
              | (simp (dsimp := false) only [↓opsP_nil, ↓opsP_cons, ↓opsD_nil, ↓opsD_cons, ↓opP, ↓stepP, ↓stepG, go_sem, w1]))
            all_goals (try (first | (intro hg; simp [hg]; done) | exact of_decide_eq_true rfl | (cases h; done)))
            exact ⟨_, Sub.view V0 (by simp [L22]) rfl (by simp [viewH, viewP, viewL, viewO, V0, V9, V9n, VR, VN, keptOf, find, PVal.toD, subD, subL, subV, subD_refl, viewL_ds, disj, PVal.ids, pnil, List.range, List.range.loop, L22, bxB, bxP]) (by simp [viewT, St.ev, viewH, viewP, viewL, viewO, V0, V9, V9n, VR, VN, keptOf, find, PVal.toD, subD, subL, subV, subD_refl, viewL_ds, disj, PVal.ids, pnil, List.range, List.range.loop, L22, bxB, bxP]), pl', l', hA', rfl⟩
          · have hll1 := lines_len ls
            have hl1 : ∀ z : D, ([z] : List D).length = 1 := fun _ => rfl
            have w3 : IntKind.wrap .i64 1 = 1 := wrap_of (by omega) (by omega)
            unfold L22b bxB bxP bxW
            simp only [Option.toList, saidD, Msg.cells, offerM]
            repeat' (first
              | ((first | refine Pwp.step (kit _) rfl fun K hK => ?_ | refine Pwp.last (kit _) rfl fun K hK => ?_ | refine Pwp.stepD (kit _) rfl rfl fun K hK => ?_ | refine Pwp.lastD (kit _) rfl rfl fun K hK => ?_); simp (dsimp := false) only [↓opsP_nil, ↓opsP_cons, ↓opsD_nil, ↓opsD_cons, ↓opP, ↓stepP, ↓stepG, go_sem, c2, bne_self_eq_false, hl1])
              | (refine Pwp.seq ?_)
              | (refine Pwp.block ?_)
              | (refine Pwp.exit ?_; simp only [thenS, blockS, if_true, if_false, reduceIte, Nat.reduceEqDiff, Nat.add_one_ne_zero, reduceCtorEq])
              | (refine Pwp.skip ?_; simp only [thenS, blockS])
              | (refine Pwp.cond rfl True.intro (fun h => ?_) (fun h => ?_) <;> (try (cases h; done)) <;> (try simp only [h]))
              | (refine Pwp.ret ?_; try simp only [thenS, blockS])
              | (refine hK _ ?_; clear hK K)
              | (refine hK _ _ rfl ?_; clear hK K)
              | (refine CallG.off ?_)
              | (with_reducible refine Or.inl ?_)
              | (simp only [thenS, blockS])
              | (with_reducible refine And.intro ?_ ?_)
              | (with_reducible exact True.intro)
              | (simp (dsimp := false) only [↓opsP_nil, ↓opsP_cons, ↓opsD_nil, ↓opsD_cons, ↓opP, ↓stepP, ↓stepG, go_sem, c2, bne_self_eq_false, hl1]))
            all_goals (try (first | (intro hg; simp [hg]; done) | exact of_decide_eq_true rfl | (cases h; done)))
            refine Pwp.range 1 (S := L22c ws w l pl' l' [saidD 3 (offerM w.m.cycle ls)] i) (Sub.view V0 (by simp [L22c]) rfl (by simp [viewH, viewP, viewL, viewO, V0, V9, V9n, VR, VN, keptOf, find, PVal.toD, subD, subL, subV, subD_refl, viewL_ds, disj, PVal.ids, pnil, List.range, List.range.loop, L22c, bxB, bxP, bxW, saidD, Msg.cells, offerM]) (by simp [viewT, St.ev, viewH, viewP, viewL, viewO, V0, V9, V9n, VR, VN, keptOf, find, PVal.toD, subD, subL, subV, subD_refl, viewL_ds, disj, PVal.ids, pnil, List.range, List.range.loop, L22c, bxB, bxP, bxW, saidD, Msg.cells, offerM])) (fun j hj => ?_) ?_
            · obtain rfl : j = 0 := by omega
              unfold L22c bxB bxP bxW
              simp only [saidD, Msg.cells, offerM]
              repeat' (first
                | ((first | refine Pwp.step (kit _) rfl fun K hK => ?_ | refine Pwp.last (kit _) rfl fun K hK => ?_ | refine Pwp.stepD (kit _) rfl rfl fun K hK => ?_ | refine Pwp.lastD (kit _) rfl rfl fun K hK => ?_); simp (dsimp := false) only [↓opsP_nil, ↓opsP_cons, ↓opsD_nil, ↓opsD_cons, ↓opP, ↓stepP, ↓stepG, go_sem, bne_self_eq_false, hl1, hll1])
                | (refine Pwp.seq ?_)
                | (refine Pwp.block ?_)
                | (refine Pwp.exit ?_; simp only [thenS, blockS, if_true, if_false, reduceIte, Nat.reduceEqDiff, Nat.add_one_ne_zero, reduceCtorEq])
                | (refine Pwp.skip ?_; simp only [thenS, blockS])
                | (refine Pwp.cond rfl True.intro (fun h => ?_) (fun h => ?_) <;> (try (cases h; done)) <;> (try simp only [h]))
                | (refine Pwp.ret ?_; try simp only [thenS, blockS])
                | (refine hK _ ?_; clear hK K)
                | (refine hK _ _ rfl ?_; clear hK K)
                | (refine CallG.off ?_)
                | (with_reducible refine Or.inl ?_)
                | (simp only [thenS, blockS])
                | (with_reducible refine And.intro ?_ ?_)
                | (with_reducible exact True.intro)
                | (simp (dsimp := false) only [↓opsP_nil, ↓opsP_cons, ↓opsD_nil, ↓opsD_cons, ↓opP, ↓stepP, ↓stepG, go_sem, bne_self_eq_false, hl1, hll1]))
              all_goals (try (first | (intro hg; simp [hg]; done) | exact of_decide_eq_true rfl | (cases h; done)))
              refine Pwp.range ls.length (S := L22d ws w l pl' l' 3 (offerM w.m.cycle ls) (.slc 4 (linesD ls)) ls.length [saidD 3 (offerM w.m.cycle ls)] i 0) (Sub.view V0 (by simp [L22d]) rfl (by simp [viewH, viewP, viewL, viewO, V0, V9, V9n, VR, VN, keptOf, find, PVal.toD, subD, subL, subV, subD_refl, viewL_ds, disj, PVal.ids, pnil, List.range, List.range.loop, L22d, bxB, bxP, bxW, bxS, saidD, Msg.cells, offerM, hll1]) (by simp [viewT, St.ev, viewH, viewP, viewL, viewO, V0, V9, V9n, VR, VN, keptOf, find, PVal.toD, subD, subL, subV, subD_refl, viewL_ds, disj, PVal.ids, pnil, List.range, List.range.loop, L22d, bxB, bxP, bxW, bxS, saidD, Msg.cells, offerM, hll1])) (fun k hk => ?_) ?_
              · obtain ⟨y, hyx, hym⟩ := at_lt hk
                have hgy := lines_get hyx
                have c3 := dlt hk
                have w4 := wrap_succ (i := k) (by omega)
                obtain ⟨t1, t2, t3⟩ := hls y hym
                have r65 := run65 0 l [] y.seller y.number (by omega)
                rw [t1] at r65
                generalize getI l y.seller y.number = z at *
                have c4 : (z.state != 3) = false := by simp [t2]
                have c5 : (z.cycle != 0) = false := by simp [t3]
                unfold bookD Item.d Item.cells at r65
                unfold L22d bxB bxP bxW bxS
                simp only [saidD, Msg.cells, offerM]
                repeat' (first
                  | ((first | refine Pwp.step (kit _) rfl fun K hK => ?_ | refine Pwp.last (kit _) rfl fun K hK => ?_ | refine Pwp.stepD (kit _) rfl rfl fun K hK => ?_ | refine Pwp.lastD (kit _) rfl rfl fun K hK => ?_); simp (dsimp := false) only [↓opsP_nil, ↓opsP_cons, ↓opsD_nil, ↓opsD_cons, ↓opP, ↓stepP, ↓stepG, go_sem, hgy, c3, w4, c4, c5, Bool.not_true, Bool.or_self, Bool.false_or, beq_self_eq_true, Bool.and_false])
                  | (refine Pwp.seq ?_)
                  | (refine Pwp.block ?_)
                  | (refine Pwp.exit ?_; simp only [thenS, blockS, if_true, if_false, reduceIte, Nat.reduceEqDiff, Nat.add_one_ne_zero, reduceCtorEq])
                  | (refine Pwp.skip ?_; simp only [thenS, blockS])
                  | (refine Pwp.cond rfl True.intro (fun h => ?_) (fun h => ?_) <;> (try (cases h; done)) <;> (try simp only [h]))
                  | (refine Pwp.ret ?_; try simp only [thenS, blockS])
                  | (refine hK _ ?_; clear hK K)
                  | (refine hK _ _ rfl ?_; clear hK K)
                  | (refine CallK.toD (ds := [.agg [I64 0, .slc 8 (itemsD l), .slc 3 []], .agg [I64 y.seller, I64 y.number]]) rfl (r65) rfl ?_)
                  | (refine CallG.off ?_)
                  | (with_reducible refine Or.inl ?_)
                  | (simp only [thenS, blockS])
                  | (with_reducible refine And.intro ?_ ?_)
                  | (with_reducible exact True.intro)
                  | (simp (dsimp := false) only [↓opsP_nil, ↓opsP_cons, ↓opsD_nil, ↓opsD_cons, ↓opP, ↓stepP, ↓stepG, go_sem, hgy, c3, w4, c4, c5, Bool.not_true, Bool.or_self, Bool.false_or, beq_self_eq_true, Bool.and_false]))
                all_goals (try (first | (intro hg; simp [hg]; done) | exact of_decide_eq_true rfl | (cases h; done)))
                exact Sub.view V0 (by simp [L22d]) rfl (by simp [viewH, viewP, viewL, viewO, V0, V9, V9n, VR, VN, keptOf, find, PVal.toD, subD, subL, subV, subD_refl, viewL_ds, disj, PVal.ids, pnil, List.range, List.range.loop, L22d, bxB, bxP, bxW, bxS, saidD, Msg.cells, offerM]) (by simp [viewT, St.ev, viewH, viewP, viewL, viewO, V0, V9, V9n, VR, VN, keptOf, find, PVal.toD, subD, subL, subV, subD_refl, viewL_ds, disj, PVal.ids, pnil, List.range, List.range.loop, L22d, bxB, bxP, bxW, bxS, saidD, Msg.cells, offerM])
              · have c3 := dge (Nat.le_refl ls.length)
                unfold L22d bxB bxP bxW bxS
                simp only [saidD, Msg.cells, offerM]
                repeat' (first
                  | ((first | refine Pwp.step (kit _) rfl fun K hK => ?_ | refine Pwp.last (kit _) rfl fun K hK => ?_ | refine Pwp.stepD (kit _) rfl rfl fun K hK => ?_ | refine Pwp.lastD (kit _) rfl rfl fun K hK => ?_); simp (dsimp := false) only [↓opsP_nil, ↓opsP_cons, ↓opsD_nil, ↓opsD_cons, ↓opP, ↓stepP, ↓stepG, go_sem, bne_self_eq_false, hl1, c3, w3, Bool.or_self])
                  | (refine Pwp.seq ?_)
                  | (refine Pwp.block ?_)
                  | (refine Pwp.exit ?_; simp only [thenS, blockS, if_true, if_false, reduceIte, Nat.reduceEqDiff, Nat.add_one_ne_zero, reduceCtorEq])
                  | (refine Pwp.skip ?_; simp only [thenS, blockS])
                  | (refine Pwp.cond rfl True.intro (fun h => ?_) (fun h => ?_) <;> (try (cases h; done)) <;> (try simp only [h]))
                  | (refine Pwp.ret ?_; try simp only [thenS, blockS])
                  | (refine hK _ ?_; clear hK K)
                  | (refine hK _ _ rfl ?_; clear hK K)
                  | (refine CallG.off ?_)
                  | (with_reducible refine Or.inl ?_)
                  | (simp only [thenS, blockS])
                  | (with_reducible refine And.intro ?_ ?_)
                  | (with_reducible exact True.intro)
                  | (simp (dsimp := false) only [↓opsP_nil, ↓opsP_cons, ↓opsD_nil, ↓opsD_cons, ↓opP, ↓stepP, ↓stepG, go_sem, bne_self_eq_false, hl1, c3, w3, Bool.or_self]))
                all_goals (try (first | (intro hg; simp [hg]; done) | exact of_decide_eq_true rfl | (cases h; done)))
                exact Sub.view V0 (by simp [L22c]) rfl (by simp [viewH, viewP, viewL, viewO, V0, V9, V9n, VR, VN, keptOf, find, PVal.toD, subD, subL, subV, subD_refl, viewL_ds, disj, PVal.ids, pnil, List.range, List.range.loop, L22c, bxB, bxP, bxW, saidD, Msg.cells, offerM]) (by simp [viewT, St.ev, viewH, viewP, viewL, viewO, V0, V9, V9n, VR, VN, keptOf, find, PVal.toD, subD, subL, subV, subD_refl, viewL_ds, disj, PVal.ids, pnil, List.range, List.range.loop, L22c, bxB, bxP, bxW, saidD, Msg.cells, offerM])
            · unfold L22c bxB bxP bxW
              simp only [saidD, Msg.cells, offerM]
              repeat' (first
                | ((first | refine Pwp.step (kit _) rfl fun K hK => ?_ | refine Pwp.last (kit _) rfl fun K hK => ?_ | refine Pwp.stepD (kit _) rfl rfl fun K hK => ?_ | refine Pwp.lastD (kit _) rfl rfl fun K hK => ?_); simp (dsimp := false) only [↓opsP_nil, ↓opsP_cons, ↓opsD_nil, ↓opsD_cons, ↓opP, ↓stepP, ↓stepG, go_sem, hl1, w1])
                | (refine Pwp.seq ?_)
                | (refine Pwp.block ?_)
                | (refine Pwp.exit ?_; simp only [thenS, blockS, if_true, if_false, reduceIte, Nat.reduceEqDiff, Nat.add_one_ne_zero, reduceCtorEq])
                | (refine Pwp.skip ?_; simp only [thenS, blockS])
                | (refine Pwp.cond rfl True.intro (fun h => ?_) (fun h => ?_) <;> (try (cases h; done)) <;> (try simp only [h]))
                | (refine Pwp.ret ?_; try simp only [thenS, blockS])
                | (refine hK _ ?_; clear hK K)
                | (refine hK _ _ rfl ?_; clear hK K)
                | (refine CallG.off ?_)
                | (with_reducible refine Or.inl ?_)
                | (simp only [thenS, blockS])
                | (with_reducible refine And.intro ?_ ?_)
                | (with_reducible exact True.intro)
                | (simp (dsimp := false) only [↓opsP_nil, ↓opsP_cons, ↓opsD_nil, ↓opsD_cons, ↓opP, ↓stepP, ↓stepG, go_sem, hl1, w1]))
              all_goals (try (first | (intro hg; simp [hg]; done) | exact of_decide_eq_true rfl | (cases h; done)))
              exact ⟨_, Sub.view V0 (by simp [L22]) rfl (by simp [viewH, viewP, viewL, viewO, V0, V9, V9n, VR, VN, keptOf, find, PVal.toD, subD, subL, subV, subD_refl, viewL_ds, disj, PVal.ids, pnil, List.range, List.range.loop, L22, bxB, bxP]) (by simp [viewT, St.ev, viewH, viewP, viewL, viewO, V0, V9, V9n, VR, VN, keptOf, find, PVal.toD, subD, subL, subV, subD_refl, viewL_ds, disj, PVal.ids, pnil, List.range, List.range.loop, L22, bxB, bxP]), pl', l', hA', rfl⟩
          · have hl1 : ∀ z : D, ([z] : List D).length = 1 := fun _ => rfl
            have w3 : IntKind.wrap .i64 1 = 1 := wrap_of (by omega) (by omega)
            unfold L22b bxB bxP bxW
            simp only [Option.toList, saidD, Msg.cells, voteM]
            repeat' (first
              | ((first | refine Pwp.step (kit _) rfl fun K hK => ?_ | refine Pwp.last (kit _) rfl fun K hK => ?_ | refine Pwp.stepD (kit _) rfl rfl fun K hK => ?_ | refine Pwp.lastD (kit _) rfl rfl fun K hK => ?_); simp (dsimp := false) only [↓opsP_nil, ↓opsP_cons, ↓opsD_nil, ↓opsD_cons, ↓opP, ↓stepP, ↓stepG, go_sem, c2, bne_self_eq_false, hl1])
              | (refine Pwp.seq ?_)
              | (refine Pwp.block ?_)
              | (refine Pwp.exit ?_; simp only [thenS, blockS, if_true, if_false, reduceIte, Nat.reduceEqDiff, Nat.add_one_ne_zero, reduceCtorEq])
              | (refine Pwp.skip ?_; simp only [thenS, blockS])
              | (refine Pwp.cond rfl True.intro (fun h => ?_) (fun h => ?_) <;> (try (cases h; done)) <;> (try simp only [h]))
              | (refine Pwp.ret ?_; try simp only [thenS, blockS])
              | (refine hK _ ?_; clear hK K)
              | (refine hK _ _ rfl ?_; clear hK K)
              | (refine CallG.off ?_)
              | (with_reducible refine Or.inl ?_)
              | (simp only [thenS, blockS])
              | (with_reducible refine And.intro ?_ ?_)
              | (with_reducible exact True.intro)
              | (simp (dsimp := false) only [↓opsP_nil, ↓opsP_cons, ↓opsD_nil, ↓opsD_cons, ↓opP, ↓stepP, ↓stepG, go_sem, c2, bne_self_eq_false, hl1]))
            all_goals (try (first | (intro hg; simp [hg]; done) | exact of_decide_eq_true rfl | (cases h; done)))
            refine Pwp.range 1 (S := L22c ws w l pl' l' [saidD 3 (voteM w.m.cycle yes)] i) (Sub.view V0 (by simp [L22c]) rfl (by simp [viewH, viewP, viewL, viewO, V0, V9, V9n, VR, VN, keptOf, find, PVal.toD, subD, subL, subV, subD_refl, viewL_ds, disj, PVal.ids, pnil, List.range, List.range.loop, L22c, bxB, bxP, bxW, saidD, Msg.cells, voteM]) (by simp [viewT, St.ev, viewH, viewP, viewL, viewO, V0, V9, V9n, VR, VN, keptOf, find, PVal.toD, subD, subL, subV, subD_refl, viewL_ds, disj, PVal.ids, pnil, List.range, List.range.loop, L22c, bxB, bxP, bxW, saidD, Msg.cells, voteM])) (fun j hj => ?_) ?_
            · obtain rfl : j = 0 := by omega
              unfold L22c bxB bxP bxW
              simp only [saidD, Msg.cells, voteM]
              repeat' (first
                | ((first | refine Pwp.step (kit _) rfl fun K hK => ?_ | refine Pwp.last (kit _) rfl fun K hK => ?_ | refine Pwp.stepD (kit _) rfl rfl fun K hK => ?_ | refine Pwp.lastD (kit _) rfl rfl fun K hK => ?_); simp (dsimp := false) only [↓opsP_nil, ↓opsP_cons, ↓opsD_nil, ↓opsD_cons, ↓opP, ↓stepP, ↓stepG, go_sem, bne_self_eq_false, hl1])
                | (refine Pwp.seq ?_)
                | (refine Pwp.block ?_)
                | (refine Pwp.exit ?_; simp only [thenS, blockS, if_true, if_false, reduceIte, Nat.reduceEqDiff, Nat.add_one_ne_zero, reduceCtorEq])
                | (refine Pwp.skip ?_; simp only [thenS, blockS])
                | (refine Pwp.cond rfl True.intro (fun h => ?_) (fun h => ?_) <;> (try (cases h; done)) <;> (try simp only [h]))
                | (refine Pwp.ret ?_; try simp only [thenS, blockS])
                | (refine hK _ ?_; clear hK K)
                | (refine hK _ _ rfl ?_; clear hK K)
                | (refine CallG.off ?_)
                | (with_reducible refine Or.inl ?_)
                | (simp only [thenS, blockS])
                | (with_reducible refine And.intro ?_ ?_)
                | (with_reducible exact True.intro)
                | (simp (dsimp := false) only [↓opsP_nil, ↓opsP_cons, ↓opsD_nil, ↓opsD_cons, ↓opP, ↓stepP, ↓stepG, go_sem, bne_self_eq_false, hl1]))
              all_goals (try (first | (intro hg; simp [hg]; done) | exact of_decide_eq_true rfl | (cases h; done)))
              refine Pwp.range 0 (S := L22d ws w l pl' l' 3 (voteM w.m.cycle yes) nilD 0 [saidD 3 (voteM w.m.cycle yes)] i 0) (Sub.view V0 (by simp [L22d]) rfl (by simp [viewH, viewP, viewL, viewO, V0, V9, V9n, VR, VN, keptOf, find, PVal.toD, subD, subL, subV, subD_refl, viewL_ds, disj, PVal.ids, pnil, List.range, List.range.loop, L22d, bxB, bxP, bxW, bxS, saidD, Msg.cells, voteM]) (by simp [viewT, St.ev, viewH, viewP, viewL, viewO, V0, V9, V9n, VR, VN, keptOf, find, PVal.toD, subD, subL, subV, subD_refl, viewL_ds, disj, PVal.ids, pnil, List.range, List.range.loop, L22d, bxB, bxP, bxW, bxS, saidD, Msg.cells, voteM])) (fun k hk => ?_) ?_
              · exact absurd hk (by omega)
              · have c3 := dge (Nat.le_refl 0)
                unfold L22d bxB bxP bxW bxS
                simp only [saidD, Msg.cells, voteM]
                repeat' (first
                  | ((first | refine Pwp.step (kit _) rfl fun K hK => ?_ | refine Pwp.last (kit _) rfl fun K hK => ?_ | refine Pwp.stepD (kit _) rfl rfl fun K hK => ?_ | refine Pwp.lastD (kit _) rfl rfl fun K hK => ?_); simp (dsimp := false) only [↓opsP_nil, ↓opsP_cons, ↓opsD_nil, ↓opsD_cons, ↓opP, ↓stepP, ↓stepG, go_sem, bne_self_eq_false, hl1, c3, w3, Bool.or_self])
                  | (refine Pwp.seq ?_)
                  | (refine Pwp.block ?_)
                  | (refine Pwp.exit ?_; simp only [thenS, blockS, if_true, if_false, reduceIte, Nat.reduceEqDiff, Nat.add_one_ne_zero, reduceCtorEq])
                  | (refine Pwp.skip ?_; simp only [thenS, blockS])
                  | (refine Pwp.cond rfl True.intro (fun h => ?_) (fun h => ?_) <;> (try (cases h; done)) <;> (try simp only [h]))
                  | (refine Pwp.ret ?_; try simp only [thenS, blockS])
                  | (refine hK _ ?_; clear hK K)
                  | (refine hK _ _ rfl ?_; clear hK K)
                  | (refine CallG.off ?_)
                  | (with_reducible refine Or.inl ?_)
                  | (simp only [thenS, blockS])
                  | (with_reducible refine And.intro ?_ ?_)
                  | (with_reducible exact True.intro)
                  | (simp (dsimp := false) only [↓opsP_nil, ↓opsP_cons, ↓opsD_nil, ↓opsD_cons, ↓opP, ↓stepP, ↓stepG, go_sem, bne_self_eq_false, hl1, c3, w3, Bool.or_self]))
                all_goals (try (first | (intro hg; simp [hg]; done) | exact of_decide_eq_true rfl | (cases h; done)))
                exact Sub.view V0 (by simp [L22c]) rfl (by simp [viewH, viewP, viewL, viewO, V0, V9, V9n, VR, VN, keptOf, find, PVal.toD, subD, subL, subV, subD_refl, viewL_ds, disj, PVal.ids, pnil, List.range, List.range.loop, L22c, bxB, bxP, bxW, saidD, Msg.cells, voteM]) (by simp [viewT, St.ev, viewH, viewP, viewL, viewO, V0, V9, V9n, VR, VN, keptOf, find, PVal.toD, subD, subL, subV, subD_refl, viewL_ds, disj, PVal.ids, pnil, List.range, List.range.loop, L22c, bxB, bxP, bxW, saidD, Msg.cells, voteM])
            · unfold L22c bxB bxP bxW
              simp only [saidD, Msg.cells, voteM]
              repeat' (first
                | ((first | refine Pwp.step (kit _) rfl fun K hK => ?_ | refine Pwp.last (kit _) rfl fun K hK => ?_ | refine Pwp.stepD (kit _) rfl rfl fun K hK => ?_ | refine Pwp.lastD (kit _) rfl rfl fun K hK => ?_); simp (dsimp := false) only [↓opsP_nil, ↓opsP_cons, ↓opsD_nil, ↓opsD_cons, ↓opP, ↓stepP, ↓stepG, go_sem, hl1, w1])
                | (refine Pwp.seq ?_)
                | (refine Pwp.block ?_)
                | (refine Pwp.exit ?_; simp only [thenS, blockS, if_true, if_false, reduceIte, Nat.reduceEqDiff, Nat.add_one_ne_zero, reduceCtorEq])
                | (refine Pwp.skip ?_; simp only [thenS, blockS])
                | (refine Pwp.cond rfl True.intro (fun h => ?_) (fun h => ?_) <;> (try (cases h; done)) <;> (try simp only [h]))
                | (refine Pwp.ret ?_; try simp only [thenS, blockS])
                | (refine hK _ ?_; clear hK K)
                | (refine hK _ _ rfl ?_; clear hK K)
                | (refine CallG.off ?_)
                | (with_reducible refine Or.inl ?_)
                | (simp only [thenS, blockS])
                | (with_reducible refine And.intro ?_ ?_)
                | (with_reducible exact True.intro)
                | (simp (dsimp := false) only [↓opsP_nil, ↓opsP_cons, ↓opsD_nil, ↓opsD_cons, ↓opP, ↓stepP, ↓stepG, go_sem, hl1, w1]))
              all_goals (try (first | (intro hg; simp [hg]; done) | exact of_decide_eq_true rfl | (cases h; done)))
              exact ⟨_, Sub.view V0 (by simp [L22]) rfl (by simp [viewH, viewP, viewL, viewO, V0, V9, V9n, VR, VN, keptOf, find, PVal.toD, subD, subL, subV, subD_refl, viewL_ds, disj, PVal.ids, pnil, List.range, List.range.loop, L22, bxB, bxP]) (by simp [viewT, St.ev, viewH, viewP, viewL, viewO, V0, V9, V9n, VR, VN, keptOf, find, PVal.toD, subD, subL, subV, subD_refl, viewL_ds, disj, PVal.ids, pnil, List.range, List.range.loop, L22, bxB, bxP]), pl', l', hA', rfl⟩
          · have hl1 : ∀ z : D, ([z] : List D).length = 1 := fun _ => rfl
            have w3 : IntKind.wrap .i64 1 = 1 := wrap_of (by omega) (by omega)
            unfold L22b bxB bxP bxW
            simp only [Option.toList, saidD, Msg.cells, queryM]
            repeat' (first
              | ((first | refine Pwp.step (kit _) rfl fun K hK => ?_ | refine Pwp.last (kit _) rfl fun K hK => ?_ | refine Pwp.stepD (kit _) rfl rfl fun K hK => ?_ | refine Pwp.lastD (kit _) rfl rfl fun K hK => ?_); simp (dsimp := false) only [↓opsP_nil, ↓opsP_cons, ↓opsD_nil, ↓opsD_cons, ↓opP, ↓stepP, ↓stepG, go_sem, c2, bne_self_eq_false, hl1])
              | (refine Pwp.seq ?_)
              | (refine Pwp.block ?_)
              | (refine Pwp.exit ?_; simp only [thenS, blockS, if_true, if_false, reduceIte, Nat.reduceEqDiff, Nat.add_one_ne_zero, reduceCtorEq])
              | (refine Pwp.skip ?_; simp only [thenS, blockS])
              | (refine Pwp.cond rfl True.intro (fun h => ?_) (fun h => ?_) <;> (try (cases h; done)) <;> (try simp only [h]))
              | (refine Pwp.ret ?_; try simp only [thenS, blockS])
              | (refine hK _ ?_; clear hK K)
              | (refine hK _ _ rfl ?_; clear hK K)
              | (refine CallG.off ?_)
              | (with_reducible refine Or.inl ?_)
              | (simp only [thenS, blockS])
              | (with_reducible refine And.intro ?_ ?_)
              | (with_reducible exact True.intro)
              | (simp (dsimp := false) only [↓opsP_nil, ↓opsP_cons, ↓opsD_nil, ↓opsD_cons, ↓opP, ↓stepP, ↓stepG, go_sem, c2, bne_self_eq_false, hl1]))
            all_goals (try (first | (intro hg; simp [hg]; done) | exact of_decide_eq_true rfl | (cases h; done)))
            refine Pwp.range 1 (S := L22c ws w l pl' l' [saidD 3 (queryM w.m.cycle)] i) (Sub.view V0 (by simp [L22c]) rfl (by simp [viewH, viewP, viewL, viewO, V0, V9, V9n, VR, VN, keptOf, find, PVal.toD, subD, subL, subV, subD_refl, viewL_ds, disj, PVal.ids, pnil, List.range, List.range.loop, L22c, bxB, bxP, bxW, saidD, Msg.cells, queryM]) (by simp [viewT, St.ev, viewH, viewP, viewL, viewO, V0, V9, V9n, VR, VN, keptOf, find, PVal.toD, subD, subL, subV, subD_refl, viewL_ds, disj, PVal.ids, pnil, List.range, List.range.loop, L22c, bxB, bxP, bxW, saidD, Msg.cells, queryM])) (fun j hj => ?_) ?_
            · obtain rfl : j = 0 := by omega
              unfold L22c bxB bxP bxW
              simp only [saidD, Msg.cells, queryM]
              repeat' (first
                | ((first | refine Pwp.step (kit _) rfl fun K hK => ?_ | refine Pwp.last (kit _) rfl fun K hK => ?_ | refine Pwp.stepD (kit _) rfl rfl fun K hK => ?_ | refine Pwp.lastD (kit _) rfl rfl fun K hK => ?_); simp (dsimp := false) only [↓opsP_nil, ↓opsP_cons, ↓opsD_nil, ↓opsD_cons, ↓opP, ↓stepP, ↓stepG, go_sem, bne_self_eq_false, hl1])
                | (refine Pwp.seq ?_)
                | (refine Pwp.block ?_)
                | (refine Pwp.exit ?_; simp only [thenS, blockS, if_true, if_false, reduceIte, Nat.reduceEqDiff, Nat.add_one_ne_zero, reduceCtorEq])
                | (refine Pwp.skip ?_; simp only [thenS, blockS])
                | (refine Pwp.cond rfl True.intro (fun h => ?_) (fun h => ?_) <;> (try (cases h; done)) <;> (try simp only [h]))
                | (refine Pwp.ret ?_; try simp only [thenS, blockS])
                | (refine hK _ ?_; clear hK K)
                | (refine hK _ _ rfl ?_; clear hK K)
                | (refine CallG.off ?_)
                | (with_reducible refine Or.inl ?_)
                | (simp only [thenS, blockS])
                | (with_reducible refine And.intro ?_ ?_)
                | (with_reducible exact True.intro)
                | (simp (dsimp := false) only [↓opsP_nil, ↓opsP_cons, ↓opsD_nil, ↓opsD_cons, ↓opP, ↓stepP, ↓stepG, go_sem, bne_self_eq_false, hl1]))
              all_goals (try (first | (intro hg; simp [hg]; done) | exact of_decide_eq_true rfl | (cases h; done)))
              refine Pwp.range 0 (S := L22d ws w l pl' l' 3 (queryM w.m.cycle) nilD 0 [saidD 3 (queryM w.m.cycle)] i 0) (Sub.view V0 (by simp [L22d]) rfl (by simp [viewH, viewP, viewL, viewO, V0, V9, V9n, VR, VN, keptOf, find, PVal.toD, subD, subL, subV, subD_refl, viewL_ds, disj, PVal.ids, pnil, List.range, List.range.loop, L22d, bxB, bxP, bxW, bxS, saidD, Msg.cells, queryM]) (by simp [viewT, St.ev, viewH, viewP, viewL, viewO, V0, V9, V9n, VR, VN, keptOf, find, PVal.toD, subD, subL, subV, subD_refl, viewL_ds, disj, PVal.ids, pnil, List.range, List.range.loop, L22d, bxB, bxP, bxW, bxS, saidD, Msg.cells, queryM])) (fun k hk => ?_) ?_
              · exact absurd hk (by omega)
              · have c3 := dge (Nat.le_refl 0)
                unfold L22d bxB bxP bxW bxS
                simp only [saidD, Msg.cells, queryM]
                repeat' (first
                  | ((first | refine Pwp.step (kit _) rfl fun K hK => ?_ | refine Pwp.last (kit _) rfl fun K hK => ?_ | refine Pwp.stepD (kit _) rfl rfl fun K hK => ?_ | refine Pwp.lastD (kit _) rfl rfl fun K hK => ?_); simp (dsimp := false) only [↓opsP_nil, ↓opsP_cons, ↓opsD_nil, ↓opsD_cons, ↓opP, ↓stepP, ↓stepG, go_sem, bne_self_eq_false, hl1, c3, w3, Bool.or_self])
                  | (refine Pwp.seq ?_)
                  | (refine Pwp.block ?_)
                  | (refine Pwp.exit ?_; simp only [thenS, blockS, if_true, if_false, reduceIte, Nat.reduceEqDiff, Nat.add_one_ne_zero, reduceCtorEq])
                  | (refine Pwp.skip ?_; simp only [thenS, blockS])
                  | (refine Pwp.cond rfl True.intro (fun h => ?_) (fun h => ?_) <;> (try (cases h; done)) <;> (try simp only [h]))
                  | (refine Pwp.ret ?_; try simp only [thenS, blockS])
                  | (refine hK _ ?_; clear hK K)
                  | (refine hK _ _ rfl ?_; clear hK K)
                  | (refine CallG.off ?_)
                  | (with_reducible refine Or.inl ?_)
                  | (simp only [thenS, blockS])
                  | (with_reducible refine And.intro ?_ ?_)
                  | (with_reducible exact True.intro)
                  | (simp (dsimp := false) only [↓opsP_nil, ↓opsP_cons, ↓opsD_nil, ↓opsD_cons, ↓opP, ↓stepP, ↓stepG, go_sem, bne_self_eq_false, hl1, c3, w3, Bool.or_self]))
                all_goals (try (first | (intro hg; simp [hg]; done) | exact of_decide_eq_true rfl | (cases h; done)))
                exact Sub.view V0 (by simp [L22c]) rfl (by simp [viewH, viewP, viewL, viewO, V0, V9, V9n, VR, VN, keptOf, find, PVal.toD, subD, subL, subV, subD_refl, viewL_ds, disj, PVal.ids, pnil, List.range, List.range.loop, L22c, bxB, bxP, bxW, saidD, Msg.cells, queryM]) (by simp [viewT, St.ev, viewH, viewP, viewL, viewO, V0, V9, V9n, VR, VN, keptOf, find, PVal.toD, subD, subL, subV, subD_refl, viewL_ds, disj, PVal.ids, pnil, List.range, List.range.loop, L22c, bxB, bxP, bxW, saidD, Msg.cells, queryM])
            · unfold L22c bxB bxP bxW
              simp only [saidD, Msg.cells, queryM]
              repeat' (first
                | ((first | refine Pwp.step (kit _) rfl fun K hK => ?_ | refine Pwp.last (kit _) rfl fun K hK => ?_ | refine Pwp.stepD (kit _) rfl rfl fun K hK => ?_ | refine Pwp.lastD (kit _) rfl rfl fun K hK => ?_); simp (dsimp := false) only [↓opsP_nil, ↓opsP_cons, ↓opsD_nil, ↓opsD_cons, ↓opP, ↓stepP, ↓stepG, go_sem, hl1, w1])
                | (refine Pwp.seq ?_)
                | (refine Pwp.block ?_)
                | (refine Pwp.exit ?_; simp only [thenS, blockS, if_true, if_false, reduceIte, Nat.reduceEqDiff, Nat.add_one_ne_zero, reduceCtorEq])
                | (refine Pwp.skip ?_; simp only [thenS, blockS])
                | (refine Pwp.cond rfl True.intro (fun h => ?_) (fun h => ?_) <;> (try (cases h; done)) <;> (try simp only [h]))
                | (refine Pwp.ret ?_; try simp only [thenS, blockS])
                | (refine hK _ ?_; clear hK K)
                | (refine hK _ _ rfl ?_; clear hK K)
                | (refine CallG.off ?_)
                | (with_reducible refine Or.inl ?_)
                | (simp only [thenS, blockS])
                | (with_reducible refine And.intro ?_ ?_)
                | (with_reducible exact True.intro)
                | (simp (dsimp := false) only [↓opsP_nil, ↓opsP_cons, ↓opsD_nil, ↓opsD_cons, ↓opP, ↓stepP, ↓stepG, go_sem, hl1, w1]))
              all_goals (try (first | (intro hg; simp [hg]; done) | exact of_decide_eq_true rfl | (cases h; done)))
              exact ⟨_, Sub.view V0 (by simp [L22]) rfl (by simp [viewH, viewP, viewL, viewO, V0, V9, V9n, VR, VN, keptOf, find, PVal.toD, subD, subL, subV, subD_refl, viewL_ds, disj, PVal.ids, pnil, List.range, List.range.loop, L22, bxB, bxP]) (by simp [viewT, St.ev, viewH, viewP, viewL, viewO, V0, V9, V9n, VR, VN, keptOf, find, PVal.toD, subD, subL, subV, subD_refl, viewL_ds, disj, PVal.ids, pnil, List.range, List.range.loop, L22, bxB, bxP]), pl', l', hA', rfl⟩
        · have n0 : (e != 0) = true := by simpa using he
          unfold L22b bxB bxP bxW
          repeat' (first
            | ((first | refine Pwp.step (kit _) rfl fun K hK => ?_ | refine Pwp.last (kit _) rfl fun K hK => ?_ | refine Pwp.stepD (kit _) rfl rfl fun K hK => ?_ | refine Pwp.lastD (kit _) rfl rfl fun K hK => ?_); simp (dsimp := false) only [↓opsP_nil, ↓opsP_cons, ↓opsD_nil, ↓opsD_cons, ↓opP, ↓stepP, ↓stepG, go_sem, c2, n0, w1])
            | (refine Pwp.seq ?_)
            | (refine Pwp.block ?_)
            | (refine Pwp.exit ?_; simp only [thenS, blockS, if_true, if_false, reduceIte, Nat.reduceEqDiff, Nat.add_one_ne_zero, reduceCtorEq])
            | (refine Pwp.skip ?_; simp only [thenS, blockS])
            | (refine Pwp.cond rfl True.intro (fun h => ?_) (fun h => ?_) <;> (try (cases h; done)) <;> (try simp only [h]))
            | (refine Pwp.ret ?_; try simp only [thenS, blockS])
            | (refine hK _ ?_; clear hK K)
            | (refine hK _ _ rfl ?_; clear hK K)
            | (refine CallG.off ?_)
            | (with_reducible refine Or.inl ?_)
            | (simp only [thenS, blockS])
            | (with_reducible refine And.intro ?_ ?_)
            | (with_reducible exact True.intro)
            | (simp (dsimp := false) only [↓opsP_nil, ↓opsP_cons, ↓opsD_nil, ↓opsD_cons, ↓opP, ↓stepP, ↓stepG, go_sem, c2, n0, w1]))
          all_goals (try (first | (intro hg; simp [hg]; done) | exact of_decide_eq_true rfl | (cases h; done)))
          exact ⟨_, Sub.view V0 (by simp [L22]) rfl (by simp [viewH, viewP, viewL, viewO, V0, V9, V9n, VR, VN, keptOf, find, PVal.toD, subD, subL, subV, subD_refl, viewL_ds, disj, PVal.ids, pnil, List.range, List.range.loop, L22, bxB, bxP]) (by simp [viewT, St.ev, viewH, viewP, viewL, viewO, V0, V9, V9n, VR, VN, keptOf, find, PVal.toD, subD, subL, subV, subD_refl, viewL_ds, disj, PVal.ids, pnil, List.range, List.range.loop, L22, bxB, bxP]), pl', l', hA', rfl⟩
    · rintro s ⟨pl, l, hA, rfl⟩
      have c1 := dge (Nat.le_refl ws.length)
      have hpp := hA.p.pl
      simp only at hpp
      have r76 := run76 ⟨0, 3, pl⟩ (by simp only; omega)
      have hwl := waits_len pl
      have hpl := parts_len pl
      have q1 : ((waitsL pl).map I64).length = (waitsL pl).length := by simp
      have q2 : decide (((waitsL pl).length : Int) ≤ (pl.length : Int)) = true := decide_eq_true (by omega)
      simp only [VP.d, VP.cells] at r76
      generalize (waitsL pl).map I64 = wl at *
      unfold L22 bxB bxP
      repeat' (first
        | ((first | refine Pwp.step (kit _) rfl fun K hK => ?_ | refine Pwp.last (kit _) rfl fun K hK => ?_ | refine Pwp.stepD (kit _) rfl rfl fun K hK => ?_ | refine Pwp.lastD (kit _) rfl rfl fun K hK => ?_); simp (dsimp := false) only [↓opsP_nil, ↓opsP_cons, ↓opsD_nil, ↓opsD_cons, ↓opP, ↓stepP, ↓stepG, go_sem, c1, q1, q2, hpl])
        | (refine Pwp.seq ?_)
        | (refine Pwp.block ?_)
        | (refine Pwp.exit ?_; simp only [thenS, blockS, if_true, if_false, reduceIte, Nat.reduceEqDiff, Nat.add_one_ne_zero, reduceCtorEq])
        | (refine Pwp.skip ?_; simp only [thenS, blockS])
        | (refine Pwp.cond rfl True.intro (fun h => ?_) (fun h => ?_) <;> (try (cases h; done)) <;> (try simp only [h]))
        | (refine Pwp.ret ?_; try simp only [thenS, blockS])
        | (refine hK _ ?_; clear hK K)
        | (refine hK _ _ rfl ?_; clear hK K)
        | (refine CallK.give (ds := [.agg [I64 0, I64 3, .slc 4 (partsL pl)]]) rfl (r76) (by simp) ?_)
        | (refine CallG.off ?_)
        | (with_reducible refine Or.inl ?_)
        | (simp only [thenS, blockS])
        | (with_reducible refine And.intro ?_ ?_)
        | (with_reducible exact True.intro)
        | (simp (dsimp := false) only [↓opsP_nil, ↓opsP_cons, ↓opsD_nil, ↓opsD_cons, ↓opP, ↓stepP, ↓stepG, go_sem, c1, q1, q2, hpl]))
      all_goals (try (first | (intro hg; simp [hg]; done) | exact of_decide_eq_true rfl | (cases h; done)))
      (refine Fin.data (.inr rfl) (by simp (dsimp := false) only [↓opsP_nil, ↓opsP_cons, ↓opsD_nil, ↓opsD_cons, ↓opP, ↓stepP, ↓stepG, go_sem, resL]; rfl) (by simp only [and_self]) (by simp (dsimp := false) only [↓opsP_nil, ↓opsP_cons, ↓opsD_nil, ↓opsD_cons, ↓opP, ↓stepP, ↓stepG, go_sem, resP, Nat.le_refl, List.take_length]; try rfl) ?_)
      exact subD_refl _

end Go.Proofs.Ytdodgbhodkcckaa.Pv
