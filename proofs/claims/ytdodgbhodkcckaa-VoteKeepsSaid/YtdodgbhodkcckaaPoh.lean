/- Walks of an entity's part in cycles: it is asked which items are free. -/
import Derived.Test.YtdodgbhodkcckaaPog
set_option linter.unusedVariables false
set_option linter.unusedSimpArgs false
set_option autoImplicit false
set_option maxRecDepth 100000
namespace Go.Proofs.Ytdodgbhodkcckaa.Pv
open Go Go.RowKit

/-- What an act on cycles comes to: an error, the cycles and the items behind it, what is said. -/
structure VOut where
  e : Int
  p : VP
  l : List Item
  o : Option D
def vOutD (me : Int) (os : List D) (r : VOut) : D := .tup [r.p.d, bookD me r.l os, .slc 12 r.o.toList, I64 r.e]
def askBad (m : Msg) : Bool := decide (m.cycle < 1) || decide (1048576 < m.cycle) || decide (m.currency < 0) || decide (8 ≤ m.currency)
def offerM (c : Int) (ls : List Line) : Msg := ⟨11, 0, 0, 0, 0, 0, c, 0, false, .slc 4 (linesD ls), nilD⟩
def askR (p : VP) (l : List Item) (m : Msg) : VOut :=
  if askBad m = true then ⟨1, p, l, none⟩ else if isC p.list m.cycle = true then ⟨5, p, l, none⟩
  else ⟨0, { p with list := putC p.list ⟨m.cycle, m.currency, 1, []⟩ }, foldB (withC m.cycle) (askL m.currency l) l, some (saidD p.n (offerM m.cycle ((askL m.currency l).map lineOf)))⟩
def L123 (p : VP) (me : Int) (l : List Item) (os : List D) (m : Msg) (i : Nat) : St :=
  ⟨[(64, pint .i64 i), (63, pint .i64 (askL m.currency l).length), (62, .d (.slc 8 (itemsD (askL m.currency l)))), (13, .ref 157 0), (12, .own 60 0 4 0 i), (7, .ref 12 0), (6, .ref 11 0), (5, .ref 10 0), (4, .ref 9 0), (3, .ref 8 0)],
   [(8, .box [.d (I64 p.me), .d (I64 p.n), .d (.slc 4 (partsL p.list))]), (9, .box [.d (I64 me), .d (.slc 8 (itemsD l)), .d (.slc 3 os)]),
    (10, .box [.d (I64 m.kind), .d (I64 m.seller), .d (I64 m.number), .d (I64 m.buyer), .d (I64 m.currency), .d (I64 m.round), .d (I64 m.cycle), .d (I64 m.amount), .d (.v (.bool m.yes)), .d m.lines, .d m.nets]),
    (11, .box [.d (I64 0), .d (I64 0), .d nilD]), (12, .box [.d (I64 0), .d nilD, .d nilD]),
    (157, .box [.d (I64 me), .d (.slc 8 (itemsD (foldB (withC m.cycle) ((askL m.currency l).take i) l))), .d (.slc 3 os)]), (60, .arr 142 4 0 none (linesD (((askL m.currency l).take i).map lineOf)))], 228⟩
theorem min128 (c : Int) (l : List Item) : (itemsD (keepF (notFree c) l)).take (min (keepF (notFree c) l).length 128) = itemsD (askL c l) ∧ (askL c l).length = min (keepF (notFree c) l).length 128 := by
  unfold askL itemsD
  rw [List.length_take]
  refine ⟨?_, by omega⟩
  rw [← List.map_take, ← List.map_take, Nat.min_comm]
  congr 2
  rcases Nat.le_total 128 (keepF (notFree c) l).length with h | h
  · rw [Nat.min_eq_left h]
  · rw [Nat.min_eq_right h, List.take_length, List.take_of_length_le h]
set_option maxHeartbeats 32000000 in
theorem run123 (p : VP) (me : Int) (l : List Item) (os : List D) (m : Msg) (hG : Good me l) (hl : l.length ≤ 100000) (hp : p.list.length ≤ 100000) (hll : ∀ x ∈ p.list, x.lines.length ≤ 100000) :
    Runs Try.prog 123 [.d p.d, .d (bookD me l os), .d m.d] [] (.d (vOutD me os (askR p l m))) [] := by
  have r74 := run74 p m.cycle (by omega) (fun x hx => by have := hll x hx; omega)
  have r78 := run78 me m.currency l os (by omega)
  have hlen := items_len (keepF (notFree m.currency) l)
  have hkl := keepF_le (notFree m.currency) l
  obtain ⟨hm1, hm2⟩ := min128 m.currency l
  unfold vOutD askR
  cases hb : askBad m with
  | true =>
    rw [if_pos rfl]
    unfold askBad at hb
    unfold VP.d VP.cells bookD Msg.d Msg.cells
    refine Runs.of (kit Try.prog) Try.func123 rfl rfl (by rw [Try.ntmps123]; exact of_decide_eq_true rfl) ?_; rw [Try.ntmps123, Try.results123]
    repeat' (first
      | ((first | refine Pwp.step (kit _) rfl fun K hK => ?_ | refine Pwp.last (kit _) rfl fun K hK => ?_ | refine Pwp.stepD (kit _) rfl rfl fun K hK => ?_ | refine Pwp.lastD (kit _) rfl rfl fun K hK => ?_); simp (dsimp := false) only [↓opsP_nil, ↓opsP_cons, ↓opsD_nil, ↓opsD_cons, ↓opP, ↓stepP, ↓stepG, go_sem, hb])
      | (refine Pwp.seq ?_)
      | (refine Pwp.block ?_)
      | (refine Pwp.exit ?_; simp only [thenS, blockS, if_true, if_false, reduceIte, Nat.reduceEqDiff, Nat.add_one_ne_zero, reduceCtorEq])
      | (refine Pwp.skip ?_; simp only [thenS, blockS])
      | (refine Pwp.cond rfl True.intro (fun h => ?_) (fun h => ?_) <;> (try (cases h; done)) <;> (try simp only [h]))
      | (refine Pwp.ret ?_; try simp only [thenS, blockS])
      | (refine hK _ ?_; clear hK K)
      | (refine hK _ _ rfl ?_; clear hK K)
      | (refine CallG.off ?_)
      | (with_reducible refine Or.inl ?_)
      | (simp only [thenS, blockS])
      | (with_reducible refine And.intro ?_ ?_)
      | (with_reducible exact True.intro)
      | (simp (dsimp := false) only [↓opsP_nil, ↓opsP_cons, ↓opsD_nil, ↓opsD_cons, ↓opP, ↓stepP, ↓stepG, go_sem, hb]))
    all_goals (try (first | (intro hg; simp [hg]; done) | exact of_decide_eq_true rfl | (cases h; done)))
    (refine Fin.data (.inr rfl) (by simp (dsimp := false) only [↓opsP_nil, ↓opsP_cons, ↓opsD_nil, ↓opsD_cons, ↓opP, ↓stepP, ↓stepG, go_sem, resL]; rfl) (by simp only [and_self]) (by simp (dsimp := false) only [↓opsP_nil, ↓opsP_cons, ↓opsD_nil, ↓opsD_cons, ↓opP, ↓stepP, ↓stepG, go_sem, resP, Nat.le_refl, List.take_length]; try rfl) ?_)
    simp [subD, subL, subV, subD_refl]
  | false =>
    have hb' := hb
    unfold askBad at hb
    simp only [askBad, Bool.or_eq_false_iff, decide_eq_false_iff_not] at hb'
    obtain ⟨⟨⟨n1, n2⟩, n3⟩, n4⟩ := hb'
    rw [if_neg (by simp)]
    cases hin : isC p.list m.cycle with
    | true =>
      rw [hin] at r74
      rw [if_pos rfl]
      generalize getC p.list m.cycle = z at *
      unfold VP.d VP.cells bookD Msg.d Msg.cells Part.d Part.cells at *
      refine Runs.of (kit Try.prog) Try.func123 rfl rfl (by rw [Try.ntmps123]; exact of_decide_eq_true rfl) ?_; rw [Try.ntmps123, Try.results123]
      repeat' (first
        | ((first | refine Pwp.step (kit _) rfl fun K hK => ?_ | refine Pwp.last (kit _) rfl fun K hK => ?_ | refine Pwp.stepD (kit _) rfl rfl fun K hK => ?_ | refine Pwp.lastD (kit _) rfl rfl fun K hK => ?_); simp (dsimp := false) only [↓opsP_nil, ↓opsP_cons, ↓opsD_nil, ↓opsD_cons, ↓opP, ↓stepP, ↓stepG, go_sem, hb])
        | (refine Pwp.seq ?_)
        | (refine Pwp.block ?_)
        | (refine Pwp.exit ?_; simp only [thenS, blockS, if_true, if_false, reduceIte, Nat.reduceEqDiff, Nat.add_one_ne_zero, reduceCtorEq])
        | (refine Pwp.skip ?_; simp only [thenS, blockS])
        | (refine Pwp.cond rfl True.intro (fun h => ?_) (fun h => ?_) <;> (try (cases h; done)) <;> (try simp only [h]))
        | (refine Pwp.ret ?_; try simp only [thenS, blockS])
        | (refine hK _ ?_; clear hK K)
        | (refine hK _ _ rfl ?_; clear hK K)
        | (refine CallK.give (ds := [.agg [I64 p.me, I64 p.n, .slc 4 (partsL p.list)], I64 m.cycle]) rfl (r74) (by simp) ?_)
        | (refine CallG.off ?_)
        | (with_reducible refine Or.inl ?_)
        | (simp only [thenS, blockS])
        | (with_reducible refine And.intro ?_ ?_)
        | (with_reducible exact True.intro)
        | (simp (dsimp := false) only [↓opsP_nil, ↓opsP_cons, ↓opsD_nil, ↓opsD_cons, ↓opP, ↓stepP, ↓stepG, go_sem, hb]))
      all_goals (try (first | (intro hg; simp [hg]; done) | exact of_decide_eq_true rfl | (cases h; done)))
      (refine Fin.data (.inr rfl) (by simp (dsimp := false) only [↓opsP_nil, ↓opsP_cons, ↓opsD_nil, ↓opsD_cons, ↓opP, ↓stepP, ↓stepG, go_sem, resL]; rfl) (by simp only [and_self]) (by simp (dsimp := false) only [↓opsP_nil, ↓opsP_cons, ↓opsD_nil, ↓opsD_cons, ↓opP, ↓stepP, ↓stepG, go_sem, resP, Nat.le_refl, List.take_length]; try rfl) ?_)
      simp [subD, subL, subV, subD_refl]
    | false =>
      rw [hin] at r74
      rw [if_neg (by simp)]
      generalize getC p.list m.cycle = z at *
      have r189 := run189 p ⟨m.cycle, m.currency, 1, []⟩ (by omega)
      have r186 := run186 { p with list := putC p.list ⟨m.cycle, m.currency, 1, []⟩ } (offerM m.cycle ((askL m.currency l).map lineOf)) (.inr ⟨_, rfl⟩) rfl
      have ha := ask_ok hG (c := m.currency) (n := m.cycle) (by omega)
      have hal := askL_len m.currency l
      have mi : ∀ k : Nat, minI (k : Int) 128 = ((min k 128 : Nat) : Int) := fun k => by unfold minI; split <;> omega
      have hmi := mi (keepF (notFree m.currency) l).length
      have hle2 : ((min (keepF (notFree m.currency) l).length 128 : Nat) : Int) ≤ ((keepF (notFree m.currency) l).length : Int) := by omega
      have hle1 : min (keepF (notFree m.currency) l).length 128 ≤ (keepF (notFree m.currency) l).length := by omega
      unfold VP.d VP.cells bookD Msg.d Msg.cells Part.d Part.cells at *
      unfold offerM saidD Msg.cells at *
      refine Runs.of (kit Try.prog) Try.func123 rfl rfl (by rw [Try.ntmps123]; exact of_decide_eq_true rfl) ?_; rw [Try.ntmps123, Try.results123]
      repeat' (first
        | ((first | refine Pwp.step (kit _) rfl fun K hK => ?_ | refine Pwp.last (kit _) rfl fun K hK => ?_ | refine Pwp.stepD (kit _) rfl rfl fun K hK => ?_ | refine Pwp.lastD (kit _) rfl rfl fun K hK => ?_); simp (dsimp := false) only [↓opsP_nil, ↓opsP_cons, ↓opsD_nil, ↓opsD_cons, ↓opP, ↓stepP, ↓stepG, go_sem, hb, hlen, hmi, hle2, hm1, ne_eq, not_false_eq_true, or_true, Int.le_refl])
        | (refine Pwp.seq ?_)
        | (refine Pwp.block ?_)
        | (refine Pwp.exit ?_; simp only [thenS, blockS, if_true, if_false, reduceIte, Nat.reduceEqDiff, Nat.add_one_ne_zero, reduceCtorEq])
        | (refine Pwp.skip ?_; simp only [thenS, blockS])
        | (refine Pwp.cond rfl True.intro (fun h => ?_) (fun h => ?_) <;> (try (cases h; done)) <;> (try simp only [h]))
        | (refine Pwp.ret ?_; try simp only [thenS, blockS])
        | (refine hK _ ?_; clear hK K)
        | (refine hK _ _ rfl ?_; clear hK K)
        | (refine CallK.give (ds := [.agg [I64 p.me, I64 p.n, .slc 4 (partsL p.list)], I64 m.cycle]) rfl (r74) (by simp) ?_)
        | (refine CallK.give (ds := [.agg [I64 me, .slc 8 (itemsD l), .slc 3 os], I64 m.currency]) rfl (r78) (by simp) ?_)
        | (refine CallG.off ?_)
        | (with_reducible refine Or.inl ?_)
        | (simp only [thenS, blockS])
        | (with_reducible refine And.intro ?_ ?_)
        | (with_reducible exact True.intro)
        | (simp (dsimp := false) only [↓opsP_nil, ↓opsP_cons, ↓opsD_nil, ↓opsD_cons, ↓opP, ↓stepP, ↓stepG, go_sem, hb, hlen, hmi, hle2, hm1, ne_eq, not_false_eq_true, or_true, Int.le_refl]))
      all_goals (try (first | (intro hg; simp [hg]; done) | exact of_decide_eq_true rfl | (cases h; done)))
      refine Pwp.range (askL m.currency l).length (S := L123 p me l os m) (Sub.view (VN 60) (by simp [L123]) rfl (by simp [viewH, viewP, viewL, viewO, V0, V9, V9n, VR, VN, keptOf, find, PVal.toD, subD, subL, subV, subD_refl, viewL_ds, disj, PVal.ids, pnil, List.range, List.range.loop, L123, hm2, items_len, foldB, linesD]) (by simp [viewT, St.ev, viewH, viewP, viewL, viewO, V0, V9, V9n, VR, VN, keptOf, find, PVal.toD, subD, subL, subV, subD_refl, viewL_ds, disj, PVal.ids, pnil, List.range, List.range.loop, L123, hm2, items_len, foldB, linesD])) (fun i hi => ?_) ?_
      · obtain ⟨x, hx, hm⟩ := at_lt hi
        have hg := items_at hx
        have c1 := dlt hi
        have w1 := wrap_succ (i := i) (by omega)
        obtain ⟨e1, e2⟩ := ask_lock hm (n := m.cycle) (by omega)
        have r187 := run187 x m.cycle
        rw [e1, e2] at r187
        obtain ⟨g1, g2, g3⟩ := foldB_put (f := withC m.cycle) hG (askL_sub m.currency l) (fun x => ⟨rfl, rfl⟩) ha hx
        have r50 := run50 me (foldB (withC m.cycle) ((askL m.currency l).take i) l) os (withC m.cycle x) (by omega)
        rw [g3, if_pos rfl, ← foldB_take hx] at r50
        have r188 := run188 x
        have hls : linesD (((askL m.currency l).take (i + 1)).map lineOf) = linesD (((askL m.currency l).take i).map lineOf) ++ [(lineOf x).d] := by
          rw [List.take_add_one, hx]; simp [linesD]
        have hls2 := hls
        simp only [List.map_take] at hls2
        have hln : (linesD (((askL m.currency l).take i).map lineOf)).length = i := by simp [linesD]; omega
        have htk : (linesD (((askL m.currency l).take i).map lineOf)).take i = linesD (((askL m.currency l).take i).map lineOf) := List.take_of_length_le (by omega)
        unfold Item.d Item.cells at r187
        unfold bookD Item.d Item.cells at r50
        unfold Item.d Item.cells lineOf Line.d Line.cells at r188
        simp only [withC] at r187 r50
        unfold L123
        repeat' (first
          | ((first | refine Pwp.step (kit _) rfl fun K hK => ?_ | refine Pwp.last (kit _) rfl fun K hK => ?_ | refine Pwp.stepD (kit _) rfl rfl fun K hK => ?_ | refine Pwp.lastD (kit _) rfl rfl fun K hK => ?_); simp (dsimp := false) only [↓opsP_nil, ↓opsP_cons, ↓opsD_nil, ↓opsD_cons, ↓opP, ↓stepP, ↓stepG, go_sem, hg, c1, w1, beq_self_eq_true, bne_self_eq_false, hln, htk])
          | (refine Pwp.seq ?_)
          | (refine Pwp.block ?_)
          | (refine Pwp.exit ?_; simp only [thenS, blockS, if_true, if_false, reduceIte, Nat.reduceEqDiff, Nat.add_one_ne_zero, reduceCtorEq])
          | (refine Pwp.skip ?_; simp only [thenS, blockS])
          | (refine Pwp.cond rfl True.intro (fun h => ?_) (fun h => ?_) <;> (try (cases h; done)) <;> (try simp only [h]))
          | (refine Pwp.ret ?_; try simp only [thenS, blockS])
          | (refine hK _ ?_; clear hK K)
          | (refine hK _ _ rfl ?_; clear hK K)
          | (refine CallK.toD (ds := [.agg [I64 x.seller, I64 x.number, I64 x.buyer, I64 x.currency, I64 x.amount, I64 x.round, I64 x.state, I64 x.cycle], I64 m.cycle]) rfl (r187) rfl ?_)
          | (refine CallK.toD (ds := [.agg [I64 x.seller, I64 x.number, I64 x.buyer, I64 x.currency, I64 x.amount, I64 x.round, I64 x.state, I64 x.cycle]]) rfl (r188) rfl ?_)
          | (refine CallK.give (ds := [.agg [I64 me, .slc 8 (itemsD (foldB (withC m.cycle) ((askL m.currency l).take i) l)), .slc 3 os], .agg [I64 x.seller, I64 x.number, I64 x.buyer, I64 x.currency, I64 x.amount, I64 x.round, I64 x.state, I64 m.cycle]]) rfl (r50) (by simp) ?_)
          | (refine CallG.off ?_)
          | (with_reducible refine Or.inl ?_)
          | (simp only [thenS, blockS])
          | (with_reducible refine And.intro ?_ ?_)
          | (with_reducible exact True.intro)
          | (simp (dsimp := false) only [↓opsP_nil, ↓opsP_cons, ↓opsD_nil, ↓opsD_cons, ↓opP, ↓stepP, ↓stepG, go_sem, hg, c1, w1, beq_self_eq_true, bne_self_eq_false, hln, htk]))
        all_goals (try (first | (intro hg; simp [hg]; done) | exact of_decide_eq_true rfl | (cases h; done)))
        all_goals (try (first | omega | (simp [maxLen]; omega) | (simp [hln]; done)))
        exact Sub.view (VR 60 1) (by simp [L123]) rfl (by simp [viewH, viewP, viewL, viewO, V0, V9, V9n, VR, VN, keptOf, find, PVal.toD, subD, subL, subV, subD_refl, viewL_ds, disj, PVal.ids, pnil, List.range, List.range.loop, L123, hls2, lineOf, Line.d, Line.cells]) (by simp [viewT, St.ev, viewH, viewP, viewL, viewO, V0, V9, V9n, VR, VN, keptOf, find, PVal.toD, subD, subL, subV, subD_refl, viewL_ds, disj, PVal.ids, pnil, List.range, List.range.loop, L123, hls2, lineOf, Line.d, Line.cells])
      · have c1 := dge (Nat.le_refl (askL m.currency l).length)
        have hls : linesD (((askL m.currency l).take (askL m.currency l).length).map lineOf) = linesD ((askL m.currency l).map lineOf) := by rw [List.take_length]
        have hln : (linesD ((askL m.currency l).map lineOf)).length = (askL m.currency l).length := by simp [linesD]
        have htk : (linesD ((askL m.currency l).map lineOf)).take (askL m.currency l).length = linesD ((askL m.currency l).map lineOf) := List.take_of_length_le (by omega)
        unfold L123
        rw [hls, List.take_length]
        repeat' (first
          | ((first | refine Pwp.step (kit _) rfl fun K hK => ?_ | refine Pwp.last (kit _) rfl fun K hK => ?_ | refine Pwp.stepD (kit _) rfl rfl fun K hK => ?_ | refine Pwp.lastD (kit _) rfl rfl fun K hK => ?_); simp (dsimp := false) only [↓opsP_nil, ↓opsP_cons, ↓opsD_nil, ↓opsD_cons, ↓opP, ↓stepP, ↓stepG, go_sem, c1, htk, hln])
          | (refine Pwp.seq ?_)
          | (refine Pwp.block ?_)
          | (refine Pwp.exit ?_; simp only [thenS, blockS, if_true, if_false, reduceIte, Nat.reduceEqDiff, Nat.add_one_ne_zero, reduceCtorEq])
          | (refine Pwp.skip ?_; simp only [thenS, blockS])
          | (refine Pwp.cond rfl True.intro (fun h => ?_) (fun h => ?_) <;> (try (cases h; done)) <;> (try simp only [h]))
          | (refine Pwp.ret ?_; try simp only [thenS, blockS])
          | (refine hK _ ?_; clear hK K)
          | (refine hK _ _ rfl ?_; clear hK K)
          | (refine CallK.giveS (ds := [.agg [I64 p.me, I64 p.n, .slc 4 (partsL p.list)], .agg [I64 m.cycle, I64 m.currency, I64 1, nilD]]) (es := [.agg [I64 p.me, I64 p.n, .slc 4 (partsL p.list)], .agg [I64 m.cycle, I64 m.currency, I64 1, .slc 4 (linesD [])]]) rfl (by simp [subL, subD, subV, subD_refl, linesD]) r189 (by simp) ?_)
          | (refine CallK.give (ds := [.agg [I64 p.me, I64 p.n, .slc 4 (partsL (putC p.list ⟨m.cycle, m.currency, 1, []⟩))], .agg [I64 11, I64 0, I64 0, I64 0, I64 0, I64 0, I64 m.cycle, I64 0, .v (.bool false), .slc 4 (linesD ((askL m.currency l).map lineOf)), nilD]]) (by simp [toDL, PVal.toD, find, htk, hln]) r186 (by simp) ?_)
          | (refine CallG.off ?_)
          | (with_reducible refine Or.inl ?_)
          | (simp only [thenS, blockS])
          | (with_reducible refine And.intro ?_ ?_)
          | (with_reducible exact True.intro)
          | (simp (dsimp := false) only [↓opsP_nil, ↓opsP_cons, ↓opsD_nil, ↓opsD_cons, ↓opP, ↓stepP, ↓stepG, go_sem, c1, htk, hln]))
        all_goals (try (first | (intro hg; simp [hg]; done) | exact of_decide_eq_true rfl | (cases h; done)))
        (refine Fin.data (.inr rfl) (by simp (dsimp := false) only [↓opsP_nil, ↓opsP_cons, ↓opsD_nil, ↓opsD_cons, ↓opP, ↓stepP, ↓stepG, go_sem, resL]; rfl) (by simp only [and_self]) (by simp (dsimp := false) only [↓opsP_nil, ↓opsP_cons, ↓opsD_nil, ↓opsD_cons, ↓opP, ↓stepP, ↓stepG, go_sem, resP, Nat.le_refl, List.take_length]; try rfl) ?_)
        simp [subD, subL, subV, subD_refl]

end Go.Proofs.Ytdodgbhodkcckaa.Pv
