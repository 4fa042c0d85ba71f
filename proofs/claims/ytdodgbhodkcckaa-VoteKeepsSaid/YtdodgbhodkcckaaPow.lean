/- Walks of an entity's part in cycles: the statement that what is voted for stays. -/
import Derived.Test.YtdodgbhodkcckaaPoq
import Derived.Test.YtdodgbhodkcckaaPou
set_option linter.unusedVariables false
set_option linter.unusedSimpArgs false
set_option autoImplicit false
set_option maxRecDepth 100000
namespace Go.Proofs.Ytdodgbhodkcckaa.Pv
open Go Go.RowKit

def L21a (ws : List VW) (b : Bool) (q : List Line) (pl : List Part) (l : List Item) (i : Nat) : St :=
  ⟨[(66, pint .i64 i), (65, pint .i64 q.length), (64, .d (.slc 4 (linesD q))), (14, .own 196 0 1 0 3), (13, .d (.slc 4 (linesD q))), (10, .ref 81 0), (7, .ref 42 0), (2, .d (.v (.bool b))), (1, .d (.slc 12 (vwsD ws)))],
   [(42, bxB l), (81, bxP pl), (196, .arr 2 1 0 none (ntL (q.take i)))], 216⟩
def L21b (ws : List VW) (b : Bool) (q : List Line) (pl : List Part) (l : List Item) (i : Nat) : St :=
  ⟨[(122, pint .i64 i), (121, pint .i64 ws.length), (120, .d (.slc 12 (vwsD ws))), (13, .d (.slc 4 (linesD q))), (10, .ref 81 0), (7, .ref 42 0), (2, .d (.v (.bool b)))],
   [(42, bxB l), (81, bxP pl)], 476⟩
def L21c (ws : List VW) (b : Bool) (q : List Line) (pl : List Part) (l : List Item) (i j : Nat) : St :=
  ⟨[(150, pint .i64 j), (149, pint .i64 q.length), (148, .d (.slc 4 (linesD q))), (122, pint .i64 i), (121, pint .i64 ws.length), (120, .d (.slc 12 (vwsD ws))), (13, .d (.slc 4 (linesD q))), (10, .ref 81 0), (7, .ref 42 0), (2, .d (.v (.bool b)))],
   [(42, bxB l), (81, bxP pl)], 604⟩
def L21d (b : Bool) (q : List Line) (pl : List Part) (l : List Item) (j : Nat) : St :=
  ⟨[(194, pint .i64 j), (193, pint .i64 q.length), (192, .d (.slc 4 (linesD q))), (12, .d (I64 0)), (10, .ref 81 0), (7, .ref 42 0), (2, .d (.v (.bool b)))],
   [(42, bxB l), (81, bxP pl)], 820⟩
theorem Kept.mono {l0 : List Item} {pl : List Part} {l : List Item} {k : Nat} (h : Kept l0 pl l k) : Kept l0 pl l (k + 1) := ⟨h.g, h.p.mono, h.n, h.i, h.c, h.s, h.t⟩
set_option maxHeartbeats 64000000 in
theorem run21 (a : List Item) (ws : List VW) (b : Bool) : Runs Try.prog 21 [.d (.slc 8 (itemsD a)), .d (.slc 12 (vwsD ws)), .d (.v (.bool b))] [] (pbool true) [] := by
  have r67 := run67
  have r68 := run68 a ws
  have hvl := vws_len ws
  cases hf : fitsV a ws with
  | false =>
    rw [hf] at r68
    refine Runs.of (kit Try.prog) Try.func21 rfl rfl (by rw [Try.ntmps21]; exact of_decide_eq_true rfl) ?_; rw [Try.ntmps21, Try.results21]
    repeat' (first
      | ((first | refine Pwp.step (kit _) rfl fun K hK => ?_ | refine Pwp.last (kit _) rfl fun K hK => ?_ | refine Pwp.stepD (kit _) rfl rfl fun K hK => ?_ | refine Pwp.lastD (kit _) rfl rfl fun K hK => ?_); simp (dsimp := false) only [↓opsP_nil, ↓opsP_cons, ↓opsD_nil, ↓opsD_cons, ↓opP, ↓stepP, ↓stepG, go_sem, Bool.not_true, Bool.not_false])
      | (refine Pwp.seq ?_)
      | (refine Pwp.block ?_)
      | (refine Pwp.exit ?_; simp only [thenS, blockS, if_true, if_false, reduceIte, Nat.reduceEqDiff, Nat.add_one_ne_zero, reduceCtorEq])
      | (refine Pwp.skip ?_; simp only [thenS, blockS])
      | (refine Pwp.cond rfl True.intro (fun h => ?_) (fun h => ?_) <;> (try (cases h; done)) <;> (try simp only [h]))
      | (refine Pwp.ret ?_; try simp only [thenS, blockS])
      | (refine hK _ ?_; clear hK K)
      | (refine hK _ _ rfl ?_; clear hK K)
      | (refine CallK.toD (ds := []) rfl (r67) rfl ?_)
      | (refine CallK.toD (ds := [.slc 8 (itemsD a), .slc 12 (vwsD ws)]) rfl (r68) rfl ?_)
      | (refine CallG.off ?_)
      | (with_reducible refine Or.inl ?_)
      | (simp only [thenS, blockS])
      | (with_reducible refine And.intro ?_ ?_)
      | (with_reducible exact True.intro)
      | (simp (dsimp := false) only [↓opsP_nil, ↓opsP_cons, ↓opsD_nil, ↓opsD_cons, ↓opP, ↓stepP, ↓stepG, go_sem, Bool.not_true, Bool.not_false]))
    all_goals (try (first | (intro hg; simp [hg]; done) | exact of_decide_eq_true rfl | (cases h; done)))
    (refine Fin.data (.inr rfl) (by simp (dsimp := false) only [↓opsP_nil, ↓opsP_cons, ↓opsD_nil, ↓opsD_cons, ↓opP, ↓stepP, ↓stepG, go_sem, resL]; rfl) (by simp only [and_self]) (by simp (dsimp := false) only [↓opsP_nil, ↓opsP_cons, ↓opsD_nil, ↓opsD_cons, ↓opP, ↓stepP, ↓stepG, go_sem, resP, Nat.le_refl, List.take_length]; try rfl) ?_)
    exact subD_refl _
  | true =>
    rw [hf] at r68
    have hf2 := hf
    simp only [fitsV, Bool.and_eq_true, Bool.not_eq_true', Bool.or_eq_false_iff, decide_eq_false_iff_not, List.all_eq_true] at hf2
    obtain ⟨⟨ha, hw⟩, hall⟩ := hf2
    have r69 := run69 a (by omega)
    have hfl := fill_len a
    have hG := fill_good a
    generalize (fillS a).1 = l at *
    have hl40 : l.length ≤ 40 := by omega
    have rA := run70 ⟨0, 3, []⟩ 0 l [] vmA 3 hG (by omega) (by simp) (by simp) (by simp [vmA]) (by simp [vmA])
    rw [keep_ask] at rA
    have hG1 := (ask_map hG (c := 0) (n := 77) (by omega)).2
    have hl1 : (foldB (withC 77) (askL 0 l) l).length = l.length := foldB_len hG (askL_sub 0 l) (withC_key 77) (ask_ok hG (by omega))
    have hql := lines_len (offL l)
    have hq128 : (offL l).length ≤ 128 := by unfold offL; rw [List.length_map]; exact askL_len 0 l
    have hk0 := kept_start hG
    have rP := run70 ⟨0, 3, [⟨77, 0, 1, []⟩]⟩ 0 (foldB (withC 77) (askL 0 l) l) [] (vmP l) 3 hG1 (by omega) (by simp) (by simp) (by simp only [vmP]; omega) (by simp only [vmP, outs_len]; omega)
    have hprep := keep_prep hG
    have qat : ∀ {j : Nat}, j < (offL l).length → ∃ x, (offL l)[j]? = some (lineOf x) ∧ x ∈ askL 0 l ∧ (linesD (offL l))[j]? = some (.agg [I64 x.seller, I64 x.number, I64 x.buyer, I64 x.amount]) := by
      intro j hj
      obtain ⟨y, hy, hm⟩ := at_lt hj
      obtain ⟨x, hx, rfl⟩ := List.mem_map.1 hm
      exact ⟨x, hy, hx, lines_get hy⟩
    have hfine : ∀ x ∈ askL 0 l, Fine x := fun x hx => hG.fine x (askL_spec hx).1
    have hst3 : ∀ x ∈ askL 0 l, x.state = 3 := fun x hx => (askL_spec hx).2.1
    have hmono : ∀ {j : Nat}, (∀ y ∈ (offL l).take j, y.seller ≤ 2 ∧ y.buyer ≤ 2) → ∀ y ∈ (offL l).take j, LineOK 3 y := by
      intro j h y hy
      obtain ⟨x, hx, rfl⟩ := List.mem_map.1 (List.mem_of_mem_take hy)
      exact lineOK_of (hfine x hx) (h _ hy).1 (h _ hy).2
    have hall2 : (∀ y ∈ offL l, y.seller ≤ 2 ∧ y.buyer ≤ 2) → ∀ x ∈ askL 0 l, x.seller ≤ 2 ∧ x.buyer ≤ 2 := fun h x hx => h (lineOf x) (List.mem_map.2 ⟨x, hx, rfl⟩)
    have hkin : ∀ {pl : List Part} {l' : List Item} {k : Nat}, Kept l pl l' k → ∀ x ∈ askL 0 l, isIn l' x.seller x.number = true ∧ getI l' x.seller x.number = withC 77 x := fun h x hx => kept_in h hx
    have hklast : ∀ {pl : List Part} {l' : List Item} {k : Nat}, Kept l pl l' k → ∀ x ∈ askL 0 l, _ := fun h x hx => kept_last h b hx
    have hkend : ∀ {pl : List Part} {l' : List Item} {k : Nat}, Kept l pl l' k → _ := fun h => kept_end h b
    have hnt0 : ntL [] = [I64 0, I64 0, I64 0] := by kernel_rfl
    have hntl : ∀ q : List Line, (ntL q).take 3 = ntL q := fun q => List.take_of_length_le (by rw [nt_len]; omega)
    have hnln : ∀ q : List Line, (ntL q).length = 3 := nt_len
    simp only [vOutD, VP.d, VP.cells, bookD, VMsg.msg, vmA, Msg.d, Msg.cells, saidD, offerM, Option.toList, rdD, RDesk.d, RDesk.cells] at r69 rA
    generalize hl1e : foldB (withC 77) (askL 0 l) l = l1 at *
    generalize hqe : offL l = q at *
    refine Runs.of (kit Try.prog) Try.func21 rfl rfl (by rw [Try.ntmps21]; exact of_decide_eq_true rfl) ?_; rw [Try.ntmps21, Try.results21]
    repeat' (first
      | ((first | refine Pwp.step (kit _) rfl fun K hK => ?_ | refine Pwp.last (kit _) rfl fun K hK => ?_ | refine Pwp.stepD (kit _) rfl rfl fun K hK => ?_ | refine Pwp.lastD (kit _) rfl rfl fun K hK => ?_); simp (dsimp := false) only [↓opsP_nil, ↓opsP_cons, ↓opsD_nil, ↓opsD_cons, ↓opP, ↓stepP, ↓stepG, go_sem, Bool.not_true, Bool.not_false, hvl, hql, bne_self_eq_false, Bool.or_self])
      | (refine Pwp.seq ?_)
      | (refine Pwp.block ?_)
      | (refine Pwp.exit ?_; simp only [thenS, blockS, if_true, if_false, reduceIte, Nat.reduceEqDiff, Nat.add_one_ne_zero, reduceCtorEq])
      | (refine Pwp.skip ?_; simp only [thenS, blockS])
      | (refine Pwp.cond rfl True.intro (fun h => ?_) (fun h => ?_) <;> (try (cases h; done)) <;> (try simp only [h]))
      | (refine Pwp.ret ?_; try simp only [thenS, blockS])
      | (refine hK _ ?_; clear hK K)
      | (refine hK _ _ rfl ?_; clear hK K)
      | (refine CallK.giveS (ds := [.agg [I64 0, I64 3, nilD], .agg [I64 0, .slc 8 (itemsD l), .slc 3 []], .agg [I64 10, I64 0, I64 0, I64 0, I64 0, I64 0, I64 77, I64 0, .v (.bool false), nilD, nilD], I64 3]) (es := [.agg [I64 0, I64 3, .slc 4 (partsL [])], .agg [I64 0, .slc 8 (itemsD l), .slc 3 []], .agg [I64 10, I64 0, I64 0, I64 0, I64 0, I64 0, I64 77, I64 0, .v (.bool false), .slc 4 (linesD []), .slc 1 (List.map I64 [])], I64 3]) rfl (by simp [subL, subD, subV, subD_refl, linesD, partsL]) rA (by simp) ?_)
      | (refine CallK.toD (ds := []) rfl (r67) rfl ?_)
      | (refine CallK.toD (ds := [.slc 8 (itemsD a), .slc 12 (vwsD ws)]) rfl (r68) rfl ?_)
      | (refine CallK.give (ds := [.slc 8 (itemsD a)]) rfl (r69) (by simp) ?_)
      | (refine CallG.off ?_)
      | (with_reducible refine Or.inl ?_)
      | (simp only [thenS, blockS])
      | (with_reducible refine And.intro ?_ ?_)
      | (with_reducible exact True.intro)
      | (simp (dsimp := false) only [↓opsP_nil, ↓opsP_cons, ↓opsD_nil, ↓opsD_cons, ↓opP, ↓stepP, ↓stepG, go_sem, Bool.not_true, Bool.not_false, hvl, hql, bne_self_eq_false, Bool.or_self]))
    all_goals (try (first | (intro hg; simp [hg]; done) | exact of_decide_eq_true rfl | (cases h; done)))
    refine Pwp.rangeI q.length (fun i s => (∀ y ∈ q.take i, y.seller ≤ 2 ∧ y.buyer ≤ 2) ∧ s = L21a ws b q [⟨77, 0, 1, []⟩] l1 i) (s0 := L21a ws b q [⟨77, 0, 1, []⟩] l1 0) (Sub.view V0 (by simp [L21a]) rfl (by simp [viewH, viewP, viewL, viewO, V0, V9, V9n, VR, VN, keptOf, find, PVal.toD, subD, subL, subV, subD_refl, viewL_ds, disj, PVal.ids, pnil, List.range, List.range.loop, L21a, bxB, bxP, hql, hnt0]) (by simp [viewT, St.ev, viewH, viewP, viewL, viewO, V0, V9, V9n, VR, VN, keptOf, find, PVal.toD, subD, subL, subV, subD_refl, viewL_ds, disj, PVal.ids, pnil, List.range, List.range.loop, L21a, bxB, bxP, hql, hnt0])) ⟨by simp, rfl⟩ ?_ ?_
    · rintro i s hi ⟨hok, rfl⟩
      obtain ⟨x, hxx, hxm, hgx⟩ := qat hi
      have c1 := dlt hi
      have w1 := wrap_succ (i := i) (by omega)
      cases hc : (decide (2 < x.seller) || decide (2 < x.buyer)) with
      | true =>
        unfold L21a bxB bxP
        repeat' (first
          | ((first | refine Pwp.step (kit _) rfl fun K hK => ?_ | refine Pwp.last (kit _) rfl fun K hK => ?_ | refine Pwp.stepD (kit _) rfl rfl fun K hK => ?_ | refine Pwp.lastD (kit _) rfl rfl fun K hK => ?_); simp (dsimp := false) only [↓opsP_nil, ↓opsP_cons, ↓opsD_nil, ↓opsD_cons, ↓opP, ↓stepP, ↓stepG, go_sem, hgx, c1, hc])
          | (refine Pwp.seq ?_)
          | (refine Pwp.block ?_)
          | (refine Pwp.exit ?_; simp only [thenS, blockS, if_true, if_false, reduceIte, Nat.reduceEqDiff, Nat.add_one_ne_zero, reduceCtorEq])
          | (refine Pwp.skip ?_; simp only [thenS, blockS])
          | (refine Pwp.cond rfl True.intro (fun h => ?_) (fun h => ?_) <;> (try (cases h; done)) <;> (try simp only [h]))
          | (refine Pwp.ret ?_; try simp only [thenS, blockS])
          | (refine hK _ ?_; clear hK K)
          | (refine hK _ _ rfl ?_; clear hK K)
          | (refine CallG.off ?_)
          | (with_reducible refine Or.inl ?_)
          | (simp only [thenS, blockS])
          | (with_reducible refine And.intro ?_ ?_)
          | (with_reducible exact True.intro)
          | (simp (dsimp := false) only [↓opsP_nil, ↓opsP_cons, ↓opsD_nil, ↓opsD_cons, ↓opP, ↓stepP, ↓stepG, go_sem, hgx, c1, hc]))
        all_goals (try (first | (intro hg; simp [hg]; done) | exact of_decide_eq_true rfl | (cases h; done)))
        (refine Fin.data (.inr rfl) (by simp (dsimp := false) only [↓opsP_nil, ↓opsP_cons, ↓opsD_nil, ↓opsD_cons, ↓opP, ↓stepP, ↓stepG, go_sem, resL]; rfl) (by simp only [and_self]) (by simp (dsimp := false) only [↓opsP_nil, ↓opsP_cons, ↓opsD_nil, ↓opsD_cons, ↓opP, ↓stepP, ↓stepG, go_sem, resP, Nat.le_refl, List.take_length]; try rfl) ?_)
        exact subD_refl _
      | false =>
        have hc2 := hc
        simp only [Bool.or_eq_false_iff, decide_eq_false_iff_not] at hc2
        have hlx : LineOK 3 (lineOf x) := lineOK_of (hfine x hxm) (by omega) (by omega)
        have hn1 := netL_in (j := x.seller) (hmono hok) (by rw [List.length_take]; omega)
        have hn2 := netL_in (j := x.buyer) (hmono hok) (by rw [List.length_take]; omega)
        have hna := hlx.a
        simp only [lineOf] at hna
        have v1 : IntKind.wrap .i64 (netL x.seller (q.take i) + x.amount) = netL x.seller (q.take i) + x.amount := wrap_of (by omega) (by omega)
        have v2 : IntKind.wrap .i64 (netL x.buyer (q.take i) - x.amount) = netL x.buyer (q.take i) - x.amount := wrap_of (by omega) (by omega)
        have g1 := nt_get (q.take i) (j := x.seller) hlx.s.1 hlx.s.2
        have g2 : ∀ v : D, ((ntL (q.take i)).set x.seller.toNat v)[x.buyer.toNat]? = some (I64 (netL x.buyer (q.take i))) := fun v => nt_next hlx
        have p1 : 0 ≤ x.seller := hlx.s.1
        have p2 : x.seller.toNat < 3 := by have := hlx.s.2; simp only [lineOf] at this; omega
        have p3 : 0 ≤ x.buyer := hlx.b.1
        have p4 : x.buyer.toNat < 3 := by have := hlx.b.2; simp only [lineOf] at this; omega
        have hnx := nt_two (l := q.take i) hlx
        have htk1 : q.take i ++ [lineOf x] = q.take (i + 1) := by rw [List.take_add_one, hxx]; rfl
        rw [htk1] at hnx
        have hnx' : ((ntL (q.take i)).set x.seller.toNat (I64 (netL x.seller (q.take i) + x.amount))).set x.buyer.toNat (I64 (netL x.buyer (q.take i) - x.amount)) = ntL (q.take (i + 1)) := hnx
        have hok' : ∀ y ∈ q.take (i + 1), y.seller ≤ 2 ∧ y.buyer ≤ 2 := by
          intro y hy
          rw [← htk1] at hy
          rcases List.mem_append.1 hy with hy | hy
          · exact hok y hy
          · obtain rfl := by simpa using hy
            exact ⟨by simp only [lineOf]; omega, by simp only [lineOf]; omega⟩
        unfold L21a bxB bxP
        repeat' (first
          | ((first | refine Pwp.step (kit _) rfl fun K hK => ?_ | refine Pwp.last (kit _) rfl fun K hK => ?_ | refine Pwp.stepD (kit _) rfl rfl fun K hK => ?_ | refine Pwp.lastD (kit _) rfl rfl fun K hK => ?_); simp (dsimp := false) only [↓opsP_nil, ↓opsP_cons, ↓opsD_nil, ↓opsD_cons, ↓opP, ↓stepP, ↓stepG, go_sem, hgx, c1, w1, hc, g1, g2, v1, v2, p1, p2, p3, p4])
          | (refine Pwp.seq ?_)
          | (refine Pwp.block ?_)
          | (refine Pwp.exit ?_; simp only [thenS, blockS, if_true, if_false, reduceIte, Nat.reduceEqDiff, Nat.add_one_ne_zero, reduceCtorEq])
          | (refine Pwp.skip ?_; simp only [thenS, blockS])
          | (refine Pwp.cond rfl True.intro (fun h => ?_) (fun h => ?_) <;> (try (cases h; done)) <;> (try simp only [h]))
          | (refine Pwp.ret ?_; try simp only [thenS, blockS])
          | (refine hK _ ?_; clear hK K)
          | (refine hK _ _ rfl ?_; clear hK K)
          | (refine CallG.off ?_)
          | (with_reducible refine Or.inl ?_)
          | (simp only [thenS, blockS])
          | (with_reducible refine And.intro ?_ ?_)
          | (with_reducible exact True.intro)
          | (simp (dsimp := false) only [↓opsP_nil, ↓opsP_cons, ↓opsD_nil, ↓opsD_cons, ↓opP, ↓stepP, ↓stepG, go_sem, hgx, c1, w1, hc, g1, g2, v1, v2, p1, p2, p3, p4]))
        all_goals (try (first | (intro hg; simp [hg]; done) | exact of_decide_eq_true rfl | (cases h; done)))
        exact ⟨_, Sub.view V0 (by simp [L21a]) rfl (by simp [viewH, viewP, viewL, viewO, V0, V9, V9n, VR, VN, keptOf, find, PVal.toD, subD, subL, subV, subD_refl, viewL_ds, disj, PVal.ids, pnil, List.range, List.range.loop, L21a, bxB, bxP, hnx']) (by simp [viewT, St.ev, viewH, viewP, viewL, viewO, V0, V9, V9n, VR, VN, keptOf, find, PVal.toD, subD, subL, subV, subD_refl, viewL_ds, disj, PVal.ids, pnil, List.range, List.range.loop, L21a, bxB, bxP, hnx']), hok', rfl⟩
    · rintro s ⟨hok, rfl⟩
      have c1 := dge (Nat.le_refl q.length)
      rw [List.take_length] at hok
      have hP2 := hprep (hall2 hok)
      rw [hP2] at rP
      have htk3 := hntl q
      have hln3 := hnln q
      simp only [vOutD, VP.d, VP.cells, bookD, VMsg.msg, vmP, Msg.d, Msg.cells, saidD, voteM, Option.toList, hqe] at rP
      change Runs Try.prog 70 [_, _, .d (.agg [_, _, _, _, _, _, _, _, _, _, .slc 1 (ntL q)]), _] _ _ _ at rP
      unfold L21a bxB bxP
      rw [List.take_length]
      repeat' (first
        | ((first | refine Pwp.step (kit _) rfl fun K hK => ?_ | refine Pwp.last (kit _) rfl fun K hK => ?_ | refine Pwp.stepD (kit _) rfl rfl fun K hK => ?_ | refine Pwp.lastD (kit _) rfl rfl fun K hK => ?_); simp (dsimp := false) only [↓opsP_nil, ↓opsP_cons, ↓opsD_nil, ↓opsD_cons, ↓opP, ↓stepP, ↓stepG, go_sem, c1, htk3, hln3, bne_self_eq_false, Bool.not_true, Bool.or_self, hvl])
        | (refine Pwp.seq ?_)
        | (refine Pwp.block ?_)
        | (refine Pwp.exit ?_; simp only [thenS, blockS, if_true, if_false, reduceIte, Nat.reduceEqDiff, Nat.add_one_ne_zero, reduceCtorEq])
        | (refine Pwp.skip ?_; simp only [thenS, blockS])
        | (refine Pwp.cond rfl True.intro (fun h => ?_) (fun h => ?_) <;> (try (cases h; done)) <;> (try simp only [h]))
        | (refine Pwp.ret ?_; try simp only [thenS, blockS])
        | (refine hK _ ?_; clear hK K)
        | (refine hK _ _ rfl ?_; clear hK K)
        | (refine CallK.give (ds := [.agg [I64 0, I64 3, .slc 4 (partsL [⟨77, 0, 1, []⟩])], .agg [I64 0, .slc 8 (itemsD l1), .slc 3 []], .agg [I64 12, I64 0, I64 0, I64 0, I64 0, I64 0, I64 77, I64 0, .v (.bool false), .slc 4 (linesD q), .slc 1 (ntL q)], I64 3]) (by simp [toDL, PVal.toD, find, htk3, hln3]) rP (by simp) ?_)
        | (refine CallG.off ?_)
        | (with_reducible refine Or.inl ?_)
        | (simp only [thenS, blockS])
        | (with_reducible refine And.intro ?_ ?_)
        | (with_reducible exact True.intro)
        | (simp (dsimp := false) only [↓opsP_nil, ↓opsP_cons, ↓opsD_nil, ↓opsD_cons, ↓opP, ↓stepP, ↓stepG, go_sem, c1, htk3, hln3, bne_self_eq_false, Bool.not_true, Bool.or_self, hvl]))
      all_goals (try (first | (intro hg; simp [hg]; done) | exact of_decide_eq_true rfl | (cases h; done)))
      refine Pwp.rangeI ws.length (fun i s => ∃ pl l', Kept l pl l' (i + 1) ∧ s = L21b ws b q pl l' i) (s0 := L21b ws b q [⟨77, 0, 2, q⟩] l1 0) (Sub.view V0 (by simp [L21b]) rfl (by simp [viewH, viewP, viewL, viewO, V0, V9, V9n, VR, VN, keptOf, find, PVal.toD, subD, subL, subV, subD_refl, viewL_ds, disj, PVal.ids, pnil, List.range, List.range.loop, L21b, bxB, bxP, hvl]) (by simp [viewT, St.ev, viewH, viewP, viewL, viewO, V0, V9, V9n, VR, VN, keptOf, find, PVal.toD, subD, subL, subV, subD_refl, viewL_ds, disj, PVal.ids, pnil, List.range, List.range.loop, L21b, bxB, bxP, hvl])) ⟨_, _, hk0, rfl⟩ ?_ ?_
      · rintro i s hi ⟨pl, l', hK, rfl⟩
        obtain ⟨w, hx, hm⟩ := at_lt hi
        have hg := vws_get hx
        have c2 := dlt hi
        have w2 := wrap_succ (i := i) (by omega)
        have hwl := hall w hm
        simp only [badW, Bool.not_eq_true', Bool.or_eq_false_iff, decide_eq_false_iff_not] at hwl
        cases hc : (w.m.kind == 14 && w.m.cycle == 77) with
        | true =>
          unfold L21b bxB bxP
          repeat' (first
            | ((first | refine Pwp.step (kit _) rfl fun K hK => ?_ | refine Pwp.last (kit _) rfl fun K hK => ?_ | refine Pwp.stepD (kit _) rfl rfl fun K hK => ?_ | refine Pwp.lastD (kit _) rfl rfl fun K hK => ?_); simp (dsimp := false) only [↓opsP_nil, ↓opsP_cons, ↓opsD_nil, ↓opsD_cons, ↓opP, ↓stepP, ↓stepG, go_sem, hg, c2, w2, hc])
            | (refine Pwp.seq ?_)
            | (refine Pwp.block ?_)
            | (refine Pwp.exit ?_; simp only [thenS, blockS, if_true, if_false, reduceIte, Nat.reduceEqDiff, Nat.add_one_ne_zero, reduceCtorEq])
            | (refine Pwp.skip ?_; simp only [thenS, blockS])
            | (refine Pwp.cond rfl True.intro (fun h => ?_) (fun h => ?_) <;> (try (cases h; done)) <;> (try simp only [h]))
            | (refine Pwp.ret ?_; try simp only [thenS, blockS])
            | (refine hK _ ?_; clear hK K)
            | (refine hK _ _ rfl ?_; clear hK K)
            | (refine CallG.off ?_)
            | (with_reducible refine Or.inl ?_)
            | (simp only [thenS, blockS])
            | (with_reducible refine And.intro ?_ ?_)
            | (with_reducible exact True.intro)
            | (simp (dsimp := false) only [↓opsP_nil, ↓opsP_cons, ↓opsD_nil, ↓opsD_cons, ↓opP, ↓stepP, ↓stepG, go_sem, hg, c2, w2, hc]))
          all_goals (try (first | (intro hg; simp [hg]; done) | exact of_decide_eq_true rfl | (cases h; done)))
          exact ⟨_, Sub.view V0 (by simp [L21b]) rfl (by simp [viewH, viewP, viewL, viewO, V0, V9, V9n, VR, VN, keptOf, find, PVal.toD, subD, subL, subV, subD_refl, viewL_ds, disj, PVal.ids, pnil, List.range, List.range.loop, L21b, bxB, bxP]) (by simp [viewT, St.ev, viewH, viewP, viewL, viewO, V0, V9, V9n, VR, VN, keptOf, find, PVal.toD, subD, subL, subV, subD_refl, viewL_ds, disj, PVal.ids, pnil, List.range, List.range.loop, L21b, bxB, bxP]), pl, l', hK.mono, rfl⟩
        | false =>
          have hpp := hK.p.pl
          simp only at hpp
          have hln := hK.n
          have r70 := run70 ⟨0, 3, pl⟩ 0 l' [] w.m w.from' hK.g (by omega) (by simp only; omega) (fun x hx => by have := hK.p.ls x hx; omega) (by omega) (by omega)
          have hK' := kept_step hK (m := w.m) (f := w.from') (by omega) (by simpa using hc)
          have hinv := voteR_inv (p := ⟨0, 3, pl⟩) (m := w.m) (f := w.from') hK.g hK.p (by omega)
          generalize voteR ⟨0, 3, pl⟩ l' w.m w.from' = R at *
          obtain ⟨e, ⟨pm, pn, pl2⟩, l2, o⟩ := R
          simp only at hinv hK'
          obtain ⟨_, i2, _, rfl, rfl⟩ := hinv
          simp only [vOutD, VP.d, VP.cells, bookD, VMsg.msg, Msg.d, Msg.cells] at r70
          unfold L21b bxB bxP
          repeat' (first
            | ((first | refine Pwp.step (kit _) rfl fun K hK => ?_ | refine Pwp.last (kit _) rfl fun K hK => ?_ | refine Pwp.stepD (kit _) rfl rfl fun K hK => ?_ | refine Pwp.lastD (kit _) rfl rfl fun K hK => ?_); simp (dsimp := false) only [↓opsP_nil, ↓opsP_cons, ↓opsD_nil, ↓opsD_cons, ↓opP, ↓stepP, ↓stepG, go_sem, hg, c2, hc, hql])
            | (refine Pwp.seq ?_)
            | (refine Pwp.block ?_)
            | (refine Pwp.exit ?_; simp only [thenS, blockS, if_true, if_false, reduceIte, Nat.reduceEqDiff, Nat.add_one_ne_zero, reduceCtorEq])
            | (refine Pwp.skip ?_; simp only [thenS, blockS])
            | (refine Pwp.cond rfl True.intro (fun h => ?_) (fun h => ?_) <;> (try (cases h; done)) <;> (try simp only [h]))
            | (refine Pwp.ret ?_; try simp only [thenS, blockS])
            | (refine hK _ ?_; clear hK K)
            | (refine hK _ _ rfl ?_; clear hK K)
            | (refine CallK.give (ds := [.agg [I64 0, I64 3, .slc 4 (partsL pl)], .agg [I64 0, .slc 8 (itemsD l'), .slc 3 []], .agg [I64 w.m.kind, I64 w.m.seller, I64 w.m.number, I64 w.m.buyer, I64 w.m.currency, I64 w.m.round, I64 w.m.cycle, I64 w.m.amount, .v (.bool w.m.yes), .slc 4 (linesD w.m.ls), .slc 1 (w.m.ns.map I64)], I64 w.from']) rfl (r70) (by simp) ?_)
            | (refine CallG.off ?_)
            | (with_reducible refine Or.inl ?_)
            | (simp only [thenS, blockS])
            | (with_reducible refine And.intro ?_ ?_)
            | (with_reducible exact True.intro)
            | (simp (dsimp := false) only [↓opsP_nil, ↓opsP_cons, ↓opsD_nil, ↓opsD_cons, ↓opP, ↓stepP, ↓stepG, go_sem, hg, c2, hc, hql]))
          all_goals (try (first | (intro hg; simp [hg]; done) | exact of_decide_eq_true rfl | (cases h; done)))
          refine Pwp.range q.length (S := L21c ws b q pl2 l2 i) (Sub.view V0 (by simp [L21c]) rfl (by simp [viewH, viewP, viewL, viewO, V0, V9, V9n, VR, VN, keptOf, find, PVal.toD, subD, subL, subV, subD_refl, viewL_ds, disj, PVal.ids, pnil, List.range, List.range.loop, L21c, bxB, bxP, hql]) (by simp [viewT, St.ev, viewH, viewP, viewL, viewO, V0, V9, V9n, VR, VN, keptOf, find, PVal.toD, subD, subL, subV, subD_refl, viewL_ds, disj, PVal.ids, pnil, List.range, List.range.loop, L21c, bxB, bxP, hql])) (fun j hj => ?_) ?_
          · obtain ⟨x, hxx, hxm, hgx⟩ := qat hj
            have c3 := dlt hj
            have w3 := wrap_succ (i := j) (by omega)
            obtain ⟨k1, k2⟩ := hkin hK' x hxm
            have r65 := run65 0 l2 [] x.seller x.number (by omega)
            rw [k1, k2] at r65
            have e1 : (x.state != 3) = false := by simp [hst3 x hxm]
            unfold bookD Item.d Item.cells at r65
            simp only [withC] at r65
            unfold L21c bxB bxP
            repeat' (first
              | ((first | refine Pwp.step (kit _) rfl fun K hK => ?_ | refine Pwp.last (kit _) rfl fun K hK => ?_ | refine Pwp.stepD (kit _) rfl rfl fun K hK => ?_ | refine Pwp.lastD (kit _) rfl rfl fun K hK => ?_); simp (dsimp := false) only [↓opsP_nil, ↓opsP_cons, ↓opsD_nil, ↓opsD_cons, ↓opP, ↓stepP, ↓stepG, go_sem, hgx, c3, w3, e1, bne_self_eq_false, Bool.not_true, Bool.or_self])
              | (refine Pwp.seq ?_)
              | (refine Pwp.block ?_)
              | (refine Pwp.exit ?_; simp only [thenS, blockS, if_true, if_false, reduceIte, Nat.reduceEqDiff, Nat.add_one_ne_zero, reduceCtorEq])
              | (refine Pwp.skip ?_; simp only [thenS, blockS])
              | (refine Pwp.cond rfl True.intro (fun h => ?_) (fun h => ?_) <;> (try (cases h; done)) <;> (try simp only [h]))
              | (refine Pwp.ret ?_; try simp only [thenS, blockS])
              | (refine hK _ ?_; clear hK K)
              | (refine hK _ _ rfl ?_; clear hK K)
              | (refine CallK.toD (ds := [.agg [I64 0, .slc 8 (itemsD l2), .slc 3 []], .agg [I64 x.seller, I64 x.number]]) rfl (r65) rfl ?_)
              | (refine CallG.off ?_)
              | (with_reducible refine Or.inl ?_)
              | (simp only [thenS, blockS])
              | (with_reducible refine And.intro ?_ ?_)
              | (with_reducible exact True.intro)
              | (simp (dsimp := false) only [↓opsP_nil, ↓opsP_cons, ↓opsD_nil, ↓opsD_cons, ↓opP, ↓stepP, ↓stepG, go_sem, hgx, c3, w3, e1, bne_self_eq_false, Bool.not_true, Bool.or_self]))
            all_goals (try (first | (intro hg; simp [hg]; done) | exact of_decide_eq_true rfl | (cases h; done)))
            exact Sub.view V0 (by simp [L21c]) rfl (by simp [viewH, viewP, viewL, viewO, V0, V9, V9n, VR, VN, keptOf, find, PVal.toD, subD, subL, subV, subD_refl, viewL_ds, disj, PVal.ids, pnil, List.range, List.range.loop, L21c, bxB, bxP]) (by simp [viewT, St.ev, viewH, viewP, viewL, viewO, V0, V9, V9n, VR, VN, keptOf, find, PVal.toD, subD, subL, subV, subD_refl, viewL_ds, disj, PVal.ids, pnil, List.range, List.range.loop, L21c, bxB, bxP])
          · have c3 := dge (Nat.le_refl q.length)
            unfold L21c bxB bxP
            repeat' (first
              | ((first | refine Pwp.step (kit _) rfl fun K hK => ?_ | refine Pwp.last (kit _) rfl fun K hK => ?_ | refine Pwp.stepD (kit _) rfl rfl fun K hK => ?_ | refine Pwp.lastD (kit _) rfl rfl fun K hK => ?_); simp (dsimp := false) only [↓opsP_nil, ↓opsP_cons, ↓opsD_nil, ↓opsD_cons, ↓opP, ↓stepP, ↓stepG, go_sem, c3, w2])
              | (refine Pwp.seq ?_)
              | (refine Pwp.block ?_)
              | (refine Pwp.exit ?_; simp only [thenS, blockS, if_true, if_false, reduceIte, Nat.reduceEqDiff, Nat.add_one_ne_zero, reduceCtorEq])
              | (refine Pwp.skip ?_; simp only [thenS, blockS])
              | (refine Pwp.cond rfl True.intro (fun h => ?_) (fun h => ?_) <;> (try (cases h; done)) <;> (try simp only [h]))
              | (refine Pwp.ret ?_; try simp only [thenS, blockS])
              | (refine hK _ ?_; clear hK K)
              | (refine hK _ _ rfl ?_; clear hK K)
              | (refine CallG.off ?_)
              | (with_reducible refine Or.inl ?_)
              | (simp only [thenS, blockS])
              | (with_reducible refine And.intro ?_ ?_)
              | (with_reducible exact True.intro)
              | (simp (dsimp := false) only [↓opsP_nil, ↓opsP_cons, ↓opsD_nil, ↓opsD_cons, ↓opP, ↓stepP, ↓stepG, go_sem, c3, w2]))
            all_goals (try (first | (intro hg; simp [hg]; done) | exact of_decide_eq_true rfl | (cases h; done)))
            exact ⟨_, Sub.view V0 (by simp [L21b]) rfl (by simp [viewH, viewP, viewL, viewO, V0, V9, V9n, VR, VN, keptOf, find, PVal.toD, subD, subL, subV, subD_refl, viewL_ds, disj, PVal.ids, pnil, List.range, List.range.loop, L21b, bxB, bxP]) (by simp [viewT, St.ev, viewH, viewP, viewL, viewO, V0, V9, V9n, VR, VN, keptOf, find, PVal.toD, subD, subL, subV, subD_refl, viewL_ds, disj, PVal.ids, pnil, List.range, List.range.loop, L21b, bxB, bxP]), pl2, l2, hK', rfl⟩
      · rintro s ⟨pl, l', hK, rfl⟩
        have c2 := dge (Nat.le_refl ws.length)
        have hpp := hK.p.pl
        simp only at hpp
        have hln := hK.n
        have rD := run70 ⟨0, 3, pl⟩ 0 l' [] (vmD b) 3 hK.g (by omega) (by simp only; omega) (fun x hx => by have := hK.p.ls x hx; omega) (by simp [vmD]) (by simp [vmD])
        have hinv := voteR_inv (p := ⟨0, 3, pl⟩) (m := vmD b) (f := 3) hK.g hK.p (by simp [vmD])
        rw [hkend hK] at rD hinv
        have hzc : (getC pl 77).cycle = 77 := getC_cycle hK.p.rise hK.c
        obtain ⟨z1, z2⟩ := getC_put hK.p.rise { getC pl 77 with state := if b = true then 4 else 5 } 77
        rw [if_pos hzc] at z1 z2
        have kl := hklast hK
        simp only at hinv
        have rG := run74 ⟨0, 3, putC pl { getC pl 77 with state := if b = true then 4 else 5 }⟩ 77 (by have := hinv.2.2.1.pl; simp only at this ⊢; omega) (fun x hx => by have := hinv.2.2.1.ls x hx; omega)
        rw [z1, z2] at rG
        have hlF : (foldB (endI b q) (keepF (notHeld 77) l') l').length ≤ 1000 := by have := hinv.2.1; omega
        generalize foldB (endI b q) (keepF (notHeld 77) l') l' = lF at *
        generalize hzl : putC pl { getC pl 77 with state := if b = true then 4 else 5 } = zl at *
        generalize getC pl 77 = z at *
        simp only [vOutD, VP.d, VP.cells, bookD, VMsg.msg, vmD, Msg.d, Msg.cells, Option.toList, Part.d, Part.cells] at rD rG
        have q45 : ((4 : Int) == 5) = false := rfl
        have q54 : ((5 : Int) == 4) = false := rfl
        have q44 : ((4 : Int) == 4) = true := rfl
        have q55 : ((5 : Int) == 5) = true := rfl
        unfold L21b bxB bxP
        cases b with
        | true =>
          simp only [Bool.false_eq_true, if_true, if_false] at rD rG kl
          repeat' (first
            | ((first | refine Pwp.step (kit _) rfl fun K hK => ?_ | refine Pwp.last (kit _) rfl fun K hK => ?_ | refine Pwp.stepD (kit _) rfl rfl fun K hK => ?_ | refine Pwp.lastD (kit _) rfl rfl fun K hK => ?_); simp (dsimp := false) only [↓opsP_nil, ↓opsP_cons, ↓opsD_nil, ↓opsD_cons, ↓opP, ↓stepP, ↓stepG, go_sem, c2, hql])
            | (refine Pwp.seq ?_)
            | (refine Pwp.block ?_)
            | (refine Pwp.exit ?_; simp only [thenS, blockS, if_true, if_false, reduceIte, Nat.reduceEqDiff, Nat.add_one_ne_zero, reduceCtorEq])
            | (refine Pwp.skip ?_; simp only [thenS, blockS])
            | (refine Pwp.cond rfl True.intro (fun h => ?_) (fun h => ?_) <;> (try (cases h; done)) <;> (try simp only [h]))
            | (refine Pwp.ret ?_; try simp only [thenS, blockS])
            | (refine hK _ ?_; clear hK K)
            | (refine hK _ _ rfl ?_; clear hK K)
            | (refine CallK.giveS (ds := [.agg [I64 0, I64 3, .slc 4 (partsL pl)], .agg [I64 0, .slc 8 (itemsD l'), .slc 3 []], .agg [I64 14, I64 0, I64 0, I64 0, I64 0, I64 0, I64 77, I64 0, .v (.bool true), nilD, nilD], I64 3]) (es := [.agg [I64 0, I64 3, .slc 4 (partsL pl)], .agg [I64 0, .slc 8 (itemsD l'), .slc 3 []], .agg [I64 14, I64 0, I64 0, I64 0, I64 0, I64 0, I64 77, I64 0, .v (.bool true), .slc 4 (linesD []), .slc 1 (List.map I64 [])], I64 3]) rfl (by simp [subL, subD, subV, subD_refl, linesD, partsL]) rD (by simp) ?_)
            | (refine CallG.off ?_)
            | (with_reducible refine Or.inl ?_)
            | (simp only [thenS, blockS])
            | (with_reducible refine And.intro ?_ ?_)
            | (with_reducible exact True.intro)
            | (simp (dsimp := false) only [↓opsP_nil, ↓opsP_cons, ↓opsD_nil, ↓opsD_cons, ↓opP, ↓stepP, ↓stepG, go_sem, c2, hql]))
          all_goals (try (first | (intro hg; simp [hg]; done) | exact of_decide_eq_true rfl | (cases h; done)))
          refine Pwp.range q.length (S := L21d true q zl lF) (Sub.view V0 (by simp [L21d]) rfl (by simp [viewH, viewP, viewL, viewO, V0, V9, V9n, VR, VN, keptOf, find, PVal.toD, subD, subL, subV, subD_refl, viewL_ds, disj, PVal.ids, pnil, List.range, List.range.loop, L21d, bxB, bxP, hql]) (by simp [viewT, St.ev, viewH, viewP, viewL, viewO, V0, V9, V9n, VR, VN, keptOf, find, PVal.toD, subD, subL, subV, subD_refl, viewL_ds, disj, PVal.ids, pnil, List.range, List.range.loop, L21d, bxB, bxP, hql])) (fun j hj => ?_) ?_
          · obtain ⟨x, hxx, hxm, hgx⟩ := qat hj
            have c3 := dlt hj
            have w3 := wrap_succ (i := j) (by omega)
            obtain ⟨k1, k2, k3⟩ := kl x hxm
            have r65 := run65 0 lF [] x.seller x.number (by omega)
            rw [k1] at r65
            generalize getI lF x.seller x.number = y at *
            have e1 : (y.state != 5) = false := by simp [k2]
            have e2 : (y.cycle != 77) = false := by simp [k3]
            unfold bookD Item.d Item.cells at r65
            unfold L21d bxB bxP
            repeat' (first
              | ((first | refine Pwp.step (kit _) rfl fun K hK => ?_ | refine Pwp.last (kit _) rfl fun K hK => ?_ | refine Pwp.stepD (kit _) rfl rfl fun K hK => ?_ | refine Pwp.lastD (kit _) rfl rfl fun K hK => ?_); simp (dsimp := false) only [↓opsP_nil, ↓opsP_cons, ↓opsD_nil, ↓opsD_cons, ↓opP, ↓stepP, ↓stepG, go_sem, hgx, c3, w3, e1, e2, Bool.not_true, Bool.not_false, Bool.or_self, Bool.and_false, Bool.and_self])
              | (refine Pwp.seq ?_)
              | (refine Pwp.block ?_)
              | (refine Pwp.exit ?_; simp only [thenS, blockS, if_true, if_false, reduceIte, Nat.reduceEqDiff, Nat.add_one_ne_zero, reduceCtorEq])
              | (refine Pwp.skip ?_; simp only [thenS, blockS])
              | (refine Pwp.cond rfl True.intro (fun h => ?_) (fun h => ?_) <;> (try (cases h; done)) <;> (try simp only [h]))
              | (refine Pwp.ret ?_; try simp only [thenS, blockS])
              | (refine hK _ ?_; clear hK K)
              | (refine hK _ _ rfl ?_; clear hK K)
              | (refine CallK.toD (ds := [.agg [I64 0, .slc 8 (itemsD lF), .slc 3 []], .agg [I64 x.seller, I64 x.number]]) rfl (r65) rfl ?_)
              | (refine CallG.off ?_)
              | (with_reducible refine Or.inl ?_)
              | (simp only [thenS, blockS])
              | (with_reducible refine And.intro ?_ ?_)
              | (with_reducible exact True.intro)
              | (simp (dsimp := false) only [↓opsP_nil, ↓opsP_cons, ↓opsD_nil, ↓opsD_cons, ↓opP, ↓stepP, ↓stepG, go_sem, hgx, c3, w3, e1, e2, Bool.not_true, Bool.not_false, Bool.or_self, Bool.and_false, Bool.and_self]))
            all_goals (try (first | (intro hg; simp [hg]; done) | exact of_decide_eq_true rfl | (cases h; done)))
            exact Sub.view V0 (by simp [L21d]) rfl (by simp [viewH, viewP, viewL, viewO, V0, V9, V9n, VR, VN, keptOf, find, PVal.toD, subD, subL, subV, subD_refl, viewL_ds, disj, PVal.ids, pnil, List.range, List.range.loop, L21d, bxB, bxP]) (by simp [viewT, St.ev, viewH, viewP, viewL, viewO, V0, V9, V9n, VR, VN, keptOf, find, PVal.toD, subD, subL, subV, subD_refl, viewL_ds, disj, PVal.ids, pnil, List.range, List.range.loop, L21d, bxB, bxP])
          · have c3 := dge (Nat.le_refl q.length)
            unfold L21d bxB bxP
            repeat' (first
              | ((first | refine Pwp.step (kit _) rfl fun K hK => ?_ | refine Pwp.last (kit _) rfl fun K hK => ?_ | refine Pwp.stepD (kit _) rfl rfl fun K hK => ?_ | refine Pwp.lastD (kit _) rfl rfl fun K hK => ?_); simp (dsimp := false) only [↓opsP_nil, ↓opsP_cons, ↓opsD_nil, ↓opsD_cons, ↓opP, ↓stepP, ↓stepG, go_sem, c3, beq_self_eq_true, Bool.and_self, q45, q54, q44, q55])
              | (refine Pwp.seq ?_)
              | (refine Pwp.block ?_)
              | (refine Pwp.exit ?_; simp only [thenS, blockS, if_true, if_false, reduceIte, Nat.reduceEqDiff, Nat.add_one_ne_zero, reduceCtorEq])
              | (refine Pwp.skip ?_; simp only [thenS, blockS])
              | (refine Pwp.cond rfl True.intro (fun h => ?_) (fun h => ?_) <;> (try (cases h; done)) <;> (try simp only [h]))
              | (refine Pwp.ret ?_; try simp only [thenS, blockS])
              | (refine hK _ ?_; clear hK K)
              | (refine hK _ _ rfl ?_; clear hK K)
              | (refine CallK.give (ds := [.agg [I64 0, I64 3, .slc 4 (partsL zl)], I64 77]) rfl (rG) (by simp) ?_)
              | (refine CallG.off ?_)
              | (with_reducible refine Or.inl ?_)
              | (simp only [thenS, blockS])
              | (with_reducible refine And.intro ?_ ?_)
              | (with_reducible exact True.intro)
              | (simp (dsimp := false) only [↓opsP_nil, ↓opsP_cons, ↓opsD_nil, ↓opsD_cons, ↓opP, ↓stepP, ↓stepG, go_sem, c3, beq_self_eq_true, Bool.and_self, q45, q54, q44, q55]))
            all_goals (try (first | (intro hg; simp [hg]; done) | exact of_decide_eq_true rfl | (cases h; done)))
            (refine Fin.data (.inr rfl) (by simp (dsimp := false) only [↓opsP_nil, ↓opsP_cons, ↓opsD_nil, ↓opsD_cons, ↓opP, ↓stepP, ↓stepG, go_sem, resL]; rfl) (by simp only [and_self]) (by simp (dsimp := false) only [↓opsP_nil, ↓opsP_cons, ↓opsD_nil, ↓opsD_cons, ↓opP, ↓stepP, ↓stepG, go_sem, resP, Nat.le_refl, List.take_length]; try rfl) ?_)
            exact subD_refl _
        | false =>
          simp only [Bool.false_eq_true, if_true, if_false] at rD rG kl
          repeat' (first
            | ((first | refine Pwp.step (kit _) rfl fun K hK => ?_ | refine Pwp.last (kit _) rfl fun K hK => ?_ | refine Pwp.stepD (kit _) rfl rfl fun K hK => ?_ | refine Pwp.lastD (kit _) rfl rfl fun K hK => ?_); simp (dsimp := false) only [↓opsP_nil, ↓opsP_cons, ↓opsD_nil, ↓opsD_cons, ↓opP, ↓stepP, ↓stepG, go_sem, c2, hql])
            | (refine Pwp.seq ?_)
            | (refine Pwp.block ?_)
            | (refine Pwp.exit ?_; simp only [thenS, blockS, if_true, if_false, reduceIte, Nat.reduceEqDiff, Nat.add_one_ne_zero, reduceCtorEq])
            | (refine Pwp.skip ?_; simp only [thenS, blockS])
            | (refine Pwp.cond rfl True.intro (fun h => ?_) (fun h => ?_) <;> (try (cases h; done)) <;> (try simp only [h]))
            | (refine Pwp.ret ?_; try simp only [thenS, blockS])
            | (refine hK _ ?_; clear hK K)
            | (refine hK _ _ rfl ?_; clear hK K)
            | (refine CallK.giveS (ds := [.agg [I64 0, I64 3, .slc 4 (partsL pl)], .agg [I64 0, .slc 8 (itemsD l'), .slc 3 []], .agg [I64 14, I64 0, I64 0, I64 0, I64 0, I64 0, I64 77, I64 0, .v (.bool false), nilD, nilD], I64 3]) (es := [.agg [I64 0, I64 3, .slc 4 (partsL pl)], .agg [I64 0, .slc 8 (itemsD l'), .slc 3 []], .agg [I64 14, I64 0, I64 0, I64 0, I64 0, I64 0, I64 77, I64 0, .v (.bool false), .slc 4 (linesD []), .slc 1 (List.map I64 [])], I64 3]) rfl (by simp [subL, subD, subV, subD_refl, linesD, partsL]) rD (by simp) ?_)
            | (refine CallG.off ?_)
            | (with_reducible refine Or.inl ?_)
            | (simp only [thenS, blockS])
            | (with_reducible refine And.intro ?_ ?_)
            | (with_reducible exact True.intro)
            | (simp (dsimp := false) only [↓opsP_nil, ↓opsP_cons, ↓opsD_nil, ↓opsD_cons, ↓opP, ↓stepP, ↓stepG, go_sem, c2, hql]))
          all_goals (try (first | (intro hg; simp [hg]; done) | exact of_decide_eq_true rfl | (cases h; done)))
          refine Pwp.range q.length (S := L21d false q zl lF) (Sub.view V0 (by simp [L21d]) rfl (by simp [viewH, viewP, viewL, viewO, V0, V9, V9n, VR, VN, keptOf, find, PVal.toD, subD, subL, subV, subD_refl, viewL_ds, disj, PVal.ids, pnil, List.range, List.range.loop, L21d, bxB, bxP, hql]) (by simp [viewT, St.ev, viewH, viewP, viewL, viewO, V0, V9, V9n, VR, VN, keptOf, find, PVal.toD, subD, subL, subV, subD_refl, viewL_ds, disj, PVal.ids, pnil, List.range, List.range.loop, L21d, bxB, bxP, hql])) (fun j hj => ?_) ?_
          · obtain ⟨x, hxx, hxm, hgx⟩ := qat hj
            have c3 := dlt hj
            have w3 := wrap_succ (i := j) (by omega)
            obtain ⟨k1, k2, k3⟩ := kl x hxm
            have r65 := run65 0 lF [] x.seller x.number (by omega)
            rw [k1] at r65
            generalize getI lF x.seller x.number = y at *
            have e1 : (y.state != 3) = false := by simp [k2]
            have e2 : (y.cycle != 0) = false := by simp [k3]
            unfold bookD Item.d Item.cells at r65
            unfold L21d bxB bxP
            repeat' (first
              | ((first | refine Pwp.step (kit _) rfl fun K hK => ?_ | refine Pwp.last (kit _) rfl fun K hK => ?_ | refine Pwp.stepD (kit _) rfl rfl fun K hK => ?_ | refine Pwp.lastD (kit _) rfl rfl fun K hK => ?_); simp (dsimp := false) only [↓opsP_nil, ↓opsP_cons, ↓opsD_nil, ↓opsD_cons, ↓opP, ↓stepP, ↓stepG, go_sem, hgx, c3, w3, e1, e2, Bool.not_true, Bool.not_false, Bool.or_self, Bool.and_false, Bool.and_self])
              | (refine Pwp.seq ?_)
              | (refine Pwp.block ?_)
              | (refine Pwp.exit ?_; simp only [thenS, blockS, if_true, if_false, reduceIte, Nat.reduceEqDiff, Nat.add_one_ne_zero, reduceCtorEq])
              | (refine Pwp.skip ?_; simp only [thenS, blockS])
              | (refine Pwp.cond rfl True.intro (fun h => ?_) (fun h => ?_) <;> (try (cases h; done)) <;> (try simp only [h]))
              | (refine Pwp.ret ?_; try simp only [thenS, blockS])
              | (refine hK _ ?_; clear hK K)
              | (refine hK _ _ rfl ?_; clear hK K)
              | (refine CallK.toD (ds := [.agg [I64 0, .slc 8 (itemsD lF), .slc 3 []], .agg [I64 x.seller, I64 x.number]]) rfl (r65) rfl ?_)
              | (refine CallG.off ?_)
              | (with_reducible refine Or.inl ?_)
              | (simp only [thenS, blockS])
              | (with_reducible refine And.intro ?_ ?_)
              | (with_reducible exact True.intro)
              | (simp (dsimp := false) only [↓opsP_nil, ↓opsP_cons, ↓opsD_nil, ↓opsD_cons, ↓opP, ↓stepP, ↓stepG, go_sem, hgx, c3, w3, e1, e2, Bool.not_true, Bool.not_false, Bool.or_self, Bool.and_false, Bool.and_self]))
            all_goals (try (first | (intro hg; simp [hg]; done) | exact of_decide_eq_true rfl | (cases h; done)))
            exact Sub.view V0 (by simp [L21d]) rfl (by simp [viewH, viewP, viewL, viewO, V0, V9, V9n, VR, VN, keptOf, find, PVal.toD, subD, subL, subV, subD_refl, viewL_ds, disj, PVal.ids, pnil, List.range, List.range.loop, L21d, bxB, bxP]) (by simp [viewT, St.ev, viewH, viewP, viewL, viewO, V0, V9, V9n, VR, VN, keptOf, find, PVal.toD, subD, subL, subV, subD_refl, viewL_ds, disj, PVal.ids, pnil, List.range, List.range.loop, L21d, bxB, bxP])
          · have c3 := dge (Nat.le_refl q.length)
            unfold L21d bxB bxP
            repeat' (first
              | ((first | refine Pwp.step (kit _) rfl fun K hK => ?_ | refine Pwp.last (kit _) rfl fun K hK => ?_ | refine Pwp.stepD (kit _) rfl rfl fun K hK => ?_ | refine Pwp.lastD (kit _) rfl rfl fun K hK => ?_); simp (dsimp := false) only [↓opsP_nil, ↓opsP_cons, ↓opsD_nil, ↓opsD_cons, ↓opP, ↓stepP, ↓stepG, go_sem, c3, beq_self_eq_true, Bool.and_self, q45, q54, q44, q55])
              | (refine Pwp.seq ?_)
              | (refine Pwp.block ?_)
              | (refine Pwp.exit ?_; simp only [thenS, blockS, if_true, if_false, reduceIte, Nat.reduceEqDiff, Nat.add_one_ne_zero, reduceCtorEq])
              | (refine Pwp.skip ?_; simp only [thenS, blockS])
              | (refine Pwp.cond rfl True.intro (fun h => ?_) (fun h => ?_) <;> (try (cases h; done)) <;> (try simp only [h]))
              | (refine Pwp.ret ?_; try simp only [thenS, blockS])
              | (refine hK _ ?_; clear hK K)
              | (refine hK _ _ rfl ?_; clear hK K)
              | (refine CallK.give (ds := [.agg [I64 0, I64 3, .slc 4 (partsL zl)], I64 77]) rfl (rG) (by simp) ?_)
              | (refine CallG.off ?_)
              | (with_reducible refine Or.inl ?_)
              | (simp only [thenS, blockS])
              | (with_reducible refine And.intro ?_ ?_)
              | (with_reducible exact True.intro)
              | (simp (dsimp := false) only [↓opsP_nil, ↓opsP_cons, ↓opsD_nil, ↓opsD_cons, ↓opP, ↓stepP, ↓stepG, go_sem, c3, beq_self_eq_true, Bool.and_self, q45, q54, q44, q55]))
            all_goals (try (first | (intro hg; simp [hg]; done) | exact of_decide_eq_true rfl | (cases h; done)))
            (refine Fin.data (.inr rfl) (by simp (dsimp := false) only [↓opsP_nil, ↓opsP_cons, ↓opsD_nil, ↓opsD_cons, ↓opP, ↓stepP, ↓stepG, go_sem, resL]; rfl) (by simp only [and_self]) (by simp (dsimp := false) only [↓opsP_nil, ↓opsP_cons, ↓opsD_nil, ↓opsD_cons, ↓opP, ↓stepP, ↓stepG, go_sem, resP, Nat.le_refl, List.take_length]; try rfl) ?_)
            exact subD_refl _

end Go.Proofs.Ytdodgbhodkcckaa.Pv
