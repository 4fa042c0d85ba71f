/- Walks of an entity's part in cycles: the statement that no item is in two cycles at once, and none goes back. -/
import Derived.Test.YtdodgbhodkcckaaPon
set_option linter.unusedVariables false
set_option linter.unusedSimpArgs false
set_option autoImplicit false
set_option maxRecDepth 100000
namespace Go.Proofs.Ytdodgbhodkcckaa.Pv
open Go Go.RowKit

def rankI (x : Item) : Int := if (x.state == 1 || x.state == 2) = true then 2 * x.round + x.state - 1 else if (x.state == 3 || x.state == 4) = true then 8 else if (x.state == 5) = true then 9 else -1
set_option maxHeartbeats 8000000 in
theorem run75 (x : Item) (h : Fine x) : Runs Try.prog 75 [.d x.d] [] (pint .i64 (rankI x)) [] := by
  have hr := h.r
  have ht := h.t
  have w1 : IntKind.wrap .i64 (2 * x.round) = 2 * x.round := wrap_of (by omega) (by omega)
  have w2 : IntKind.wrap .i64 (2 * x.round + x.state) = 2 * x.round + x.state := wrap_of (by omega) (by omega)
  have w3 : IntKind.wrap .i64 (2 * x.round + x.state - 1) = 2 * x.round + x.state - 1 := wrap_of (by omega) (by omega)
  unfold Item.d Item.cells
  refine Runs.of (kit Try.prog) Try.func75 rfl rfl (by rw [Try.ntmps75]; exact of_decide_eq_true rfl) ?_; rw [Try.ntmps75, Try.results75]
  repeat' (first
    | ((first | refine Pwp.step (kit _) rfl fun K hK => ?_ | refine Pwp.last (kit _) rfl fun K hK => ?_ | refine Pwp.stepD (kit _) rfl rfl fun K hK => ?_ | refine Pwp.lastD (kit _) rfl rfl fun K hK => ?_); simp (dsimp := false) only [↓opsP_nil, ↓opsP_cons, ↓opsD_nil, ↓opsD_cons, ↓opP, ↓stepP, ↓stepG, go_sem, w1, w2, w3])
    | (refine Pwp.seq ?_)
    | (refine Pwp.block ?_)
    | (refine Pwp.exit ?_; simp only [thenS, blockS, if_true, if_false, reduceIte, Nat.reduceEqDiff, Nat.add_one_ne_zero, reduceCtorEq])
    | (refine Pwp.skip ?_; simp only [thenS, blockS])
    | (refine Pwp.cond rfl True.intro (fun h => ?_) (fun h => ?_) <;> (try (cases h; done)) <;> (try simp only [h]))
    | (refine Pwp.ret ?_; try simp only [thenS, blockS])
    | (refine hK _ ?_; clear hK K)
    | (refine hK _ _ rfl ?_; clear hK K)
    | (refine CallG.off ?_)
    | (with_reducible refine Or.inl ?_)
    | (simp only [thenS, blockS])
    | (with_reducible refine And.intro ?_ ?_)
    | (with_reducible exact True.intro)
    | (simp (dsimp := false) only [↓opsP_nil, ↓opsP_cons, ↓opsD_nil, ↓opsD_cons, ↓opP, ↓stepP, ↓stepG, go_sem, w1, w2, w3]))
  all_goals (try (first | (intro hg; simp [hg]; done) | exact of_decide_eq_true rfl | (cases h; done)))
  all_goals (first | omega | (refine Fin.data (.inr rfl) (by simp (dsimp := false) only [↓opsP_nil, ↓opsP_cons, ↓opsD_nil, ↓opsD_cons, ↓opP, ↓stepP, ↓stepG, go_sem, resL]; rfl) (by simp only [and_self]) (by simp (dsimp := false) only [↓opsP_nil, ↓opsP_cons, ↓opsD_nil, ↓opsD_cons, ↓opP, ↓stepP, ↓stepG, go_sem, resP, Nat.le_refl, List.take_length]; try rfl) ?_; (try simp only [rankI, *, if_true, if_false, reduceIte, Bool.false_eq_true]); exact subD_refl _))

/-- What becomes of an item in one step. -/
def stepV (c : Int) (x y : Item) : Prop := y = x ∨ (x.state = 3 ∧ x.cycle = 0 ∧ y = withC c x) ∨ (x.state = 3 ∧ x.cycle = c ∧ c ≠ 0 ∧ ∃ yes ls, y = endI yes ls x)
theorem voteR_step {p : VP} {l : List Item} {m : VMsg} {f me : Int} (hG : Good me l) : ∀ x ∈ l, isIn (voteR p l m f).l x.seller x.number = true ∧ stepV m.cycle x (getI (voteR p l m f).l x.seller x.number) := by
  have key : ∀ (l' : List Item) (g : Item → Item), Good me l' → l' = l.map g → (∀ x, (g x).seller = x.seller ∧ (g x).number = x.number) → ∀ x ∈ l, isIn l' x.seller x.number = true ∧ getI l' x.seller x.number = g x := by
    intro l' g h1 h2 hg x hx
    have hm : g x ∈ l' := by rw [h2]; exact List.mem_map.2 ⟨x, hx, rfl⟩
    have := in_mem h1 hm
    rw [(hg x).1, (hg x).2] at this
    exact this
  refine voteR_cases (fun R => ∀ x ∈ l, isIn R.l x.seller x.number = true ∧ stepV m.cycle x (getI R.l x.seller x.number)) ?_ ?_ ?_ ?_ ?_
  · intro e _ x hx; exact ⟨(in_mem hG hx).1, .inl (in_mem hG hx).2⟩
  · intro _ _ hb _ x hx
    have hb2 := askBad_ok hb
    obtain ⟨e1, e2⟩ := ask_map hG (c := m.currency) (n := m.cycle) ⟨hb2.1, hb2.2.1⟩
    obtain ⟨k1, k2⟩ := key _ _ e2 e1 (fun x => by split <;> exact ⟨rfl, rfl⟩) x hx
    refine ⟨k1, ?_⟩
    simp only at k2 ⊢
    rw [k2]
    split
    · rename_i hm
      have hs := askL_spec hm
      exact .inr (.inl ⟨hs.2.1, hs.2.2.2, rfl⟩)
    · exact .inl rfl
  · intro _ _ _ _ x hx
    split <;> exact ⟨(in_mem hG hx).1, .inl (in_mem hG hx).2⟩
  · intro _ _ _ _ x hx
    obtain ⟨e1, e2⟩ := end_map hG m.cycle m.yes (getC p.list m.cycle).lines
    obtain ⟨k1, k2⟩ := key _ _ e2 e1 (fun x => by
      split
      · exact ⟨(endI_key _ _ x).1, (endI_key _ _ x).2.1⟩
      · exact ⟨rfl, rfl⟩) x hx
    refine ⟨k1, ?_⟩
    simp only at k2 ⊢
    rw [k2]
    split
    · rename_i hm
      have hs := held_spec.1 hm
      exact .inr (.inr ⟨hs.2.1, hs.2.2.1, hs.2.2.2, _, _, rfl⟩)
    · exact .inl rfl
  · intro _ _ _ x hx; exact ⟨(in_mem hG hx).1, .inl (in_mem hG hx).2⟩
def eqItm (x y : Item) : Bool := x.seller == y.seller && (x.number == y.number && (x.buyer == y.buyer && (x.currency == y.currency && (x.amount == y.amount && (x.round == y.round && (x.state == y.state && x.cycle == y.cycle))))))
theorem eqItm_refl (x : Item) : eqItm x x = true := by simp [eqItm]
def badS (x y : Item) : Bool := (decide (rankI y < rankI x) || (x.state == 5 && !eqItm y x)) || ((x.cycle != 0 && y.cycle != 0) && x.cycle != y.cycle)
theorem badS_no {c : Int} {x y : Item} (h : stepV c x y) : badS x y = false := by
  unfold badS
  rcases h with rfl | ⟨h1, h2, rfl⟩ | ⟨h1, h2, h3, yes, ls, rfl⟩
  · rw [eqItm_refl]; simp
  · simp [rankI, withC, h1, h2]
  · unfold endI
    split
    · simp [rankI, h1]
    · simp [rankI, h1]
/-- What is said. -/
theorem voteR_said {p : VP} {l : List Item} {m : VMsg} {f me : Int} (hG : Good me l) (h0 : (voteR p l m f).e = 0) : (voteR p l m f).o = none ∨ (∃ ls, (voteR p l m f).o = some (saidD p.n (offerM m.cycle ls)) ∧ ls.length ≤ 128 ∧ ∀ x ∈ ls, isIn l x.seller x.number = true ∧ (getI l x.seller x.number).state = 3 ∧ (getI l x.seller x.number).cycle = 0) ∨
    (∃ yes, (voteR p l m f).o = some (saidD p.n (voteM m.cycle yes))) ∨ (voteR p l m f).o = some (saidD p.n (queryM m.cycle)) := by
  revert h0
  refine voteR_cases (fun R => R.e = 0 → (R.o = none ∨ (∃ ls, R.o = some (saidD p.n (offerM m.cycle ls)) ∧ ls.length ≤ 128 ∧ ∀ x ∈ ls, isIn l x.seller x.number = true ∧ (getI l x.seller x.number).state = 3 ∧ (getI l x.seller x.number).cycle = 0) ∨
    (∃ yes, R.o = some (saidD p.n (voteM m.cycle yes))) ∨ R.o = some (saidD p.n (queryM m.cycle)))) ?_ ?_ ?_ ?_ ?_
  · intro e he h; exact absurd h he
  · intro _ _ _ _ _
    refine .inr (.inl ⟨_, rfl, by rw [List.length_map]; exact askL_len _ _, fun x hx => ?_⟩)
    obtain ⟨y, hy, rfl⟩ := List.mem_map.1 hx
    obtain ⟨h1, h2, h3, h4⟩ := askL_spec hy
    obtain ⟨e1, e2⟩ := in_mem hG h1
    exact ⟨e1, by rw [show getI l (lineOf y).seller (lineOf y).number = y from e2]; exact h2, by rw [show getI l (lineOf y).seller (lineOf y).number = y from e2]; exact h4⟩
  · intro _ _ _ _ _
    split
    · exact .inr (.inr (.inl ⟨true, rfl⟩))
    · exact .inr (.inr (.inl ⟨false, rfl⟩))
  · intro _ _ _ _ _; exact .inl rfl
  · intro _ _ _ _; exact .inr (.inr (.inr rfl))

set_option maxHeartbeats 16000000 in
theorem run68n (a : List Item) (ws : List VW) (h : (decide (40 < (a.length : Int)) || decide (40 < (ws.length : Int))) = true) : Runs Try.prog 68 [.d (.slc 8 (itemsD a)), .d (.slc 12 (vwsD ws))] [] (pbool false) [] := by
  have h1 := items_len a
  have h2 := vws_len ws
  refine Runs.of (kit Try.prog) Try.func68 rfl rfl (by rw [Try.ntmps68]; exact of_decide_eq_true rfl) ?_; rw [Try.ntmps68, Try.results68]
  repeat' (first
    | ((first | refine Pwp.step (kit _) rfl fun K hK => ?_ | refine Pwp.last (kit _) rfl fun K hK => ?_ | refine Pwp.stepD (kit _) rfl rfl fun K hK => ?_ | refine Pwp.lastD (kit _) rfl rfl fun K hK => ?_); simp (dsimp := false) only [↓opsP_nil, ↓opsP_cons, ↓opsD_nil, ↓opsD_cons, ↓opP, ↓stepP, ↓stepG, go_sem, h1, h2, h])
    | (refine Pwp.seq ?_)
    | (refine Pwp.block ?_)
    | (refine Pwp.exit ?_; simp only [thenS, blockS, if_true, if_false, reduceIte, Nat.reduceEqDiff, Nat.add_one_ne_zero, reduceCtorEq])
    | (refine Pwp.skip ?_; simp only [thenS, blockS])
    | (refine Pwp.cond rfl True.intro (fun h => ?_) (fun h => ?_) <;> (try (cases h; done)) <;> (try simp only [h]))
    | (refine Pwp.ret ?_; try simp only [thenS, blockS])
    | (refine hK _ ?_; clear hK K)
    | (refine hK _ _ rfl ?_; clear hK K)
    | (refine CallG.off ?_)
    | (with_reducible refine Or.inl ?_)
    | (simp only [thenS, blockS])
    | (with_reducible refine And.intro ?_ ?_)
    | (with_reducible exact True.intro)
    | (simp (dsimp := false) only [↓opsP_nil, ↓opsP_cons, ↓opsD_nil, ↓opsD_cons, ↓opP, ↓stepP, ↓stepG, go_sem, h1, h2, h]))
  all_goals (try (first | (intro hg; simp [hg]; done) | exact of_decide_eq_true rfl | (cases h; done)))
  (refine Fin.data (.inr rfl) (by simp (dsimp := false) only [↓opsP_nil, ↓opsP_cons, ↓opsD_nil, ↓opsD_cons, ↓opP, ↓stepP, ↓stepG, go_sem, resL]; rfl) (by simp only [and_self]) (by simp (dsimp := false) only [↓opsP_nil, ↓opsP_cons, ↓opsD_nil, ↓opsD_cons, ↓opP, ↓stepP, ↓stepG, go_sem, resP, Nat.le_refl, List.take_length]; try rfl) ?_)
  exact subD_refl _
def badW (w : VW) : Bool := decide (60 < (w.m.ls.length : Int)) || decide (12 < (w.m.ns.length : Int))
def fitsV (a : List Item) (ws : List VW) : Bool := !(decide (40 < (a.length : Int)) || decide (40 < (ws.length : Int))) && ws.all fun w => !badW w
def L68 (ws : List VW) (i : Nat) : St := ⟨[(17, pint .i64 i), (16, pint .i64 ws.length), (15, .d (.slc 12 (vwsD ws)))], [], 56⟩
set_option maxHeartbeats 16000000 in
theorem run68 (a : List Item) (ws : List VW) : Runs Try.prog 68 [.d (.slc 8 (itemsD a)), .d (.slc 12 (vwsD ws))] [] (pbool (fitsV a ws)) [] := by
  unfold fitsV
  cases hc : (decide (40 < (a.length : Int)) || decide (40 < (ws.length : Int))) with
  | true => exact run68n a ws hc
  | false =>
    have h1 := items_len a
    have h2 := vws_len ws
    have hc2 := hc
    simp only [Bool.or_eq_false_iff, decide_eq_false_iff_not] at hc2
    rw [Bool.not_false, Bool.true_and]
    refine Runs.of (kit Try.prog) Try.func68 rfl rfl (by rw [Try.ntmps68]; exact of_decide_eq_true rfl) ?_; rw [Try.ntmps68, Try.results68]
    repeat' (first
      | ((first | refine Pwp.step (kit _) rfl fun K hK => ?_ | refine Pwp.last (kit _) rfl fun K hK => ?_ | refine Pwp.stepD (kit _) rfl rfl fun K hK => ?_ | refine Pwp.lastD (kit _) rfl rfl fun K hK => ?_); simp (dsimp := false) only [↓opsP_nil, ↓opsP_cons, ↓opsD_nil, ↓opsD_cons, ↓opP, ↓stepP, ↓stepG, go_sem, h1, h2, hc])
      | (refine Pwp.seq ?_)
      | (refine Pwp.block ?_)
      | (refine Pwp.exit ?_; simp only [thenS, blockS, if_true, if_false, reduceIte, Nat.reduceEqDiff, Nat.add_one_ne_zero, reduceCtorEq])
      | (refine Pwp.skip ?_; simp only [thenS, blockS])
      | (refine Pwp.cond rfl True.intro (fun h => ?_) (fun h => ?_) <;> (try (cases h; done)) <;> (try simp only [h]))
      | (refine Pwp.ret ?_; try simp only [thenS, blockS])
      | (refine hK _ ?_; clear hK K)
      | (refine hK _ _ rfl ?_; clear hK K)
      | (refine CallG.off ?_)
      | (with_reducible refine Or.inl ?_)
      | (simp only [thenS, blockS])
      | (with_reducible refine And.intro ?_ ?_)
      | (with_reducible exact True.intro)
      | (simp (dsimp := false) only [↓opsP_nil, ↓opsP_cons, ↓opsD_nil, ↓opsD_cons, ↓opP, ↓stepP, ↓stepG, go_sem, h1, h2, hc]))
    all_goals (try (first | (intro hg; simp [hg]; done) | exact of_decide_eq_true rfl | (cases h; done)))
    refine Pwp.rangeI ws.length (fun i s => (∀ x ∈ ws.take i, badW x = false) ∧ s = L68 ws i) (s0 := L68 ws 0) (Sub.view V0 (by simp [L68]) rfl (by simp [viewH, viewP, viewL, viewO, V0, V9, V9n, VR, VN, keptOf, find, PVal.toD, subD, subL, subV, subD_refl, viewL_ds, disj, PVal.ids, pnil, List.range, List.range.loop, L68]) (by simp [viewT, St.ev, viewH, viewP, viewL, viewO, V0, V9, V9n, VR, VN, keptOf, find, PVal.toD, subD, subL, subV, subD_refl, viewL_ds, disj, PVal.ids, pnil, List.range, List.range.loop, L68])) ⟨by simp, rfl⟩ ?_ ?_
    · rintro i s hi ⟨hok, rfl⟩
      obtain ⟨w, hx, hm⟩ := at_lt hi
      have hg := vws_get hx
      have c1 := dlt hi
      have w1 := wrap_succ (i := i) (by omega)
      have hl := lines_len w.m.ls
      have hn : (w.m.ns.map I64).length = w.m.ns.length := by simp
      cases hq : badW w with
      | true =>
        have hr : (ws.all fun w => !badW w) = false := by rw [List.all_eq_false]; exact ⟨w, hm, by simp [hq]⟩
        rw [hr]
        unfold badW at hq
        unfold L68
        repeat' (first
          | ((first | refine Pwp.step (kit _) rfl fun K hK => ?_ | refine Pwp.last (kit _) rfl fun K hK => ?_ | refine Pwp.stepD (kit _) rfl rfl fun K hK => ?_ | refine Pwp.lastD (kit _) rfl rfl fun K hK => ?_); simp (dsimp := false) only [↓opsP_nil, ↓opsP_cons, ↓opsD_nil, ↓opsD_cons, ↓opP, ↓stepP, ↓stepG, go_sem, hg, c1, w1, hl, hn, hq])
          | (refine Pwp.seq ?_)
          | (refine Pwp.block ?_)
          | (refine Pwp.exit ?_; simp only [thenS, blockS, if_true, if_false, reduceIte, Nat.reduceEqDiff, Nat.add_one_ne_zero, reduceCtorEq])
          | (refine Pwp.skip ?_; simp only [thenS, blockS])
          | (refine Pwp.cond rfl True.intro (fun h => ?_) (fun h => ?_) <;> (try (cases h; done)) <;> (try simp only [h]))
          | (refine Pwp.ret ?_; try simp only [thenS, blockS])
          | (refine hK _ ?_; clear hK K)
          | (refine hK _ _ rfl ?_; clear hK K)
          | (refine CallG.off ?_)
          | (with_reducible refine Or.inl ?_)
          | (simp only [thenS, blockS])
          | (with_reducible refine And.intro ?_ ?_)
          | (with_reducible exact True.intro)
          | (simp (dsimp := false) only [↓opsP_nil, ↓opsP_cons, ↓opsD_nil, ↓opsD_cons, ↓opP, ↓stepP, ↓stepG, go_sem, hg, c1, w1, hl, hn, hq]))
        all_goals (try (first | (intro hg; simp [hg]; done) | exact of_decide_eq_true rfl | (cases h; done)))
        (refine Fin.data (.inr rfl) (by simp (dsimp := false) only [↓opsP_nil, ↓opsP_cons, ↓opsD_nil, ↓opsD_cons, ↓opP, ↓stepP, ↓stepG, go_sem, resL]; rfl) (by simp only [and_self]) (by simp (dsimp := false) only [↓opsP_nil, ↓opsP_cons, ↓opsD_nil, ↓opsD_cons, ↓opP, ↓stepP, ↓stepG, go_sem, resP, Nat.le_refl, List.take_length]; try rfl) ?_)
        exact subD_refl _
      | false =>
        have hok' : ∀ x ∈ ws.take (i + 1), badW x = false := by
          intro z hz
          rw [List.take_add_one, hx] at hz
          rcases List.mem_append.1 hz with hz | hz
          · exact hok z hz
          · obtain rfl := by simpa using hz
            exact hq
        unfold badW at hq
        unfold L68
        repeat' (first
          | ((first | refine Pwp.step (kit _) rfl fun K hK => ?_ | refine Pwp.last (kit _) rfl fun K hK => ?_ | refine Pwp.stepD (kit _) rfl rfl fun K hK => ?_ | refine Pwp.lastD (kit _) rfl rfl fun K hK => ?_); simp (dsimp := false) only [↓opsP_nil, ↓opsP_cons, ↓opsD_nil, ↓opsD_cons, ↓opP, ↓stepP, ↓stepG, go_sem, hg, c1, w1, hl, hn, hq])
          | (refine Pwp.seq ?_)
          | (refine Pwp.block ?_)
          | (refine Pwp.exit ?_; simp only [thenS, blockS, if_true, if_false, reduceIte, Nat.reduceEqDiff, Nat.add_one_ne_zero, reduceCtorEq])
          | (refine Pwp.skip ?_; simp only [thenS, blockS])
          | (refine Pwp.cond rfl True.intro (fun h => ?_) (fun h => ?_) <;> (try (cases h; done)) <;> (try simp only [h]))
          | (refine Pwp.ret ?_; try simp only [thenS, blockS])
          | (refine hK _ ?_; clear hK K)
          | (refine hK _ _ rfl ?_; clear hK K)
          | (refine CallG.off ?_)
          | (with_reducible refine Or.inl ?_)
          | (simp only [thenS, blockS])
          | (with_reducible refine And.intro ?_ ?_)
          | (with_reducible exact True.intro)
          | (simp (dsimp := false) only [↓opsP_nil, ↓opsP_cons, ↓opsD_nil, ↓opsD_cons, ↓opP, ↓stepP, ↓stepG, go_sem, hg, c1, w1, hl, hn, hq]))
        all_goals (try (first | (intro hg; simp [hg]; done) | exact of_decide_eq_true rfl | (cases h; done)))
        exact ⟨_, Sub.view V0 (by simp [L68]) rfl (by simp [viewH, viewP, viewL, viewO, V0, V9, V9n, VR, VN, keptOf, find, PVal.toD, subD, subL, subV, subD_refl, viewL_ds, disj, PVal.ids, pnil, List.range, List.range.loop, L68]) (by simp [viewT, St.ev, viewH, viewP, viewL, viewO, V0, V9, V9n, VR, VN, keptOf, find, PVal.toD, subD, subL, subV, subD_refl, viewL_ds, disj, PVal.ids, pnil, List.range, List.range.loop, L68]), hok', rfl⟩
    · rintro s ⟨hok, rfl⟩
      have c1 := dge (Nat.le_refl ws.length)
      rw [List.take_length] at hok
      have hr : (ws.all fun w => !badW w) = true := by rw [List.all_eq_true]; intro x hx; rw [hok x hx]; rfl
      rw [hr]
      unfold L68
      repeat' (first
        | ((first | refine Pwp.step (kit _) rfl fun K hK => ?_ | refine Pwp.last (kit _) rfl fun K hK => ?_ | refine Pwp.stepD (kit _) rfl rfl fun K hK => ?_ | refine Pwp.lastD (kit _) rfl rfl fun K hK => ?_); simp (dsimp := false) only [↓opsP_nil, ↓opsP_cons, ↓opsD_nil, ↓opsD_cons, ↓opP, ↓stepP, ↓stepG, go_sem, c1])
        | (refine Pwp.seq ?_)
        | (refine Pwp.block ?_)
        | (refine Pwp.exit ?_; simp only [thenS, blockS, if_true, if_false, reduceIte, Nat.reduceEqDiff, Nat.add_one_ne_zero, reduceCtorEq])
        | (refine Pwp.skip ?_; simp only [thenS, blockS])
        | (refine Pwp.cond rfl True.intro (fun h => ?_) (fun h => ?_) <;> (try (cases h; done)) <;> (try simp only [h]))
        | (refine Pwp.ret ?_; try simp only [thenS, blockS])
        | (refine hK _ ?_; clear hK K)
        | (refine hK _ _ rfl ?_; clear hK K)
        | (refine CallG.off ?_)
        | (with_reducible refine Or.inl ?_)
        | (simp only [thenS, blockS])
        | (with_reducible refine And.intro ?_ ?_)
        | (with_reducible exact True.intro)
        | (simp (dsimp := false) only [↓opsP_nil, ↓opsP_cons, ↓opsD_nil, ↓opsD_cons, ↓opP, ↓stepP, ↓stepG, go_sem, c1]))
      all_goals (try (first | (intro hg; simp [hg]; done) | exact of_decide_eq_true rfl | (cases h; done)))
      (refine Fin.data (.inr rfl) (by simp (dsimp := false) only [↓opsP_nil, ↓opsP_cons, ↓opsD_nil, ↓opsD_cons, ↓opP, ↓stepP, ↓stepG, go_sem, resL]; rfl) (by simp only [and_self]) (by simp (dsimp := false) only [↓opsP_nil, ↓opsP_cons, ↓opsD_nil, ↓opsD_cons, ↓opP, ↓stepP, ↓stepG, go_sem, resP, Nat.le_refl, List.take_length]; try rfl) ?_)
      exact subD_refl _
/-! ### Variables -/
def bxB (l : List Item) : PObj := .box [.d (I64 0), .d (.slc 8 (itemsD l)), .d (.slc 3 [])]
def bxP (pl : List Part) : PObj := .box [.d (I64 0), .d (I64 3), .d (.slc 4 (partsL pl))]
def bxW (w : VW) : PObj := .box [.d (I64 w.from'), .d (I64 w.m.kind), .d (I64 w.m.seller), .d (I64 w.m.number), .d (I64 w.m.buyer), .d (I64 w.m.currency), .d (I64 w.m.round), .d (I64 w.m.cycle), .d (I64 w.m.amount), .d (.v (.bool w.m.yes)), .d (.slc 4 (linesD w.m.ls)), .d (.slc 1 (w.m.ns.map I64))]
def bxS (to : Int) (m : Msg) : PObj := .box [.d (I64 to), .d (I64 m.kind), .d (I64 m.seller), .d (I64 m.number), .d (I64 m.buyer), .d (I64 m.currency), .d (I64 m.round), .d (I64 m.cycle), .d (I64 m.amount), .d (.v (.bool m.yes)), .d m.lines, .d m.nets]

end Go.Proofs.Ytdodgbhodkcckaa.Pv
