/- Walks of an entity's part in cycles: is what is reckoned right; what is decided; what is done at a message. -/
import Derived.Test.YtdodgbhodkcckaaPoh
import Derived.Test.YtdodgbhodkcckaaPce
import Derived.Test.YtdodgbhodkcckaaPcf
import Derived.Test.YtdodgbhodkcckaaPci
set_option linter.unusedVariables false
set_option linter.unusedSimpArgs false
set_option autoImplicit false
set_option maxRecDepth 100000
namespace Go.Proofs.Ytdodgbhodkcckaa.Pv
open Go Go.RowKit

/-- A line that isn't as the entity has it. -/
def badLn (l : List Item) (c : Int) (x : Line) : Bool := !isIn l x.seller x.number || (getI l x.seller x.number).state != 3 || (getI l x.seller x.number).cycle != c || !eqLn (lineOf (getI l x.seller x.number)) x
def badNets (n : Int) (ls : List Line) (ns : List Int) : Bool := (ns.length : Int) != n || rightE ls ns != 0
def rightR (p : VP) (l : List Item) (c : Int) (ls : List Line) (ns : List Int) : Bool := !badNets p.n ls ns && (mineL p.me ls).all fun x => !badLn l c x
def L190 (p : VP) (me : Int) (l : List Item) (os : List D) (m : Msg) (q : List Line) (i : Nat) : St :=
  ⟨[(31, pint .i64 i), (30, pint .i64 q.length), (29, .d (.slc 4 (linesD q))), (5, .ref 10 0), (4, .ref 9 0)],
   [(9, .box [.d (I64 me), .d (.slc 8 (itemsD l)), .d (.slc 3 os)]),
    (10, .box [.d (I64 m.kind), .d (I64 m.seller), .d (I64 m.number), .d (I64 m.buyer), .d (I64 m.currency), .d (I64 m.round), .d (I64 m.cycle), .d (I64 m.amount), .d (.v (.bool m.yes)), .d m.lines, .d m.nets])], 108⟩
set_option maxHeartbeats 32000000 in
theorem run190 (p : VP) (me : Int) (l : List Item) (os : List D) (m : Msg) (ls : List Line) (ns : List Int) (h1 : m.lines = .slc 4 (linesD ls)) (h2 : m.nets = .slc 1 (ns.map I64)) (hl : l.length ≤ 100000) (hls : ls.length ≤ 1000) (hns : ns.length ≤ 1000) :
    Runs Try.prog 190 [.d p.d, .d (bookD me l os), .d m.d] [] (pbool (rightR p l m.cycle ls ns)) [] := by
  have r84 := run84 ls ns hls hns
  have r88 := run88d p.me ls hls
  have hnl : (ns.map I64).length = ns.length := by simp
  have hml := lines_len (mineL p.me ls)
  have hmm : (mineL p.me ls).length ≤ ls.length := List.length_filter_le _ _
  unfold rightR
  cases hb : badNets p.n ls ns with
  | true =>
    unfold badNets at hb
    unfold VP.d VP.cells bookD Msg.d Msg.cells
    rw [h1, h2]
    refine Runs.of (kit Try.prog) Try.func190 rfl rfl (by rw [Try.ntmps190]; exact of_decide_eq_true rfl) ?_; rw [Try.ntmps190, Try.results190]
    repeat' (first
      | ((first | refine Pwp.step (kit _) rfl fun K hK => ?_ | refine Pwp.last (kit _) rfl fun K hK => ?_ | refine Pwp.stepD (kit _) rfl rfl fun K hK => ?_ | refine Pwp.lastD (kit _) rfl rfl fun K hK => ?_); simp (dsimp := false) only [↓opsP_nil, ↓opsP_cons, ↓opsD_nil, ↓opsD_cons, ↓opP, ↓stepP, ↓stepG, go_sem, hb, hnl])
      | (refine Pwp.seq ?_)
      | (refine Pwp.block ?_)
      | (refine Pwp.exit ?_; simp only [thenS, blockS, if_true, if_false, reduceIte, Nat.reduceEqDiff, Nat.add_one_ne_zero, reduceCtorEq])
      | (refine Pwp.skip ?_; simp only [thenS, blockS])
      | (refine Pwp.cond rfl True.intro (fun h => ?_) (fun h => ?_) <;> (try (cases h; done)) <;> (try simp only [h]))
      | (refine Pwp.ret ?_; try simp only [thenS, blockS])
      | (refine hK _ ?_; clear hK K)
      | (refine hK _ _ rfl ?_; clear hK K)
      | (refine CallG.toD (ds := [.slc 4 (linesD ls), .slc 1 (ns.map I64)]) rfl (r84) rfl ?_ ?_)
      | (refine CallG.off ?_)
      | (with_reducible refine Or.inl ?_)
      | (simp only [thenS, blockS])
      | (with_reducible refine And.intro ?_ ?_)
      | (with_reducible exact True.intro)
      | (simp (dsimp := false) only [↓opsP_nil, ↓opsP_cons, ↓opsD_nil, ↓opsD_cons, ↓opP, ↓stepP, ↓stepG, go_sem, hb, hnl]))
    all_goals (try (first | (intro hg; simp [hg]; done) | exact of_decide_eq_true rfl | (cases h; done)))
    (refine Fin.data (.inr rfl) (by simp (dsimp := false) only [↓opsP_nil, ↓opsP_cons, ↓opsD_nil, ↓opsD_cons, ↓opP, ↓stepP, ↓stepG, go_sem, resL]; rfl) (by simp only [and_self]) (by simp (dsimp := false) only [↓opsP_nil, ↓opsP_cons, ↓opsD_nil, ↓opsD_cons, ↓opP, ↓stepP, ↓stepG, go_sem, resP, Nat.le_refl, List.take_length]; try rfl) ?_)
    exact subD_refl _
  | false =>
    unfold badNets at hb
    unfold VP.d VP.cells bookD Msg.d Msg.cells
    rw [Bool.not_false, Bool.true_and]
    refine Runs.of (kit Try.prog) Try.func190 rfl rfl (by rw [Try.ntmps190]; exact of_decide_eq_true rfl) ?_; rw [Try.ntmps190, Try.results190]
    rw [h1, h2]
    repeat' (first
      | ((first | refine Pwp.step (kit _) rfl fun K hK => ?_ | refine Pwp.last (kit _) rfl fun K hK => ?_ | refine Pwp.stepD (kit _) rfl rfl fun K hK => ?_ | refine Pwp.lastD (kit _) rfl rfl fun K hK => ?_); simp (dsimp := false) only [↓opsP_nil, ↓opsP_cons, ↓opsD_nil, ↓opsD_cons, ↓opP, ↓stepP, ↓stepG, go_sem, hb, hnl, hml])
      | (refine Pwp.seq ?_)
      | (refine Pwp.block ?_)
      | (refine Pwp.exit ?_; simp only [thenS, blockS, if_true, if_false, reduceIte, Nat.reduceEqDiff, Nat.add_one_ne_zero, reduceCtorEq])
      | (refine Pwp.skip ?_; simp only [thenS, blockS])
      | (refine Pwp.cond rfl True.intro (fun h => ?_) (fun h => ?_) <;> (try (cases h; done)) <;> (try simp only [h]))
      | (refine Pwp.ret ?_; try simp only [thenS, blockS])
      | (refine hK _ ?_; clear hK K)
      | (refine hK _ _ rfl ?_; clear hK K)
      | (refine CallK.give (ds := [I64 p.me, .slc 4 (linesD ls)]) rfl (r88) (by simp) ?_)
      | (refine CallG.toD (ds := [.slc 4 (linesD ls), .slc 1 (ns.map I64)]) rfl (r84) rfl ?_ ?_)
      | (refine CallG.off ?_)
      | (with_reducible refine Or.inl ?_)
      | (simp only [thenS, blockS])
      | (with_reducible refine And.intro ?_ ?_)
      | (with_reducible exact True.intro)
      | (simp (dsimp := false) only [↓opsP_nil, ↓opsP_cons, ↓opsD_nil, ↓opsD_cons, ↓opP, ↓stepP, ↓stepG, go_sem, hb, hnl, hml]))
    all_goals (try (first | (intro hg; simp [hg]; done) | exact of_decide_eq_true rfl | (cases h; done)))
    refine Pwp.rangeI (mineL p.me ls).length (fun i s => (∀ x ∈ (mineL p.me ls).take i, badLn l m.cycle x = false) ∧ s = L190 p me l os m (mineL p.me ls) i) (s0 := L190 p me l os m (mineL p.me ls) 0) (Sub.view V0 (by simp [L190]) rfl (by simp [viewH, viewP, viewL, viewO, V0, V9, V9n, VR, VN, keptOf, find, PVal.toD, subD, subL, subV, subD_refl, viewL_ds, disj, PVal.ids, pnil, List.range, List.range.loop, L190, h1, h2]) (by simp [viewT, St.ev, viewH, viewP, viewL, viewO, V0, V9, V9n, VR, VN, keptOf, find, PVal.toD, subD, subL, subV, subD_refl, viewL_ds, disj, PVal.ids, pnil, List.range, List.range.loop, L190, h1, h2])) ⟨by simp, rfl⟩ ?_ ?_
    · rintro i s hi ⟨hok, rfl⟩
      obtain ⟨x, hx, hm⟩ := at_lt hi
      have hg := lines_get hx
      have c1 := dlt hi
      have w1 := wrap_succ (i := i) (by omega)
      have r65 := run65 me l os x.seller x.number (by omega)
      have r188 := run188 (getI l x.seller x.number)
      cases hq : badLn l m.cycle x with
      | true =>
        have hr : ((mineL p.me ls).all fun x => !badLn l m.cycle x) = false := by
          rw [List.all_eq_false]; exact ⟨x, hm, by simp [hq]⟩
        rw [hr]
        unfold badLn eqLn lineOf at hq
        generalize getI l x.seller x.number = y at *
        unfold bookD Item.d Item.cells lineOf Line.d Line.cells at *
        unfold L190
        repeat' (first
          | ((first | refine Pwp.step (kit _) rfl fun K hK => ?_ | refine Pwp.last (kit _) rfl fun K hK => ?_ | refine Pwp.stepD (kit _) rfl rfl fun K hK => ?_ | refine Pwp.lastD (kit _) rfl rfl fun K hK => ?_); simp (dsimp := false) only [↓opsP_nil, ↓opsP_cons, ↓opsD_nil, ↓opsD_cons, ↓opP, ↓stepP, ↓stepG, go_sem, hg, c1, w1, hq])
          | (refine Pwp.seq ?_)
          | (refine Pwp.block ?_)
          | (refine Pwp.exit ?_; simp only [thenS, blockS, if_true, if_false, reduceIte, Nat.reduceEqDiff, Nat.add_one_ne_zero, reduceCtorEq])
          | (refine Pwp.skip ?_; simp only [thenS, blockS])
          | (refine Pwp.cond rfl True.intro (fun h => ?_) (fun h => ?_) <;> (try (cases h; done)) <;> (try simp only [h]))
          | (refine Pwp.ret ?_; try simp only [thenS, blockS])
          | (refine hK _ ?_; clear hK K)
          | (refine hK _ _ rfl ?_; clear hK K)
          | (refine CallK.toD (ds := [.agg [I64 me, .slc 8 (itemsD l), .slc 3 os], .agg [I64 x.seller, I64 x.number]]) rfl (r65) rfl ?_)
          | (refine CallG.toD (ds := [.agg [I64 y.seller, I64 y.number, I64 y.buyer, I64 y.currency, I64 y.amount, I64 y.round, I64 y.state, I64 y.cycle]]) rfl (r188) rfl ?_ ?_)
          | (refine CallG.off ?_)
          | (with_reducible refine Or.inl ?_)
          | (simp only [thenS, blockS])
          | (with_reducible refine And.intro ?_ ?_)
          | (with_reducible exact True.intro)
          | (simp (dsimp := false) only [↓opsP_nil, ↓opsP_cons, ↓opsD_nil, ↓opsD_cons, ↓opP, ↓stepP, ↓stepG, go_sem, hg, c1, w1, hq]))
        all_goals (try (first | (intro hg; simp [hg]; done) | exact of_decide_eq_true rfl | (cases h; done)))
        (refine Fin.data (.inr rfl) (by simp (dsimp := false) only [↓opsP_nil, ↓opsP_cons, ↓opsD_nil, ↓opsD_cons, ↓opP, ↓stepP, ↓stepG, go_sem, resL]; rfl) (by simp only [and_self]) (by simp (dsimp := false) only [↓opsP_nil, ↓opsP_cons, ↓opsD_nil, ↓opsD_cons, ↓opP, ↓stepP, ↓stepG, go_sem, resP, Nat.le_refl, List.take_length]; try rfl) ?_)
        exact subD_refl _
      | false =>
        have hok' : ∀ x ∈ (mineL p.me ls).take (i + 1), badLn l m.cycle x = false := by
          intro z hz
          rw [List.take_add_one, hx] at hz
          rcases List.mem_append.1 hz with hz | hz
          · exact hok z hz
          · obtain rfl := by simpa using hz
            exact hq
        unfold badLn eqLn lineOf at hq
        generalize getI l x.seller x.number = y at *
        unfold bookD Item.d Item.cells lineOf Line.d Line.cells at *
        unfold L190
        repeat' (first
          | ((first | refine Pwp.step (kit _) rfl fun K hK => ?_ | refine Pwp.last (kit _) rfl fun K hK => ?_ | refine Pwp.stepD (kit _) rfl rfl fun K hK => ?_ | refine Pwp.lastD (kit _) rfl rfl fun K hK => ?_); simp (dsimp := false) only [↓opsP_nil, ↓opsP_cons, ↓opsD_nil, ↓opsD_cons, ↓opP, ↓stepP, ↓stepG, go_sem, hg, c1, w1, hq])
          | (refine Pwp.seq ?_)
          | (refine Pwp.block ?_)
          | (refine Pwp.exit ?_; simp only [thenS, blockS, if_true, if_false, reduceIte, Nat.reduceEqDiff, Nat.add_one_ne_zero, reduceCtorEq])
          | (refine Pwp.skip ?_; simp only [thenS, blockS])
          | (refine Pwp.cond rfl True.intro (fun h => ?_) (fun h => ?_) <;> (try (cases h; done)) <;> (try simp only [h]))
          | (refine Pwp.ret ?_; try simp only [thenS, blockS])
          | (refine hK _ ?_; clear hK K)
          | (refine hK _ _ rfl ?_; clear hK K)
          | (refine CallK.toD (ds := [.agg [I64 me, .slc 8 (itemsD l), .slc 3 os], .agg [I64 x.seller, I64 x.number]]) rfl (r65) rfl ?_)
          | (refine CallG.toD (ds := [.agg [I64 y.seller, I64 y.number, I64 y.buyer, I64 y.currency, I64 y.amount, I64 y.round, I64 y.state, I64 y.cycle]]) rfl (r188) rfl ?_ ?_)
          | (refine CallG.off ?_)
          | (with_reducible refine Or.inl ?_)
          | (simp only [thenS, blockS])
          | (with_reducible refine And.intro ?_ ?_)
          | (with_reducible exact True.intro)
          | (simp (dsimp := false) only [↓opsP_nil, ↓opsP_cons, ↓opsD_nil, ↓opsD_cons, ↓opP, ↓stepP, ↓stepG, go_sem, hg, c1, w1, hq]))
        all_goals (try (first | (intro hg; simp [hg]; done) | exact of_decide_eq_true rfl | (cases h; done)))
        exact ⟨_, Sub.view V0 (by simp [L190]) rfl (by simp [viewH, viewP, viewL, viewO, V0, V9, V9n, VR, VN, keptOf, find, PVal.toD, subD, subL, subV, subD_refl, viewL_ds, disj, PVal.ids, pnil, List.range, List.range.loop, L190]) (by simp [viewT, St.ev, viewH, viewP, viewL, viewO, V0, V9, V9n, VR, VN, keptOf, find, PVal.toD, subD, subL, subV, subD_refl, viewL_ds, disj, PVal.ids, pnil, List.range, List.range.loop, L190]), hok', rfl⟩
    · rintro s ⟨hok, rfl⟩
      have c1 := dge (Nat.le_refl (mineL p.me ls).length)
      rw [List.take_length] at hok
      have hr : ((mineL p.me ls).all fun x => !badLn l m.cycle x) = true := by
        rw [List.all_eq_true]; intro x hx; rw [hok x hx]; rfl
      rw [hr]
      unfold L190
      repeat' (first
        | ((first | refine Pwp.step (kit _) rfl fun K hK => ?_ | refine Pwp.last (kit _) rfl fun K hK => ?_ | refine Pwp.stepD (kit _) rfl rfl fun K hK => ?_ | refine Pwp.lastD (kit _) rfl rfl fun K hK => ?_); simp (dsimp := false) only [↓opsP_nil, ↓opsP_cons, ↓opsD_nil, ↓opsD_cons, ↓opP, ↓stepP, ↓stepG, go_sem, c1])
        | (refine Pwp.seq ?_)
        | (refine Pwp.block ?_)
        | (refine Pwp.exit ?_; simp only [thenS, blockS, if_true, if_false, reduceIte, Nat.reduceEqDiff, Nat.add_one_ne_zero, reduceCtorEq])
        | (refine Pwp.skip ?_; simp only [thenS, blockS])
        | (refine Pwp.cond rfl True.intro (fun h => ?_) (fun h => ?_) <;> (try (cases h; done)) <;> (try simp only [h]))
        | (refine Pwp.ret ?_; try simp only [thenS, blockS])
        | (refine hK _ ?_; clear hK K)
        | (refine hK _ _ rfl ?_; clear hK K)
        | (refine CallG.off ?_)
        | (with_reducible refine Or.inl ?_)
        | (simp only [thenS, blockS])
        | (with_reducible refine And.intro ?_ ?_)
        | (with_reducible exact True.intro)
        | (simp (dsimp := false) only [↓opsP_nil, ↓opsP_cons, ↓opsD_nil, ↓opsD_cons, ↓opP, ↓stepP, ↓stepG, go_sem, c1]))
      all_goals (try (first | (intro hg; simp [hg]; done) | exact of_decide_eq_true rfl | (cases h; done)))
      (refine Fin.data (.inr rfl) (by simp (dsimp := false) only [↓opsP_nil, ↓opsP_cons, ↓opsD_nil, ↓opsD_cons, ↓opP, ↓stepP, ↓stepG, go_sem, resL]; rfl) (by simp only [and_self]) (by simp (dsimp := false) only [↓opsP_nil, ↓opsP_cons, ↓opsD_nil, ↓opsD_cons, ↓opP, ↓stepP, ↓stepG, go_sem, resP, Nat.le_refl, List.take_length]; try rfl) ?_)
      exact subD_refl _


end Go.Proofs.Ytdodgbhodkcckaa.Pv
