/- Walks of an entity's part in cycles: it votes, does what is decided, asks; what is done at a message. -/
import Derived.Test.YtdodgbhodkcckaaPoi
set_option linter.unusedVariables false
set_option linter.unusedSimpArgs false
set_option autoImplicit false
set_option maxRecDepth 100000
namespace Go.Proofs.Ytdodgbhodkcckaa.Pv
open Go Go.RowKit

def voteM (c : Int) (yes : Bool) : Msg := ⟨13, 0, 0, 0, 0, 0, c, 0, yes, nilD, nilD⟩
def prepR (p : VP) (l : List Item) (m : Msg) (ls : List Line) (ns : List Int) : VOut :=
  if isC p.list m.cycle = false then ⟨4, p, l, none⟩ else if ((getC p.list m.cycle).state != 1) = true then ⟨90, p, l, none⟩
  else if rightR p l m.cycle ls ns = true then ⟨0, { p with list := putC p.list { getC p.list m.cycle with state := 2, lines := mineL p.me ls } }, l, some (saidD p.n (voteM m.cycle true))⟩
  else ⟨0, { p with list := putC p.list { getC p.list m.cycle with state := 3 } }, l, some (saidD p.n (voteM m.cycle false))⟩
set_option maxHeartbeats 32000000 in
theorem run124 (p : VP) (me : Int) (l : List Item) (os : List D) (m : Msg) (ls : List Line) (ns : List Int) (h1 : m.lines = .slc 4 (linesD ls)) (h2 : m.nets = .slc 1 (ns.map I64)) (hl : l.length ≤ 100000) (hp : p.list.length ≤ 100000) (hll : ∀ x ∈ p.list, x.lines.length ≤ 100000) (hls : ls.length ≤ 1000) (hns : ns.length ≤ 1000) :
    Runs Try.prog 124 [.d p.d, .d (bookD me l os), .d m.d] [] (.d (vOutD me os (prepR p l m ls ns))) [] := by
  have r74 := run74 p m.cycle (by omega) (fun x hx => by have := hll x hx; omega)
  have r190 := run190 p me l os m ls ns h1 h2 hl hls hns
  have r88 := run88d p.me ls hls
  unfold vOutD prepR
  cases hin : isC p.list m.cycle with
  | false =>
    rw [hin] at r74
    rw [if_pos rfl]
    generalize getC p.list m.cycle = z at *
    unfold VP.d VP.cells bookD Msg.d Msg.cells Part.d Part.cells at *
    refine Runs.of (kit Try.prog) Try.func124 rfl rfl (by rw [Try.ntmps124]; exact of_decide_eq_true rfl) ?_; rw [Try.ntmps124, Try.results124]
    repeat' (first
      | ((first | refine Pwp.step (kit _) rfl fun K hK => ?_ | refine Pwp.last (kit _) rfl fun K hK => ?_ | refine Pwp.stepD (kit _) rfl rfl fun K hK => ?_ | refine Pwp.lastD (kit _) rfl rfl fun K hK => ?_); simp (dsimp := false) only [↓opsP_nil, ↓opsP_cons, ↓opsD_nil, ↓opsD_cons, ↓opP, ↓stepP, ↓stepG, go_sem, Bool.not_false])
      | (refine Pwp.seq ?_)
      | (refine Pwp.block ?_)
      | (refine Pwp.exit ?_; simp only [thenS, blockS, if_true, if_false, reduceIte, Nat.reduceEqDiff, Nat.add_one_ne_zero, reduceCtorEq])
      | (refine Pwp.skip ?_; simp only [thenS, blockS])
      | (refine Pwp.cond rfl True.intro (fun h => ?_) (fun h => ?_) <;> (try (cases h; done)) <;> (try simp only [h]))
      | (refine Pwp.ret ?_; try simp only [thenS, blockS])
      | (refine hK _ ?_; clear hK K)
      | (refine hK _ _ rfl ?_; clear hK K)
      | (refine CallK.give (ds := [.agg [I64 p.me, I64 p.n, .slc 4 (partsL p.list)], I64 m.cycle]) rfl (r74) (by simp) ?_)
      | (refine CallG.off ?_)
      | (with_reducible refine Or.inl ?_)
      | (simp only [thenS, blockS])
      | (with_reducible refine And.intro ?_ ?_)
      | (with_reducible exact True.intro)
      | (simp (dsimp := false) only [↓opsP_nil, ↓opsP_cons, ↓opsD_nil, ↓opsD_cons, ↓opP, ↓stepP, ↓stepG, go_sem, Bool.not_false]))
    all_goals (try (first | (intro hg; simp [hg]; done) | exact of_decide_eq_true rfl | (cases h; done)))
    (refine Fin.data (.inr rfl) (by simp (dsimp := false) only [↓opsP_nil, ↓opsP_cons, ↓opsD_nil, ↓opsD_cons, ↓opP, ↓stepP, ↓stepG, go_sem, resL]; rfl) (by simp only [and_self]) (by simp (dsimp := false) only [↓opsP_nil, ↓opsP_cons, ↓opsD_nil, ↓opsD_cons, ↓opP, ↓stepP, ↓stepG, go_sem, resP, Nat.le_refl, List.take_length]; try rfl) ?_)
    simp [subD, subL, subV, subD_refl]
  | true =>
    rw [hin] at r74
    rw [if_neg (by simp)]
    generalize getC p.list m.cycle = z at *
    cases hz : (z.state != 1) with
    | true =>
      rw [if_pos rfl]
      unfold VP.d VP.cells bookD Msg.d Msg.cells Part.d Part.cells at *
      refine Runs.of (kit Try.prog) Try.func124 rfl rfl (by rw [Try.ntmps124]; exact of_decide_eq_true rfl) ?_; rw [Try.ntmps124, Try.results124]
      repeat' (first
        | ((first | refine Pwp.step (kit _) rfl fun K hK => ?_ | refine Pwp.last (kit _) rfl fun K hK => ?_ | refine Pwp.stepD (kit _) rfl rfl fun K hK => ?_ | refine Pwp.lastD (kit _) rfl rfl fun K hK => ?_); simp (dsimp := false) only [↓opsP_nil, ↓opsP_cons, ↓opsD_nil, ↓opsD_cons, ↓opP, ↓stepP, ↓stepG, go_sem, Bool.not_true, hz])
        | (refine Pwp.seq ?_)
        | (refine Pwp.block ?_)
        | (refine Pwp.exit ?_; simp only [thenS, blockS, if_true, if_false, reduceIte, Nat.reduceEqDiff, Nat.add_one_ne_zero, reduceCtorEq])
        | (refine Pwp.skip ?_; simp only [thenS, blockS])
        | (refine Pwp.cond rfl True.intro (fun h => ?_) (fun h => ?_) <;> (try (cases h; done)) <;> (try simp only [h]))
        | (refine Pwp.ret ?_; try simp only [thenS, blockS])
        | (refine hK _ ?_; clear hK K)
        | (refine hK _ _ rfl ?_; clear hK K)
        | (refine CallK.give (ds := [.agg [I64 p.me, I64 p.n, .slc 4 (partsL p.list)], I64 m.cycle]) rfl (r74) (by simp) ?_)
        | (refine CallG.off ?_)
        | (with_reducible refine Or.inl ?_)
        | (simp only [thenS, blockS])
        | (with_reducible refine And.intro ?_ ?_)
        | (with_reducible exact True.intro)
        | (simp (dsimp := false) only [↓opsP_nil, ↓opsP_cons, ↓opsD_nil, ↓opsD_cons, ↓opP, ↓stepP, ↓stepG, go_sem, Bool.not_true, hz]))
      all_goals (try (first | (intro hg; simp [hg]; done) | exact of_decide_eq_true rfl | (cases h; done)))
      (refine Fin.data (.inr rfl) (by simp (dsimp := false) only [↓opsP_nil, ↓opsP_cons, ↓opsD_nil, ↓opsD_cons, ↓opP, ↓stepP, ↓stepG, go_sem, resL]; rfl) (by simp only [and_self]) (by simp (dsimp := false) only [↓opsP_nil, ↓opsP_cons, ↓opsD_nil, ↓opsD_cons, ↓opP, ↓stepP, ↓stepG, go_sem, resP, Nat.le_refl, List.take_length]; try rfl) ?_)
      simp [subD, subL, subV, subD_refl]
    | false =>
      rw [if_neg (by simp)]
      have r189y := run189 p { z with state := 2, lines := mineL p.me ls } (by omega)
      have r189n := run189 p { z with state := 3 } (by omega)
      have r186y := run186 p (voteM m.cycle true) (.inl rfl) rfl
      have r186n := run186 p (voteM m.cycle false) (.inl rfl) rfl
      cases hr : rightR p l m.cycle ls ns with
      | true =>
        rw [hr] at r190
        rw [if_pos rfl]
        unfold VP.d VP.cells bookD Msg.d Msg.cells Part.d Part.cells at *
        unfold voteM saidD Msg.cells at *
        rw [h1, h2] at *
        refine Runs.of (kit Try.prog) Try.func124 rfl rfl (by rw [Try.ntmps124]; exact of_decide_eq_true rfl) ?_; rw [Try.ntmps124, Try.results124]
        repeat' (first
          | ((first | refine Pwp.step (kit _) rfl fun K hK => ?_ | refine Pwp.last (kit _) rfl fun K hK => ?_ | refine Pwp.stepD (kit _) rfl rfl fun K hK => ?_ | refine Pwp.lastD (kit _) rfl rfl fun K hK => ?_); simp (dsimp := false) only [↓opsP_nil, ↓opsP_cons, ↓opsD_nil, ↓opsD_cons, ↓opP, ↓stepP, ↓stepG, go_sem, Bool.not_true, hz, beq_self_eq_true])
          | (refine Pwp.seq ?_)
          | (refine Pwp.block ?_)
          | (refine Pwp.exit ?_; simp only [thenS, blockS, if_true, if_false, reduceIte, Nat.reduceEqDiff, Nat.add_one_ne_zero, reduceCtorEq])
          | (refine Pwp.skip ?_; simp only [thenS, blockS])
          | (refine Pwp.cond rfl True.intro (fun h => ?_) (fun h => ?_) <;> (try (cases h; done)) <;> (try simp only [h]))
          | (refine Pwp.ret ?_; try simp only [thenS, blockS])
          | (refine hK _ ?_; clear hK K)
          | (refine hK _ _ rfl ?_; clear hK K)
          | (refine CallK.toD (ds := [.agg [I64 p.me, I64 p.n, .slc 4 (partsL p.list)], .agg [I64 me, .slc 8 (itemsD l), .slc 3 os], .agg [I64 m.kind, I64 m.seller, I64 m.number, I64 m.buyer, I64 m.currency, I64 m.round, I64 m.cycle, I64 m.amount, .v (.bool m.yes), .slc 4 (linesD ls), .slc 1 (ns.map I64)]]) rfl (r190) rfl ?_)
          | (refine CallK.give (ds := [.agg [I64 p.me, I64 p.n, .slc 4 (partsL p.list)], I64 m.cycle]) rfl (r74) (by simp) ?_)
          | (refine CallK.give (ds := [I64 p.me, .slc 4 (linesD ls)]) rfl (r88) (by simp) ?_)
          | (refine CallK.give (ds := [.agg [I64 p.me, I64 p.n, .slc 4 (partsL p.list)], .agg [I64 z.cycle, I64 z.currency, I64 2, .slc 4 (linesD (mineL p.me ls))]]) rfl (r189y) (by simp) ?_)
          | (refine CallK.give (ds := [.agg [I64 p.me, I64 p.n, .slc 4 (partsL p.list)], .agg [I64 13, I64 0, I64 0, I64 0, I64 0, I64 0, I64 m.cycle, I64 0, .v (.bool true), nilD, nilD]]) rfl (r186y) (by simp) ?_)
          | (refine CallG.off ?_)
          | (with_reducible refine Or.inl ?_)
          | (simp only [thenS, blockS])
          | (with_reducible refine And.intro ?_ ?_)
          | (with_reducible exact True.intro)
          | (simp (dsimp := false) only [↓opsP_nil, ↓opsP_cons, ↓opsD_nil, ↓opsD_cons, ↓opP, ↓stepP, ↓stepG, go_sem, Bool.not_true, hz, beq_self_eq_true]))
        all_goals (try (first | (intro hg; simp [hg]; done) | exact of_decide_eq_true rfl | (cases h; done)))
        (refine Fin.data (.inr rfl) (by simp (dsimp := false) only [↓opsP_nil, ↓opsP_cons, ↓opsD_nil, ↓opsD_cons, ↓opP, ↓stepP, ↓stepG, go_sem, resL]; rfl) (by simp only [and_self]) (by simp (dsimp := false) only [↓opsP_nil, ↓opsP_cons, ↓opsD_nil, ↓opsD_cons, ↓opP, ↓stepP, ↓stepG, go_sem, resP, Nat.le_refl, List.take_length]; try rfl) ?_)
        simp [subD, subL, subV, subD_refl]
      | false =>
        rw [hr] at r190
        rw [if_neg (by simp)]
        have n32 : ((3 : Int) == 2) = false := rfl
        unfold VP.d VP.cells bookD Msg.d Msg.cells Part.d Part.cells at *
        unfold voteM saidD Msg.cells at *
        rw [h1, h2] at *
        refine Runs.of (kit Try.prog) Try.func124 rfl rfl (by rw [Try.ntmps124]; exact of_decide_eq_true rfl) ?_; rw [Try.ntmps124, Try.results124]
        repeat' (first
          | ((first | refine Pwp.step (kit _) rfl fun K hK => ?_ | refine Pwp.last (kit _) rfl fun K hK => ?_ | refine Pwp.stepD (kit _) rfl rfl fun K hK => ?_ | refine Pwp.lastD (kit _) rfl rfl fun K hK => ?_); simp (dsimp := false) only [↓opsP_nil, ↓opsP_cons, ↓opsD_nil, ↓opsD_cons, ↓opP, ↓stepP, ↓stepG, go_sem, Bool.not_true, hz, n32])
          | (refine Pwp.seq ?_)
          | (refine Pwp.block ?_)
          | (refine Pwp.exit ?_; simp only [thenS, blockS, if_true, if_false, reduceIte, Nat.reduceEqDiff, Nat.add_one_ne_zero, reduceCtorEq])
          | (refine Pwp.skip ?_; simp only [thenS, blockS])
          | (refine Pwp.cond rfl True.intro (fun h => ?_) (fun h => ?_) <;> (try (cases h; done)) <;> (try simp only [h]))
          | (refine Pwp.ret ?_; try simp only [thenS, blockS])
          | (refine hK _ ?_; clear hK K)
          | (refine hK _ _ rfl ?_; clear hK K)
          | (refine CallK.toD (ds := [.agg [I64 p.me, I64 p.n, .slc 4 (partsL p.list)], .agg [I64 me, .slc 8 (itemsD l), .slc 3 os], .agg [I64 m.kind, I64 m.seller, I64 m.number, I64 m.buyer, I64 m.currency, I64 m.round, I64 m.cycle, I64 m.amount, .v (.bool m.yes), .slc 4 (linesD ls), .slc 1 (ns.map I64)]]) rfl (r190) rfl ?_)
          | (refine CallK.give (ds := [.agg [I64 p.me, I64 p.n, .slc 4 (partsL p.list)], I64 m.cycle]) rfl (r74) (by simp) ?_)
          | (refine CallK.give (ds := [.agg [I64 p.me, I64 p.n, .slc 4 (partsL p.list)], .agg [I64 z.cycle, I64 z.currency, I64 3, .slc 4 (linesD z.lines)]]) rfl (r189n) (by simp) ?_)
          | (refine CallK.give (ds := [.agg [I64 p.me, I64 p.n, .slc 4 (partsL p.list)], .agg [I64 13, I64 0, I64 0, I64 0, I64 0, I64 0, I64 m.cycle, I64 0, .v (.bool false), nilD, nilD]]) rfl (r186n) (by simp) ?_)
          | (refine CallG.off ?_)
          | (with_reducible refine Or.inl ?_)
          | (simp only [thenS, blockS])
          | (with_reducible refine And.intro ?_ ?_)
          | (with_reducible exact True.intro)
          | (simp (dsimp := false) only [↓opsP_nil, ↓opsP_cons, ↓opsD_nil, ↓opsD_cons, ↓opP, ↓stepP, ↓stepG, go_sem, Bool.not_true, hz, n32]))
        all_goals (try (first | (intro hg; simp [hg]; done) | exact of_decide_eq_true rfl | (cases h; done)))
        (refine Fin.data (.inr rfl) (by simp (dsimp := false) only [↓opsP_nil, ↓opsP_cons, ↓opsD_nil, ↓opsD_cons, ↓opP, ↓stepP, ↓stepG, go_sem, resL]; rfl) (by simp only [and_self]) (by simp (dsimp := false) only [↓opsP_nil, ↓opsP_cons, ↓opsD_nil, ↓opsD_cons, ↓opP, ↓stepP, ↓stepG, go_sem, resP, Nat.le_refl, List.take_length]; try rfl) ?_)
        simp [subD, subL, subV, subD_refl]

def queryM (c : Int) : Msg := ⟨15, 0, 0, 0, 0, 0, c, 0, false, nilD, nilD⟩
def dueC (p : VP) (l : List Item) (m : Msg) : VOut :=
  if isC p.list m.cycle = false then ⟨4, p, l, none⟩ else if openC (getC p.list m.cycle) = false then ⟨90, p, l, none⟩ else ⟨0, p, l, some (saidD p.n (queryM m.cycle))⟩
set_option maxHeartbeats 32000000 in
theorem run122 (p : VP) (me : Int) (l : List Item) (os : List D) (m : Msg) (hp : p.list.length ≤ 100000) (hll : ∀ x ∈ p.list, x.lines.length ≤ 100000) :
    Runs Try.prog 122 [.d p.d, .d (bookD me l os), .d m.d] [] (.d (vOutD me os (dueC p l m))) [] := by
  have r74 := run74 p m.cycle (by omega) (fun x hx => by have := hll x hx; omega)
  have r186 := run186 p (queryM m.cycle) (.inl rfl) rfl
  unfold vOutD dueC
  cases hin : isC p.list m.cycle with
  | false =>
    rw [hin] at r74
    rw [if_pos rfl]
    generalize getC p.list m.cycle = z at *
    unfold VP.d VP.cells bookD Msg.d Msg.cells Part.d Part.cells at *
    refine Runs.of (kit Try.prog) Try.func122 rfl rfl (by rw [Try.ntmps122]; exact of_decide_eq_true rfl) ?_; rw [Try.ntmps122, Try.results122]
    repeat' (first
      | ((first | refine Pwp.step (kit _) rfl fun K hK => ?_ | refine Pwp.last (kit _) rfl fun K hK => ?_ | refine Pwp.stepD (kit _) rfl rfl fun K hK => ?_ | refine Pwp.lastD (kit _) rfl rfl fun K hK => ?_); simp (dsimp := false) only [↓opsP_nil, ↓opsP_cons, ↓opsD_nil, ↓opsD_cons, ↓opP, ↓stepP, ↓stepG, go_sem, Bool.not_false])
      | (refine Pwp.seq ?_)
      | (refine Pwp.block ?_)
      | (refine Pwp.exit ?_; simp only [thenS, blockS, if_true, if_false, reduceIte, Nat.reduceEqDiff, Nat.add_one_ne_zero, reduceCtorEq])
      | (refine Pwp.skip ?_; simp only [thenS, blockS])
      | (refine Pwp.cond rfl True.intro (fun h => ?_) (fun h => ?_) <;> (try (cases h; done)) <;> (try simp only [h]))
      | (refine Pwp.ret ?_; try simp only [thenS, blockS])
      | (refine hK _ ?_; clear hK K)
      | (refine hK _ _ rfl ?_; clear hK K)
      | (refine CallK.give (ds := [.agg [I64 p.me, I64 p.n, .slc 4 (partsL p.list)], I64 m.cycle]) rfl (r74) (by simp) ?_)
      | (refine CallG.off ?_)
      | (with_reducible refine Or.inl ?_)
      | (simp only [thenS, blockS])
      | (with_reducible refine And.intro ?_ ?_)
      | (with_reducible exact True.intro)
      | (simp (dsimp := false) only [↓opsP_nil, ↓opsP_cons, ↓opsD_nil, ↓opsD_cons, ↓opP, ↓stepP, ↓stepG, go_sem, Bool.not_false]))
    all_goals (try (first | (intro hg; simp [hg]; done) | exact of_decide_eq_true rfl | (cases h; done)))
    (refine Fin.data (.inr rfl) (by simp (dsimp := false) only [↓opsP_nil, ↓opsP_cons, ↓opsD_nil, ↓opsD_cons, ↓opP, ↓stepP, ↓stepG, go_sem, resL]; rfl) (by simp only [and_self]) (by simp (dsimp := false) only [↓opsP_nil, ↓opsP_cons, ↓opsD_nil, ↓opsD_cons, ↓opP, ↓stepP, ↓stepG, go_sem, resP, Nat.le_refl, List.take_length]; try rfl) ?_)
    simp [subD, subL, subV, subD_refl]
  | true =>
    rw [hin] at r74
    rw [if_neg (by simp)]
    generalize getC p.list m.cycle = z at *
    have r134 := run134 z
    cases hz : openC z with
    | false =>
      rw [hz] at r134
      rw [if_pos rfl]
      unfold VP.d VP.cells bookD Msg.d Msg.cells Part.d Part.cells at *
      refine Runs.of (kit Try.prog) Try.func122 rfl rfl (by rw [Try.ntmps122]; exact of_decide_eq_true rfl) ?_; rw [Try.ntmps122, Try.results122]
      repeat' (first
        | ((first | refine Pwp.step (kit _) rfl fun K hK => ?_ | refine Pwp.last (kit _) rfl fun K hK => ?_ | refine Pwp.stepD (kit _) rfl rfl fun K hK => ?_ | refine Pwp.lastD (kit _) rfl rfl fun K hK => ?_); simp (dsimp := false) only [↓opsP_nil, ↓opsP_cons, ↓opsD_nil, ↓opsD_cons, ↓opP, ↓stepP, ↓stepG, go_sem, Bool.not_true, Bool.not_false])
        | (refine Pwp.seq ?_)
        | (refine Pwp.block ?_)
        | (refine Pwp.exit ?_; simp only [thenS, blockS, if_true, if_false, reduceIte, Nat.reduceEqDiff, Nat.add_one_ne_zero, reduceCtorEq])
        | (refine Pwp.skip ?_; simp only [thenS, blockS])
        | (refine Pwp.cond rfl True.intro (fun h => ?_) (fun h => ?_) <;> (try (cases h; done)) <;> (try simp only [h]))
        | (refine Pwp.ret ?_; try simp only [thenS, blockS])
        | (refine hK _ ?_; clear hK K)
        | (refine hK _ _ rfl ?_; clear hK K)
        | (refine CallK.toD (ds := [.agg [I64 z.cycle, I64 z.currency, I64 z.state, .slc 4 (linesD z.lines)]]) rfl (r134) rfl ?_)
        | (refine CallK.give (ds := [.agg [I64 p.me, I64 p.n, .slc 4 (partsL p.list)], I64 m.cycle]) rfl (r74) (by simp) ?_)
        | (refine CallG.off ?_)
        | (with_reducible refine Or.inl ?_)
        | (simp only [thenS, blockS])
        | (with_reducible refine And.intro ?_ ?_)
        | (with_reducible exact True.intro)
        | (simp (dsimp := false) only [↓opsP_nil, ↓opsP_cons, ↓opsD_nil, ↓opsD_cons, ↓opP, ↓stepP, ↓stepG, go_sem, Bool.not_true, Bool.not_false]))
      all_goals (try (first | (intro hg; simp [hg]; done) | exact of_decide_eq_true rfl | (cases h; done)))
      (refine Fin.data (.inr rfl) (by simp (dsimp := false) only [↓opsP_nil, ↓opsP_cons, ↓opsD_nil, ↓opsD_cons, ↓opP, ↓stepP, ↓stepG, go_sem, resL]; rfl) (by simp only [and_self]) (by simp (dsimp := false) only [↓opsP_nil, ↓opsP_cons, ↓opsD_nil, ↓opsD_cons, ↓opP, ↓stepP, ↓stepG, go_sem, resP, Nat.le_refl, List.take_length]; try rfl) ?_)
      simp [subD, subL, subV, subD_refl]
    | true =>
      rw [hz] at r134
      rw [if_neg (by simp)]
      unfold VP.d VP.cells bookD Msg.d Msg.cells Part.d Part.cells at *
      unfold queryM saidD Msg.cells at *
      refine Runs.of (kit Try.prog) Try.func122 rfl rfl (by rw [Try.ntmps122]; exact of_decide_eq_true rfl) ?_; rw [Try.ntmps122, Try.results122]
      repeat' (first
        | ((first | refine Pwp.step (kit _) rfl fun K hK => ?_ | refine Pwp.last (kit _) rfl fun K hK => ?_ | refine Pwp.stepD (kit _) rfl rfl fun K hK => ?_ | refine Pwp.lastD (kit _) rfl rfl fun K hK => ?_); simp (dsimp := false) only [↓opsP_nil, ↓opsP_cons, ↓opsD_nil, ↓opsD_cons, ↓opP, ↓stepP, ↓stepG, go_sem, Bool.not_true, Bool.not_false])
        | (refine Pwp.seq ?_)
        | (refine Pwp.block ?_)
        | (refine Pwp.exit ?_; simp only [thenS, blockS, if_true, if_false, reduceIte, Nat.reduceEqDiff, Nat.add_one_ne_zero, reduceCtorEq])
        | (refine Pwp.skip ?_; simp only [thenS, blockS])
        | (refine Pwp.cond rfl True.intro (fun h => ?_) (fun h => ?_) <;> (try (cases h; done)) <;> (try simp only [h]))
        | (refine Pwp.ret ?_; try simp only [thenS, blockS])
        | (refine hK _ ?_; clear hK K)
        | (refine hK _ _ rfl ?_; clear hK K)
        | (refine CallK.toD (ds := [.agg [I64 z.cycle, I64 z.currency, I64 z.state, .slc 4 (linesD z.lines)]]) rfl (r134) rfl ?_)
        | (refine CallK.give (ds := [.agg [I64 p.me, I64 p.n, .slc 4 (partsL p.list)], I64 m.cycle]) rfl (r74) (by simp) ?_)
        | (refine CallK.give (ds := [.agg [I64 p.me, I64 p.n, .slc 4 (partsL p.list)], .agg [I64 15, I64 0, I64 0, I64 0, I64 0, I64 0, I64 m.cycle, I64 0, .v (.bool false), nilD, nilD]]) rfl (r186) (by simp) ?_)
        | (refine CallG.off ?_)
        | (with_reducible refine Or.inl ?_)
        | (simp only [thenS, blockS])
        | (with_reducible refine And.intro ?_ ?_)
        | (with_reducible exact True.intro)
        | (simp (dsimp := false) only [↓opsP_nil, ↓opsP_cons, ↓opsD_nil, ↓opsD_cons, ↓opP, ↓stepP, ↓stepG, go_sem, Bool.not_true, Bool.not_false]))
      all_goals (try (first | (intro hg; simp [hg]; done) | exact of_decide_eq_true rfl | (cases h; done)))
      (refine Fin.data (.inr rfl) (by simp (dsimp := false) only [↓opsP_nil, ↓opsP_cons, ↓opsD_nil, ↓opsD_cons, ↓opP, ↓stepP, ↓stepG, go_sem, resL]; rfl) (by simp only [and_self]) (by simp (dsimp := false) only [↓opsP_nil, ↓opsP_cons, ↓opsD_nil, ↓opsD_cons, ↓opP, ↓stepP, ↓stepG, go_sem, resP, Nat.le_refl, List.take_length]; try rfl) ?_)
      simp [subD, subL, subV, subD_refl]

def decBad (p : VP) (m : Msg) : Bool := !openC (getC p.list m.cycle) || (m.yes && (getC p.list m.cycle).state != 2)
def decR (p : VP) (l : List Item) (m : Msg) : VOut :=
  if isC p.list m.cycle = false then ⟨4, p, l, none⟩ else if decBad p m = true then ⟨90, p, l, none⟩
  else ⟨0, { p with list := putC p.list { getC p.list m.cycle with state := if m.yes = true then 4 else 5 } }, foldB (endI m.yes (getC p.list m.cycle).lines) (keepF (notHeld m.cycle) l) l, none⟩
def L125 (p : VP) (me : Int) (l : List Item) (os : List D) (m : Msg) (z : Part) (i : Nat) : St :=
  ⟨[(49, pint .i64 i), (48, pint .i64 (keepF (notHeld m.cycle) l).length), (47, .d (.slc 8 (itemsD (keepF (notHeld m.cycle) l)))), (12, .ref 137 0), (10, .ref 43 0), (7, .ref 12 0), (6, .ref 11 0), (5, .ref 10 0), (4, .ref 9 0), (3, .ref 8 0)],
   [(8, .box [.d (I64 p.me), .d (I64 p.n), .d (.slc 4 (partsL p.list))]), (9, .box [.d (I64 me), .d (.slc 8 (itemsD l)), .d (.slc 3 os)]),
    (10, .box [.d (I64 m.kind), .d (I64 m.seller), .d (I64 m.number), .d (I64 m.buyer), .d (I64 m.currency), .d (I64 m.round), .d (I64 m.cycle), .d (I64 m.amount), .d (.v (.bool m.yes)), .d m.lines, .d m.nets]),
    (11, .box [.d (I64 0), .d (I64 0), .d nilD]), (12, .box [.d (I64 0), .d nilD, .d nilD]), (43, .box [.d (I64 z.cycle), .d (I64 z.currency), .d (I64 z.state), .d (.slc 4 (linesD z.lines))]),
    (137, .box [.d (I64 me), .d (.slc 8 (itemsD (foldB (endI m.yes z.lines) ((keepF (notHeld m.cycle) l).take i) l))), .d (.slc 3 os)])], 172⟩
set_option maxHeartbeats 32000000 in
theorem run125 (p : VP) (me : Int) (l : List Item) (os : List D) (m : Msg) (hG : Good me l) (hl : l.length ≤ 100000) (hp : p.list.length ≤ 100000) (hll : ∀ x ∈ p.list, x.lines.length ≤ 100000) :
    Runs Try.prog 125 [.d p.d, .d (bookD me l os), .d m.d] [] (.d (vOutD me os (decR p l m))) [] := by
  have r74 := run74 p m.cycle (by omega) (fun x hx => by have := hll x hx; omega)
  have r77 := run77 me m.cycle l os (by omega)
  have hlen := items_len (keepF (notHeld m.cycle) l)
  have hkl := keepF_le (notHeld m.cycle) l
  have hzl : (getC p.list m.cycle).lines.length ≤ 100000 := by
    unfold getC
    split
    · cases hx : p.list[posC p.list m.cycle]? with
      | none => simp [Part.zero]
      | some x => exact hll x (List.mem_of_getElem? hx)
    · simp [Part.zero]
  have r189y := run189 p { getC p.list m.cycle with state := 4 } (by omega)
  have r189n := run189 p { getC p.list m.cycle with state := 5 } (by omega)
  unfold vOutD decR decBad
  cases hin : isC p.list m.cycle with
  | false =>
    rw [hin] at r74
    rw [if_pos rfl]
    generalize getC p.list m.cycle = z at *
    unfold VP.d VP.cells bookD Msg.d Msg.cells Part.d Part.cells at *
    refine Runs.of (kit Try.prog) Try.func125 rfl rfl (by rw [Try.ntmps125]; exact of_decide_eq_true rfl) ?_; rw [Try.ntmps125, Try.results125]
    repeat' (first
      | ((first | refine Pwp.step (kit _) rfl fun K hK => ?_ | refine Pwp.last (kit _) rfl fun K hK => ?_ | refine Pwp.stepD (kit _) rfl rfl fun K hK => ?_ | refine Pwp.lastD (kit _) rfl rfl fun K hK => ?_); simp (dsimp := false) only [↓opsP_nil, ↓opsP_cons, ↓opsD_nil, ↓opsD_cons, ↓opP, ↓stepP, ↓stepG, go_sem, Bool.not_false])
      | (refine Pwp.seq ?_)
      | (refine Pwp.block ?_)
      | (refine Pwp.exit ?_; simp only [thenS, blockS, if_true, if_false, reduceIte, Nat.reduceEqDiff, Nat.add_one_ne_zero, reduceCtorEq])
      | (refine Pwp.skip ?_; simp only [thenS, blockS])
      | (refine Pwp.cond rfl True.intro (fun h => ?_) (fun h => ?_) <;> (try (cases h; done)) <;> (try simp only [h]))
      | (refine Pwp.ret ?_; try simp only [thenS, blockS])
      | (refine hK _ ?_; clear hK K)
      | (refine hK _ _ rfl ?_; clear hK K)
      | (refine CallK.give (ds := [.agg [I64 p.me, I64 p.n, .slc 4 (partsL p.list)], I64 m.cycle]) rfl (r74) (by simp) ?_)
      | (refine CallG.off ?_)
      | (with_reducible refine Or.inl ?_)
      | (simp only [thenS, blockS])
      | (with_reducible refine And.intro ?_ ?_)
      | (with_reducible exact True.intro)
      | (simp (dsimp := false) only [↓opsP_nil, ↓opsP_cons, ↓opsD_nil, ↓opsD_cons, ↓opP, ↓stepP, ↓stepG, go_sem, Bool.not_false]))
    all_goals (try (first | (intro hg; simp [hg]; done) | exact of_decide_eq_true rfl | (cases h; done)))
    (refine Fin.data (.inr rfl) (by simp (dsimp := false) only [↓opsP_nil, ↓opsP_cons, ↓opsD_nil, ↓opsD_cons, ↓opP, ↓stepP, ↓stepG, go_sem, resL]; rfl) (by simp only [and_self]) (by simp (dsimp := false) only [↓opsP_nil, ↓opsP_cons, ↓opsD_nil, ↓opsD_cons, ↓opP, ↓stepP, ↓stepG, go_sem, resP, Nat.le_refl, List.take_length]; try rfl) ?_)
    simp [subD, subL, subV, subD_refl]
  | true =>
    rw [hin] at r74
    rw [if_neg (by simp)]
    generalize getC p.list m.cycle = z at *
    have r134 := run134 z
    cases hz : openC z with
    | false =>
      rw [hz] at r134
      rw [if_pos (by simp)]
      unfold VP.d VP.cells bookD Msg.d Msg.cells Part.d Part.cells at *
      refine Runs.of (kit Try.prog) Try.func125 rfl rfl (by rw [Try.ntmps125]; exact of_decide_eq_true rfl) ?_; rw [Try.ntmps125, Try.results125]
      repeat' (first
        | ((first | refine Pwp.step (kit _) rfl fun K hK => ?_ | refine Pwp.last (kit _) rfl fun K hK => ?_ | refine Pwp.stepD (kit _) rfl rfl fun K hK => ?_ | refine Pwp.lastD (kit _) rfl rfl fun K hK => ?_); simp (dsimp := false) only [↓opsP_nil, ↓opsP_cons, ↓opsD_nil, ↓opsD_cons, ↓opP, ↓stepP, ↓stepG, go_sem, Bool.not_true, Bool.not_false])
        | (refine Pwp.seq ?_)
        | (refine Pwp.block ?_)
        | (refine Pwp.exit ?_; simp only [thenS, blockS, if_true, if_false, reduceIte, Nat.reduceEqDiff, Nat.add_one_ne_zero, reduceCtorEq])
        | (refine Pwp.skip ?_; simp only [thenS, blockS])
        | (refine Pwp.cond rfl True.intro (fun h => ?_) (fun h => ?_) <;> (try (cases h; done)) <;> (try simp only [h]))
        | (refine Pwp.ret ?_; try simp only [thenS, blockS])
        | (refine hK _ ?_; clear hK K)
        | (refine hK _ _ rfl ?_; clear hK K)
        | (refine CallK.toD (ds := [.agg [I64 z.cycle, I64 z.currency, I64 z.state, .slc 4 (linesD z.lines)]]) rfl (r134) rfl ?_)
        | (refine CallK.give (ds := [.agg [I64 p.me, I64 p.n, .slc 4 (partsL p.list)], I64 m.cycle]) rfl (r74) (by simp) ?_)
        | (refine CallG.off ?_)
        | (with_reducible refine Or.inl ?_)
        | (simp only [thenS, blockS])
        | (with_reducible refine And.intro ?_ ?_)
        | (with_reducible exact True.intro)
        | (simp (dsimp := false) only [↓opsP_nil, ↓opsP_cons, ↓opsD_nil, ↓opsD_cons, ↓opP, ↓stepP, ↓stepG, go_sem, Bool.not_true, Bool.not_false]))
      all_goals (try (first | (intro hg; simp [hg]; done) | exact of_decide_eq_true rfl | (cases h; done)))
      (refine Fin.data (.inr rfl) (by simp (dsimp := false) only [↓opsP_nil, ↓opsP_cons, ↓opsD_nil, ↓opsD_cons, ↓opP, ↓stepP, ↓stepG, go_sem, resL]; rfl) (by simp only [and_self]) (by simp (dsimp := false) only [↓opsP_nil, ↓opsP_cons, ↓opsD_nil, ↓opsD_cons, ↓opP, ↓stepP, ↓stepG, go_sem, resP, Nat.le_refl, List.take_length]; try rfl) ?_)
      simp [subD, subL, subV, subD_refl]
    | true =>
      rw [hz] at r134
      cases hy : (m.yes && z.state != 2) with
      | true =>
        rw [if_pos (by simp)]
        unfold VP.d VP.cells bookD Msg.d Msg.cells Part.d Part.cells at *
        refine Runs.of (kit Try.prog) Try.func125 rfl rfl (by rw [Try.ntmps125]; exact of_decide_eq_true rfl) ?_; rw [Try.ntmps125, Try.results125]
        repeat' (first
          | ((first | refine Pwp.step (kit _) rfl fun K hK => ?_ | refine Pwp.last (kit _) rfl fun K hK => ?_ | refine Pwp.stepD (kit _) rfl rfl fun K hK => ?_ | refine Pwp.lastD (kit _) rfl rfl fun K hK => ?_); simp (dsimp := false) only [↓opsP_nil, ↓opsP_cons, ↓opsD_nil, ↓opsD_cons, ↓opP, ↓stepP, ↓stepG, go_sem, Bool.not_true, Bool.not_false, hy])
          | (refine Pwp.seq ?_)
          | (refine Pwp.block ?_)
          | (refine Pwp.exit ?_; simp only [thenS, blockS, if_true, if_false, reduceIte, Nat.reduceEqDiff, Nat.add_one_ne_zero, reduceCtorEq])
          | (refine Pwp.skip ?_; simp only [thenS, blockS])
          | (refine Pwp.cond rfl True.intro (fun h => ?_) (fun h => ?_) <;> (try (cases h; done)) <;> (try simp only [h]))
          | (refine Pwp.ret ?_; try simp only [thenS, blockS])
          | (refine hK _ ?_; clear hK K)
          | (refine hK _ _ rfl ?_; clear hK K)
          | (refine CallK.toD (ds := [.agg [I64 z.cycle, I64 z.currency, I64 z.state, .slc 4 (linesD z.lines)]]) rfl (r134) rfl ?_)
          | (refine CallK.give (ds := [.agg [I64 p.me, I64 p.n, .slc 4 (partsL p.list)], I64 m.cycle]) rfl (r74) (by simp) ?_)
          | (refine CallG.off ?_)
          | (with_reducible refine Or.inl ?_)
          | (simp only [thenS, blockS])
          | (with_reducible refine And.intro ?_ ?_)
          | (with_reducible exact True.intro)
          | (simp (dsimp := false) only [↓opsP_nil, ↓opsP_cons, ↓opsD_nil, ↓opsD_cons, ↓opP, ↓stepP, ↓stepG, go_sem, Bool.not_true, Bool.not_false, hy]))
        all_goals (try (first | (intro hg; simp [hg]; done) | exact of_decide_eq_true rfl | (cases h; done)))
        (refine Fin.data (.inr rfl) (by simp (dsimp := false) only [↓opsP_nil, ↓opsP_cons, ↓opsD_nil, ↓opsD_cons, ↓opP, ↓stepP, ↓stepG, go_sem, resL]; rfl) (by simp only [and_self]) (by simp (dsimp := false) only [↓opsP_nil, ↓opsP_cons, ↓opsD_nil, ↓opsD_cons, ↓opP, ↓stepP, ↓stepG, go_sem, resP, Nat.le_refl, List.take_length]; try rfl) ?_)
        simp [subD, subL, subV, subD_refl]
      | false =>
        rw [if_neg (by simp)]
        have ha := end_ok hG (n := m.cycle) m.yes z.lines
        unfold VP.d VP.cells bookD Msg.d Msg.cells Part.d Part.cells at *
        refine Runs.of (kit Try.prog) Try.func125 rfl rfl (by rw [Try.ntmps125]; exact of_decide_eq_true rfl) ?_; rw [Try.ntmps125, Try.results125]
        repeat' (first
          | ((first | refine Pwp.step (kit _) rfl fun K hK => ?_ | refine Pwp.last (kit _) rfl fun K hK => ?_ | refine Pwp.stepD (kit _) rfl rfl fun K hK => ?_ | refine Pwp.lastD (kit _) rfl rfl fun K hK => ?_); simp (dsimp := false) only [↓opsP_nil, ↓opsP_cons, ↓opsD_nil, ↓opsD_cons, ↓opP, ↓stepP, ↓stepG, go_sem, Bool.not_true, Bool.not_false, hy, hlen])
          | (refine Pwp.seq ?_)
          | (refine Pwp.block ?_)
          | (refine Pwp.exit ?_; simp only [thenS, blockS, if_true, if_false, reduceIte, Nat.reduceEqDiff, Nat.add_one_ne_zero, reduceCtorEq])
          | (refine Pwp.skip ?_; simp only [thenS, blockS])
          | (refine Pwp.cond rfl True.intro (fun h => ?_) (fun h => ?_) <;> (try (cases h; done)) <;> (try simp only [h]))
          | (refine Pwp.ret ?_; try simp only [thenS, blockS])
          | (refine hK _ ?_; clear hK K)
          | (refine hK _ _ rfl ?_; clear hK K)
          | (refine CallK.toD (ds := [.agg [I64 z.cycle, I64 z.currency, I64 z.state, .slc 4 (linesD z.lines)]]) rfl (r134) rfl ?_)
          | (refine CallK.give (ds := [.agg [I64 p.me, I64 p.n, .slc 4 (partsL p.list)], I64 m.cycle]) rfl (r74) (by simp) ?_)
          | (refine CallK.give (ds := [.agg [I64 me, .slc 8 (itemsD l), .slc 3 os], I64 m.cycle]) rfl (r77) (by simp) ?_)
          | (refine CallG.off ?_)
          | (with_reducible refine Or.inl ?_)
          | (simp only [thenS, blockS])
          | (with_reducible refine And.intro ?_ ?_)
          | (with_reducible exact True.intro)
          | (simp (dsimp := false) only [↓opsP_nil, ↓opsP_cons, ↓opsD_nil, ↓opsD_cons, ↓opP, ↓stepP, ↓stepG, go_sem, Bool.not_true, Bool.not_false, hy, hlen]))
        all_goals (try (first | (intro hg; simp [hg]; done) | exact of_decide_eq_true rfl | (cases h; done)))
        refine Pwp.range (keepF (notHeld m.cycle) l).length (S := L125 p me l os m z) (Sub.view V0 (by simp [L125]) rfl (by simp [viewH, viewP, viewL, viewO, V0, V9, V9n, VR, VN, keptOf, find, PVal.toD, subD, subL, subV, subD_refl, viewL_ds, disj, PVal.ids, pnil, List.range, List.range.loop, L125, foldB]) (by simp [viewT, St.ev, viewH, viewP, viewL, viewO, V0, V9, V9n, VR, VN, keptOf, find, PVal.toD, subD, subL, subV, subD_refl, viewL_ds, disj, PVal.ids, pnil, List.range, List.range.loop, L125, foldB])) (fun i hi => ?_) ?_
        · obtain ⟨x, hx, hm⟩ := at_lt hi
          have hg := items_at hx
          have c1 := dlt hi
          have w1 := wrap_succ (i := i) (by omega)
          have hd := end_do hm
          obtain ⟨g1, g2, g3⟩ := foldB_put (f := endI m.yes z.lines) hG (held_sub m.cycle l) (fun x => ⟨(endI_key m.yes z.lines x).1, (endI_key m.yes z.lines x).2.1⟩) ha hx
          have r50 := run50 me (foldB (endI m.yes z.lines) ((keepF (notHeld m.cycle) l).take i) l) os (endI m.yes z.lines x) (by omega)
          rw [g3, if_pos rfl, ← foldB_take hx] at r50
          have r188 := run188 x
          have r142 := run142 z.lines (lineOf x) (by omega)
          have r191 := run191 x
          have r192 := run192 x
          unfold freeI freeE at r191
          unfold settleI freeE at r192
          rw [hd, if_pos rfl, if_pos rfl] at r191 r192
          cases hs : (m.yes && decide (lineOf x ∈ z.lines)) with
          | true =>
            have he : endI m.yes z.lines x = { x with state := 5 } := by unfold endI; rw [if_pos hs]
            rw [he] at r50
            generalize decide (lineOf x ∈ z.lines) = b at *
            unfold bookD Item.d Item.cells lineOf Line.d Line.cells at *
            unfold L125
            repeat' (first
              | ((first | refine Pwp.step (kit _) rfl fun K hK => ?_ | refine Pwp.last (kit _) rfl fun K hK => ?_ | refine Pwp.stepD (kit _) rfl rfl fun K hK => ?_ | refine Pwp.lastD (kit _) rfl rfl fun K hK => ?_); simp (dsimp := false) only [↓opsP_nil, ↓opsP_cons, ↓opsD_nil, ↓opsD_cons, ↓opP, ↓stepP, ↓stepG, go_sem, hg, c1, w1, hs, beq_self_eq_true, bne_self_eq_false])
              | (refine Pwp.seq ?_)
              | (refine Pwp.block ?_)
              | (refine Pwp.exit ?_; simp only [thenS, blockS, if_true, if_false, reduceIte, Nat.reduceEqDiff, Nat.add_one_ne_zero, reduceCtorEq])
              | (refine Pwp.skip ?_; simp only [thenS, blockS])
              | (refine Pwp.cond rfl True.intro (fun h => ?_) (fun h => ?_) <;> (try (cases h; done)) <;> (try simp only [h]))
              | (refine Pwp.ret ?_; try simp only [thenS, blockS])
              | (refine hK _ ?_; clear hK K)
              | (refine hK _ _ rfl ?_; clear hK K)
              | (refine CallK.toD (ds := [.agg [I64 x.seller, I64 x.number, I64 x.buyer, I64 x.currency, I64 x.amount, I64 x.round, I64 x.state, I64 x.cycle]]) rfl (r192) rfl ?_)
              | (refine CallK.give (ds := [.agg [I64 me, .slc 8 (itemsD (foldB (endI m.yes z.lines) ((keepF (notHeld m.cycle) l).take i) l)), .slc 3 os], .agg [I64 x.seller, I64 x.number, I64 x.buyer, I64 x.currency, I64 x.amount, I64 x.round, I64 5, I64 x.cycle]]) rfl (r50) (by simp) ?_)
              | (refine CallG.toD (ds := [.agg [I64 x.seller, I64 x.number, I64 x.buyer, I64 x.currency, I64 x.amount, I64 x.round, I64 x.state, I64 x.cycle]]) rfl (r188) rfl ?_ ?_)
              | (refine CallG.toD (ds := [.slc 4 (linesD z.lines), .agg [I64 x.seller, I64 x.number, I64 x.buyer, I64 x.amount]]) rfl (r142) rfl ?_ ?_)
              | (refine CallG.off ?_)
              | (with_reducible refine Or.inl ?_)
              | (simp only [thenS, blockS])
              | (with_reducible refine And.intro ?_ ?_)
              | (with_reducible exact True.intro)
              | (simp (dsimp := false) only [↓opsP_nil, ↓opsP_cons, ↓opsD_nil, ↓opsD_cons, ↓opP, ↓stepP, ↓stepG, go_sem, hg, c1, w1, hs, beq_self_eq_true, bne_self_eq_false]))
            all_goals (try (first | (intro hg; simp [hg]; done) | exact of_decide_eq_true rfl | (cases h; done)))
            exact Sub.view V0 (by simp [L125]) rfl (by simp [viewH, viewP, viewL, viewO, V0, V9, V9n, VR, VN, keptOf, find, PVal.toD, subD, subL, subV, subD_refl, viewL_ds, disj, PVal.ids, pnil, List.range, List.range.loop, L125]) (by simp [viewT, St.ev, viewH, viewP, viewL, viewO, V0, V9, V9n, VR, VN, keptOf, find, PVal.toD, subD, subL, subV, subD_refl, viewL_ds, disj, PVal.ids, pnil, List.range, List.range.loop, L125])
          | false =>
            have he : endI m.yes z.lines x = { x with cycle := 0 } := by unfold endI; rw [if_neg (by rw [hs]; simp)]
            rw [he] at r50
            generalize decide (lineOf x ∈ z.lines) = b at *
            unfold bookD Item.d Item.cells lineOf Line.d Line.cells at *
            unfold L125
            repeat' (first
              | ((first | refine Pwp.step (kit _) rfl fun K hK => ?_ | refine Pwp.last (kit _) rfl fun K hK => ?_ | refine Pwp.stepD (kit _) rfl rfl fun K hK => ?_ | refine Pwp.lastD (kit _) rfl rfl fun K hK => ?_); simp (dsimp := false) only [↓opsP_nil, ↓opsP_cons, ↓opsD_nil, ↓opsD_cons, ↓opP, ↓stepP, ↓stepG, go_sem, hg, c1, w1, hs, beq_self_eq_true, bne_self_eq_false])
              | (refine Pwp.seq ?_)
              | (refine Pwp.block ?_)
              | (refine Pwp.exit ?_; simp only [thenS, blockS, if_true, if_false, reduceIte, Nat.reduceEqDiff, Nat.add_one_ne_zero, reduceCtorEq])
              | (refine Pwp.skip ?_; simp only [thenS, blockS])
              | (refine Pwp.cond rfl True.intro (fun h => ?_) (fun h => ?_) <;> (try (cases h; done)) <;> (try simp only [h]))
              | (refine Pwp.ret ?_; try simp only [thenS, blockS])
              | (refine hK _ ?_; clear hK K)
              | (refine hK _ _ rfl ?_; clear hK K)
              | (refine CallK.toD (ds := [.agg [I64 x.seller, I64 x.number, I64 x.buyer, I64 x.currency, I64 x.amount, I64 x.round, I64 x.state, I64 x.cycle]]) rfl (r191) rfl ?_)
              | (refine CallK.give (ds := [.agg [I64 me, .slc 8 (itemsD (foldB (endI m.yes z.lines) ((keepF (notHeld m.cycle) l).take i) l)), .slc 3 os], .agg [I64 x.seller, I64 x.number, I64 x.buyer, I64 x.currency, I64 x.amount, I64 x.round, I64 x.state, I64 0]]) rfl (r50) (by simp) ?_)
              | (refine CallG.toD (ds := [.agg [I64 x.seller, I64 x.number, I64 x.buyer, I64 x.currency, I64 x.amount, I64 x.round, I64 x.state, I64 x.cycle]]) rfl (r188) rfl ?_ ?_)
              | (refine CallG.toD (ds := [.slc 4 (linesD z.lines), .agg [I64 x.seller, I64 x.number, I64 x.buyer, I64 x.amount]]) rfl (r142) rfl ?_ ?_)
              | (refine CallG.off ?_)
              | (with_reducible refine Or.inl ?_)
              | (simp only [thenS, blockS])
              | (with_reducible refine And.intro ?_ ?_)
              | (with_reducible exact True.intro)
              | (simp (dsimp := false) only [↓opsP_nil, ↓opsP_cons, ↓opsD_nil, ↓opsD_cons, ↓opP, ↓stepP, ↓stepG, go_sem, hg, c1, w1, hs, beq_self_eq_true, bne_self_eq_false]))
            all_goals (try (first | (intro hg; simp [hg]; done) | exact of_decide_eq_true rfl | (cases h; done)))
            exact Sub.view V0 (by simp [L125]) rfl (by simp [viewH, viewP, viewL, viewO, V0, V9, V9n, VR, VN, keptOf, find, PVal.toD, subD, subL, subV, subD_refl, viewL_ds, disj, PVal.ids, pnil, List.range, List.range.loop, L125]) (by simp [viewT, St.ev, viewH, viewP, viewL, viewO, V0, V9, V9n, VR, VN, keptOf, find, PVal.toD, subD, subL, subV, subD_refl, viewL_ds, disj, PVal.ids, pnil, List.range, List.range.loop, L125])
        · have c1 := dge (Nat.le_refl (keepF (notHeld m.cycle) l).length)
          unfold L125
          rw [List.take_length]
          cases hmy : m.yes with
          | true =>
            repeat' (first
              | ((first | refine Pwp.step (kit _) rfl fun K hK => ?_ | refine Pwp.last (kit _) rfl fun K hK => ?_ | refine Pwp.stepD (kit _) rfl rfl fun K hK => ?_ | refine Pwp.lastD (kit _) rfl rfl fun K hK => ?_); simp (dsimp := false) only [↓opsP_nil, ↓opsP_cons, ↓opsD_nil, ↓opsD_cons, ↓opP, ↓stepP, ↓stepG, go_sem, c1, hmy])
              | (refine Pwp.seq ?_)
              | (refine Pwp.block ?_)
              | (refine Pwp.exit ?_; simp only [thenS, blockS, if_true, if_false, reduceIte, Nat.reduceEqDiff, Nat.add_one_ne_zero, reduceCtorEq])
              | (refine Pwp.skip ?_; simp only [thenS, blockS])
              | (refine Pwp.cond rfl True.intro (fun h => ?_) (fun h => ?_) <;> (try (cases h; done)) <;> (try simp only [h]))
              | (refine Pwp.ret ?_; try simp only [thenS, blockS])
              | (refine hK _ ?_; clear hK K)
              | (refine hK _ _ rfl ?_; clear hK K)
              | (refine CallK.give (ds := [.agg [I64 p.me, I64 p.n, .slc 4 (partsL p.list)], .agg [I64 z.cycle, I64 z.currency, I64 4, .slc 4 (linesD z.lines)]]) rfl (r189y) (by simp) ?_)
              | (refine CallG.off ?_)
              | (with_reducible refine Or.inl ?_)
              | (simp only [thenS, blockS])
              | (with_reducible refine And.intro ?_ ?_)
              | (with_reducible exact True.intro)
              | (simp (dsimp := false) only [↓opsP_nil, ↓opsP_cons, ↓opsD_nil, ↓opsD_cons, ↓opP, ↓stepP, ↓stepG, go_sem, c1, hmy]))
            all_goals (try (first | (intro hg; simp [hg]; done) | exact of_decide_eq_true rfl | (cases h; done)))
            (refine Fin.data (.inr rfl) (by simp (dsimp := false) only [↓opsP_nil, ↓opsP_cons, ↓opsD_nil, ↓opsD_cons, ↓opP, ↓stepP, ↓stepG, go_sem, resL]; rfl) (by simp only [and_self]) (by simp (dsimp := false) only [↓opsP_nil, ↓opsP_cons, ↓opsD_nil, ↓opsD_cons, ↓opP, ↓stepP, ↓stepG, go_sem, resP, Nat.le_refl, List.take_length]; try rfl) ?_)
            simp [subD, subL, subV, subD_refl]
          | false =>
            repeat' (first
              | ((first | refine Pwp.step (kit _) rfl fun K hK => ?_ | refine Pwp.last (kit _) rfl fun K hK => ?_ | refine Pwp.stepD (kit _) rfl rfl fun K hK => ?_ | refine Pwp.lastD (kit _) rfl rfl fun K hK => ?_); simp (dsimp := false) only [↓opsP_nil, ↓opsP_cons, ↓opsD_nil, ↓opsD_cons, ↓opP, ↓stepP, ↓stepG, go_sem, c1, hmy])
              | (refine Pwp.seq ?_)
              | (refine Pwp.block ?_)
              | (refine Pwp.exit ?_; simp only [thenS, blockS, if_true, if_false, reduceIte, Nat.reduceEqDiff, Nat.add_one_ne_zero, reduceCtorEq])
              | (refine Pwp.skip ?_; simp only [thenS, blockS])
              | (refine Pwp.cond rfl True.intro (fun h => ?_) (fun h => ?_) <;> (try (cases h; done)) <;> (try simp only [h]))
              | (refine Pwp.ret ?_; try simp only [thenS, blockS])
              | (refine hK _ ?_; clear hK K)
              | (refine hK _ _ rfl ?_; clear hK K)
              | (refine CallK.give (ds := [.agg [I64 p.me, I64 p.n, .slc 4 (partsL p.list)], .agg [I64 z.cycle, I64 z.currency, I64 5, .slc 4 (linesD z.lines)]]) rfl (r189n) (by simp) ?_)
              | (refine CallG.off ?_)
              | (with_reducible refine Or.inl ?_)
              | (simp only [thenS, blockS])
              | (with_reducible refine And.intro ?_ ?_)
              | (with_reducible exact True.intro)
              | (simp (dsimp := false) only [↓opsP_nil, ↓opsP_cons, ↓opsD_nil, ↓opsD_cons, ↓opP, ↓stepP, ↓stepG, go_sem, c1, hmy]))
            all_goals (try (first | (intro hg; simp [hg]; done) | exact of_decide_eq_true rfl | (cases h; done)))
            (refine Fin.data (.inr rfl) (by simp (dsimp := false) only [↓opsP_nil, ↓opsP_cons, ↓opsD_nil, ↓opsD_cons, ↓opP, ↓stepP, ↓stepG, go_sem, resL]; rfl) (by simp only [and_self]) (by simp (dsimp := false) only [↓opsP_nil, ↓opsP_cons, ↓opsD_nil, ↓opsD_cons, ↓opP, ↓stepP, ↓stepG, go_sem, resP, Nat.le_refl, List.take_length]; try rfl) ?_)
            simp [subD, subL, subV, subD_refl]

end Go.Proofs.Ytdodgbhodkcckaa.Pv
