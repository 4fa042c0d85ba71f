/- Walks of an entity's part in cycles: what is done at a message. -/
import Derived.Test.YtdodgbhodkcckaaPoj
set_option linter.unusedVariables false
set_option linter.unusedSimpArgs false
set_option autoImplicit false
set_option maxRecDepth 100000
namespace Go.Proofs.Ytdodgbhodkcckaa.Pv
open Go Go.RowKit

def gateV (p : VP) (l : List Item) (m : Msg) (f : Int) (r : VOut) : VOut := if (!((m.kind == 16) == (f == -1))) = true then ⟨110, p, l, none⟩ else if (f != -1 && f != p.n) = true then ⟨140, p, l, none⟩ else r
def voteK (p : VP) (l : List Item) (m : Msg) (f : Int) (r1 r2 r3 r4 : VOut) : VOut :=
  if (m.kind == 10) = true then gateV p l m f r1 else if (m.kind == 12) = true then gateV p l m f r2 else if (m.kind == 14) = true then gateV p l m f r3 else if (m.kind == 16) = true then gateV p l m f r4 else ⟨110, p, l, none⟩
set_option maxHeartbeats 64000000 in
theorem run70g (p : VP) (me : Int) (l : List Item) (os : List D) (m : Msg) (f : Int) (r1 r2 r3 r4 : VOut)
    (h1 : Runs Try.prog 123 [.d p.d, .d (bookD me l os), .d m.d] [] (.d (vOutD me os r1)) []) (h2 : Runs Try.prog 124 [.d p.d, .d (bookD me l os), .d m.d] [] (.d (vOutD me os r2)) [])
    (h3 : Runs Try.prog 125 [.d p.d, .d (bookD me l os), .d m.d] [] (.d (vOutD me os r3)) []) (h4 : Runs Try.prog 122 [.d p.d, .d (bookD me l os), .d m.d] [] (.d (vOutD me os r4)) []) :
    Runs Try.prog 70 [.d p.d, .d (bookD me l os), .d m.d, pint .i64 f] [] (.d (vOutD me os (voteK p l m f r1 r2 r3 r4))) [] := by
  have e1 : ∀ r : VOut, vOutD me os r = .tup [r.p.d, bookD me r.l os, .slc 12 r.o.toList, I64 r.e] := fun _ => rfl
  rw [e1] at h1 h2 h3 h4
  unfold VP.d VP.cells bookD Msg.d Msg.cells at *
  refine Runs.of (kit Try.prog) Try.func70 rfl rfl (by rw [Try.ntmps70]; exact of_decide_eq_true rfl) ?_; rw [Try.ntmps70, Try.results70]
  repeat' (first
    | ((first | refine Pwp.step (kit _) rfl fun K hK => ?_ | refine Pwp.last (kit _) rfl fun K hK => ?_ | refine Pwp.stepD (kit _) rfl rfl fun K hK => ?_ | refine Pwp.lastD (kit _) rfl rfl fun K hK => ?_); simp (dsimp := false) only [↓opsP_nil, ↓opsP_cons, ↓opsD_nil, ↓opsD_cons, ↓opP, ↓stepP, ↓stepG, go_sem])
    | (refine Pwp.seq ?_)
    | (refine Pwp.block ?_)
    | (refine Pwp.exit ?_; simp only [thenS, blockS, if_true, if_false, reduceIte, Nat.reduceEqDiff, Nat.add_one_ne_zero, reduceCtorEq])
    | (refine Pwp.skip ?_; simp only [thenS, blockS])
    | (refine Pwp.cond rfl True.intro (fun h => ?_) (fun h => ?_) <;> (try (cases h; done)) <;> (try simp only [h]))
    | (refine Pwp.ret ?_; try simp only [thenS, blockS])
    | (refine hK _ ?_; clear hK K)
    | (refine hK _ _ rfl ?_; clear hK K)
    | (refine CallK.give (ds := [.agg [I64 p.me, I64 p.n, .slc 4 (partsL p.list)], .agg [I64 me, .slc 8 (itemsD l), .slc 3 os], .agg [I64 m.kind, I64 m.seller, I64 m.number, I64 m.buyer, I64 m.currency, I64 m.round, I64 m.cycle, I64 m.amount, .v (.bool m.yes), m.lines, m.nets]]) rfl (h1) (by simp) ?_)
    | (refine CallK.give (ds := [.agg [I64 p.me, I64 p.n, .slc 4 (partsL p.list)], .agg [I64 me, .slc 8 (itemsD l), .slc 3 os], .agg [I64 m.kind, I64 m.seller, I64 m.number, I64 m.buyer, I64 m.currency, I64 m.round, I64 m.cycle, I64 m.amount, .v (.bool m.yes), m.lines, m.nets]]) rfl (h2) (by simp) ?_)
    | (refine CallK.give (ds := [.agg [I64 p.me, I64 p.n, .slc 4 (partsL p.list)], .agg [I64 me, .slc 8 (itemsD l), .slc 3 os], .agg [I64 m.kind, I64 m.seller, I64 m.number, I64 m.buyer, I64 m.currency, I64 m.round, I64 m.cycle, I64 m.amount, .v (.bool m.yes), m.lines, m.nets]]) rfl (h3) (by simp) ?_)
    | (refine CallK.give (ds := [.agg [I64 p.me, I64 p.n, .slc 4 (partsL p.list)], .agg [I64 me, .slc 8 (itemsD l), .slc 3 os], .agg [I64 m.kind, I64 m.seller, I64 m.number, I64 m.buyer, I64 m.currency, I64 m.round, I64 m.cycle, I64 m.amount, .v (.bool m.yes), m.lines, m.nets]]) rfl (h4) (by simp) ?_)
    | (refine CallG.off ?_)
    | (with_reducible refine Or.inl ?_)
    | (simp only [thenS, blockS])
    | (with_reducible refine And.intro ?_ ?_)
    | (with_reducible exact True.intro)
    | (simp (dsimp := false) only [↓opsP_nil, ↓opsP_cons, ↓opsD_nil, ↓opsD_cons, ↓opP, ↓stepP, ↓stepG, go_sem]))
  all_goals (try (first | (intro hg; simp [hg]; done) | exact of_decide_eq_true rfl | (cases h; done)))
  all_goals ((refine Fin.data (.inr rfl) (by simp (dsimp := false) only [↓opsP_nil, ↓opsP_cons, ↓opsD_nil, ↓opsD_cons, ↓opP, ↓stepP, ↓stepG, go_sem, resL]; rfl) (by simp only [and_self]) (by simp (dsimp := false) only [↓opsP_nil, ↓opsP_cons, ↓opsD_nil, ↓opsD_cons, ↓opP, ↓stepP, ↓stepG, go_sem, resP, Nat.le_refl, List.take_length]; try rfl) ?_))
  all_goals (clear h1 h2 h3 h4 e1; simp only [vOutD, voteK, gateV, VP.d, VP.cells, bookD])
  all_goals (first | (simp only [*, if_true, if_false, reduceIte, Bool.false_eq_true, Option.toList]; exact subD_refl _) | (simp_all [subD, subL, subV, subD_refl]; done))

end Go.Proofs.Ytdodgbhodkcckaa.Pv
