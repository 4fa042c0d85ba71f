/- Walks of matching, the document's answer: what a desk does at a message. -/
import Derived.Test.YtdodgbhodkcckaaPmu
import Derived.Test.YtdodgbhodkcckaaPmx
set_option linter.unusedVariables false
set_option linter.unusedSimpArgs false
set_option autoImplicit false
set_option maxRecDepth 100000
namespace Go.Proofs.Ytdodgbhodkcckaa.Pv
open Go Go.RowKit

set_option maxHeartbeats 8000000 in
theorem run120_6 (d : RDesk) (m : Msg) (f : Int) (hk : m.kind = 6) (R : ROut) (r : Runs Try.prog 185 [.d d.d, .d m.d, pint .i64 f] [] (.d (rOutD R)) []) : Runs Try.prog 120 [.d d.d, .d m.d, pint .i64 f] [] (.d (rOutD R)) [] := by
  have ck : (m.kind == 6) = true := by simp [hk]
  simp only [rOutD, RDesk.d, RDesk.cells, saidD, about, Msg.d, Msg.cells, Item.d, Item.cells, Option.toList, List.cons_append, List.nil_append] at *
  refine Runs.of (kit Try.prog) Try.func120 rfl rfl (by rw [Try.ntmps120]; exact of_decide_eq_true rfl) ?_; rw [Try.ntmps120, Try.results120]
  repeat' (first
    | ((first | refine Pwp.step (kit _) rfl fun K hK => ?_ | refine Pwp.last (kit _) rfl fun K hK => ?_ | refine Pwp.stepD (kit _) rfl rfl fun K hK => ?_ | refine Pwp.lastD (kit _) rfl rfl fun K hK => ?_); simp (dsimp := false) only [↓opsP_nil, ↓opsP_cons, ↓opsD_nil, ↓opsD_cons, ↓opP, ↓stepP, ↓stepG, go_sem, ck])
    | (refine Pwp.seq ?_)
    | (refine Pwp.block ?_)
    | (refine Pwp.exit ?_; simp only [thenS, blockS, if_true, if_false, reduceIte, Nat.reduceEqDiff, Nat.add_one_ne_zero, reduceCtorEq])
    | (refine Pwp.skip ?_; simp only [thenS, blockS])
    | (refine Pwp.cond rfl True.intro (fun h => ?_) (fun h => ?_) <;> (try (cases h; done)) <;> (try simp only [h]))
    | (refine Pwp.ret ?_; try simp only [thenS, blockS])
    | (refine hK _ ?_; clear hK K)
    | (refine hK _ _ rfl ?_; clear hK K)
    | (refine CallK.give (ds := [.agg [I64 d.me, I64 d.far, .slc 8 (itemsD d.items), .slc 3 (ordersD d.orders)], .agg [I64 m.kind, I64 m.seller, I64 m.number, I64 m.buyer, I64 m.currency, I64 m.round, I64 m.cycle, I64 m.amount, .v (.bool m.yes), m.lines, m.nets], I64 f]) rfl (r) (by simp) ?_)
    | (refine CallG.off ?_)
    | (with_reducible refine Or.inl ?_)
    | (simp only [thenS, blockS])
    | (with_reducible refine And.intro ?_ ?_)
    | (with_reducible exact True.intro)
    | (simp (dsimp := false) only [↓opsP_nil, ↓opsP_cons, ↓opsD_nil, ↓opsD_cons, ↓opP, ↓stepP, ↓stepG, go_sem, ck]))
  all_goals (try (first | (intro hg; simp [hg]; done) | exact of_decide_eq_true rfl | (cases h; done)))
  (refine Fin.data (.inr rfl) (by simp (dsimp := false) only [↓opsP_nil, ↓opsP_cons, ↓opsD_nil, ↓opsD_cons, ↓opP, ↓stepP, ↓stepG, go_sem, resL]; rfl) (by simp only [and_self]) (by simp (dsimp := false) only [↓opsP_nil, ↓opsP_cons, ↓opsD_nil, ↓opsD_cons, ↓opP, ↓stepP, ↓stepG, go_sem, resP, Nat.le_refl, List.take_length]; try rfl) ?_)
  simp [subD, subL, subV, subD_refl]
def byC (k : Int) : Bool := ((decide (1 ≤ k) && decide (k ≤ 4)) || k == 16)
def byN (k : Int) : Bool := (decide (6 ≤ k) && decide (k ≤ 9))
set_option maxHeartbeats 8000000 in
theorem run58c (d : RDesk) (m : Msg) (f : Int) (h : (f == -1 && byC m.kind) = true) (R : ROut) (r : Runs Try.prog 119 [.d d.d, .d m.d] [] (.d (rOutD R)) []) : Runs Try.prog 58 [.d d.d, .d m.d, pint .i64 f] [] (.d (rOutD R)) [] := by
  unfold byC at h
  simp only [rOutD, RDesk.d, RDesk.cells, saidD, about, Msg.d, Msg.cells, Item.d, Item.cells, Option.toList, List.cons_append, List.nil_append] at *
  refine Runs.of (kit Try.prog) Try.func58 rfl rfl (by rw [Try.ntmps58]; exact of_decide_eq_true rfl) ?_; rw [Try.ntmps58, Try.results58]
  repeat' (first
    | ((first | refine Pwp.step (kit _) rfl fun K hK => ?_ | refine Pwp.last (kit _) rfl fun K hK => ?_ | refine Pwp.stepD (kit _) rfl rfl fun K hK => ?_ | refine Pwp.lastD (kit _) rfl rfl fun K hK => ?_); simp (dsimp := false) only [↓opsP_nil, ↓opsP_cons, ↓opsD_nil, ↓opsD_cons, ↓opP, ↓stepP, ↓stepG, go_sem, h])
    | (refine Pwp.seq ?_)
    | (refine Pwp.block ?_)
    | (refine Pwp.exit ?_; simp only [thenS, blockS, if_true, if_false, reduceIte, Nat.reduceEqDiff, Nat.add_one_ne_zero, reduceCtorEq])
    | (refine Pwp.skip ?_; simp only [thenS, blockS])
    | (refine Pwp.cond rfl True.intro (fun h => ?_) (fun h => ?_) <;> (try (cases h; done)) <;> (try simp only [h]))
    | (refine Pwp.ret ?_; try simp only [thenS, blockS])
    | (refine hK _ ?_; clear hK K)
    | (refine hK _ _ rfl ?_; clear hK K)
    | (refine CallK.give (ds := [.agg [I64 d.me, I64 d.far, .slc 8 (itemsD d.items), .slc 3 (ordersD d.orders)], .agg [I64 m.kind, I64 m.seller, I64 m.number, I64 m.buyer, I64 m.currency, I64 m.round, I64 m.cycle, I64 m.amount, .v (.bool m.yes), m.lines, m.nets]]) rfl (r) (by simp) ?_)
    | (refine CallG.off ?_)
    | (with_reducible refine Or.inl ?_)
    | (simp only [thenS, blockS])
    | (with_reducible refine And.intro ?_ ?_)
    | (with_reducible exact True.intro)
    | (simp (dsimp := false) only [↓opsP_nil, ↓opsP_cons, ↓opsD_nil, ↓opsD_cons, ↓opP, ↓stepP, ↓stepG, go_sem, h]))
  all_goals (try (first | (intro hg; simp [hg]; done) | exact of_decide_eq_true rfl | (cases h; done)))
  (refine Fin.data (.inr rfl) (by simp (dsimp := false) only [↓opsP_nil, ↓opsP_cons, ↓opsD_nil, ↓opsD_cons, ↓opP, ↓stepP, ↓stepG, go_sem, resL]; rfl) (by simp only [and_self]) (by simp (dsimp := false) only [↓opsP_nil, ↓opsP_cons, ↓opsD_nil, ↓opsD_cons, ↓opP, ↓stepP, ↓stepG, go_sem, resP, Nat.le_refl, List.take_length]; try rfl) ?_)
  simp [subD, subL, subV, subD_refl]
set_option maxHeartbeats 8000000 in
theorem run58n (d : RDesk) (m : Msg) (f : Int) (h0 : (f == -1 && byC m.kind) = false) (hq : (f != -1 && byN m.kind) = true) (R : ROut) (r : Runs Try.prog 120 [.d d.d, .d m.d, pint .i64 f] [] (.d (rOutD R)) []) : Runs Try.prog 58 [.d d.d, .d m.d, pint .i64 f] [] (.d (rOutD R)) [] := by
  unfold byC at h0
  unfold byN at hq
  simp only [rOutD, RDesk.d, RDesk.cells, saidD, about, Msg.d, Msg.cells, Item.d, Item.cells, Option.toList, List.cons_append, List.nil_append] at *
  refine Runs.of (kit Try.prog) Try.func58 rfl rfl (by rw [Try.ntmps58]; exact of_decide_eq_true rfl) ?_; rw [Try.ntmps58, Try.results58]
  repeat' (first
    | ((first | refine Pwp.step (kit _) rfl fun K hK => ?_ | refine Pwp.last (kit _) rfl fun K hK => ?_ | refine Pwp.stepD (kit _) rfl rfl fun K hK => ?_ | refine Pwp.lastD (kit _) rfl rfl fun K hK => ?_); simp (dsimp := false) only [↓opsP_nil, ↓opsP_cons, ↓opsD_nil, ↓opsD_cons, ↓opP, ↓stepP, ↓stepG, go_sem, h0, hq])
    | (refine Pwp.seq ?_)
    | (refine Pwp.block ?_)
    | (refine Pwp.exit ?_; simp only [thenS, blockS, if_true, if_false, reduceIte, Nat.reduceEqDiff, Nat.add_one_ne_zero, reduceCtorEq])
    | (refine Pwp.skip ?_; simp only [thenS, blockS])
    | (refine Pwp.cond rfl True.intro (fun h => ?_) (fun h => ?_) <;> (try (cases h; done)) <;> (try simp only [h]))
    | (refine Pwp.ret ?_; try simp only [thenS, blockS])
    | (refine hK _ ?_; clear hK K)
    | (refine hK _ _ rfl ?_; clear hK K)
    | (refine CallK.give (ds := [.agg [I64 d.me, I64 d.far, .slc 8 (itemsD d.items), .slc 3 (ordersD d.orders)], .agg [I64 m.kind, I64 m.seller, I64 m.number, I64 m.buyer, I64 m.currency, I64 m.round, I64 m.cycle, I64 m.amount, .v (.bool m.yes), m.lines, m.nets], I64 f]) rfl (r) (by simp) ?_)
    | (refine CallG.off ?_)
    | (with_reducible refine Or.inl ?_)
    | (simp only [thenS, blockS])
    | (with_reducible refine And.intro ?_ ?_)
    | (with_reducible exact True.intro)
    | (simp (dsimp := false) only [↓opsP_nil, ↓opsP_cons, ↓opsD_nil, ↓opsD_cons, ↓opP, ↓stepP, ↓stepG, go_sem, h0, hq]))
  all_goals (try (first | (intro hg; simp [hg]; done) | exact of_decide_eq_true rfl | (cases h; done)))
  (refine Fin.data (.inr rfl) (by simp (dsimp := false) only [↓opsP_nil, ↓opsP_cons, ↓opsD_nil, ↓opsD_cons, ↓opP, ↓stepP, ↓stepG, go_sem, resL]; rfl) (by simp only [and_self]) (by simp (dsimp := false) only [↓opsP_nil, ↓opsP_cons, ↓opsD_nil, ↓opsD_cons, ↓opP, ↓stepP, ↓stepG, go_sem, resP, Nat.le_refl, List.take_length]; try rfl) ?_)
  simp [subD, subL, subV, subD_refl]
set_option maxHeartbeats 8000000 in
theorem run58x (d : RDesk) (m : Msg) (f : Int) (h0 : (f == -1 && byC m.kind) = false) (hq : (f != -1 && byN m.kind) = false) : Runs Try.prog 58 [.d d.d, .d m.d, pint .i64 f] [] (.d (rOutD ⟨110, d, none⟩)) [] := by
  unfold byC at h0
  unfold byN at hq
  simp only [rOutD, RDesk.d, RDesk.cells, saidD, about, Msg.d, Msg.cells, Item.d, Item.cells, Option.toList, List.cons_append, List.nil_append] at *
  refine Runs.of (kit Try.prog) Try.func58 rfl rfl (by rw [Try.ntmps58]; exact of_decide_eq_true rfl) ?_; rw [Try.ntmps58, Try.results58]
  repeat' (first
    | ((first | refine Pwp.step (kit _) rfl fun K hK => ?_ | refine Pwp.last (kit _) rfl fun K hK => ?_ | refine Pwp.stepD (kit _) rfl rfl fun K hK => ?_ | refine Pwp.lastD (kit _) rfl rfl fun K hK => ?_); simp (dsimp := false) only [↓opsP_nil, ↓opsP_cons, ↓opsD_nil, ↓opsD_cons, ↓opP, ↓stepP, ↓stepG, go_sem, h0, hq])
    | (refine Pwp.seq ?_)
    | (refine Pwp.block ?_)
    | (refine Pwp.exit ?_; simp only [thenS, blockS, if_true, if_false, reduceIte, Nat.reduceEqDiff, Nat.add_one_ne_zero, reduceCtorEq])
    | (refine Pwp.skip ?_; simp only [thenS, blockS])
    | (refine Pwp.cond rfl True.intro (fun h => ?_) (fun h => ?_) <;> (try (cases h; done)) <;> (try simp only [h]))
    | (refine Pwp.ret ?_; try simp only [thenS, blockS])
    | (refine hK _ ?_; clear hK K)
    | (refine hK _ _ rfl ?_; clear hK K)
    | (refine CallG.off ?_)
    | (with_reducible refine Or.inl ?_)
    | (simp only [thenS, blockS])
    | (with_reducible refine And.intro ?_ ?_)
    | (with_reducible exact True.intro)
    | (simp (dsimp := false) only [↓opsP_nil, ↓opsP_cons, ↓opsD_nil, ↓opsD_cons, ↓opP, ↓stepP, ↓stepG, go_sem, h0, hq]))
  all_goals (try (first | (intro hg; simp [hg]; done) | exact of_decide_eq_true rfl | (cases h; done)))
  (refine Fin.data (.inr rfl) (by simp (dsimp := false) only [↓opsP_nil, ↓opsP_cons, ↓opsD_nil, ↓opsD_cons, ↓opP, ↓stepP, ↓stepG, go_sem, resL]; rfl) (by simp only [and_self]) (by simp (dsimp := false) only [↓opsP_nil, ↓opsP_cons, ↓opsD_nil, ↓opsD_cons, ↓opP, ↓stepP, ↓stepG, go_sem, resP, Nat.le_refl, List.take_length]; try rfl) ?_)
  simp [subD, subL, subV, subD_refl]

/-- A desk of the document's that can be. -/
structure RDeskOK (d : RDesk) : Prop where
  li : d.items.length ≤ 1024
  lo : d.orders.length ≤ 1024
  it : ∀ x ∈ d.items, 0 ≤ x.round ∧ x.round ≤ 3
  am : ∀ o ∈ d.orders, 0 ≤ o.amount ∧ o.amount ≤ 1125899906842624
def rOf (d : RDesk) (cl : Bool) (f : Int) (R : ROut) : ROut := if cl = (f == -1) then R else ⟨110, d, none⟩
def rDo (d : RDesk) (m : Msg) (f : Int) : ROut :=
  if m.kind = 1 then rOf d true f (rIssue d m) else
  if m.kind = 2 then rOf d true f (rOrder d m) else
  if m.kind = 3 then rOf d true f (rAdjust d m) else
  if m.kind = 4 then rOf d true f (rGive d m) else
  if m.kind = 16 then rOf d true f (rGive d m) else
  if m.kind = 6 then rOf d false f (rPropose d m f) else
  if m.kind = 7 then rOf d false f (rConfirm d m f) else
  if m.kind = 8 then rOf d false f (rDispute d m f) else
  if m.kind = 9 then rOf d false f (rCancel d m f) else
  ⟨110, d, none⟩
theorem run58 (d : RDesk) (h : RDeskOK d) (m : Msg) (f : Int) : Runs Try.prog 58 [.d d.d, .d m.d, pint .i64 f] [] (.d (rOutD (rDo d m f))) [] := by
  have hl : d.items.length ≤ 100000 := by have := h.li; omega
  have hlo : d.orders.length ≤ 100000 := by have := h.lo; omega
  have C : ∀ R : ROut, byC m.kind = true → byN m.kind = false → Runs Try.prog 119 [.d d.d, .d m.d] [] (.d (rOutD R)) [] → Runs Try.prog 58 [.d d.d, .d m.d, pint .i64 f] [] (.d (rOutD (rOf d true f R))) [] := by
    intro R hb hn r
    unfold rOf
    cases hf : (f == -1) with
    | true => rw [if_pos rfl]; exact run58c d m f (by rw [hf, hb]; rfl) R r
    | false => rw [if_neg (by simp)]; exact run58x d m f (by rw [hf]; rfl) (by rw [hn, Bool.and_false])
  have N : ∀ R : ROut, byC m.kind = false → byN m.kind = true → Runs Try.prog 120 [.d d.d, .d m.d, pint .i64 f] [] (.d (rOutD R)) [] → Runs Try.prog 58 [.d d.d, .d m.d, pint .i64 f] [] (.d (rOutD (rOf d false f R))) [] := by
    intro R hb hn r
    unfold rOf
    cases hf : (f == -1) with
    | false => rw [if_pos rfl]; exact run58n d m f (by rw [hf]; rfl) (by unfold bne; rw [hf, hn]; rfl) R r
    | true => rw [if_neg (by simp)]; exact run58x d m f (by rw [hb, Bool.and_false]) (by unfold bne; rw [hf]; rfl)
  have hma : chk (newI m.seller m.number m.buyer m.currency m.amount m.round) = 0 → 0 ≤ m.amount ∧ m.amount ≤ 1125899906842624 := by
    intro hc
    rw [chk_ref] at hc
    by_cases hA : chkA (newI m.seller m.number m.buyer m.currency m.amount m.round) = true
    · rw [if_pos hA] at hc; cases hc
    · rw [if_neg hA] at hc
      by_cases hB : chkB (newI m.seller m.number m.buyer m.currency m.amount m.round) = true
      · rw [if_pos hB] at hc; cases hc
      · unfold chkB newI at hB
        simp only [Bool.or_eq_true, Bool.not_eq_true', Bool.and_eq_false_iff, decide_eq_false_iff_not, not_or] at hB
        omega
  unfold rDo
  by_cases k1 : m.kind = 1
  · rw [if_pos k1]; exact C _ (by rw [k1]; rfl) (by rw [k1]; rfl) (run119_1 d m k1 hl)
  rw [if_neg k1]
  by_cases k2 : m.kind = 2
  · rw [if_pos k2]; exact C _ (by rw [k2]; rfl) (by rw [k2]; rfl) (run119_2 d m k2 hlo)
  rw [if_neg k2]
  by_cases k3 : m.kind = 3
  · rw [if_pos k3]; exact C _ (by rw [k3]; rfl) (by rw [k3]; rfl) (run119_3 d m k3 hl h.it)
  rw [if_neg k3]
  by_cases k4 : m.kind = 4
  · rw [if_pos k4]; exact C _ (by rw [k4]; rfl) (by rw [k4]; rfl) (run119_4 d m k4 hl h.it)
  rw [if_neg k4]
  by_cases k16 : m.kind = 16
  · rw [if_pos k16]; exact C _ (by rw [k16]; rfl) (by rw [k16]; rfl) (run119_16 d m k16 hl h.it)
  rw [if_neg k16]
  by_cases k6 : m.kind = 6
  · rw [if_pos k6]; exact N _ (by rw [k6]; rfl) (by rw [k6]; rfl) (run120_6 d m f k6 _ (run185 d m f hl hlo h.it h.am hma))
  rw [if_neg k6]
  by_cases k7 : m.kind = 7
  · rw [if_pos k7]; exact N _ (by rw [k7]; rfl) (by rw [k7]; rfl) (run120_7 d m f k7 hl h.it)
  rw [if_neg k7]
  by_cases k8 : m.kind = 8
  · rw [if_pos k8]; exact N _ (by rw [k8]; rfl) (by rw [k8]; rfl) (run120_8 d m f k8 hl h.it)
  rw [if_neg k8]
  by_cases k9 : m.kind = 9
  · rw [if_pos k9]; exact N _ (by rw [k9]; rfl) (by rw [k9]; rfl) (run120_9 d m f k9 hl h.it)
  rw [if_neg k9]
  refine run58x d m f ?_ ?_
  · have : byC m.kind = false := by
      unfold byC
      rw [Bool.or_eq_false_iff, Bool.and_eq_false_iff, decide_eq_false_iff_not, decide_eq_false_iff_not, beq_eq_false_iff_ne]
      omega
    rw [this, Bool.and_false]
  · have : byN m.kind = false := by
      unfold byN
      rw [Bool.and_eq_false_iff, decide_eq_false_iff_not, decide_eq_false_iff_not]
      omega
    rw [this, Bool.and_false]

end Go.Proofs.Ytdodgbhodkcckaa.Pv
