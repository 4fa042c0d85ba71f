/- Walks of matching: a desk that can be, and what it does at any message. -/
import Derived.Test.YtdodgbhodkcckaaPmf
set_option linter.unusedVariables false
set_option linter.unusedSimpArgs false
set_option autoImplicit false
set_option maxRecDepth 100000
namespace Go.Proofs.Ytdodgbhodkcckaa.Pv
open Go Go.RowKit

/-- A desk that can be. -/
structure DeskOK (d : Desk) : Prop where
  li : d.items.length ≤ 1024
  lo : d.orders.length ≤ 1024
  it : ∀ x ∈ d.items, chk x = 0
  am : ∀ o ∈ d.orders, In64 o.amount
  far : In64 d.far
theorem DeskOK.li2 {d : Desk} (h : DeskOK d) : d.items.length ≤ 100000 := by have := h.li; omega
theorem DeskOK.lo2 {d : Desk} (h : DeskOK d) : d.orders.length ≤ 100000 := by have := h.lo; omega
theorem chk_round {x : Item} (h : chk x = 0) : 0 ≤ x.round ∧ x.round ≤ 3 := by
  unfold chk at h
  by_cases c : (decide (x.round < 0) || decide (3 < x.round)) = true
  · exfalso
    rw [if_pos c] at h
    repeat' split at h
    all_goals cases h
  · rw [Bool.or_eq_true, decide_eq_true_eq, decide_eq_true_eq] at c; omega
theorem DeskOK.get {d : Desk} (h : DeskOK d) (s n : Int) : 0 ≤ (getI d.items s n).round ∧ (getI d.items s n).round ≤ 3 := by
  unfold getI
  split
  · cases e : d.items[posOf d.items s n]? with
    | none => simp [Item.zero]
    | some x => exact chk_round (h.it x (List.mem_of_getElem? e))
  · simp [Item.zero]
theorem DeskOK.getO {d : Desk} (h : DeskOK d) (s n : Int) : In64 (getO d.orders s n) := by
  unfold Pv.getO
  split
  · cases e : d.orders[posO d.orders s n]? with
    | none => simp [In64]
    | some x => exact h.am x (List.mem_of_getElem? e)
  · simp [In64]
/-- An act that is refused changes nothing. -/
def Out.of (d : Desk) (cl : Bool) (from' : Int) (R : Out) : Out := if cl = (from' == -1) then (if R.e = 0 then R else ⟨R.e, d, none⟩) else ⟨110, d, none⟩
def doR (d : Desk) (m : Msg) (from' : Int) : Out := 
  if m.kind = 1 then Out.of d true from' (issueR d m) else
  if m.kind = 2 then Out.of d true from' (orderR d m) else
  if m.kind = 3 then Out.of d true from' (adjustR d m from') else
  if m.kind = 4 then Out.of d true from' (withdrawR d m from') else
  if m.kind = 16 then Out.of d true from' (dueR d m from') else
  if m.kind = 6 then Out.of d false from' (proposeR d m from') else
  if m.kind = 7 then Out.of d false from' (confirmR d m from') else
  if m.kind = 8 then Out.of d false from' (disputeR d m from') else
  if m.kind = 9 then Out.of d false from' (cancelR d m from') else
  ⟨110, d, none⟩
set_option maxHeartbeats 8000000 in
theorem run57 (d : Desk) (h : DeskOK d) (m : Msg) (hm : In64 m.amount) (from' : Int) : Runs Try.prog 57 [.d (deskD d), .d m.d, pint .i64 from'] [] (.d (outD (doR d m from'))) [] := by
  have hh := run118 m.kind
  unfold doR
  by_cases k1 : m.kind = 1
  · rw [if_pos k1]
    rw [show handV m.kind = (fnD 172, true) by simp [handV, k1]] at hh
    unfold Out.of
    by_cases hb : true = (from' == -1)
    · rw [if_pos hb]; rw [hb] at hh; exact run57c d m from' 172 _ hh (run172 d m from' h.li2)
    · rw [if_neg hb]; exact run57w d m from' 172 true hh hb
  rw [if_neg k1]
  by_cases k2 : m.kind = 2
  · rw [if_pos k2]
    rw [show handV m.kind = (fnD 173, true) by simp [handV, k2]] at hh
    unfold Out.of
    by_cases hb : true = (from' == -1)
    · rw [if_pos hb]; rw [hb] at hh; exact run57c d m from' 173 _ hh (run173 d m from' h.lo2)
    · rw [if_neg hb]; exact run57w d m from' 173 true hh hb
  rw [if_neg k2]
  by_cases k3 : m.kind = 3
  · rw [if_pos k3]
    rw [show handV m.kind = (fnD 174, true) by simp [handV, k3]] at hh
    unfold Out.of
    by_cases hb : true = (from' == -1)
    · rw [if_pos hb]; rw [hb] at hh; exact run57c d m from' 174 _ hh (run174 d m from' h.li2 (h.get _ _))
    · rw [if_neg hb]; exact run57w d m from' 174 true hh hb
  rw [if_neg k3]
  by_cases k4 : m.kind = 4
  · rw [if_pos k4]
    rw [show handV m.kind = (fnD 175, true) by simp [handV, k4]] at hh
    unfold Out.of
    by_cases hb : true = (from' == -1)
    · rw [if_pos hb]; rw [hb] at hh; exact run57c d m from' 175 _ hh (run175 d m from' h.li2)
    · rw [if_neg hb]; exact run57w d m from' 175 true hh hb
  rw [if_neg k4]
  by_cases k16 : m.kind = 16
  · rw [if_pos k16]
    rw [show handV m.kind = (fnD 176, true) by simp [handV, k16]] at hh
    unfold Out.of
    by_cases hb : true = (from' == -1)
    · rw [if_pos hb]; rw [hb] at hh; exact run57c d m from' 176 _ hh (run176 d m from' h.li2)
    · rw [if_neg hb]; exact run57w d m from' 176 true hh hb
  rw [if_neg k16]
  by_cases k6 : m.kind = 6
  · rw [if_pos k6]
    rw [show handV m.kind = (fnD 177, false) by simp [handV, k6]] at hh
    unfold Out.of
    by_cases hb : false = (from' == -1)
    · rw [if_pos hb]; rw [hb] at hh; exact run57c d m from' 177 _ hh (run177 d m from' h.li2 h.lo2 (h.get _ _) (h.getO _ _) hm h.far)
    · rw [if_neg hb]; exact run57w d m from' 177 false hh hb
  rw [if_neg k6]
  by_cases k7 : m.kind = 7
  · rw [if_pos k7]
    rw [show handV m.kind = (fnD 178, false) by simp [handV, k7]] at hh
    unfold Out.of
    by_cases hb : false = (from' == -1)
    · rw [if_pos hb]; rw [hb] at hh; exact run57c d m from' 178 _ hh (run178 d m from' h.li2)
    · rw [if_neg hb]; exact run57w d m from' 178 false hh hb
  rw [if_neg k7]
  by_cases k8 : m.kind = 8
  · rw [if_pos k8]
    rw [show handV m.kind = (fnD 179, false) by simp [handV, k8]] at hh
    unfold Out.of
    by_cases hb : false = (from' == -1)
    · rw [if_pos hb]; rw [hb] at hh; exact run57c d m from' 179 _ hh (run179 d m from' h.li2)
    · rw [if_neg hb]; exact run57w d m from' 179 false hh hb
  rw [if_neg k8]
  by_cases k9 : m.kind = 9
  · rw [if_pos k9]
    rw [show handV m.kind = (fnD 180, false) by simp [handV, k9]] at hh
    unfold Out.of
    by_cases hb : false = (from' == -1)
    · rw [if_pos hb]; rw [hb] at hh; exact run57c d m from' 180 _ hh (run180 d m from' h.li2)
    · rw [if_neg hb]; exact run57w d m from' 180 false hh hb
  rw [if_neg k9]
  rw [show handV m.kind = (.v .nilFunc, false) by simp [handV, k1, k2, k3, k4, k16, k6, k7, k8, k9]] at hh
  exact run57n d m from' nilD hh

def desk0 (me far : Int) : Desk := ⟨me, [], [], far⟩
set_option maxHeartbeats 8000000 in
theorem run56 (me far : Int) (h : 0 ≤ me ∧ me < 8) : Runs Try.prog 56 [pint .i64 me, pint .i64 far] [] (.d (.tup [deskD (desk0 me far), .v (.bool true)])) [] := by
  have r49 := run49 me
  rw [if_neg (by rw [Bool.or_eq_true, decide_eq_true_eq, decide_eq_true_eq]; omega)] at r49
  unfold deskD desk0 Desk.cells Desk.book
  refine Runs.of (kit Try.prog) Try.func56 rfl rfl (by rw [Try.ntmps56]; exact of_decide_eq_true rfl) ?_; rw [Try.ntmps56, Try.results56]
  repeat' (first
    | ((first | refine Pwp.step (kit _) rfl fun K hK => ?_ | refine Pwp.last (kit _) rfl fun K hK => ?_ | refine Pwp.stepD (kit _) rfl rfl fun K hK => ?_ | refine Pwp.lastD (kit _) rfl rfl fun K hK => ?_); simp (dsimp := false) only [↓opsP_nil, ↓opsP_cons, ↓opsD_nil, ↓opsD_cons, ↓opP, ↓stepP, ↓stepG, go_sem, beq_self_eq_true])
    | (refine Pwp.seq ?_)
    | (refine Pwp.block ?_)
    | (refine Pwp.exit ?_; simp only [thenS, blockS, if_true, if_false, reduceIte, Nat.reduceEqDiff, Nat.add_one_ne_zero, reduceCtorEq])
    | (refine Pwp.skip ?_; simp only [thenS, blockS])
    | (refine Pwp.cond rfl True.intro (fun h => ?_) (fun h => ?_) <;> (try (cases h; done)) <;> (try simp only [h]))
    | (refine Pwp.ret ?_; try simp only [thenS, blockS])
    | (refine hK _ ?_; clear hK K)
    | (refine hK _ _ rfl ?_; clear hK K)
    | (refine CallK.give (ds := [I64 me]) rfl (r49) (by simp) ?_)
    | (refine CallG.off ?_)
    | (with_reducible refine Or.inl ?_)
    | (simp only [thenS, blockS])
    | (with_reducible refine And.intro ?_ ?_)
    | (with_reducible exact True.intro)
    | (simp (dsimp := false) only [↓opsP_nil, ↓opsP_cons, ↓opsD_nil, ↓opsD_cons, ↓opP, ↓stepP, ↓stepG, go_sem, beq_self_eq_true]))
  all_goals (try (first | (intro hg; simp [hg]; done) | exact of_decide_eq_true rfl | (cases h; done)))
  (refine Fin.data (.inr rfl) (by simp (dsimp := false) only [↓opsP_nil, ↓opsP_cons, ↓opsD_nil, ↓opsD_cons, ↓opP, ↓stepP, ↓stepG, go_sem, resL]; rfl) (by simp only [and_self]) (by simp (dsimp := false) only [↓opsP_nil, ↓opsP_cons, ↓opsD_nil, ↓opsD_cons, ↓opP, ↓stepP, ↓stepG, go_sem, resP, Nat.le_refl, List.take_length]; try rfl) ?_)
  simp [subD, subL, subV, subD_refl, itemsD, ordersD]

end Go.Proofs.Ytdodgbhodkcckaa.Pv
