/- Walks of matching, the document's answer: lists as they came. -/
import Derived.Test.YtdodgbhodkcckaaPmb
set_option linter.unusedVariables false
set_option linter.unusedSimpArgs false
set_option autoImplicit false
set_option maxRecDepth 100000
namespace Go.Proofs.Ytdodgbhodkcckaa.Pv
open Go Go.RowKit

/-- An entity's items and orders as they came. -/
structure RDesk where
  me : Int
  far : Int
  items : List Item
  orders : List Order
def RDesk.cells (d : RDesk) : List D := [I64 d.me, I64 d.far, .slc 8 (itemsD d.items), .slc 3 (ordersD d.orders)]
def RDesk.d (d : RDesk) : D := .agg d.cells
def isNm (s n : Int) (y : Item) : Bool := y.seller == s && y.number == n
/-- Where a name stands, or -1. -/
def fndV (s n : Int) : Nat → List Item → Int
  | _, [] => -1
  | i, y :: l => if isNm s n y = true then i else fndV s n (i + 1) l
theorem items_get8 {l : List Item} {i : Nat} {x : Item} (h : l[i]? = some x) : (itemsD l)[i]? = some (.agg [I64 x.seller, I64 x.number, I64 x.buyer, I64 x.currency, I64 x.amount, I64 x.round, I64 x.state, I64 x.cycle]) := by simp [itemsD, h, Item.cells]
theorem drop_consI {α : Type} {l : List α} {i : Nat} {x : α} (h : l[i]? = some x) : l.drop i = x :: l.drop (i + 1) := by
  obtain ⟨hi, rfl⟩ := List.getElem?_eq_some_iff.1 h
  exact List.drop_eq_getElem_cons hi
def L181 (d : RDesk) (s n : Int) (i : Nat) : St := ⟨[(5, pint .i64 i), (3, .ref 9 0), (2, .ref 8 0)], [(8, .box [.d (I64 d.me), .d (I64 d.far), .d (.slc 8 (itemsD d.items)), .d (.slc 3 (ordersD d.orders))]), (9, .box [.d (I64 s), .d (I64 n)])], 24⟩
set_option maxHeartbeats 8000000 in
theorem run181 (d : RDesk) (s n : Int) (hl : d.items.length ≤ 100000) : Runs Try.prog 181 [.d d.d, .d (.agg [I64 s, I64 n])] [] (pint .i64 (fndV s n 0 d.items)) [] := by
  have hlen := items_len d.items
  unfold RDesk.d RDesk.cells
  refine Runs.of (kit Try.prog) Try.func181 rfl rfl (by rw [Try.ntmps181]; exact of_decide_eq_true rfl) ?_; rw [Try.ntmps181, Try.results181]
  repeat' (first
    | ((first | refine Pwp.step (kit _) rfl fun K hK => ?_ | refine Pwp.last (kit _) rfl fun K hK => ?_ | refine Pwp.stepD (kit _) rfl rfl fun K hK => ?_ | refine Pwp.lastD (kit _) rfl rfl fun K hK => ?_); simp (dsimp := false) only [↓opsP_nil, ↓opsP_cons, ↓opsD_nil, ↓opsD_cons, ↓opP, ↓stepP, ↓stepG, go_sem, hlen])
    | (refine Pwp.seq ?_)
    | (refine Pwp.block ?_)
    | (refine Pwp.exit ?_; simp only [thenS, blockS, if_true, if_false, reduceIte, Nat.reduceEqDiff, Nat.add_one_ne_zero, reduceCtorEq])
    | (refine Pwp.skip ?_; simp only [thenS, blockS])
    | (refine Pwp.cond rfl True.intro (fun h => ?_) (fun h => ?_) <;> (try (cases h; done)) <;> (try simp only [h]))
    | (refine Pwp.ret ?_; try simp only [thenS, blockS])
    | (refine hK _ ?_; clear hK K)
    | (refine hK _ _ rfl ?_; clear hK K)
    | (refine CallG.off ?_)
    | (with_reducible refine Or.inl ?_)
    | (simp only [thenS, blockS])
    | (with_reducible refine And.intro ?_ ?_)
    | (with_reducible exact True.intro)
    | (simp (dsimp := false) only [↓opsP_nil, ↓opsP_cons, ↓opsD_nil, ↓opsD_cons, ↓opP, ↓stepP, ↓stepG, go_sem, hlen]))
  all_goals (try (first | (intro hg; simp [hg]; done) | exact of_decide_eq_true rfl | (cases h; done)))
  refine Pwp.rangeI d.items.length (fun i st => fndV s n i (d.items.drop i) = fndV s n 0 d.items ∧ st = L181 d s n i) (s0 := L181 d s n 0) (Sub.view V0 (by simp [L181]) rfl (by simp [viewH, viewP, viewL, viewO, V0, V9, V9n, VR, VN, keptOf, find, PVal.toD, subD, subL, subV, subD_refl, viewL_ds, disj, PVal.ids, pnil, List.range, List.range.loop, L181, hlen]) (by simp [viewT, St.ev, viewH, viewP, viewL, viewO, V0, V9, V9n, VR, VN, keptOf, find, PVal.toD, subD, subL, subV, subD_refl, viewL_ds, disj, PVal.ids, pnil, List.range, List.range.loop, L181, hlen])) ⟨rfl, rfl⟩ ?_ ?_
  · rintro i st hi ⟨hp, rfl⟩
    obtain ⟨y, hy, hm⟩ := at_lt hi
    have hg := items_get8 hy
    have c1 := dlt hi
    have w := wrap_succ (i := i) (by omega)
    rw [drop_consI hy, fndV] at hp
    unfold L181
    cases hc : isNm s n y with
    | true =>
      rw [hc, if_pos rfl] at hp
      unfold isNm at hc
      repeat' (first
        | ((first | refine Pwp.step (kit _) rfl fun K hK => ?_ | refine Pwp.last (kit _) rfl fun K hK => ?_ | refine Pwp.stepD (kit _) rfl rfl fun K hK => ?_ | refine Pwp.lastD (kit _) rfl rfl fun K hK => ?_); simp (dsimp := false) only [↓opsP_nil, ↓opsP_cons, ↓opsD_nil, ↓opsD_cons, ↓opP, ↓stepP, ↓stepG, go_sem, hg, c1, w, hlen, hc])
        | (refine Pwp.seq ?_)
        | (refine Pwp.block ?_)
        | (refine Pwp.exit ?_; simp only [thenS, blockS, if_true, if_false, reduceIte, Nat.reduceEqDiff, Nat.add_one_ne_zero, reduceCtorEq])
        | (refine Pwp.skip ?_; simp only [thenS, blockS])
        | (refine Pwp.cond rfl True.intro (fun h => ?_) (fun h => ?_) <;> (try (cases h; done)) <;> (try simp only [h]))
        | (refine Pwp.ret ?_; try simp only [thenS, blockS])
        | (refine hK _ ?_; clear hK K)
        | (refine hK _ _ rfl ?_; clear hK K)
        | (refine CallG.off ?_)
        | (with_reducible refine Or.inl ?_)
        | (simp only [thenS, blockS])
        | (with_reducible refine And.intro ?_ ?_)
        | (with_reducible exact True.intro)
        | (simp (dsimp := false) only [↓opsP_nil, ↓opsP_cons, ↓opsD_nil, ↓opsD_cons, ↓opP, ↓stepP, ↓stepG, go_sem, hg, c1, w, hlen, hc]))
      all_goals (try (first | (intro hg; simp [hg]; done) | exact of_decide_eq_true rfl | (cases h; done)))
      (refine Fin.data (.inr rfl) (by simp (dsimp := false) only [↓opsP_nil, ↓opsP_cons, ↓opsD_nil, ↓opsD_cons, ↓opP, ↓stepP, ↓stepG, go_sem, resL]; rfl) (by simp only [and_self]) (by simp (dsimp := false) only [↓opsP_nil, ↓opsP_cons, ↓opsD_nil, ↓opsD_cons, ↓opP, ↓stepP, ↓stepG, go_sem, resP, Nat.le_refl, List.take_length]; try rfl) ?_)
      rw [← hp]; exact subD_refl _
    | false =>
      rw [hc, if_neg (by simp)] at hp
      unfold isNm at hc
      repeat' (first
        | ((first | refine Pwp.step (kit _) rfl fun K hK => ?_ | refine Pwp.last (kit _) rfl fun K hK => ?_ | refine Pwp.stepD (kit _) rfl rfl fun K hK => ?_ | refine Pwp.lastD (kit _) rfl rfl fun K hK => ?_); simp (dsimp := false) only [↓opsP_nil, ↓opsP_cons, ↓opsD_nil, ↓opsD_cons, ↓opP, ↓stepP, ↓stepG, go_sem, hg, c1, w, hlen, hc])
        | (refine Pwp.seq ?_)
        | (refine Pwp.block ?_)
        | (refine Pwp.exit ?_; simp only [thenS, blockS, if_true, if_false, reduceIte, Nat.reduceEqDiff, Nat.add_one_ne_zero, reduceCtorEq])
        | (refine Pwp.skip ?_; simp only [thenS, blockS])
        | (refine Pwp.cond rfl True.intro (fun h => ?_) (fun h => ?_) <;> (try (cases h; done)) <;> (try simp only [h]))
        | (refine Pwp.ret ?_; try simp only [thenS, blockS])
        | (refine hK _ ?_; clear hK K)
        | (refine hK _ _ rfl ?_; clear hK K)
        | (refine CallG.off ?_)
        | (with_reducible refine Or.inl ?_)
        | (simp only [thenS, blockS])
        | (with_reducible refine And.intro ?_ ?_)
        | (with_reducible exact True.intro)
        | (simp (dsimp := false) only [↓opsP_nil, ↓opsP_cons, ↓opsD_nil, ↓opsD_cons, ↓opP, ↓stepP, ↓stepG, go_sem, hg, c1, w, hlen, hc]))
      all_goals (try (first | (intro hg; simp [hg]; done) | exact of_decide_eq_true rfl | (cases h; done)))
      exact ⟨_, Sub.view V0 (by simp [L181]) rfl (by simp [viewH, viewP, viewL, viewO, V0, V9, V9n, VR, VN, keptOf, find, PVal.toD, subD, subL, subV, subD_refl, viewL_ds, disj, PVal.ids, pnil, List.range, List.range.loop, L181]) (by simp [viewT, St.ev, viewH, viewP, viewL, viewO, V0, V9, V9n, VR, VN, keptOf, find, PVal.toD, subD, subL, subV, subD_refl, viewL_ds, disj, PVal.ids, pnil, List.range, List.range.loop, L181]), hp, rfl⟩
  · rintro st ⟨hp, rfl⟩
    have c1 := dge (Nat.le_refl d.items.length)
    rw [List.drop_length, fndV] at hp
    unfold L181
    repeat' (first
      | ((first | refine Pwp.step (kit _) rfl fun K hK => ?_ | refine Pwp.last (kit _) rfl fun K hK => ?_ | refine Pwp.stepD (kit _) rfl rfl fun K hK => ?_ | refine Pwp.lastD (kit _) rfl rfl fun K hK => ?_); simp (dsimp := false) only [↓opsP_nil, ↓opsP_cons, ↓opsD_nil, ↓opsD_cons, ↓opP, ↓stepP, ↓stepG, go_sem, c1, hlen])
      | (refine Pwp.seq ?_)
      | (refine Pwp.block ?_)
      | (refine Pwp.exit ?_; simp only [thenS, blockS, if_true, if_false, reduceIte, Nat.reduceEqDiff, Nat.add_one_ne_zero, reduceCtorEq])
      | (refine Pwp.skip ?_; simp only [thenS, blockS])
      | (refine Pwp.cond rfl True.intro (fun h => ?_) (fun h => ?_) <;> (try (cases h; done)) <;> (try simp only [h]))
      | (refine Pwp.ret ?_; try simp only [thenS, blockS])
      | (refine hK _ ?_; clear hK K)
      | (refine hK _ _ rfl ?_; clear hK K)
      | (refine CallG.off ?_)
      | (with_reducible refine Or.inl ?_)
      | (simp only [thenS, blockS])
      | (with_reducible refine And.intro ?_ ?_)
      | (with_reducible exact True.intro)
      | (simp (dsimp := false) only [↓opsP_nil, ↓opsP_cons, ↓opsD_nil, ↓opsD_cons, ↓opP, ↓stepP, ↓stepG, go_sem, c1, hlen]))
    all_goals (try (first | (intro hg; simp [hg]; done) | exact of_decide_eq_true rfl | (cases h; done)))
    (refine Fin.data (.inr rfl) (by simp (dsimp := false) only [↓opsP_nil, ↓opsP_cons, ↓opsD_nil, ↓opsD_cons, ↓opP, ↓stepP, ↓stepG, go_sem, resL]; rfl) (by simp only [and_self]) (by simp (dsimp := false) only [↓opsP_nil, ↓opsP_cons, ↓opsD_nil, ↓opsD_cons, ↓opP, ↓stepP, ↓stepG, go_sem, resP, Nat.le_refl, List.take_length]; try rfl) ?_)
    rw [← hp]; exact subD_refl _
theorem fnd_at (s n : Int) : ∀ (l : List Item) (i : Nat), (fndV s n i l = -1 ∧ ∀ y ∈ l, isNm s n y = false) ∨ ∃ (k : Nat) (y : Item), fndV s n i l = ((i + k : Nat) : Int) ∧ l[k]? = some y ∧ isNm s n y = true
  | [], i => .inl ⟨rfl, fun y h => (List.not_mem_nil h).elim⟩
  | x :: l, i => by
    rw [fndV]
    cases hx : isNm s n x with
    | true => exact .inr ⟨0, x, by simp, by simp, hx⟩
    | false =>
      rw [if_neg (by simp)]
      rcases fnd_at s n l (i + 1) with ⟨h1, h2⟩ | ⟨k, y, h1, h2, h3⟩
      · refine .inl ⟨h1, fun y hy => ?_⟩
        rcases List.mem_cons.1 hy with rfl | hy
        · exact hx
        · exact h2 y hy
      · exact .inr ⟨k + 1, y, by rw [h1]; congr 1; omega, by simpa using h2, h3⟩
def keepL2 (l : List Item) (x : Item) : List Item := if fndV x.seller x.number 0 l < 0 then l ++ [x] else l.set (fndV x.seller x.number 0 l).toNat x
def RDesk.keep (d : RDesk) (x : Item) : RDesk := { d with items := keepL2 d.items x }
set_option maxHeartbeats 8000000 in
theorem run121 (d : RDesk) (x : Item) (hl : d.items.length ≤ 100000) : Runs Try.prog 121 [.d d.d, .d x.d] [] (.d (d.keep x).d) [] := by
  have r := run181 d x.seller x.number hl
  have hlen := items_len d.items
  have hone := items_one d.items
  have htk : (itemsD d.items).take d.items.length = itemsD d.items := List.take_of_length_le (by omega)
  unfold RDesk.keep keepL2
  rcases fnd_at x.seller x.number d.items 0 with ⟨h1, _⟩ | ⟨k, y, h1, h2, h3⟩
  · rw [h1] at r ⊢
    rw [if_pos (by decide)]
    have e : itemsD (d.items ++ [x]) = itemsD d.items ++ [.agg [I64 x.seller, I64 x.number, I64 x.buyer, I64 x.currency, I64 x.amount, I64 x.round, I64 x.state, I64 x.cycle]] := by simp [itemsD, Item.cells]
    have hle : (itemsD d.items ++ [(.agg [I64 x.seller, I64 x.number, I64 x.buyer, I64 x.currency, I64 x.amount, I64 x.round, I64 x.state, I64 x.cycle] : D)]).length = d.items.length + 1 := by simp [hlen]
    unfold RDesk.d RDesk.cells Item.d Item.cells at *
    simp only [e]
    refine Runs.of (kit Try.prog) Try.func121 rfl rfl (by rw [Try.ntmps121]; exact of_decide_eq_true rfl) ?_; rw [Try.ntmps121, Try.results121]
    repeat' (first
      | ((first | refine Pwp.step (kit _) rfl fun K hK => ?_ | refine Pwp.last (kit _) rfl fun K hK => ?_ | refine Pwp.stepD (kit _) rfl rfl fun K hK => ?_ | refine Pwp.lastD (kit _) rfl rfl fun K hK => ?_); simp (dsimp := false) only [↓opsP_nil, ↓opsP_cons, ↓opsD_nil, ↓opsD_cons, ↓opP, ↓stepP, ↓stepG, go_sem, hlen, htk])
      | (refine Pwp.seq ?_)
      | (refine Pwp.block ?_)
      | (refine Pwp.exit ?_; simp only [thenS, blockS, if_true, if_false, reduceIte, Nat.reduceEqDiff, Nat.add_one_ne_zero, reduceCtorEq])
      | (refine Pwp.skip ?_; simp only [thenS, blockS])
      | (refine Pwp.cond rfl True.intro (fun h => ?_) (fun h => ?_) <;> (try (cases h; done)) <;> (try simp only [h]))
      | (refine Pwp.ret ?_; try simp only [thenS, blockS])
      | (refine hK _ ?_; clear hK K)
      | (refine hK _ _ rfl ?_; clear hK K)
      | (refine CallK.toD (ds := [.agg [I64 d.me, I64 d.far, .slc 8 (itemsD d.items), .slc 3 (ordersD d.orders)], .agg [I64 x.seller, I64 x.number]]) rfl (r) rfl ?_)
      | (refine CallG.off ?_)
      | (with_reducible refine Or.inl ?_)
      | (simp only [thenS, blockS])
      | (with_reducible refine And.intro ?_ ?_)
      | (with_reducible exact True.intro)
      | (simp (dsimp := false) only [↓opsP_nil, ↓opsP_cons, ↓opsD_nil, ↓opsD_cons, ↓opP, ↓stepP, ↓stepG, go_sem, hlen, htk]))
    all_goals (try (first | (intro hg; simp [hg]; done) | exact of_decide_eq_true rfl | (cases h; done)))
    all_goals (try (first | exact hone | omega | (simp [maxLen]; omega) | exact ⟨by omega, by omega⟩))
    (refine Fin.data (.inr rfl) (by simp (dsimp := false) only [↓opsP_nil, ↓opsP_cons, ↓opsD_nil, ↓opsD_cons, ↓opP, ↓stepP, ↓stepG, go_sem, resL, List.take_of_length_le, hle, hlen, Nat.le_refl]; rfl) (by simp only [and_self]) (by simp (dsimp := false) only [↓opsP_nil, ↓opsP_cons, ↓opsD_nil, ↓opsD_cons, ↓opP, ↓stepP, ↓stepG, go_sem, resP, Nat.le_refl, List.take_length, List.take_of_length_le, hle, hlen, Nat.le_refl]; try rfl) ?_)
    exact subD_refl _
  · rw [Nat.zero_add] at h1
    rw [h1] at r ⊢
    have hk := (List.getElem?_eq_some_iff.1 h2).1
    have c1 : decide ((k : Int) < 0) = false := by rw [decide_eq_false_iff_not]; omega
    have hg := items_get8 h2
    have ht := Int.toNat_natCast k
    have p0 : (0 : Int) ≤ (k : Int) := by omega
    rw [if_neg (by omega), ht]
    have e : itemsD (d.items.set k x) = (itemsD d.items).set k (.agg [I64 x.seller, I64 x.number, I64 x.buyer, I64 x.currency, I64 x.amount, I64 x.round, I64 x.state, I64 x.cycle]) := by simp [itemsD, Item.cells, List.map_set]
    have hle : ((itemsD d.items).set k (.agg [I64 x.seller, I64 x.number, I64 x.buyer, I64 x.currency, I64 x.amount, I64 x.round, I64 x.state, I64 x.cycle])).length = d.items.length := by simp [hlen]
    unfold RDesk.d RDesk.cells Item.d Item.cells at *
    simp only [e]
    refine Runs.of (kit Try.prog) Try.func121 rfl rfl (by rw [Try.ntmps121]; exact of_decide_eq_true rfl) ?_; rw [Try.ntmps121, Try.results121]
    repeat' (first
      | ((first | refine Pwp.step (kit _) rfl fun K hK => ?_ | refine Pwp.last (kit _) rfl fun K hK => ?_ | refine Pwp.stepD (kit _) rfl rfl fun K hK => ?_ | refine Pwp.lastD (kit _) rfl rfl fun K hK => ?_); simp (dsimp := false) only [↓opsP_nil, ↓opsP_cons, ↓opsD_nil, ↓opsD_cons, ↓opP, ↓stepP, ↓stepG, go_sem, hlen, htk, c1, hg, ht, p0])
      | (refine Pwp.seq ?_)
      | (refine Pwp.block ?_)
      | (refine Pwp.exit ?_; simp only [thenS, blockS, if_true, if_false, reduceIte, Nat.reduceEqDiff, Nat.add_one_ne_zero, reduceCtorEq])
      | (refine Pwp.skip ?_; simp only [thenS, blockS])
      | (refine Pwp.cond rfl True.intro (fun h => ?_) (fun h => ?_) <;> (try (cases h; done)) <;> (try simp only [h]))
      | (refine Pwp.ret ?_; try simp only [thenS, blockS])
      | (refine hK _ ?_; clear hK K)
      | (refine hK _ _ rfl ?_; clear hK K)
      | (refine CallK.toD (ds := [.agg [I64 d.me, I64 d.far, .slc 8 (itemsD d.items), .slc 3 (ordersD d.orders)], .agg [I64 x.seller, I64 x.number]]) rfl (r) rfl ?_)
      | (refine CallG.off ?_)
      | (with_reducible refine Or.inl ?_)
      | (simp only [thenS, blockS])
      | (with_reducible refine And.intro ?_ ?_)
      | (with_reducible exact True.intro)
      | (simp (dsimp := false) only [↓opsP_nil, ↓opsP_cons, ↓opsD_nil, ↓opsD_cons, ↓opP, ↓stepP, ↓stepG, go_sem, hlen, htk, c1, hg, ht, p0]))
    all_goals (try (first | (intro hg; simp [hg]; done) | exact of_decide_eq_true rfl | (cases h; done)))
    all_goals (try (first | exact hone | omega | (simp [maxLen]; omega) | exact ⟨by omega, by omega⟩))
    (refine Fin.data (.inr rfl) (by simp (dsimp := false) only [↓opsP_nil, ↓opsP_cons, ↓opsD_nil, ↓opsD_cons, ↓opP, ↓stepP, ↓stepG, go_sem, resL, List.take_of_length_le, hle, hlen, Nat.le_refl]; rfl) (by simp only [and_self]) (by simp (dsimp := false) only [↓opsP_nil, ↓opsP_cons, ↓opsD_nil, ↓opsD_cons, ↓opP, ↓stepP, ↓stepG, go_sem, resP, Nat.le_refl, List.take_length, List.take_of_length_le, hle, hlen, Nat.le_refl]; try rfl) ?_)
    exact subD_refl _

end Go.Proofs.Ytdodgbhodkcckaa.Pv
