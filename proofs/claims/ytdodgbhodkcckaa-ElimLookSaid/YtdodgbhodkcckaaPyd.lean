/- Walks of books against each other: what all have, whether all are alike. -/
import Derived.Test.YtdodgbhodkcckaaPyc
import Derived.Test.YtdodgbhodkcckaaPxm
set_option linter.unusedVariables false
set_option linter.unusedSimpArgs false
set_option autoImplicit false
set_option maxRecDepth 100000
namespace Go.Proofs.Ytdodgbhodkcckaa.Pv
open Go Go.RowKit

theorem sum_in {l : List Int} {m : Int} (hm : 0 ≤ m) (h : ∀ a ∈ l, -m ≤ a ∧ a ≤ m) : -(m * (l.length : Int)) ≤ sumOf l ∧ sumOf l ≤ m * (l.length : Int) := by
  induction l with
  | nil => simp [sumOf]
  | cons a l ih =>
    have h1 := h a (by simp)
    have h2 := ih fun b hb => h b (by simp [hb])
    rw [sumOf_cons, List.length_cons]
    have e : m * ((l.length + 1 : Nat) : Int) = m * (l.length : Int) + m := by rw [Int.natCast_succ, Int.mul_add, Int.mul_one]
    rw [e]; omega
theorem amtOf_fine {me : Int} {x : Item} (h : Fine x) : amtOf me x = (if (x.buyer == me) = true then -x.amount else x.amount) ∧ -1125899906842624 ≤ amtOf me x ∧ amtOf me x ≤ 1125899906842624 := by
  have := h.a
  unfold amtOf
  split
  · rw [wrap_of (by omega) (by omega)]; omega
  · omega
/-- What an entity is to have of a currency, less what it is to pay. -/
def net (me c : Int) (l : List Item) : Int := sumOf (openL me c (-1) l)
theorem openL_fine {me c o : Int} {l : List Item} (h : ∀ x ∈ l, Fine x) : ∀ a ∈ openL me c o l, -1125899906842624 ≤ a ∧ a ≤ 1125899906842624 := by
  induction l with
  | nil => intro a ha; simp [openL] at ha
  | cons x l ih =>
    intro a ha
    simp only [openL] at ha
    split at ha
    · exact ih (fun y hy => h y (by simp [hy])) a ha
    · rcases List.mem_cons.1 ha with rfl | ha
      · exact (amtOf_fine (h x (by simp))).2
      · exact ih (fun y hy => h y (by simp [hy])) a ha
theorem net_in {me c : Int} {l : List Item} (h : ∀ x ∈ l, Fine x) (hl : l.length ≤ 1100) : -1238489897526886400 ≤ net me c l ∧ net me c l ≤ 1238489897526886400 := by
  have h1 := sum_in (m := 1125899906842624) (by omega) (openL_fine (me := me) (c := c) (o := -1) h)
  have h2 := openL_len me c (-1) l
  unfold net; omega
theorem amts_fine {l : List Item} (h : ∀ x ∈ l, Fine x) (hl : l.length ≤ 1100) : fits (sumOf (amts l)) = true ∧ ∀ a ∈ amts l, In64 a := by
  have h0 : ∀ a ∈ amts l, -1125899906842624 ≤ a ∧ a ≤ 1125899906842624 := by
    intro a ha
    obtain ⟨x, hx, rfl⟩ := List.mem_map.1 ha
    have := (h x hx).a; omega
  have h1 := sum_in (m := 1125899906842624) (by omega) h0
  rw [amts_len] at h1
  exact ⟨In64.fits ⟨by omega, by omega⟩, fun a ha => by have := h0 a ha; simp [In64]; omega⟩
theorem agL_fine {s b c : Int} {l : List Item} (h : ∀ x ∈ l, Fine x) : ∀ x ∈ agL s b c l, Fine x := fun x hx => h x (List.mem_filter.1 hx).1
/-- What two books say of each other, of items that can be. -/
theorem run48F (ma mb c : Int) (la lb : List Item) (hla : la.length ≤ 1100) (hlb : lb.length ≤ 1100) (ha : ∀ x ∈ la, Fine x) (hb : ∀ x ∈ lb, Fine x) :
    Runs Try.prog 48 [.d (bookD ma la []), .d (bookD mb lb []), pint .i64 c] [] (.d (.tup [pairD ma mb (sumOf (amts (agL ma mb c la))) (sumOf (amts (agL ma mb c lb))) (alikeL (agL ma mb c la) (agL ma mb c lb)), I64 0])) [] := by
  have h1 := amts_fine (agL_fine (s := ma) (b := mb) (c := c) ha) (Nat.le_trans (agL_len ..) hla)
  have h2 := amts_fine (agL_fine (s := ma) (b := mb) (c := c) hb) (Nat.le_trans (agL_len ..) hlb)
  exact run48 ma mb c la lb [] [] hla hlb h1.1 h2.1 h1.2 h2.2

abbrev Bk := Int × List Item
def bkD (b : Bk) : D := bookD b.1 b.2 []
def booksD (l : List Bk) : List D := l.map bkD
theorem books_len (l : List Bk) : (booksD l).length = l.length := by simp [booksD]
theorem books_get {l : List Bk} {i : Nat} {b : Bk} (h : l[i]? = some b) : (booksD l)[i]? = some (.agg [I64 b.1, .slc 8 (itemsD b.2), .slc 3 []]) := by simp [booksD, h, bkD, bookD]
def okBk (b : Bk) : Prop := b.2.length ≤ 1100 ∧ ∀ x ∈ b.2, Fine x
/-- What all have of a currency, each by its own book. -/
def groupV (c : Int) : List Pos → List Bk → List Pos × Int
  | acc, [] => (acc, 0)
  | acc, b :: bs => if (addV acc b.1 c (net b.1 c b.2)).2 = 0 then groupV c (addV acc b.1 c (net b.1 c b.2)).1 bs else ([], (addV acc b.1 c (net b.1 c b.2)).2)
def L52 (c : Int) (bs : List Bk) (acc : List Pos) (i : Nat) : St := ⟨[(13, pint .i64 i), (12, pint .i64 bs.length), (11, .d (.slc 3 (booksD bs))), (6, .ref 16 0), (4, .ref 8 0), (0, pint .i64 c)], [(8, .box [.d (.slc 3 [])]), (16, .box [.d (.slc 3 (posD acc))])], 32⟩
set_option maxHeartbeats 8000000 in
theorem run52 (c : Int) (bs : List Bk) (hl : bs.length ≤ 1000) (hb : ∀ b ∈ bs, okBk b) : Runs Try.prog 52 [pint .i64 c, .d (.slc 3 (booksD bs))] [] (.d (.tup [vecD (groupV c [] bs).1, I64 (groupV c [] bs).2])) [] := by
  have hlen := books_len bs
  refine Runs.of (kit Try.prog) Try.func52 rfl rfl (by rw [Try.ntmps52]; exact of_decide_eq_true rfl) ?_; rw [Try.ntmps52, Try.results52]
  repeat' (first
    | ((first | refine Pwp.step (kit _) rfl fun K hK => ?_ | refine Pwp.last (kit _) rfl fun K hK => ?_ | refine Pwp.stepD (kit _) rfl rfl fun K hK => ?_ | refine Pwp.lastD (kit _) rfl rfl fun K hK => ?_); simp (dsimp := false) only [↓opsP_nil, ↓opsP_cons, ↓opsD_nil, ↓opsD_cons, footOf, ↓opP, ↓stepP, ↓stepG, go_sem, reduceIte, Nat.reduceAdd, Nat.reduceMul, Nat.reduceEqDiff, Nat.reduceLT, Nat.reduceLeDiff, Nat.reduceSub, reduceCtorEq, Int.reduceToNat, Int.reduceAdd, Int.reduceSub, Int.reduceLT, Int.reduceLE, Int.reduceNeg, Int.reduceBEq, Int.reduceBNe, true_or, hlen])
    | (refine Pwp.seq ?_)
    | (refine Pwp.block ?_)
    | (refine Pwp.exit ?_; simp only [thenS, blockS, if_true, if_false, reduceIte, Nat.reduceEqDiff, Nat.add_one_ne_zero, reduceCtorEq])
    | (refine Pwp.skip ?_; simp only [thenS, blockS])
    | (refine Pwp.cond rfl True.intro (fun h => ?_) (fun h => ?_) <;> (try (cases h; done)) <;> (try simp only [h]))
    | (refine Pwp.ret ?_; try simp only [thenS, blockS])
    | (refine hK _ ?_; clear hK K)
    | (refine hK _ _ rfl ?_; clear hK K)
    | (refine CallG.off ?_)
    | (with_reducible refine Or.inl ?_)
    | (simp only [thenS, blockS])
    | (with_reducible refine And.intro ?_ ?_)
    | (with_reducible exact True.intro)
    | (simp (dsimp := false) only [↓opsP_nil, ↓opsP_cons, ↓opsD_nil, ↓opsD_cons, footOf, ↓opP, ↓stepP, ↓stepG, go_sem, reduceIte, Nat.reduceAdd, Nat.reduceMul, Nat.reduceEqDiff, Nat.reduceLT, Nat.reduceLeDiff, Nat.reduceSub, reduceCtorEq, Int.reduceToNat, Int.reduceAdd, Int.reduceSub, Int.reduceLT, Int.reduceLE, Int.reduceNeg, Int.reduceBEq, Int.reduceBNe, true_or, hlen]))
  all_goals (try (first | (intro hg; simp_all; done) | (intro hg; simp [hg]; done) | exact of_decide_eq_true rfl | (cases h; done)))
  refine Pwp.rangeI bs.length (fun i s => ∃ acc, acc.length ≤ i ∧ groupV c acc (bs.drop i) = groupV c [] bs ∧ s = L52 c bs acc i) (s0 := L52 c bs [] 0) (Sub.view V0 (by simp [L52]) rfl (by simp [viewH, viewP, viewL, viewO, V0, V9, V9n, VR, VN, keptOf, find, PVal.toD, subD, subL, subV, subD_refl, viewL_ds, disj, PVal.ids, pnil, List.range, List.range.loop, L52, hlen, posD]) (by simp [viewT, St.ev, viewH, viewP, viewL, viewO, V0, V9, V9n, VR, VN, keptOf, find, PVal.toD, subD, subL, subV, subD_refl, viewL_ds, disj, PVal.ids, pnil, List.range, List.range.loop, L52, hlen, posD])) ⟨[], by simp, rfl, rfl⟩ ?_ ?_
  · rintro i s hi ⟨acc, ha, hp, rfl⟩
    obtain ⟨b, hx, hm⟩ := at_lt hi
    obtain ⟨hb1, hb2⟩ := hb b hm
    have hg := books_get hx
    have c1 := dlt hi
    have w := wrap_succ (i := i) (by omega)
    have hd : bs.drop i = b :: bs.drop (i + 1) := by
      rw [List.drop_eq_getElem_cons hi]; rw [List.getElem?_eq_getElem hi] at hx; cases hx; rfl
    rw [hd, groupV] at hp
    have hni := net_in (me := b.1) (c := c) hb2 hb1
    have r54 := run54 b.1 c (-1) b.2 [] (by omega) (fun x hx => by have := (amtOf_fine (me := b.1) (hb2 x hx)).2; simp [In64]; omega)
    rw [if_pos (In64.fits (by unfold net at hni; simp [In64]; omega))] at r54
    have r37 := run37 acc b.1 c (net b.1 c b.2) (by omega)
    have hal := addV_len acc b.1 c (net b.1 c b.2)
    unfold L52
    by_cases he : (addV acc b.1 c (net b.1 c b.2)).2 = 0
    · rw [if_pos he] at hp
      rw [he] at r37
      repeat' (first
        | ((first | refine Pwp.step (kit _) rfl fun K hK => ?_ | refine Pwp.last (kit _) rfl fun K hK => ?_ | refine Pwp.stepD (kit _) rfl rfl fun K hK => ?_ | refine Pwp.lastD (kit _) rfl rfl fun K hK => ?_); simp (dsimp := false) only [↓opsP_nil, ↓opsP_cons, ↓opsD_nil, ↓opsD_cons, footOf, ↓opP, ↓stepP, ↓stepG, go_sem, reduceIte, Nat.reduceAdd, Nat.reduceMul, Nat.reduceEqDiff, Nat.reduceLT, Nat.reduceLeDiff, Nat.reduceSub, reduceCtorEq, Int.reduceToNat, Int.reduceAdd, Int.reduceSub, Int.reduceLT, Int.reduceLE, Int.reduceNeg, Int.reduceBEq, Int.reduceBNe, true_or, hg, c1, w, hlen, vecD])
        | (refine Pwp.seq ?_)
        | (refine Pwp.block ?_)
        | (refine Pwp.exit ?_; simp only [thenS, blockS, if_true, if_false, reduceIte, Nat.reduceEqDiff, Nat.add_one_ne_zero, reduceCtorEq])
        | (refine Pwp.skip ?_; simp only [thenS, blockS])
        | (refine Pwp.cond rfl True.intro (fun h => ?_) (fun h => ?_) <;> (try (cases h; done)) <;> (try simp only [h]))
        | (refine Pwp.ret ?_; try simp only [thenS, blockS])
        | (refine hK _ ?_; clear hK K)
        | (refine hK _ _ rfl ?_; clear hK K)
        | (refine CallK.give (ds := [bookD b.1 b.2 [], I64 c, I64 (-1)]) rfl (r54) (by simp) ?_)
        | (refine CallK.give (ds := [vecD acc, I64 b.1, I64 c, I64 (net b.1 c b.2)]) rfl (r37) (by simp) ?_)
        | (refine CallG.off ?_)
        | (with_reducible refine Or.inl ?_)
        | (simp only [thenS, blockS])
        | (with_reducible refine And.intro ?_ ?_)
        | (with_reducible exact True.intro)
        | (simp (dsimp := false) only [↓opsP_nil, ↓opsP_cons, ↓opsD_nil, ↓opsD_cons, footOf, ↓opP, ↓stepP, ↓stepG, go_sem, reduceIte, Nat.reduceAdd, Nat.reduceMul, Nat.reduceEqDiff, Nat.reduceLT, Nat.reduceLeDiff, Nat.reduceSub, reduceCtorEq, Int.reduceToNat, Int.reduceAdd, Int.reduceSub, Int.reduceLT, Int.reduceLE, Int.reduceNeg, Int.reduceBEq, Int.reduceBNe, true_or, hg, c1, w, hlen, vecD]))
      all_goals (try (first | (intro hg; simp_all; done) | (intro hg; simp [hg]; done) | exact of_decide_eq_true rfl | (cases h; done)))
      exact ⟨_, Sub.view V0 (by simp [L52]) rfl (by simp [viewH, viewP, viewL, viewO, V0, V9, V9n, VR, VN, keptOf, find, PVal.toD, subD, subL, subV, subD_refl, viewL_ds, disj, PVal.ids, pnil, List.range, List.range.loop, L52]) (by simp [viewT, St.ev, viewH, viewP, viewL, viewO, V0, V9, V9n, VR, VN, keptOf, find, PVal.toD, subD, subL, subV, subD_refl, viewL_ds, disj, PVal.ids, pnil, List.range, List.range.loop, L52]), _, by omega, hp, rfl⟩
    · rw [if_neg he] at hp
      have hn1 : ((addV acc b.1 c (net b.1 c b.2)).2 == 0) = false := by simpa using he
      have hn2 : ((addV acc b.1 c (net b.1 c b.2)).2 != 0) = true := by simpa using he
      repeat' (first
        | ((first | refine Pwp.step (kit _) rfl fun K hK => ?_ | refine Pwp.last (kit _) rfl fun K hK => ?_ | refine Pwp.stepD (kit _) rfl rfl fun K hK => ?_ | refine Pwp.lastD (kit _) rfl rfl fun K hK => ?_); simp (dsimp := false) only [↓opsP_nil, ↓opsP_cons, ↓opsD_nil, ↓opsD_cons, footOf, ↓opP, ↓stepP, ↓stepG, go_sem, reduceIte, Nat.reduceAdd, Nat.reduceMul, Nat.reduceEqDiff, Nat.reduceLT, Nat.reduceLeDiff, Nat.reduceSub, reduceCtorEq, Int.reduceToNat, Int.reduceAdd, Int.reduceSub, Int.reduceLT, Int.reduceLE, Int.reduceNeg, Int.reduceBEq, Int.reduceBNe, true_or, hg, c1, w, hlen, vecD, hn1, hn2])
        | (refine Pwp.seq ?_)
        | (refine Pwp.block ?_)
        | (refine Pwp.exit ?_; simp only [thenS, blockS, if_true, if_false, reduceIte, Nat.reduceEqDiff, Nat.add_one_ne_zero, reduceCtorEq])
        | (refine Pwp.skip ?_; simp only [thenS, blockS])
        | (refine Pwp.cond rfl True.intro (fun h => ?_) (fun h => ?_) <;> (try (cases h; done)) <;> (try simp only [h]))
        | (refine Pwp.ret ?_; try simp only [thenS, blockS])
        | (refine hK _ ?_; clear hK K)
        | (refine hK _ _ rfl ?_; clear hK K)
        | (refine CallK.give (ds := [bookD b.1 b.2 [], I64 c, I64 (-1)]) rfl (r54) (by simp) ?_)
        | (refine CallK.give (ds := [vecD acc, I64 b.1, I64 c, I64 (net b.1 c b.2)]) rfl (r37) (by simp) ?_)
        | (refine CallG.off ?_)
        | (with_reducible refine Or.inl ?_)
        | (simp only [thenS, blockS])
        | (with_reducible refine And.intro ?_ ?_)
        | (with_reducible exact True.intro)
        | (simp (dsimp := false) only [↓opsP_nil, ↓opsP_cons, ↓opsD_nil, ↓opsD_cons, footOf, ↓opP, ↓stepP, ↓stepG, go_sem, reduceIte, Nat.reduceAdd, Nat.reduceMul, Nat.reduceEqDiff, Nat.reduceLT, Nat.reduceLeDiff, Nat.reduceSub, reduceCtorEq, Int.reduceToNat, Int.reduceAdd, Int.reduceSub, Int.reduceLT, Int.reduceLE, Int.reduceNeg, Int.reduceBEq, Int.reduceBNe, true_or, hg, c1, w, hlen, vecD, hn1, hn2]))
      all_goals (try (first | (intro hg; simp_all; done) | (intro hg; simp [hg]; done) | exact of_decide_eq_true rfl | (cases h; done)))
      (refine Fin.data (.inr rfl) (by simp (dsimp := false) only [↓opsP_nil, ↓opsP_cons, ↓opsD_nil, ↓opsD_cons, footOf, ↓opP, ↓stepP, ↓stepG, go_sem, reduceIte, Nat.reduceAdd, Nat.reduceMul, Nat.reduceEqDiff, Nat.reduceLT, Nat.reduceLeDiff, Nat.reduceSub, reduceCtorEq, Int.reduceToNat, Int.reduceAdd, Int.reduceSub, Int.reduceLT, Int.reduceLE, Int.reduceNeg, Int.reduceBEq, Int.reduceBNe, true_or, resL]; rfl) (by simp only [and_self]) (by simp (dsimp := false) only [↓opsP_nil, ↓opsP_cons, ↓opsD_nil, ↓opsD_cons, footOf, ↓opP, ↓stepP, ↓stepG, go_sem, reduceIte, Nat.reduceAdd, Nat.reduceMul, Nat.reduceEqDiff, Nat.reduceLT, Nat.reduceLeDiff, Nat.reduceSub, reduceCtorEq, Int.reduceToNat, Int.reduceAdd, Int.reduceSub, Int.reduceLT, Int.reduceLE, Int.reduceNeg, Int.reduceBEq, Int.reduceBNe, true_or, resP, Nat.le_refl, List.take_length]; try rfl) ?_)
      rw [← hp]
      simp [subD, subL, subV, vecD, posD]
  · rintro s ⟨acc, ha, hp, rfl⟩
    have c1 := dge (Nat.le_refl bs.length)
    rw [List.drop_length, groupV] at hp
    unfold L52
    repeat' (first
      | ((first | refine Pwp.step (kit _) rfl fun K hK => ?_ | refine Pwp.last (kit _) rfl fun K hK => ?_ | refine Pwp.stepD (kit _) rfl rfl fun K hK => ?_ | refine Pwp.lastD (kit _) rfl rfl fun K hK => ?_); simp (dsimp := false) only [↓opsP_nil, ↓opsP_cons, ↓opsD_nil, ↓opsD_cons, footOf, ↓opP, ↓stepP, ↓stepG, go_sem, reduceIte, Nat.reduceAdd, Nat.reduceMul, Nat.reduceEqDiff, Nat.reduceLT, Nat.reduceLeDiff, Nat.reduceSub, reduceCtorEq, Int.reduceToNat, Int.reduceAdd, Int.reduceSub, Int.reduceLT, Int.reduceLE, Int.reduceNeg, Int.reduceBEq, Int.reduceBNe, true_or, c1, hlen])
      | (refine Pwp.seq ?_)
      | (refine Pwp.block ?_)
      | (refine Pwp.exit ?_; simp only [thenS, blockS, if_true, if_false, reduceIte, Nat.reduceEqDiff, Nat.add_one_ne_zero, reduceCtorEq])
      | (refine Pwp.skip ?_; simp only [thenS, blockS])
      | (refine Pwp.cond rfl True.intro (fun h => ?_) (fun h => ?_) <;> (try (cases h; done)) <;> (try simp only [h]))
      | (refine Pwp.ret ?_; try simp only [thenS, blockS])
      | (refine hK _ ?_; clear hK K)
      | (refine hK _ _ rfl ?_; clear hK K)
      | (refine CallG.off ?_)
      | (with_reducible refine Or.inl ?_)
      | (simp only [thenS, blockS])
      | (with_reducible refine And.intro ?_ ?_)
      | (with_reducible exact True.intro)
      | (simp (dsimp := false) only [↓opsP_nil, ↓opsP_cons, ↓opsD_nil, ↓opsD_cons, footOf, ↓opP, ↓stepP, ↓stepG, go_sem, reduceIte, Nat.reduceAdd, Nat.reduceMul, Nat.reduceEqDiff, Nat.reduceLT, Nat.reduceLeDiff, Nat.reduceSub, reduceCtorEq, Int.reduceToNat, Int.reduceAdd, Int.reduceSub, Int.reduceLT, Int.reduceLE, Int.reduceNeg, Int.reduceBEq, Int.reduceBNe, true_or, c1, hlen]))
    all_goals (try (first | (intro hg; simp_all; done) | (intro hg; simp [hg]; done) | exact of_decide_eq_true rfl | (cases h; done)))
    (refine Fin.data (.inr rfl) (by simp (dsimp := false) only [↓opsP_nil, ↓opsP_cons, ↓opsD_nil, ↓opsD_cons, footOf, ↓opP, ↓stepP, ↓stepG, go_sem, reduceIte, Nat.reduceAdd, Nat.reduceMul, Nat.reduceEqDiff, Nat.reduceLT, Nat.reduceLeDiff, Nat.reduceSub, reduceCtorEq, Int.reduceToNat, Int.reduceAdd, Int.reduceSub, Int.reduceLT, Int.reduceLE, Int.reduceNeg, Int.reduceBEq, Int.reduceBNe, true_or, resL]; rfl) (by simp only [and_self]) (by simp (dsimp := false) only [↓opsP_nil, ↓opsP_cons, ↓opsD_nil, ↓opsD_cons, footOf, ↓opP, ↓stepP, ↓stepG, go_sem, reduceIte, Nat.reduceAdd, Nat.reduceMul, Nat.reduceEqDiff, Nat.reduceLT, Nat.reduceLeDiff, Nat.reduceSub, reduceCtorEq, Int.reduceToNat, Int.reduceAdd, Int.reduceSub, Int.reduceLT, Int.reduceLE, Int.reduceNeg, Int.reduceBEq, Int.reduceBNe, true_or, resP, Nat.le_refl, List.take_length]; try rfl) ?_)
    rw [← hp]
    exact subD_refl _

def pairB (c : Int) (a b : Bk) : Bool := a.1 == b.1 || alikeL (agL a.1 b.1 c a.2) (agL a.1 b.1 c b.2)
def evenB (c : Int) (bs : List Bk) : Bool := bs.all fun a => bs.all (pairB c a)
theorem evenB_no {c : Int} {bs : List Bk} {a b : Bk} (ha : a ∈ bs) (hb : b ∈ bs) (h : pairB c a b = false) : evenB c bs = false := by
  rw [← Bool.not_eq_true]
  intro he
  have := List.all_eq_true.1 (List.all_eq_true.1 he a ha) b hb
  rw [h] at this; cases this
def L51a (c : Int) (bs : List Bk) (i : Nat) : St := ⟨[(13, pint .i64 i), (12, pint .i64 bs.length), (11, .d (.slc 3 (booksD bs))), (1, .d (.slc 3 (booksD bs))), (0, pint .i64 c)], [], 24⟩
def L51b (c : Int) (bs : List Bk) (a : Bk) (i j : Nat) : St := ⟨[(19, pint .i64 j), (18, pint .i64 bs.length), (17, .d (.slc 3 (booksD bs))), (13, pint .i64 i), (12, pint .i64 bs.length), (11, .d (.slc 3 (booksD bs))), (6, .ref 30 0), (1, .d (.slc 3 (booksD bs))), (0, pint .i64 c)], [(30, .box [.d (I64 a.1), .d (.slc 8 (itemsD a.2)), .d (.slc 3 [])])], 56⟩
set_option maxHeartbeats 8000000 in
theorem run51 (c : Int) (bs : List Bk) (hl : bs.length ≤ 1000) (hb : ∀ b ∈ bs, okBk b) : Runs Try.prog 51 [pint .i64 c, .d (.slc 3 (booksD bs))] [] (pbool (evenB c bs)) [] := by
  have hlen := books_len bs
  refine Runs.of (kit Try.prog) Try.func51 rfl rfl (by rw [Try.ntmps51]; exact of_decide_eq_true rfl) ?_; rw [Try.ntmps51, Try.results51]
  repeat' (first
    | ((first | refine Pwp.step (kit _) rfl fun K hK => ?_ | refine Pwp.last (kit _) rfl fun K hK => ?_ | refine Pwp.stepD (kit _) rfl rfl fun K hK => ?_ | refine Pwp.lastD (kit _) rfl rfl fun K hK => ?_); simp (dsimp := false) only [↓opsP_nil, ↓opsP_cons, ↓opsD_nil, ↓opsD_cons, footOf, ↓opP, ↓stepP, ↓stepG, go_sem, reduceIte, Nat.reduceAdd, Nat.reduceMul, Nat.reduceEqDiff, Nat.reduceLT, Nat.reduceLeDiff, Nat.reduceSub, reduceCtorEq, Int.reduceToNat, Int.reduceAdd, Int.reduceSub, Int.reduceLT, Int.reduceLE, Int.reduceNeg, Int.reduceBEq, Int.reduceBNe, true_or, hlen])
    | (refine Pwp.seq ?_)
    | (refine Pwp.block ?_)
    | (refine Pwp.exit ?_; simp only [thenS, blockS, if_true, if_false, reduceIte, Nat.reduceEqDiff, Nat.add_one_ne_zero, reduceCtorEq])
    | (refine Pwp.skip ?_; simp only [thenS, blockS])
    | (refine Pwp.cond rfl True.intro (fun h => ?_) (fun h => ?_) <;> (try (cases h; done)) <;> (try simp only [h]))
    | (refine Pwp.ret ?_; try simp only [thenS, blockS])
    | (refine hK _ ?_; clear hK K)
    | (refine hK _ _ rfl ?_; clear hK K)
    | (refine CallG.off ?_)
    | (with_reducible refine Or.inl ?_)
    | (simp only [thenS, blockS])
    | (with_reducible refine And.intro ?_ ?_)
    | (with_reducible exact True.intro)
    | (simp (dsimp := false) only [↓opsP_nil, ↓opsP_cons, ↓opsD_nil, ↓opsD_cons, footOf, ↓opP, ↓stepP, ↓stepG, go_sem, reduceIte, Nat.reduceAdd, Nat.reduceMul, Nat.reduceEqDiff, Nat.reduceLT, Nat.reduceLeDiff, Nat.reduceSub, reduceCtorEq, Int.reduceToNat, Int.reduceAdd, Int.reduceSub, Int.reduceLT, Int.reduceLE, Int.reduceNeg, Int.reduceBEq, Int.reduceBNe, true_or, hlen]))
  all_goals (try (first | (intro hg; simp_all; done) | (intro hg; simp [hg]; done) | exact of_decide_eq_true rfl | (cases h; done)))
  refine Pwp.rangeI bs.length (fun i s => ((bs.take i).all fun a => bs.all (pairB c a)) = true ∧ s = L51a c bs i) (s0 := L51a c bs 0) (Sub.view V0 (by simp [L51a]) rfl (by simp [viewH, viewP, viewL, viewO, V0, V9, V9n, VR, VN, keptOf, find, PVal.toD, subD, subL, subV, subD_refl, viewL_ds, disj, PVal.ids, pnil, List.range, List.range.loop, L51a, hlen]) (by simp [viewT, St.ev, viewH, viewP, viewL, viewO, V0, V9, V9n, VR, VN, keptOf, find, PVal.toD, subD, subL, subV, subD_refl, viewL_ds, disj, PVal.ids, pnil, List.range, List.range.loop, L51a, hlen])) ⟨rfl, rfl⟩ ?_ ?_
  · rintro i s hi ⟨hpre, rfl⟩
    obtain ⟨a, hx, hma⟩ := at_lt hi
    obtain ⟨ha1, ha2⟩ := hb a hma
    have hg := books_get hx
    have c1 := dlt hi
    have w := wrap_succ (i := i) (by omega)
    unfold L51a
    repeat' (first
      | ((first | refine Pwp.step (kit _) rfl fun K hK => ?_ | refine Pwp.last (kit _) rfl fun K hK => ?_ | refine Pwp.stepD (kit _) rfl rfl fun K hK => ?_ | refine Pwp.lastD (kit _) rfl rfl fun K hK => ?_); simp (dsimp := false) only [↓opsP_nil, ↓opsP_cons, ↓opsD_nil, ↓opsD_cons, footOf, ↓opP, ↓stepP, ↓stepG, go_sem, reduceIte, Nat.reduceAdd, Nat.reduceMul, Nat.reduceEqDiff, Nat.reduceLT, Nat.reduceLeDiff, Nat.reduceSub, reduceCtorEq, Int.reduceToNat, Int.reduceAdd, Int.reduceSub, Int.reduceLT, Int.reduceLE, Int.reduceNeg, Int.reduceBEq, Int.reduceBNe, true_or, hg, c1, hlen])
      | (refine Pwp.seq ?_)
      | (refine Pwp.block ?_)
      | (refine Pwp.exit ?_; simp only [thenS, blockS, if_true, if_false, reduceIte, Nat.reduceEqDiff, Nat.add_one_ne_zero, reduceCtorEq])
      | (refine Pwp.skip ?_; simp only [thenS, blockS])
      | (refine Pwp.cond rfl True.intro (fun h => ?_) (fun h => ?_) <;> (try (cases h; done)) <;> (try simp only [h]))
      | (refine Pwp.ret ?_; try simp only [thenS, blockS])
      | (refine hK _ ?_; clear hK K)
      | (refine hK _ _ rfl ?_; clear hK K)
      | (refine CallG.off ?_)
      | (with_reducible refine Or.inl ?_)
      | (simp only [thenS, blockS])
      | (with_reducible refine And.intro ?_ ?_)
      | (with_reducible exact True.intro)
      | (simp (dsimp := false) only [↓opsP_nil, ↓opsP_cons, ↓opsD_nil, ↓opsD_cons, footOf, ↓opP, ↓stepP, ↓stepG, go_sem, reduceIte, Nat.reduceAdd, Nat.reduceMul, Nat.reduceEqDiff, Nat.reduceLT, Nat.reduceLeDiff, Nat.reduceSub, reduceCtorEq, Int.reduceToNat, Int.reduceAdd, Int.reduceSub, Int.reduceLT, Int.reduceLE, Int.reduceNeg, Int.reduceBEq, Int.reduceBNe, true_or, hg, c1, hlen]))
    all_goals (try (first | (intro hg; simp_all; done) | (intro hg; simp [hg]; done) | exact of_decide_eq_true rfl | (cases h; done)))
    refine Pwp.rangeI bs.length (fun j s => ((bs.take j).all (pairB c a)) = true ∧ s = L51b c bs a i j) (s0 := L51b c bs a i 0) (Sub.view V0 (by simp [L51b]) rfl (by simp [viewH, viewP, viewL, viewO, V0, V9, V9n, VR, VN, keptOf, find, PVal.toD, subD, subL, subV, subD_refl, viewL_ds, disj, PVal.ids, pnil, List.range, List.range.loop, L51b, hlen]) (by simp [viewT, St.ev, viewH, viewP, viewL, viewO, V0, V9, V9n, VR, VN, keptOf, find, PVal.toD, subD, subL, subV, subD_refl, viewL_ds, disj, PVal.ids, pnil, List.range, List.range.loop, L51b, hlen])) ⟨rfl, rfl⟩ ?_ ?_
    · rintro j s hj ⟨hpj, rfl⟩
      obtain ⟨b, hy, hmb⟩ := at_lt hj
      obtain ⟨hb1, hb2⟩ := hb b hmb
      have hgb := books_get hy
      have c2 := dlt hj
      have w2 := wrap_succ (i := j) (by omega)
      have hsucc : ((bs.take (j + 1)).all (pairB c a)) = pairB c a b := by
        rw [List.take_add_one, hy, List.all_append, hpj]; simp
      have r48 := run48F a.1 b.1 c a.2 b.2 ha1 hb1 ha2 hb2
      unfold L51b
      cases hme : (a.1 == b.1) with
      | true =>
        repeat' (first
          | ((first | refine Pwp.step (kit _) rfl fun K hK => ?_ | refine Pwp.last (kit _) rfl fun K hK => ?_ | refine Pwp.stepD (kit _) rfl rfl fun K hK => ?_ | refine Pwp.lastD (kit _) rfl rfl fun K hK => ?_); simp (dsimp := false) only [↓opsP_nil, ↓opsP_cons, ↓opsD_nil, ↓opsD_cons, footOf, ↓opP, ↓stepP, ↓stepG, go_sem, reduceIte, Nat.reduceAdd, Nat.reduceMul, Nat.reduceEqDiff, Nat.reduceLT, Nat.reduceLeDiff, Nat.reduceSub, reduceCtorEq, Int.reduceToNat, Int.reduceAdd, Int.reduceSub, Int.reduceLT, Int.reduceLE, Int.reduceNeg, Int.reduceBEq, Int.reduceBNe, true_or, hgb, c2, w2, hlen, hme])
          | (refine Pwp.seq ?_)
          | (refine Pwp.block ?_)
          | (refine Pwp.exit ?_; simp only [thenS, blockS, if_true, if_false, reduceIte, Nat.reduceEqDiff, Nat.add_one_ne_zero, reduceCtorEq])
          | (refine Pwp.skip ?_; simp only [thenS, blockS])
          | (refine Pwp.cond rfl True.intro (fun h => ?_) (fun h => ?_) <;> (try (cases h; done)) <;> (try simp only [h]))
          | (refine Pwp.ret ?_; try simp only [thenS, blockS])
          | (refine hK _ ?_; clear hK K)
          | (refine hK _ _ rfl ?_; clear hK K)
          | (refine CallG.off ?_)
          | (with_reducible refine Or.inl ?_)
          | (simp only [thenS, blockS])
          | (with_reducible refine And.intro ?_ ?_)
          | (with_reducible exact True.intro)
          | (simp (dsimp := false) only [↓opsP_nil, ↓opsP_cons, ↓opsD_nil, ↓opsD_cons, footOf, ↓opP, ↓stepP, ↓stepG, go_sem, reduceIte, Nat.reduceAdd, Nat.reduceMul, Nat.reduceEqDiff, Nat.reduceLT, Nat.reduceLeDiff, Nat.reduceSub, reduceCtorEq, Int.reduceToNat, Int.reduceAdd, Int.reduceSub, Int.reduceLT, Int.reduceLE, Int.reduceNeg, Int.reduceBEq, Int.reduceBNe, true_or, hgb, c2, w2, hlen, hme]))
        all_goals (try (first | (intro hg; simp_all; done) | (intro hg; simp [hg]; done) | exact of_decide_eq_true rfl | (cases h; done)))
        exact ⟨_, Sub.view V0 (by simp [L51b]) rfl (by simp [viewH, viewP, viewL, viewO, V0, V9, V9n, VR, VN, keptOf, find, PVal.toD, subD, subL, subV, subD_refl, viewL_ds, disj, PVal.ids, pnil, List.range, List.range.loop, L51b]) (by simp [viewT, St.ev, viewH, viewP, viewL, viewO, V0, V9, V9n, VR, VN, keptOf, find, PVal.toD, subD, subL, subV, subD_refl, viewL_ds, disj, PVal.ids, pnil, List.range, List.range.loop, L51b]), by rw [hsucc, pairB, hme]; rfl, rfl⟩
      | false =>
        cases hal : alikeL (agL a.1 b.1 c a.2) (agL a.1 b.1 c b.2) with
        | true =>
          rw [hal] at r48
          repeat' (first
            | ((first | refine Pwp.step (kit _) rfl fun K hK => ?_ | refine Pwp.last (kit _) rfl fun K hK => ?_ | refine Pwp.stepD (kit _) rfl rfl fun K hK => ?_ | refine Pwp.lastD (kit _) rfl rfl fun K hK => ?_); simp (dsimp := false) only [↓opsP_nil, ↓opsP_cons, ↓opsD_nil, ↓opsD_cons, footOf, ↓opP, ↓stepP, ↓stepG, go_sem, reduceIte, Nat.reduceAdd, Nat.reduceMul, Nat.reduceEqDiff, Nat.reduceLT, Nat.reduceLeDiff, Nat.reduceSub, reduceCtorEq, Int.reduceToNat, Int.reduceAdd, Int.reduceSub, Int.reduceLT, Int.reduceLE, Int.reduceNeg, Int.reduceBEq, Int.reduceBNe, true_or, hgb, c2, w2, hlen, hme, pairD])
            | (refine Pwp.seq ?_)
            | (refine Pwp.block ?_)
            | (refine Pwp.exit ?_; simp only [thenS, blockS, if_true, if_false, reduceIte, Nat.reduceEqDiff, Nat.add_one_ne_zero, reduceCtorEq])
            | (refine Pwp.skip ?_; simp only [thenS, blockS])
            | (refine Pwp.cond rfl True.intro (fun h => ?_) (fun h => ?_) <;> (try (cases h; done)) <;> (try simp only [h]))
            | (refine Pwp.ret ?_; try simp only [thenS, blockS])
            | (refine hK _ ?_; clear hK K)
            | (refine hK _ _ rfl ?_; clear hK K)
            | (refine CallK.give (ds := [bookD a.1 a.2 [], bookD b.1 b.2 [], I64 c]) rfl (r48) (by simp) ?_)
            | (refine CallG.off ?_)
            | (with_reducible refine Or.inl ?_)
            | (simp only [thenS, blockS])
            | (with_reducible refine And.intro ?_ ?_)
            | (with_reducible exact True.intro)
            | (simp (dsimp := false) only [↓opsP_nil, ↓opsP_cons, ↓opsD_nil, ↓opsD_cons, footOf, ↓opP, ↓stepP, ↓stepG, go_sem, reduceIte, Nat.reduceAdd, Nat.reduceMul, Nat.reduceEqDiff, Nat.reduceLT, Nat.reduceLeDiff, Nat.reduceSub, reduceCtorEq, Int.reduceToNat, Int.reduceAdd, Int.reduceSub, Int.reduceLT, Int.reduceLE, Int.reduceNeg, Int.reduceBEq, Int.reduceBNe, true_or, hgb, c2, w2, hlen, hme, pairD]))
          all_goals (try (first | (intro hg; simp_all; done) | (intro hg; simp [hg]; done) | exact of_decide_eq_true rfl | (cases h; done)))
          exact ⟨_, Sub.view V0 (by simp [L51b]) rfl (by simp [viewH, viewP, viewL, viewO, V0, V9, V9n, VR, VN, keptOf, find, PVal.toD, subD, subL, subV, subD_refl, viewL_ds, disj, PVal.ids, pnil, List.range, List.range.loop, L51b]) (by simp [viewT, St.ev, viewH, viewP, viewL, viewO, V0, V9, V9n, VR, VN, keptOf, find, PVal.toD, subD, subL, subV, subD_refl, viewL_ds, disj, PVal.ids, pnil, List.range, List.range.loop, L51b]), by rw [hsucc, pairB, hal, Bool.or_true], rfl⟩
        | false =>
          rw [hal] at r48
          have hno := evenB_no hma hmb (show pairB c a b = false by rw [pairB, hme, hal]; rfl)
          repeat' (first
            | ((first | refine Pwp.step (kit _) rfl fun K hK => ?_ | refine Pwp.last (kit _) rfl fun K hK => ?_ | refine Pwp.stepD (kit _) rfl rfl fun K hK => ?_ | refine Pwp.lastD (kit _) rfl rfl fun K hK => ?_); simp (dsimp := false) only [↓opsP_nil, ↓opsP_cons, ↓opsD_nil, ↓opsD_cons, footOf, ↓opP, ↓stepP, ↓stepG, go_sem, reduceIte, Nat.reduceAdd, Nat.reduceMul, Nat.reduceEqDiff, Nat.reduceLT, Nat.reduceLeDiff, Nat.reduceSub, reduceCtorEq, Int.reduceToNat, Int.reduceAdd, Int.reduceSub, Int.reduceLT, Int.reduceLE, Int.reduceNeg, Int.reduceBEq, Int.reduceBNe, true_or, hgb, c2, w2, hlen, hme, pairD])
            | (refine Pwp.seq ?_)
            | (refine Pwp.block ?_)
            | (refine Pwp.exit ?_; simp only [thenS, blockS, if_true, if_false, reduceIte, Nat.reduceEqDiff, Nat.add_one_ne_zero, reduceCtorEq])
            | (refine Pwp.skip ?_; simp only [thenS, blockS])
            | (refine Pwp.cond rfl True.intro (fun h => ?_) (fun h => ?_) <;> (try (cases h; done)) <;> (try simp only [h]))
            | (refine Pwp.ret ?_; try simp only [thenS, blockS])
            | (refine hK _ ?_; clear hK K)
            | (refine hK _ _ rfl ?_; clear hK K)
            | (refine CallK.give (ds := [bookD a.1 a.2 [], bookD b.1 b.2 [], I64 c]) rfl (r48) (by simp) ?_)
            | (refine CallG.off ?_)
            | (with_reducible refine Or.inl ?_)
            | (simp only [thenS, blockS])
            | (with_reducible refine And.intro ?_ ?_)
            | (with_reducible exact True.intro)
            | (simp (dsimp := false) only [↓opsP_nil, ↓opsP_cons, ↓opsD_nil, ↓opsD_cons, footOf, ↓opP, ↓stepP, ↓stepG, go_sem, reduceIte, Nat.reduceAdd, Nat.reduceMul, Nat.reduceEqDiff, Nat.reduceLT, Nat.reduceLeDiff, Nat.reduceSub, reduceCtorEq, Int.reduceToNat, Int.reduceAdd, Int.reduceSub, Int.reduceLT, Int.reduceLE, Int.reduceNeg, Int.reduceBEq, Int.reduceBNe, true_or, hgb, c2, w2, hlen, hme, pairD]))
          all_goals (try (first | (intro hg; simp_all; done) | (intro hg; simp [hg]; done) | exact of_decide_eq_true rfl | (cases h; done)))
          (refine Fin.data (.inr rfl) (by simp (dsimp := false) only [↓opsP_nil, ↓opsP_cons, ↓opsD_nil, ↓opsD_cons, footOf, ↓opP, ↓stepP, ↓stepG, go_sem, reduceIte, Nat.reduceAdd, Nat.reduceMul, Nat.reduceEqDiff, Nat.reduceLT, Nat.reduceLeDiff, Nat.reduceSub, reduceCtorEq, Int.reduceToNat, Int.reduceAdd, Int.reduceSub, Int.reduceLT, Int.reduceLE, Int.reduceNeg, Int.reduceBEq, Int.reduceBNe, true_or, resL]; rfl) (by simp only [and_self]) (by simp (dsimp := false) only [↓opsP_nil, ↓opsP_cons, ↓opsD_nil, ↓opsD_cons, footOf, ↓opP, ↓stepP, ↓stepG, go_sem, reduceIte, Nat.reduceAdd, Nat.reduceMul, Nat.reduceEqDiff, Nat.reduceLT, Nat.reduceLeDiff, Nat.reduceSub, reduceCtorEq, Int.reduceToNat, Int.reduceAdd, Int.reduceSub, Int.reduceLT, Int.reduceLE, Int.reduceNeg, Int.reduceBEq, Int.reduceBNe, true_or, resP, Nat.le_refl, List.take_length]; try rfl) ?_)
          rw [hno]
          exact subD_refl _
    · rintro s ⟨hpj, rfl⟩
      rw [List.take_length] at hpj
      have c2 := dge (Nat.le_refl bs.length)
      unfold L51b
      repeat' (first
        | ((first | refine Pwp.step (kit _) rfl fun K hK => ?_ | refine Pwp.last (kit _) rfl fun K hK => ?_ | refine Pwp.stepD (kit _) rfl rfl fun K hK => ?_ | refine Pwp.lastD (kit _) rfl rfl fun K hK => ?_); simp (dsimp := false) only [↓opsP_nil, ↓opsP_cons, ↓opsD_nil, ↓opsD_cons, footOf, ↓opP, ↓stepP, ↓stepG, go_sem, reduceIte, Nat.reduceAdd, Nat.reduceMul, Nat.reduceEqDiff, Nat.reduceLT, Nat.reduceLeDiff, Nat.reduceSub, reduceCtorEq, Int.reduceToNat, Int.reduceAdd, Int.reduceSub, Int.reduceLT, Int.reduceLE, Int.reduceNeg, Int.reduceBEq, Int.reduceBNe, true_or, c2, w, hlen])
        | (refine Pwp.seq ?_)
        | (refine Pwp.block ?_)
        | (refine Pwp.exit ?_; simp only [thenS, blockS, if_true, if_false, reduceIte, Nat.reduceEqDiff, Nat.add_one_ne_zero, reduceCtorEq])
        | (refine Pwp.skip ?_; simp only [thenS, blockS])
        | (refine Pwp.cond rfl True.intro (fun h => ?_) (fun h => ?_) <;> (try (cases h; done)) <;> (try simp only [h]))
        | (refine Pwp.ret ?_; try simp only [thenS, blockS])
        | (refine hK _ ?_; clear hK K)
        | (refine hK _ _ rfl ?_; clear hK K)
        | (refine CallG.off ?_)
        | (with_reducible refine Or.inl ?_)
        | (simp only [thenS, blockS])
        | (with_reducible refine And.intro ?_ ?_)
        | (with_reducible exact True.intro)
        | (simp (dsimp := false) only [↓opsP_nil, ↓opsP_cons, ↓opsD_nil, ↓opsD_cons, footOf, ↓opP, ↓stepP, ↓stepG, go_sem, reduceIte, Nat.reduceAdd, Nat.reduceMul, Nat.reduceEqDiff, Nat.reduceLT, Nat.reduceLeDiff, Nat.reduceSub, reduceCtorEq, Int.reduceToNat, Int.reduceAdd, Int.reduceSub, Int.reduceLT, Int.reduceLE, Int.reduceNeg, Int.reduceBEq, Int.reduceBNe, true_or, c2, w, hlen]))
      all_goals (try (first | (intro hg; simp_all; done) | (intro hg; simp [hg]; done) | exact of_decide_eq_true rfl | (cases h; done)))
      refine ⟨_, Sub.view V0 (by simp [L51a]) rfl (by simp [viewH, viewP, viewL, viewO, V0, V9, V9n, VR, VN, keptOf, find, PVal.toD, subD, subL, subV, subD_refl, viewL_ds, disj, PVal.ids, pnil, List.range, List.range.loop, L51a]) (by simp [viewT, St.ev, viewH, viewP, viewL, viewO, V0, V9, V9n, VR, VN, keptOf, find, PVal.toD, subD, subL, subV, subD_refl, viewL_ds, disj, PVal.ids, pnil, List.range, List.range.loop, L51a]), ?_, rfl⟩
      rw [List.take_add_one, hx, List.all_append, hpre]; simp [hpj]
  · rintro s ⟨hpre, rfl⟩
    rw [List.take_length] at hpre
    have c1 := dge (Nat.le_refl bs.length)
    have he : evenB c bs = true := hpre
    unfold L51a
    repeat' (first
      | ((first | refine Pwp.step (kit _) rfl fun K hK => ?_ | refine Pwp.last (kit _) rfl fun K hK => ?_ | refine Pwp.stepD (kit _) rfl rfl fun K hK => ?_ | refine Pwp.lastD (kit _) rfl rfl fun K hK => ?_); simp (dsimp := false) only [↓opsP_nil, ↓opsP_cons, ↓opsD_nil, ↓opsD_cons, footOf, ↓opP, ↓stepP, ↓stepG, go_sem, reduceIte, Nat.reduceAdd, Nat.reduceMul, Nat.reduceEqDiff, Nat.reduceLT, Nat.reduceLeDiff, Nat.reduceSub, reduceCtorEq, Int.reduceToNat, Int.reduceAdd, Int.reduceSub, Int.reduceLT, Int.reduceLE, Int.reduceNeg, Int.reduceBEq, Int.reduceBNe, true_or, c1, hlen])
      | (refine Pwp.seq ?_)
      | (refine Pwp.block ?_)
      | (refine Pwp.exit ?_; simp only [thenS, blockS, if_true, if_false, reduceIte, Nat.reduceEqDiff, Nat.add_one_ne_zero, reduceCtorEq])
      | (refine Pwp.skip ?_; simp only [thenS, blockS])
      | (refine Pwp.cond rfl True.intro (fun h => ?_) (fun h => ?_) <;> (try (cases h; done)) <;> (try simp only [h]))
      | (refine Pwp.ret ?_; try simp only [thenS, blockS])
      | (refine hK _ ?_; clear hK K)
      | (refine hK _ _ rfl ?_; clear hK K)
      | (refine CallG.off ?_)
      | (with_reducible refine Or.inl ?_)
      | (simp only [thenS, blockS])
      | (with_reducible refine And.intro ?_ ?_)
      | (with_reducible exact True.intro)
      | (simp (dsimp := false) only [↓opsP_nil, ↓opsP_cons, ↓opsD_nil, ↓opsD_cons, footOf, ↓opP, ↓stepP, ↓stepG, go_sem, reduceIte, Nat.reduceAdd, Nat.reduceMul, Nat.reduceEqDiff, Nat.reduceLT, Nat.reduceLeDiff, Nat.reduceSub, reduceCtorEq, Int.reduceToNat, Int.reduceAdd, Int.reduceSub, Int.reduceLT, Int.reduceLE, Int.reduceNeg, Int.reduceBEq, Int.reduceBNe, true_or, c1, hlen]))
    all_goals (try (first | (intro hg; simp_all; done) | (intro hg; simp [hg]; done) | exact of_decide_eq_true rfl | (cases h; done)))
    (refine Fin.data (.inr rfl) (by simp (dsimp := false) only [↓opsP_nil, ↓opsP_cons, ↓opsD_nil, ↓opsD_cons, footOf, ↓opP, ↓stepP, ↓stepG, go_sem, reduceIte, Nat.reduceAdd, Nat.reduceMul, Nat.reduceEqDiff, Nat.reduceLT, Nat.reduceLeDiff, Nat.reduceSub, reduceCtorEq, Int.reduceToNat, Int.reduceAdd, Int.reduceSub, Int.reduceLT, Int.reduceLE, Int.reduceNeg, Int.reduceBEq, Int.reduceBNe, true_or, resL]; rfl) (by simp only [and_self]) (by simp (dsimp := false) only [↓opsP_nil, ↓opsP_cons, ↓opsD_nil, ↓opsD_cons, footOf, ↓opP, ↓stepP, ↓stepG, go_sem, reduceIte, Nat.reduceAdd, Nat.reduceMul, Nat.reduceEqDiff, Nat.reduceLT, Nat.reduceLeDiff, Nat.reduceSub, reduceCtorEq, Int.reduceToNat, Int.reduceAdd, Int.reduceSub, Int.reduceLT, Int.reduceLE, Int.reduceNeg, Int.reduceBEq, Int.reduceBNe, true_or, resP, Nat.le_refl, List.take_length]; try rfl) ?_)
    rw [he]
    exact subD_refl _

end Go.Proofs.Ytdodgbhodkcckaa.Pv
