/- Walks of books: what is asked, and what is expected. -/
import Derived.Test.YtdodgbhodkcckaaPwf
set_option linter.unusedVariables false
set_option linter.unusedSimpArgs false
set_option autoImplicit false
set_option maxRecDepth 100000
namespace Go.Proofs.Ytdodgbhodkcckaa.Pv
open Go Go.RowKit

def Item.zero : Item := ⟨0, 0, 0, 0, 0, 0, 0, 0⟩
/-- The item of a name. -/
def getI (l : List Item) (s n : Int) : Item := if isIn l s n = true then (l[posOf l s n]?).getD Item.zero else Item.zero

set_option maxHeartbeats 8000000 in
theorem run65 (me : Int) (l : List Item) (os : List D) (s n : Int) (hl : l.length ≤ 1000000) : Runs Try.prog 65 [.d (bookD me l os), .d (.agg [I64 s, I64 n])] [] (.d (.tup [(getI l s n).d, .v (.bool (isIn l s n))])) [] := by
  have hlen := items_len l
  cases hin : isIn l s n with
  | false =>
    unfold bookD I64
    refine Runs.of (kit Try.prog) Try.func65 rfl rfl (by rw [Try.ntmps65]; exact of_decide_eq_true rfl) ?_; rw [Try.ntmps65, Try.results65]
    repeat' (first
      | ((first | refine Pwp.step (kit _) rfl fun K hK => ?_ | refine Pwp.last (kit _) rfl fun K hK => ?_ | refine Pwp.stepD (kit _) rfl rfl fun K hK => ?_ | refine Pwp.lastD (kit _) rfl rfl fun K hK => ?_); simp (dsimp := false) only [↓opsP_nil, ↓opsP_cons, ↓opsD_nil, ↓opsD_cons, ↓opP, ↓stepP, ↓stepG, go_sem, hin])
      | (refine Pwp.seq ?_)
      | (refine Pwp.block ?_)
      | (refine Pwp.exit ?_; simp only [thenS, blockS, if_true, if_false, reduceIte, Nat.reduceEqDiff, Nat.add_one_ne_zero, reduceCtorEq])
      | (refine Pwp.skip ?_; simp only [thenS, blockS])
      | (refine Pwp.cond rfl True.intro (fun h => ?_) (fun h => ?_) <;> (try (cases h; done)) <;> (try simp only [h]))
      | (refine Pwp.ret ?_; try simp only [thenS, blockS])
      | (refine hK _ ?_; clear hK K)
      | (refine hK _ _ rfl ?_; clear hK K)
      | (refine CallK.toD (ds := [.slc 8 (itemsD l), .agg [I64 s, I64 n], .v (.func (.func 114) #[] #[])]) rfl (runFind l s n (by omega)) rfl ?_)
      | (refine CallG.off ?_)
      | (with_reducible refine Or.inl ?_)
      | (simp only [thenS, blockS])
      | (with_reducible refine And.intro ?_ ?_)
      | (with_reducible exact True.intro)
      | (simp (dsimp := false) only [↓opsP_nil, ↓opsP_cons, ↓opsD_nil, ↓opsD_cons, ↓opP, ↓stepP, ↓stepG, go_sem, hin]))
    all_goals (try (first | (intro hg; simp_all; done) | (intro hg; simp [hg]; done) | exact of_decide_eq_true rfl | (cases h; done)))
    all_goals ((refine Fin.data (.inr rfl) (by simp (dsimp := false) only [↓opsP_nil, ↓opsP_cons, ↓opsD_nil, ↓opsD_cons, ↓opP, ↓stepP, ↓stepG, go_sem, resL]; rfl) (by simp only [and_self]) (by simp (dsimp := false) only [↓opsP_nil, ↓opsP_cons, ↓opsD_nil, ↓opsD_cons, ↓opP, ↓stepP, ↓stepG, go_sem, resP, Nat.le_refl, List.take_length]; try rfl) ?_))
    all_goals (simp only [getI, hin, Bool.false_eq_true, if_false]; exact subD_refl _)
  | true =>
    obtain ⟨y, hy⟩ : ∃ y, l[posOf l s n]? = some y := by
      unfold isIn at hin
      simp only [Bool.and_eq_true, decide_eq_true_eq] at hin
      exact ⟨_, List.getElem?_eq_getElem hin.1⟩
    have hg : (itemsD l)[posOf l s n]? = some y.d := by simp [itemsD, hy, Item.d]
    have hlt : posOf l s n < l.length := (List.getElem?_eq_some_iff.1 hy).1
    have hge : getI l s n = y := by simp [getI, hin, hy]
    unfold bookD Item.d Item.cells I64 at *
    refine Runs.of (kit Try.prog) Try.func65 rfl rfl (by rw [Try.ntmps65]; exact of_decide_eq_true rfl) ?_; rw [Try.ntmps65, Try.results65]
    repeat' (first
      | ((first | refine Pwp.step (kit _) rfl fun K hK => ?_ | refine Pwp.last (kit _) rfl fun K hK => ?_ | refine Pwp.stepD (kit _) rfl rfl fun K hK => ?_ | refine Pwp.lastD (kit _) rfl rfl fun K hK => ?_); simp (dsimp := false) only [↓opsP_nil, ↓opsP_cons, ↓opsD_nil, ↓opsD_cons, ↓opP, ↓stepP, ↓stepG, go_sem, hin, hg])
      | (refine Pwp.seq ?_)
      | (refine Pwp.block ?_)
      | (refine Pwp.exit ?_; simp only [thenS, blockS, if_true, if_false, reduceIte, Nat.reduceEqDiff, Nat.add_one_ne_zero, reduceCtorEq])
      | (refine Pwp.skip ?_; simp only [thenS, blockS])
      | (refine Pwp.cond rfl True.intro (fun h => ?_) (fun h => ?_) <;> (try (cases h; done)) <;> (try simp only [h]))
      | (refine Pwp.ret ?_; try simp only [thenS, blockS])
      | (refine hK _ ?_; clear hK K)
      | (refine hK _ _ rfl ?_; clear hK K)
      | (refine CallK.toD (ds := [.slc 8 (itemsD l), .agg [I64 s, I64 n], .v (.func (.func 114) #[] #[])]) rfl (runFind l s n (by omega)) rfl ?_)
      | (refine CallG.off ?_)
      | (with_reducible refine Or.inl ?_)
      | (simp only [thenS, blockS])
      | (with_reducible refine And.intro ?_ ?_)
      | (with_reducible exact True.intro)
      | (simp (dsimp := false) only [↓opsP_nil, ↓opsP_cons, ↓opsD_nil, ↓opsD_cons, ↓opP, ↓stepP, ↓stepG, go_sem, hin, hg]))
    all_goals (try (first | (intro hg; simp_all; done) | (intro hg; simp [hg]; done) | exact of_decide_eq_true rfl | (cases h; done)))
    all_goals (try (first | omega | ((refine Fin.data (.inr rfl) (by simp (dsimp := false) only [↓opsP_nil, ↓opsP_cons, ↓opsD_nil, ↓opsD_cons, ↓opP, ↓stepP, ↓stepG, go_sem, resL]; rfl) (by simp only [and_self]) (by simp (dsimp := false) only [↓opsP_nil, ↓opsP_cons, ↓opsD_nil, ↓opsD_cons, ↓opP, ↓stepP, ↓stepG, go_sem, resP, Nat.le_refl, List.take_length]; try rfl) ?_))))
    all_goals (rw [hge]; exact subD_refl _)

/-- What is expected to be paid. -/
structure Order where
  seller : Int
  number : Int
  amount : Int
deriving DecidableEq
def Order.cells (x : Order) : List D := [I64 x.seller, I64 x.number, I64 x.amount]
def Order.d (x : Order) : D := .agg x.cells
def cmpAtO (l : List Order) (s n : Int) (i : Nat) : Int := match l[i]? with
  | some x => cmpN x.seller x.number s n
  | none => 0
def ordersD (l : List Order) : List D := (l.map Order.cells).map .agg
def posO (l : List Order) (s n : Int) : Nat := bsLoop (cmpAtO l s n) 0 l.length
def isInO (l : List Order) (s n : Int) : Bool := decide (posO l s n < l.length) && (cmpAtO l s n (posO l s n) == 0)
theorem runFindO (l : List Order) (s n : Int) (hl : l.length ≤ 2000000) : Runs Try.prog 165 [.d (.slc 3 (ordersD l)), .d (.agg [I64 s, I64 n]), .d (.v (.func (.func 166) #[] #[]))] [] (.d (.tup [I64 (posO l s n), .v (.bool (isInO l s n))])) [] := by
  have h := run165 (l.map Order.cells) [I64 s, I64 n] 166 (cmpAtO l s n) (by intro x hx; obtain ⟨y, _, rfl⟩ := List.mem_map.1 hx; rfl) rfl (by simp; omega) (by
    intro i x hx
    obtain ⟨y, hy, rfl⟩ : ∃ y, l[i]? = some y ∧ Order.cells y = x := by simpa using hx
    have : cmpAtO l s n i = cmpN y.seller y.number s n := by simp only [cmpAtO, hy]
    rw [this]; exact run166 y.seller y.number y.amount s n)
  simp only [List.length_map] at h
  exact h
theorem orders_one (l : List Order) : ∀ d ∈ ordersD l, d.cells.all D.one = true := by
  intro d hd
  simp only [ordersD, List.mem_map] at hd
  obtain ⟨_, ⟨x, _, rfl⟩, rfl⟩ := hd
  rfl
theorem orders_len (l : List Order) : (ordersD l).length = l.length := by simp [ordersD]
theorem orders_ins (l : List Order) (x : Order) (p : Nat) : ordersD (l.take p ++ x :: l.drop p) = (ordersD l).take p ++ x.d :: (ordersD l).drop p := by simp [ordersD, Order.d, List.map_take, List.map_drop]
theorem orders_set (l : List Order) (x : Order) (p : Nat) : ordersD (l.set p x) = (ordersD l).set p x.d := by simp [ordersD, Order.d, List.map_set]
theorem posO_le (l : List Order) (s n : Int) : posO l s n ≤ l.length := bsLoop_le _ _ 0 l.length rfl (Nat.zero_le _)
def bookO (me : Int) (is : List D) (l : List Order) : D := .agg [I64 me, .slc 8 is, .slc 3 (ordersD l)]
def putO (l : List Order) (x : Order) : List Order := if isInO l x.seller x.number = true then (match l[posO l x.seller x.number]? with
  | some y => l.set (posO l x.seller x.number) ⟨y.seller, y.number, x.amount⟩
  | none => l) else l.take (posO l x.seller x.number) ++ x :: l.drop (posO l x.seller x.number)
/-- What a book answers to what is expected. -/
def expE (me : Int) (l : List Order) (x : Order) : Int :=
  if (decide (x.seller < 0) || decide (8 ≤ x.seller) || x.seller == me || decide (x.number < 1) || decide (1048576 < x.number)) = true then 1 else if (decide (x.amount < 1) || decide (1125899906842624 < x.amount)) = true then 1
  else if (!isInO l x.seller x.number && decide (1024 ≤ (l.length : Int))) = true then 3 else 0
def getO (l : List Order) (s n : Int) : Int := if isInO l s n = true then (match l[posO l s n]? with | some x => x.amount | none => 0) else 0

set_option maxHeartbeats 8000000 in
theorem run107 (me : Int) (is : List D) (l : List Order) (s n : Int) (hl : l.length ≤ 1000000) : Runs Try.prog 107 [.d (bookO me is l), .d (.agg [I64 s, I64 n])] [] (.d (.tup [I64 (getO l s n), .v (.bool (isInO l s n))])) [] := by
  have hlen := orders_len l
  cases hin : isInO l s n with
  | false =>
    unfold bookO I64
    refine Runs.of (kit Try.prog) Try.func107 rfl rfl (by rw [Try.ntmps107]; exact of_decide_eq_true rfl) ?_; rw [Try.ntmps107, Try.results107]
    repeat' (first
      | ((first | refine Pwp.step (kit _) rfl fun K hK => ?_ | refine Pwp.last (kit _) rfl fun K hK => ?_ | refine Pwp.stepD (kit _) rfl rfl fun K hK => ?_ | refine Pwp.lastD (kit _) rfl rfl fun K hK => ?_); simp (dsimp := false) only [↓opsP_nil, ↓opsP_cons, ↓opsD_nil, ↓opsD_cons, ↓opP, ↓stepP, ↓stepG, go_sem, hin])
      | (refine Pwp.seq ?_)
      | (refine Pwp.block ?_)
      | (refine Pwp.exit ?_; simp only [thenS, blockS, if_true, if_false, reduceIte, Nat.reduceEqDiff, Nat.add_one_ne_zero, reduceCtorEq])
      | (refine Pwp.skip ?_; simp only [thenS, blockS])
      | (refine Pwp.cond rfl True.intro (fun h => ?_) (fun h => ?_) <;> (try (cases h; done)) <;> (try simp only [h]))
      | (refine Pwp.ret ?_; try simp only [thenS, blockS])
      | (refine hK _ ?_; clear hK K)
      | (refine hK _ _ rfl ?_; clear hK K)
      | (refine CallK.toD (ds := [.slc 3 (ordersD l), .agg [I64 s, I64 n], .v (.func (.func 166) #[] #[])]) rfl (runFindO l s n (by omega)) rfl ?_)
      | (refine CallG.off ?_)
      | (with_reducible refine Or.inl ?_)
      | (simp only [thenS, blockS])
      | (with_reducible refine And.intro ?_ ?_)
      | (with_reducible exact True.intro)
      | (simp (dsimp := false) only [↓opsP_nil, ↓opsP_cons, ↓opsD_nil, ↓opsD_cons, ↓opP, ↓stepP, ↓stepG, go_sem, hin]))
    all_goals (try (first | (intro hg; simp_all; done) | (intro hg; simp [hg]; done) | exact of_decide_eq_true rfl | (cases h; done)))
    all_goals ((refine Fin.data (.inr rfl) (by simp (dsimp := false) only [↓opsP_nil, ↓opsP_cons, ↓opsD_nil, ↓opsD_cons, ↓opP, ↓stepP, ↓stepG, go_sem, resL]; rfl) (by simp only [and_self]) (by simp (dsimp := false) only [↓opsP_nil, ↓opsP_cons, ↓opsD_nil, ↓opsD_cons, ↓opP, ↓stepP, ↓stepG, go_sem, resP, Nat.le_refl, List.take_length]; try rfl) ?_))
    all_goals (simp only [getO, hin, Bool.false_eq_true, if_false]; exact subD_refl _)
  | true =>
    obtain ⟨y, hy⟩ : ∃ y, l[posO l s n]? = some y := by
      unfold isInO at hin
      simp only [Bool.and_eq_true, decide_eq_true_eq] at hin
      exact ⟨_, List.getElem?_eq_getElem hin.1⟩
    have hg : (ordersD l)[posO l s n]? = some y.d := by simp [ordersD, hy, Order.d]
    have hlt : posO l s n < l.length := (List.getElem?_eq_some_iff.1 hy).1
    have hge : getO l s n = y.amount := by simp [getO, hin, hy]
    unfold bookO Order.d Order.cells I64 at *
    refine Runs.of (kit Try.prog) Try.func107 rfl rfl (by rw [Try.ntmps107]; exact of_decide_eq_true rfl) ?_; rw [Try.ntmps107, Try.results107]
    repeat' (first
      | ((first | refine Pwp.step (kit _) rfl fun K hK => ?_ | refine Pwp.last (kit _) rfl fun K hK => ?_ | refine Pwp.stepD (kit _) rfl rfl fun K hK => ?_ | refine Pwp.lastD (kit _) rfl rfl fun K hK => ?_); simp (dsimp := false) only [↓opsP_nil, ↓opsP_cons, ↓opsD_nil, ↓opsD_cons, ↓opP, ↓stepP, ↓stepG, go_sem, hin, hg])
      | (refine Pwp.seq ?_)
      | (refine Pwp.block ?_)
      | (refine Pwp.exit ?_; simp only [thenS, blockS, if_true, if_false, reduceIte, Nat.reduceEqDiff, Nat.add_one_ne_zero, reduceCtorEq])
      | (refine Pwp.skip ?_; simp only [thenS, blockS])
      | (refine Pwp.cond rfl True.intro (fun h => ?_) (fun h => ?_) <;> (try (cases h; done)) <;> (try simp only [h]))
      | (refine Pwp.ret ?_; try simp only [thenS, blockS])
      | (refine hK _ ?_; clear hK K)
      | (refine hK _ _ rfl ?_; clear hK K)
      | (refine CallK.toD (ds := [.slc 3 (ordersD l), .agg [I64 s, I64 n], .v (.func (.func 166) #[] #[])]) rfl (runFindO l s n (by omega)) rfl ?_)
      | (refine CallG.off ?_)
      | (with_reducible refine Or.inl ?_)
      | (simp only [thenS, blockS])
      | (with_reducible refine And.intro ?_ ?_)
      | (with_reducible exact True.intro)
      | (simp (dsimp := false) only [↓opsP_nil, ↓opsP_cons, ↓opsD_nil, ↓opsD_cons, ↓opP, ↓stepP, ↓stepG, go_sem, hin, hg]))
    all_goals (try (first | (intro hg; simp_all; done) | (intro hg; simp [hg]; done) | exact of_decide_eq_true rfl | (cases h; done)))
    all_goals (try (first | omega | ((refine Fin.data (.inr rfl) (by simp (dsimp := false) only [↓opsP_nil, ↓opsP_cons, ↓opsD_nil, ↓opsD_cons, ↓opP, ↓stepP, ↓stepG, go_sem, resL]; rfl) (by simp only [and_self]) (by simp (dsimp := false) only [↓opsP_nil, ↓opsP_cons, ↓opsD_nil, ↓opsD_cons, ↓opP, ↓stepP, ↓stepG, go_sem, resP, Nat.le_refl, List.take_length]; try rfl) ?_))))
    all_goals (rw [hge]; exact subD_refl _)

set_option maxHeartbeats 8000000 in
theorem run106 (me : Int) (is : List D) (l : List Order) (x : Order) (hl : l.length ≤ 1000000) : Runs Try.prog 106 [.d (bookO me is l), .d (.agg [I64 x.seller, I64 x.number]), pint .i64 x.amount] [] (.d (.tup [if expE me l x = 0 then bookO me is (putO l x) else bookO me is l, I64 (expE me l x)])) [] := by
  have hlen := orders_len l
  have hone := orders_one l
  have hp := posO_le l x.seller x.number
  have htk2 : (ordersD l).take l.length = ordersD l := List.take_of_length_le (by simp [hlen])
  cases hin : isInO l x.seller x.number with
  | false =>
    unfold bookO I64
    refine Runs.of (kit Try.prog) Try.func106 rfl rfl (by rw [Try.ntmps106]; exact of_decide_eq_true rfl) ?_; rw [Try.ntmps106, Try.results106]
    repeat' (first
      | ((first | refine Pwp.step (kit _) rfl fun K hK => ?_ | refine Pwp.last (kit _) rfl fun K hK => ?_ | refine Pwp.stepD (kit _) rfl rfl fun K hK => ?_ | refine Pwp.lastD (kit _) rfl rfl fun K hK => ?_); simp (dsimp := false) only [↓opsP_nil, ↓opsP_cons, ↓opsD_nil, ↓opsD_cons, ↓opP, ↓stepP, ↓stepG, go_sem, Order.d, Order.cells, hin])
      | (refine Pwp.seq ?_)
      | (refine Pwp.block ?_)
      | (refine Pwp.exit ?_; simp only [thenS, blockS, if_true, if_false, reduceIte, Nat.reduceEqDiff, Nat.add_one_ne_zero, reduceCtorEq])
      | (refine Pwp.skip ?_; simp only [thenS, blockS])
      | (refine Pwp.cond rfl True.intro (fun h => ?_) (fun h => ?_) <;> (try (cases h; done)) <;> (try simp only [h]))
      | (refine Pwp.ret ?_; try simp only [thenS, blockS])
      | (refine hK _ ?_; clear hK K)
      | (refine hK _ _ rfl ?_; clear hK K)
      | (refine CallK.toD (ds := [.slc 3 (ordersD l), .agg [I64 x.seller, I64 x.number], .v (.func (.func 166) #[] #[])]) rfl (runFindO l x.seller x.number (by omega)) rfl ?_)
      | (refine CallK.give (ds := [.slc 3 (ordersD l)]) rfl (run167 (ordersD l) hone (by omega)) (by simp) ?_)
      | (refine CallK.rows2 (run168 (ordersD l) x.d (posO l x.seller x.number) (by omega) hone rfl (by omega)) rfl rfl (of_decide_eq_true rfl) (by simp) ?_)
      | (refine CallG.off ?_)
      | (with_reducible refine Or.inl ?_)
      | (simp only [thenS, blockS])
      | (with_reducible refine And.intro ?_ ?_)
      | (with_reducible exact True.intro)
      | (simp (dsimp := false) only [↓opsP_nil, ↓opsP_cons, ↓opsD_nil, ↓opsD_cons, ↓opP, ↓stepP, ↓stepG, go_sem, Order.d, Order.cells, hin]))
    all_goals (try (first | (intro hg; simp_all; done) | (intro hg; simp [hg]; done) | exact of_decide_eq_true rfl | (cases h; done)))
    all_goals ((refine Fin.data (.inr rfl) (by simp (dsimp := false) only [↓opsP_nil, ↓opsP_cons, ↓opsD_nil, ↓opsD_cons, ↓opP, ↓stepP, ↓stepG, go_sem, resL]; rfl) (by simp only [and_self]) (by simp (dsimp := false) only [↓opsP_nil, ↓opsP_cons, ↓opsD_nil, ↓opsD_cons, ↓opP, ↓stepP, ↓stepG, go_sem, resP, Nat.le_refl, List.take_length]; try rfl) ?_))
    all_goals (try simp only [hlen] at *)
    all_goals (try simp only [expE, putO, hin, orders_ins, *, if_true, if_false, reduceIte, Bool.false_eq_true, Bool.not_false, Bool.true_and, Nat.add_one_ne_zero, Int.reduceEq])
    all_goals (try (exact subD_refl _))
  | true =>
    obtain ⟨y, hy⟩ : ∃ y, l[posO l x.seller x.number]? = some y := by
      unfold isInO at hin
      simp only [Bool.and_eq_true, decide_eq_true_eq] at hin
      exact ⟨_, List.getElem?_eq_getElem hin.1⟩
    have hg : (ordersD l)[posO l x.seller x.number]? = some y.d := by simp [ordersD, hy, Order.d]
    have hlt : posO l x.seller x.number < l.length := (List.getElem?_eq_some_iff.1 hy).1
    have htk : ∀ d', ((ordersD l).set (posO l x.seller x.number) d').take l.length = (ordersD l).set (posO l x.seller x.number) d' := fun d' => List.take_of_length_le (by simp [hlen])
    unfold bookO Order.d Order.cells I64 at *
    refine Runs.of (kit Try.prog) Try.func106 rfl rfl (by rw [Try.ntmps106]; exact of_decide_eq_true rfl) ?_; rw [Try.ntmps106, Try.results106]
    repeat' (first
      | ((first | refine Pwp.step (kit _) rfl fun K hK => ?_ | refine Pwp.last (kit _) rfl fun K hK => ?_ | refine Pwp.stepD (kit _) rfl rfl fun K hK => ?_ | refine Pwp.lastD (kit _) rfl rfl fun K hK => ?_); simp (dsimp := false) only [↓opsP_nil, ↓opsP_cons, ↓opsD_nil, ↓opsD_cons, ↓opP, ↓stepP, ↓stepG, go_sem, Order.d, Order.cells, hin, hg])
      | (refine Pwp.seq ?_)
      | (refine Pwp.block ?_)
      | (refine Pwp.exit ?_; simp only [thenS, blockS, if_true, if_false, reduceIte, Nat.reduceEqDiff, Nat.add_one_ne_zero, reduceCtorEq])
      | (refine Pwp.skip ?_; simp only [thenS, blockS])
      | (refine Pwp.cond rfl True.intro (fun h => ?_) (fun h => ?_) <;> (try (cases h; done)) <;> (try simp only [h]))
      | (refine Pwp.ret ?_; try simp only [thenS, blockS])
      | (refine hK _ ?_; clear hK K)
      | (refine hK _ _ rfl ?_; clear hK K)
      | (refine CallK.toD (ds := [.slc 3 (ordersD l), .agg [I64 x.seller, I64 x.number], .v (.func (.func 166) #[] #[])]) rfl (runFindO l x.seller x.number (by omega)) rfl ?_)
      | (refine CallK.give (ds := [.slc 3 (ordersD l)]) rfl (run167 (ordersD l) hone (by omega)) (by simp) ?_)
      | (refine CallG.off ?_)
      | (with_reducible refine Or.inl ?_)
      | (simp only [thenS, blockS])
      | (with_reducible refine And.intro ?_ ?_)
      | (with_reducible exact True.intro)
      | (simp (dsimp := false) only [↓opsP_nil, ↓opsP_cons, ↓opsD_nil, ↓opsD_cons, ↓opP, ↓stepP, ↓stepG, go_sem, Order.d, Order.cells, hin, hg]))
    all_goals (try (first | (intro hg; simp_all; done) | (intro hg; simp [hg]; done) | exact of_decide_eq_true rfl | (cases h; done)))
    all_goals (try (first | omega | ((refine Fin.data (.inr rfl) (by simp (dsimp := false) only [↓opsP_nil, ↓opsP_cons, ↓opsD_nil, ↓opsD_cons, ↓opP, ↓stepP, ↓stepG, go_sem, resL, htk, htk2, List.length_set, hlen]; rfl) (by simp only [and_self]) (by simp (dsimp := false) only [↓opsP_nil, ↓opsP_cons, ↓opsD_nil, ↓opsD_cons, ↓opP, ↓stepP, ↓stepG, go_sem, resP, Nat.le_refl, List.take_length, htk, htk2, List.length_set, hlen]; try rfl) ?_))))
    all_goals (try simp only [hlen] at *)
    all_goals (try simp only [expE, putO, hin, hy, orders_set, *, if_true, if_false, reduceIte, Bool.false_eq_true, Bool.not_true, Bool.false_and, Nat.add_one_ne_zero, Int.reduceEq])
    all_goals (try (exact subD_refl _))

end Go.Proofs.Ytdodgbhodkcckaa.Pv
