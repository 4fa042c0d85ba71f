/- Walks of books. -/
import Derived.Test.YtdodgbhodkcckaaPwe
set_option linter.unusedVariables false
set_option linter.unusedSimpArgs false
set_option autoImplicit false
set_option maxRecDepth 100000
namespace Go.Proofs.Ytdodgbhodkcckaa.Pv
open Go Go.RowKit

/-- How the items of a list stand to a name. -/
def cmpAt (l : List Item) (s n : Int) (i : Nat) : Int := match l[i]? with
  | some x => cmpN x.seller x.number s n
  | none => 0
def itemsD (l : List Item) : List D := (l.map Item.cells).map .agg
def bookD (me : Int) (l : List Item) (os : List D) : D := .agg [I64 me, .slc 8 (itemsD l), .slc 3 os]

/-- Where a name is, or would be; and whether it is there. -/
def posOf (l : List Item) (s n : Int) : Nat := bsLoop (cmpAt l s n) 0 l.length
def isIn (l : List Item) (s n : Int) : Bool := decide (posOf l s n < l.length) && (cmpAt l s n (posOf l s n) == 0)

theorem cells_len (x : Item) : x.cells.length = 8 := rfl
theorem runFind (l : List Item) (s n : Int) (hl : l.length ≤ 2000000) : Runs Try.prog 113 [.d (.slc 8 (itemsD l)), .d (.agg [I64 s, I64 n]), .d (.v (.func (.func 114) #[] #[]))] [] (.d (.tup [I64 (posOf l s n), .v (.bool (isIn l s n))])) [] := by
  have h := run113 (l.map Item.cells) [I64 s, I64 n] 114 (cmpAt l s n) (by intro x hx; obtain ⟨y, _, rfl⟩ := List.mem_map.1 hx; rfl) rfl (by simp; omega) (by
    intro i x hx
    obtain ⟨y, hy, rfl⟩ : ∃ y, l[i]? = some y ∧ Item.cells y = x := by simpa using hx
    have : cmpAt l s n i = cmpN y.seller y.number s n := by simp only [cmpAt, hy]
    rw [this]; exact run114 y s n)
  simp only [List.length_map] at h
  exact h

/-- The list with an item in its place. -/
def putIn (l : List Item) (x : Item) : List Item := if isIn l x.seller x.number = true then l.set (posOf l x.seller x.number) x else l.take (posOf l x.seller x.number) ++ x :: l.drop (posOf l x.seller x.number)

/-- What a book answers to an item that is put. -/
def putE (me : Int) (l : List Item) (x : Item) : Int := if (chk x != 0) = true then chk x else if (x.seller != me && x.buyer != me) = true then 140 else if (!isIn l x.seller x.number && decide (1024 ≤ (l.length : Int))) = true then 3 else 0

theorem items_one (l : List Item) : ∀ d ∈ itemsD l, d.cells.all D.one = true := by
  intro d hd
  simp only [itemsD, List.mem_map] at hd
  obtain ⟨_, ⟨x, _, rfl⟩, rfl⟩ := hd
  rfl
theorem items_len (l : List Item) : (itemsD l).length = l.length := by simp [itemsD]

theorem items_ins (l : List Item) (x : Item) (p : Nat) : itemsD (l.take p ++ x :: l.drop p) = (itemsD l).take p ++ x.d :: (itemsD l).drop p := by simp [itemsD, Item.d, List.map_take, List.map_drop]
theorem items_set (l : List Item) (x : Item) (p : Nat) : itemsD (l.set p x) = (itemsD l).set p x.d := by simp [itemsD, Item.d, List.map_set]
theorem pos_le (l : List Item) (s n : Int) : posOf l s n ≤ l.length := bsLoop_le _ _ 0 l.length rfl (Nat.zero_le _)

set_option maxHeartbeats 8000000 in
theorem run50 (me : Int) (l : List Item) (os : List D) (x : Item) (hl : l.length ≤ 1000000) : Runs Try.prog 50 [.d (bookD me l os), .d x.d] [] (.d (.tup [if putE me l x = 0 then bookD me (putIn l x) os else bookD me l os, I64 (putE me l x)])) [] := by
  have hlen := items_len l
  have hone := items_one l
  have hp := pos_le l x.seller x.number
  cases hin : isIn l x.seller x.number with
  | false =>
    unfold bookD Item.d Item.cells I64
    refine Runs.of (kit Try.prog) Try.func50 rfl rfl (by rw [Try.ntmps50]; exact of_decide_eq_true rfl) ?_; rw [Try.ntmps50, Try.results50]
    repeat' (first
      | ((first | refine Pwp.step (kit _) rfl fun K hK => ?_ | refine Pwp.last (kit _) rfl fun K hK => ?_ | refine Pwp.stepD (kit _) rfl rfl fun K hK => ?_ | refine Pwp.lastD (kit _) rfl rfl fun K hK => ?_); simp (dsimp := false) only [↓opsP_nil, ↓opsP_cons, ↓opsD_nil, ↓opsD_cons, ↓opP, ↓stepP, ↓stepG, go_sem, Item.d, Item.cells, hin])
      | (refine Pwp.seq ?_)
      | (refine Pwp.block ?_)
      | (refine Pwp.exit ?_; simp only [thenS, blockS, if_true, if_false, reduceIte, Nat.reduceEqDiff, Nat.add_one_ne_zero, reduceCtorEq])
      | (refine Pwp.skip ?_; simp only [thenS, blockS])
      | (refine Pwp.cond rfl True.intro (fun h => ?_) (fun h => ?_) <;> (try (cases h; done)) <;> (try simp only [h]))
      | (refine Pwp.ret ?_; try simp only [thenS, blockS])
      | (refine hK _ ?_; clear hK K)
      | (refine hK _ _ rfl ?_; clear hK K)
      | (refine CallK.same (run112 x) rfl ?_)
      | (refine CallG.same (fun _ => run112 x) rfl ?_ ?_)
      | (refine CallK.toD rfl (run112 x) rfl ?_)
      | (refine CallG.toD rfl (run112 x) rfl ?_ ?_)
      | (refine CallK.toD (ds := [x.d]) rfl (run112 x) rfl ?_)
      | (refine CallK.toD (ds := [.slc 8 (itemsD l), .agg [I64 x.seller, I64 x.number], .v (.func (.func 114) #[] #[])]) rfl (runFind l x.seller x.number (by omega)) rfl ?_)
      | (refine CallK.give (ds := [.slc 8 (itemsD l)]) rfl (run115 (itemsD l) hone (by omega)) (by simp) ?_)
      | (refine CallK.rows2 (run116 (itemsD l) x.d (posOf l x.seller x.number) (by omega) hone rfl (by omega)) rfl rfl (of_decide_eq_true rfl) (by simp) ?_)
      | (refine CallG.off ?_)
      | (with_reducible refine Or.inl ?_)
      | (simp only [thenS, blockS])
      | (with_reducible refine And.intro ?_ ?_)
      | (with_reducible exact True.intro)
      | (simp (dsimp := false) only [↓opsP_nil, ↓opsP_cons, ↓opsD_nil, ↓opsD_cons, ↓opP, ↓stepP, ↓stepG, go_sem, Item.d, Item.cells, hin]))
    all_goals (try (first | (intro hg; simp_all; done) | (intro hg; simp [hg]; done) | exact of_decide_eq_true rfl | (cases h; done)))
    all_goals ((refine Fin.data (.inr rfl) (by simp (dsimp := false) only [↓opsP_nil, ↓opsP_cons, ↓opsD_nil, ↓opsD_cons, ↓opP, ↓stepP, ↓stepG, go_sem, resL]; rfl) (by simp only [and_self]) (by simp (dsimp := false) only [↓opsP_nil, ↓opsP_cons, ↓opsD_nil, ↓opsD_cons, ↓opP, ↓stepP, ↓stepG, go_sem, resP, Nat.le_refl, List.take_length]; try rfl) ?_))
    all_goals (try simp only [hlen] at *)
    all_goals (try simp only [putE, putIn, hin, items_ins, *, if_true, if_false, reduceIte, Bool.false_eq_true, Bool.not_false, Bool.true_and, Nat.add_one_ne_zero, Int.reduceEq])
    all_goals (try (first | exact subD_refl _ | (rw [if_neg (by simpa using ‹(chk x != 0) = true›)]; exact subD_refl _)))
  | true =>
    obtain ⟨y, hy⟩ : ∃ y, l[posOf l x.seller x.number]? = some y := by
      unfold isIn at hin
      simp only [Bool.and_eq_true, decide_eq_true_eq] at hin
      exact ⟨_, List.getElem?_eq_getElem hin.1⟩
    have hg : (itemsD l)[posOf l x.seller x.number]? = some y.d := by simp [itemsD, hy, Item.d]
    have hlt : posOf l x.seller x.number < l.length := (List.getElem?_eq_some_iff.1 hy).1
    have htk2 : (itemsD l).take l.length = itemsD l := List.take_of_length_le (by simp [hlen])
    have htk : ∀ d', ((itemsD l).set (posOf l x.seller x.number) d').take l.length = (itemsD l).set (posOf l x.seller x.number) d' := fun d' => List.take_of_length_le (by simp [hlen])
    unfold bookD Item.d Item.cells I64 at *
    refine Runs.of (kit Try.prog) Try.func50 rfl rfl (by rw [Try.ntmps50]; exact of_decide_eq_true rfl) ?_; rw [Try.ntmps50, Try.results50]
    repeat' (first
      | ((first | refine Pwp.step (kit _) rfl fun K hK => ?_ | refine Pwp.last (kit _) rfl fun K hK => ?_ | refine Pwp.stepD (kit _) rfl rfl fun K hK => ?_ | refine Pwp.lastD (kit _) rfl rfl fun K hK => ?_); simp (dsimp := false) only [↓opsP_nil, ↓opsP_cons, ↓opsD_nil, ↓opsD_cons, ↓opP, ↓stepP, ↓stepG, go_sem, Item.d, Item.cells, hin, hg])
      | (refine Pwp.seq ?_)
      | (refine Pwp.block ?_)
      | (refine Pwp.exit ?_; simp only [thenS, blockS, if_true, if_false, reduceIte, Nat.reduceEqDiff, Nat.add_one_ne_zero, reduceCtorEq])
      | (refine Pwp.skip ?_; simp only [thenS, blockS])
      | (refine Pwp.cond rfl True.intro (fun h => ?_) (fun h => ?_) <;> (try (cases h; done)) <;> (try simp only [h]))
      | (refine Pwp.ret ?_; try simp only [thenS, blockS])
      | (refine hK _ ?_; clear hK K)
      | (refine hK _ _ rfl ?_; clear hK K)
      | (refine CallK.same (run112 x) rfl ?_)
      | (refine CallG.same (fun _ => run112 x) rfl ?_ ?_)
      | (refine CallK.toD rfl (run112 x) rfl ?_)
      | (refine CallG.toD rfl (run112 x) rfl ?_ ?_)
      | (refine CallK.toD (ds := [x.d]) rfl (run112 x) rfl ?_)
      | (refine CallK.toD (ds := [.slc 8 (itemsD l), .agg [I64 x.seller, I64 x.number], .v (.func (.func 114) #[] #[])]) rfl (runFind l x.seller x.number (by omega)) rfl ?_)
      | (refine CallK.give (ds := [.slc 8 (itemsD l)]) rfl (run115 (itemsD l) hone (by omega)) (by simp) ?_)
      | (refine CallG.off ?_)
      | (with_reducible refine Or.inl ?_)
      | (simp only [thenS, blockS])
      | (with_reducible refine And.intro ?_ ?_)
      | (with_reducible exact True.intro)
      | (simp (dsimp := false) only [↓opsP_nil, ↓opsP_cons, ↓opsD_nil, ↓opsD_cons, ↓opP, ↓stepP, ↓stepG, go_sem, Item.d, Item.cells, hin, hg]))
    all_goals (try (first | (intro hg; simp_all; done) | (intro hg; simp [hg]; done) | exact of_decide_eq_true rfl | (cases h; done)))
    all_goals (try (first | omega | ((refine Fin.data (.inr rfl) (by simp (dsimp := false) only [↓opsP_nil, ↓opsP_cons, ↓opsD_nil, ↓opsD_cons, ↓opP, ↓stepP, ↓stepG, go_sem, resL, htk, htk2, List.length_set, hlen]; rfl) (by simp only [and_self]) (by simp (dsimp := false) only [↓opsP_nil, ↓opsP_cons, ↓opsD_nil, ↓opsD_cons, ↓opP, ↓stepP, ↓stepG, go_sem, resP, Nat.le_refl, List.take_length, htk, htk2, List.length_set, hlen]; try rfl) ?_))))
    all_goals (try simp only [hlen] at *)
    all_goals (try simp only [putE, putIn, hin, items_set, *, if_true, if_false, reduceIte, Bool.false_eq_true, Bool.not_true, Bool.false_and, Nat.add_one_ne_zero, Int.reduceEq])
    all_goals (try (first | exact subD_refl _ | (rw [if_neg (by simpa using ‹(chk x != 0) = true›)]; exact subD_refl _)))
    have hyx : y = x := by
      cases y; cases x; simpa [and_assoc] using h
    subst hyx
    obtain ⟨_, he⟩ := List.getElem?_eq_some_iff.1 hg
    have e : (itemsD l).set (posOf l y.seller y.number) y.d = itemsD l := by
      show (itemsD l).set (posOf l y.seller y.number) (D.agg [I64 y.seller, I64 y.number, I64 y.buyer, I64 y.currency, I64 y.amount, I64 y.round, I64 y.state, I64 y.cycle]) = itemsD l
      unfold I64
      rw [← he, List.set_getElem_self]
    rw [e]
    exact subD_refl _

end Go.Proofs.Ytdodgbhodkcckaa.Pv
