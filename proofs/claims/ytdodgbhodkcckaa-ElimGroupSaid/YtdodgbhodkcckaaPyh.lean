/- Walks of the statements of books against each other: alike, so nought. -/
import Derived.Test.YtdodgbhodkcckaaPyg
set_option linter.unusedVariables false
set_option linter.unusedSimpArgs false
set_option autoImplicit false
set_option maxRecDepth 100000
namespace Go.Proofs.Ytdodgbhodkcckaa.Pv
open Go Go.RowKit

/-- Three books, cell by cell. -/
def c3 (me : Nat → Int) (B : Nat → List Item) : List PVal := [.d (I64 (me 0)), .d (.slc 8 (itemsD (B 0))), .d (.slc 3 []), .d (I64 (me 1)), .d (.slc 8 (itemsD (B 1))), .d (.slc 3 []), .d (I64 (me 2)), .d (.slc 8 (itemsD (B 2))), .d (.slc 3 [])]
theorem c3_drop (me : Nat → Int) (B : Nat → List Item) {i : Nat} (h : i < 3) : (c3 me B).drop (i * 3) = .d (I64 (me i)) :: .d (.slc 8 (itemsD (B i))) :: .d (.slc 3 []) :: (c3 me B).drop (i * 3 + 3) := by
  have : i = 0 ∨ i = 1 ∨ i = 2 := by omega
  rcases this with rfl | rfl | rfl <;> rfl
def at3 {α : Type} (f : Nat → α) (i : Nat) (x : α) : Nat → α := fun j => if j = i then x else f j
theorem c3_put (me : Nat → Int) (B : Nat → List Item) {i : Nat} (h : i < 3) (n : Int) (l : List Item) : (c3 me B).take (i * 3) ++ [.d (I64 n), .d (.slc 8 (itemsD l)), .d (.slc 3 [])] ++ (c3 me B).drop (i * 3 + 3) = c3 (at3 me i n) (at3 B i l) := by
  have : i = 0 ∨ i = 1 ∨ i = 2 := by omega
  rcases this with rfl | rfl | rfl <;> rfl
theorem c3_len (me : Nat → Int) (B : Nat → List Item) : (c3 me B).length = 9 := rfl

theorem c3_view (V : Turn) (h : List (Nat × PObj)) (kept : List Nat) (N : Nat) (me : Nat → Int) (B : Nat → List Item) : viewL V h kept N (c3 me B) (c3 me B) := viewL_ds V h kept N [I64 (me 0), .slc 8 (itemsD (B 0)), .slc 3 [], I64 (me 1), .slc 8 (itemsD (B 1)), .slc 3 [], I64 (me 2), .slc 8 (itemsD (B 2)), .slc 3 []]
def zst (odd : Int) (k : Nat) (i : Int) (l : List Item) (x : Item) : List Item := if (decide (2 < x.seller) || decide (2 < x.buyer)) = true then l else if ((k : Int) == odd && i == x.buyer) = true then l else putS i l x
def zb (odd i : Int) (list : List Item) : Nat → List Item
  | 0 => []
  | n + 1 => match list[n]? with
    | some x => zst odd n i (zb odd i list n) x
    | none => zb odd i list n
theorem zb_succ {odd i : Int} {list : List Item} {n : Nat} {x : Item} (h : list[n]? = some x) : zb odd i list (n + 1) = zst odd n i (zb odd i list n) x := by simp [zb, h]
theorem zb_good (odd i : Int) (list : List Item) : ∀ n, Good i (zb odd i list n) ∧ (∀ x ∈ zb odd i list n, Low x) ∧ (zb odd i list n).length ≤ n
  | 0 => ⟨Good.nil i, by simp [zb], by simp [zb]⟩
  | n + 1 => by
    obtain ⟨h1, h2, h3⟩ := zb_good odd i list n
    simp only [zb]
    split
    · rename_i x hx
      unfold zst
      split
      · exact ⟨h1, h2, by omega⟩
      · rename_i hlow
        split
        · exact ⟨h1, h2, by omega⟩
        · refine ⟨h1.putS x, fun y hy => ?_, by have := len_putS i (zb odd i list n) x; omega⟩
          unfold putS at hy
          split at hy
          · rename_i he
            rw [put_enter h1 (putE_zero.1 he).1.num] at hy
            rcases (mem_enter h1.rise).1 hy with rfl | ⟨h, _⟩
            · simp only [Bool.or_eq_true, decide_eq_true_eq] at hlow
              exact ⟨by omega, by omega⟩
            · exact h2 y h
          · exact h2 y hy
    · exact ⟨h1, h2, by omega⟩
def meI (j : Nat) : Int := (j : Int)
def L10a (c odd : Int) (list : List Item) (i : Nat) : St := ⟨[(36, pint .i64 i), (7, .ref 64 0), (0, .d (.slc 8 (itemsD list))), (1, pint .i64 c), (2, pint .i64 odd)], [(64, .box (c3 (fun j => if j < i then (j : Int) else 0) fun _ => []))], 72⟩
def L10b (c odd : Int) (list : List Item) (n : Nat) : St := ⟨[(49, pint .i64 n), (48, pint .i64 list.length), (47, .d (.slc 8 (itemsD list))), (7, .ref 64 0), (1, pint .i64 c), (2, pint .i64 odd)], [(64, .box (c3 meI fun j => zb odd j list n))], 136⟩
def B10 (odd : Int) (list : List Item) (n j k : Nat) : List Item := if k < j then zb odd k list (n + 1) else zb odd k list n
def L10c (c odd : Int) (list : List Item) (x : Item) (n j : Nat) : St := ⟨[(63, pint .i64 j), (49, pint .i64 n), (48, pint .i64 list.length), (47, .d (.slc 8 (itemsD list))), (10, .ref 143 0), (9, pint .i64 n), (7, .ref 64 0), (1, pint .i64 c), (2, pint .i64 odd)],
  [(64, .box (c3 meI (B10 odd list n j))), (143, .box (x.cells.map .d))], 204⟩
def L10d (c : Int) (e : Bool) (B : Nat → List Item) (i : Nat) : St := ⟨[(128, pint .i64 i), (14, pbool e), (7, .ref 64 0), (1, pint .i64 c)], [(64, .box (c3 meI B))], 500⟩
def L10e (c : Int) (e : Bool) (B : Nat → List Item) (i j : Nat) : St := ⟨[(131, pint .i64 j), (128, pint .i64 i), (19, pint .i64 i), (14, pbool e), (7, .ref 64 0), (1, pint .i64 c)], [(64, .box (c3 meI B))], 516⟩
theorem B10_all (odd : Int) (list : List Item) (n : Nat) : c3 meI (B10 odd list n 3) = c3 meI fun j => zb odd j list (n + 1) := rfl
theorem B10_none (odd : Int) (list : List Item) (n : Nat) : c3 meI (B10 odd list n 0) = c3 meI fun j => zb odd j list n := rfl
theorem B10_step (odd : Int) (list : List Item) (n j : Nat) : c3 (at3 meI j (j : Int)) (at3 (B10 odd list n j) j (zb odd j list (n + 1))) = c3 meI (B10 odd list n (j + 1)) := by
  have h1 : at3 meI j (j : Int) = meI := by funext k; simp only [at3, meI]; split <;> simp_all
  have h2 : at3 (B10 odd list n j) j (zb odd j list (n + 1)) = B10 odd list n (j + 1) := by
    funext k
    simp only [at3, B10]
    by_cases h : k = j
    · subst h; simp
    · rw [if_neg h]
      by_cases h2 : k < j
      · rw [if_pos h2, if_pos (by omega)]
      · rw [if_neg h2, if_neg (by omega)]
  rw [h1, h2]
theorem B10_same {odd : Int} {list : List Item} {n j : Nat} (h : zb odd j list (n + 1) = zb odd j list n) : B10 odd list n (j + 1) = B10 odd list n j := by
  funext k
  simp only [B10]
  by_cases h2 : k < j
  · rw [if_pos h2, if_pos (by omega)]
  · rw [if_neg h2]
    split
    · obtain rfl : k = j := by omega
      exact h
    · rfl
theorem c3_new (i : Nat) : c3 (at3 (fun j => if j < i then (j : Int) else 0) i (i : Int)) (at3 (fun _ => []) i []) = c3 (fun j => if j < i + 1 then (j : Int) else 0) fun _ => [] := by
  have h1 : at3 (fun j => if j < i then (j : Int) else 0) i (i : Int) = fun j => if j < i + 1 then (j : Int) else 0 := by
    funext k
    simp only [at3]
    by_cases h : k = i
    · subst h; simp
    · rw [if_neg h]
      by_cases h2 : k < i
      · rw [if_pos h2, if_pos (by omega)]
      · rw [if_neg h2, if_neg (by omega)]
  have h2 : at3 (fun _ => ([] : List Item)) i [] = fun _ => [] := by funext k; simp [at3]
  rw [h1, h2]

theorem zb_low {odd i : Int} {list : List Item} {n : Nat} {x : Item} (h : list[n]? = some x) (hl : (decide (2 < x.seller) || decide (2 < x.buyer)) = true) : zb odd i list (n + 1) = zb odd i list n := by rw [zb_succ h, zst, if_pos hl]
theorem zb_odd {odd i : Int} {list : List Item} {n : Nat} {x : Item} (h : list[n]? = some x) (hl : (decide (2 < x.seller) || decide (2 < x.buyer)) = false) (ho : ((n : Int) == odd && i == x.buyer) = true) : zb odd i list (n + 1) = zb odd i list n := by rw [zb_succ h, zst, hl, if_neg (by simp), if_pos ho]
theorem zb_put {odd i : Int} {list : List Item} {n : Nat} {x : Item} (h : list[n]? = some x) (hl : (decide (2 < x.seller) || decide (2 < x.buyer)) = false) (ho : ((n : Int) == odd && i == x.buyer) = false) : zb odd i list (n + 1) = putS i (zb odd i list n) x := by rw [zb_succ h, zst, hl, if_neg (by simp), ho, if_neg (by simp)]
theorem B10_at (odd : Int) (list : List Item) (n j : Nat) : B10 odd list n j j = zb odd j list n := by simp [B10]

set_option maxHeartbeats 16000000 in
theorem run10 (list : List Item) (c odd : Int) : Runs Try.prog 10 [.d (.slc 8 (itemsD list)), pint .i64 c, pint .i64 odd] [] (pbool true) [] := by
  have hlen := items_len list
  by_cases hg : 30 < list.length ∨ c < 0 ∨ 7 < c
  · have c1 : (decide (30 < (list.length : Int)) || decide (c < 0) || decide (7 < c)) = true := by
      rw [Bool.or_eq_true, Bool.or_eq_true, decide_eq_true_eq, decide_eq_true_eq, decide_eq_true_eq]; omega
    refine Runs.of (kit Try.prog) Try.func10 rfl rfl (by rw [Try.ntmps10]; exact of_decide_eq_true rfl) ?_; rw [Try.ntmps10, Try.results10]
    repeat' (first
      | ((first | refine Pwp.step (kit _) rfl fun K hK => ?_ | refine Pwp.last (kit _) rfl fun K hK => ?_ | refine Pwp.stepD (kit _) rfl rfl fun K hK => ?_ | refine Pwp.lastD (kit _) rfl rfl fun K hK => ?_); simp (dsimp := false) only [↓opsP_nil, ↓opsP_cons, ↓opsD_nil, ↓opsD_cons, footOf, ↓opP, ↓stepP, ↓stepG, go_sem, reduceIte, Nat.reduceAdd, Nat.reduceMul, Nat.reduceEqDiff, Nat.reduceLT, Nat.reduceLeDiff, Nat.reduceSub, reduceCtorEq, Int.reduceToNat, Int.reduceAdd, Int.reduceSub, Int.reduceLT, Int.reduceLE, Int.reduceNeg, Int.reduceBEq, Int.reduceBNe, true_or, hlen, c1])
      | (refine Pwp.seq ?_)
      | (refine Pwp.block ?_)
      | (refine Pwp.exit ?_; simp only [thenS, blockS, if_true, if_false, reduceIte, Nat.reduceEqDiff, Nat.add_one_ne_zero, reduceCtorEq])
      | (refine Pwp.skip ?_; simp only [thenS, blockS])
      | (refine Pwp.cond rfl True.intro (fun h => ?_) (fun h => ?_) <;> (try (cases h; done)) <;> (try simp only [h]))
      | (refine Pwp.ret ?_; try simp only [thenS, blockS])
      | (refine hK _ ?_; clear hK K)
      | (refine hK _ _ rfl ?_; clear hK K)
      | (refine CallK.toD (ds := []) rfl (run46) rfl ?_)
      | (refine CallG.off ?_)
      | (with_reducible refine Or.inl ?_)
      | (simp only [thenS, blockS])
      | (with_reducible refine And.intro ?_ ?_)
      | (with_reducible exact True.intro)
      | (simp (dsimp := false) only [↓opsP_nil, ↓opsP_cons, ↓opsD_nil, ↓opsD_cons, footOf, ↓opP, ↓stepP, ↓stepG, go_sem, reduceIte, Nat.reduceAdd, Nat.reduceMul, Nat.reduceEqDiff, Nat.reduceLT, Nat.reduceLeDiff, Nat.reduceSub, reduceCtorEq, Int.reduceToNat, Int.reduceAdd, Int.reduceSub, Int.reduceLT, Int.reduceLE, Int.reduceNeg, Int.reduceBEq, Int.reduceBNe, true_or, hlen, c1]))
    all_goals (try (first | (intro hg; simp [hg]; done) | exact of_decide_eq_true rfl | (cases h; done)))
    (refine Fin.data (.inr rfl) (by simp (dsimp := false) only [↓opsP_nil, ↓opsP_cons, ↓opsD_nil, ↓opsD_cons, footOf, ↓opP, ↓stepP, ↓stepG, go_sem, reduceIte, Nat.reduceAdd, Nat.reduceMul, Nat.reduceEqDiff, Nat.reduceLT, Nat.reduceLeDiff, Nat.reduceSub, reduceCtorEq, Int.reduceToNat, Int.reduceAdd, Int.reduceSub, Int.reduceLT, Int.reduceLE, Int.reduceNeg, Int.reduceBEq, Int.reduceBNe, true_or, resL]; rfl) (by simp only [and_self]) (by simp (dsimp := false) only [↓opsP_nil, ↓opsP_cons, ↓opsD_nil, ↓opsD_cons, footOf, ↓opP, ↓stepP, ↓stepG, go_sem, reduceIte, Nat.reduceAdd, Nat.reduceMul, Nat.reduceEqDiff, Nat.reduceLT, Nat.reduceLeDiff, Nat.reduceSub, reduceCtorEq, Int.reduceToNat, Int.reduceAdd, Int.reduceSub, Int.reduceLT, Int.reduceLE, Int.reduceNeg, Int.reduceBEq, Int.reduceBNe, true_or, resP, Nat.le_refl, List.take_length]; try rfl) ?_)
    exact subD_refl _
  have c1 : (decide (30 < (list.length : Int)) || decide (c < 0) || decide (7 < c)) = false := by
    rw [Bool.or_eq_false_iff, Bool.or_eq_false_iff, decide_eq_false_iff_not, decide_eq_false_iff_not, decide_eq_false_iff_not]; omega
  refine Runs.of (kit Try.prog) Try.func10 rfl rfl (by rw [Try.ntmps10]; exact of_decide_eq_true rfl) ?_; rw [Try.ntmps10, Try.results10]
  repeat' (first
    | ((first | refine Pwp.step (kit _) rfl fun K hK => ?_ | refine Pwp.last (kit _) rfl fun K hK => ?_ | refine Pwp.stepD (kit _) rfl rfl fun K hK => ?_ | refine Pwp.lastD (kit _) rfl rfl fun K hK => ?_); simp (dsimp := false) only [↓opsP_nil, ↓opsP_cons, ↓opsD_nil, ↓opsD_cons, footOf, ↓opP, ↓stepP, ↓stepG, go_sem, reduceIte, Nat.reduceAdd, Nat.reduceMul, Nat.reduceEqDiff, Nat.reduceLT, Nat.reduceLeDiff, Nat.reduceSub, reduceCtorEq, Int.reduceToNat, Int.reduceAdd, Int.reduceSub, Int.reduceLT, Int.reduceLE, Int.reduceNeg, Int.reduceBEq, Int.reduceBNe, true_or, hlen, c1])
    | (refine Pwp.seq ?_)
    | (refine Pwp.block ?_)
    | (refine Pwp.exit ?_; simp only [thenS, blockS, if_true, if_false, reduceIte, Nat.reduceEqDiff, Nat.add_one_ne_zero, reduceCtorEq])
    | (refine Pwp.skip ?_; simp only [thenS, blockS])
    | (refine Pwp.cond rfl True.intro (fun h => ?_) (fun h => ?_) <;> (try (cases h; done)) <;> (try simp only [h]))
    | (refine Pwp.ret ?_; try simp only [thenS, blockS])
    | (refine hK _ ?_; clear hK K)
    | (refine hK _ _ rfl ?_; clear hK K)
    | (refine CallK.toD (ds := []) rfl (run46) rfl ?_)
    | (refine CallG.off ?_)
    | (with_reducible refine Or.inl ?_)
    | (simp only [thenS, blockS])
    | (with_reducible refine And.intro ?_ ?_)
    | (with_reducible exact True.intro)
    | (simp (dsimp := false) only [↓opsP_nil, ↓opsP_cons, ↓opsD_nil, ↓opsD_cons, footOf, ↓opP, ↓stepP, ↓stepG, go_sem, reduceIte, Nat.reduceAdd, Nat.reduceMul, Nat.reduceEqDiff, Nat.reduceLT, Nat.reduceLeDiff, Nat.reduceSub, reduceCtorEq, Int.reduceToNat, Int.reduceAdd, Int.reduceSub, Int.reduceLT, Int.reduceLE, Int.reduceNeg, Int.reduceBEq, Int.reduceBNe, true_or, hlen, c1]))
  all_goals (try (first | (intro hg; simp [hg]; done) | exact of_decide_eq_true rfl | (cases h; done)))
  refine Pwp.range 3 (S := L10a c odd list) (Sub.view V0 (by simp [L10a]) rfl (by simp [viewH, viewP, viewL, viewO, V0, V9, V9n, VR, VN, keptOf, find, PVal.toD, subD, subL, subV, subD_refl, viewL_ds, disj, PVal.ids, pnil, List.range, List.range.loop, L10a, c3, itemsD, hlen]) (by simp [viewT, St.ev, viewH, viewP, viewL, viewO, V0, V9, V9n, VR, VN, keptOf, find, PVal.toD, subD, subL, subV, subD_refl, viewL_ds, disj, PVal.ids, pnil, List.range, List.range.loop, L10a, c3, itemsD, hlen])) (fun i hi => ?_) ?_
  · have c2 : decide ((i : Int) < 3) = true := decide_eq_true (by omega)
    have w := wrap_succ (i := i) (by omega)
    have r49 := run49b (i : Int) (by omega)
    have hst := c3_put (fun j => if j < i then (j : Int) else 0) (fun _ => []) hi (i : Int) []
    rw [c3_new] at hst
    have hcl := c3_len (fun j => if j < i then (j : Int) else 0) (fun _ => [])
    unfold L10a
    repeat' (first
      | ((first | refine Pwp.step (kit _) rfl fun K hK => ?_ | refine Pwp.last (kit _) rfl fun K hK => ?_ | refine Pwp.stepD (kit _) rfl rfl fun K hK => ?_ | refine Pwp.lastD (kit _) rfl rfl fun K hK => ?_); simp (dsimp := false) only [↓opsP_nil, ↓opsP_cons, ↓opsD_nil, ↓opsD_cons, footOf, ↓opP, ↓stepP, ↓stepG, go_sem, reduceIte, Nat.reduceAdd, Nat.reduceMul, Nat.reduceEqDiff, Nat.reduceLT, Nat.reduceLeDiff, Nat.reduceSub, reduceCtorEq, Int.reduceToNat, Int.reduceAdd, Int.reduceSub, Int.reduceLT, Int.reduceLE, Int.reduceNeg, Int.reduceBEq, Int.reduceBNe, true_or, c2, w, bookD, hst, hcl])
      | (refine Pwp.seq ?_)
      | (refine Pwp.block ?_)
      | (refine Pwp.exit ?_; simp only [thenS, blockS, if_true, if_false, reduceIte, Nat.reduceEqDiff, Nat.add_one_ne_zero, reduceCtorEq])
      | (refine Pwp.skip ?_; simp only [thenS, blockS])
      | (refine Pwp.cond rfl True.intro (fun h => ?_) (fun h => ?_) <;> (try (cases h; done)) <;> (try simp only [h]))
      | (refine Pwp.ret ?_; try simp only [thenS, blockS])
      | (refine hK _ ?_; clear hK K)
      | (refine hK _ _ rfl ?_; clear hK K)
      | (refine CallK.give (ds := [I64 i]) rfl (r49) (by simp) ?_)
      | (refine CallG.off ?_)
      | (with_reducible refine Or.inl ?_)
      | (simp only [thenS, blockS])
      | (with_reducible refine And.intro ?_ ?_)
      | (with_reducible exact True.intro)
      | (simp (dsimp := false) only [↓opsP_nil, ↓opsP_cons, ↓opsD_nil, ↓opsD_cons, footOf, ↓opP, ↓stepP, ↓stepG, go_sem, reduceIte, Nat.reduceAdd, Nat.reduceMul, Nat.reduceEqDiff, Nat.reduceLT, Nat.reduceLeDiff, Nat.reduceSub, reduceCtorEq, Int.reduceToNat, Int.reduceAdd, Int.reduceSub, Int.reduceLT, Int.reduceLE, Int.reduceNeg, Int.reduceBEq, Int.reduceBNe, true_or, c2, w, bookD, hst, hcl]))
    all_goals (try (first | (intro hg; simp [hg]; done) | exact of_decide_eq_true rfl | (cases h; done)))
    all_goals (try omega)
    exact Sub.view V0 (by simp [L10a]) rfl (by simp [viewH, viewP, viewL, viewO, V0, V9, V9n, VR, VN, keptOf, find, PVal.toD, subD, subL, subV, subD_refl, viewL_ds, disj, PVal.ids, pnil, List.range, List.range.loop, L10a, c3_view]) (by simp [viewT, St.ev, viewH, viewP, viewL, viewO, V0, V9, V9n, VR, VN, keptOf, find, PVal.toD, subD, subL, subV, subD_refl, viewL_ds, disj, PVal.ids, pnil, List.range, List.range.loop, L10a, c3_view])
  · have c2 : decide (((3 : Nat) : Int) < 3) = false := by simp
    have e0 : (c3 (fun j => if j < 3 then (j : Int) else 0) fun _ => []) = c3 meI fun j => zb odd j list 0 := rfl
    unfold L10a
    rw [e0]
    repeat' (first
      | ((first | refine Pwp.step (kit _) rfl fun K hK => ?_ | refine Pwp.last (kit _) rfl fun K hK => ?_ | refine Pwp.stepD (kit _) rfl rfl fun K hK => ?_ | refine Pwp.lastD (kit _) rfl rfl fun K hK => ?_); simp (dsimp := false) only [↓opsP_nil, ↓opsP_cons, ↓opsD_nil, ↓opsD_cons, footOf, ↓opP, ↓stepP, ↓stepG, go_sem, reduceIte, Nat.reduceAdd, Nat.reduceMul, Nat.reduceEqDiff, Nat.reduceLT, Nat.reduceLeDiff, Nat.reduceSub, reduceCtorEq, Int.reduceToNat, Int.reduceAdd, Int.reduceSub, Int.reduceLT, Int.reduceLE, Int.reduceNeg, Int.reduceBEq, Int.reduceBNe, true_or, c2, hlen])
      | (refine Pwp.seq ?_)
      | (refine Pwp.block ?_)
      | (refine Pwp.exit ?_; simp only [thenS, blockS, if_true, if_false, reduceIte, Nat.reduceEqDiff, Nat.add_one_ne_zero, reduceCtorEq])
      | (refine Pwp.skip ?_; simp only [thenS, blockS])
      | (refine Pwp.cond rfl True.intro (fun h => ?_) (fun h => ?_) <;> (try (cases h; done)) <;> (try simp only [h]))
      | (refine Pwp.ret ?_; try simp only [thenS, blockS])
      | (refine hK _ ?_; clear hK K)
      | (refine hK _ _ rfl ?_; clear hK K)
      | (refine CallG.off ?_)
      | (with_reducible refine Or.inl ?_)
      | (simp only [thenS, blockS])
      | (with_reducible refine And.intro ?_ ?_)
      | (with_reducible exact True.intro)
      | (simp (dsimp := false) only [↓opsP_nil, ↓opsP_cons, ↓opsD_nil, ↓opsD_cons, footOf, ↓opP, ↓stepP, ↓stepG, go_sem, reduceIte, Nat.reduceAdd, Nat.reduceMul, Nat.reduceEqDiff, Nat.reduceLT, Nat.reduceLeDiff, Nat.reduceSub, reduceCtorEq, Int.reduceToNat, Int.reduceAdd, Int.reduceSub, Int.reduceLT, Int.reduceLE, Int.reduceNeg, Int.reduceBEq, Int.reduceBNe, true_or, c2, hlen]))
    all_goals (try (first | (intro hg; simp [hg]; done) | exact of_decide_eq_true rfl | (cases h; done)))
    refine Pwp.range list.length (S := L10b c odd list) (Sub.view V0 (by simp [L10b]) rfl (by simp [viewH, viewP, viewL, viewO, V0, V9, V9n, VR, VN, keptOf, find, PVal.toD, subD, subL, subV, subD_refl, viewL_ds, disj, PVal.ids, pnil, List.range, List.range.loop, L10b, hlen, c3_view]) (by simp [viewT, St.ev, viewH, viewP, viewL, viewO, V0, V9, V9n, VR, VN, keptOf, find, PVal.toD, subD, subL, subV, subD_refl, viewL_ds, disj, PVal.ids, pnil, List.range, List.range.loop, L10b, hlen, c3_view])) (fun n hn => ?_) ?_
    · obtain ⟨x, hx, _⟩ := at_lt hn
      have hgx := items_get hx
      have c3' := dlt hn
      have w := wrap_succ (i := n) (by omega)
      unfold L10b
      cases hl : (decide (2 < x.seller) || decide (2 < x.buyer)) with
      | true =>
        have e : (fun j : Nat => zb odd j list (n + 1)) = fun j : Nat => zb odd j list n := by funext j; exact zb_low hx hl
        repeat' (first
          | ((first | refine Pwp.step (kit _) rfl fun K hK => ?_ | refine Pwp.last (kit _) rfl fun K hK => ?_ | refine Pwp.stepD (kit _) rfl rfl fun K hK => ?_ | refine Pwp.lastD (kit _) rfl rfl fun K hK => ?_); simp (dsimp := false) only [↓opsP_nil, ↓opsP_cons, ↓opsD_nil, ↓opsD_cons, footOf, ↓opP, ↓stepP, ↓stepG, go_sem, reduceIte, Nat.reduceAdd, Nat.reduceMul, Nat.reduceEqDiff, Nat.reduceLT, Nat.reduceLeDiff, Nat.reduceSub, reduceCtorEq, Int.reduceToNat, Int.reduceAdd, Int.reduceSub, Int.reduceLT, Int.reduceLE, Int.reduceNeg, Int.reduceBEq, Int.reduceBNe, true_or, hgx, c3', w, hlen, hl, Item.d, Item.cells])
          | (refine Pwp.seq ?_)
          | (refine Pwp.block ?_)
          | (refine Pwp.exit ?_; simp only [thenS, blockS, if_true, if_false, reduceIte, Nat.reduceEqDiff, Nat.add_one_ne_zero, reduceCtorEq])
          | (refine Pwp.skip ?_; simp only [thenS, blockS])
          | (refine Pwp.cond rfl True.intro (fun h => ?_) (fun h => ?_) <;> (try (cases h; done)) <;> (try simp only [h]))
          | (refine Pwp.ret ?_; try simp only [thenS, blockS])
          | (refine hK _ ?_; clear hK K)
          | (refine hK _ _ rfl ?_; clear hK K)
          | (refine CallG.off ?_)
          | (with_reducible refine Or.inl ?_)
          | (simp only [thenS, blockS])
          | (with_reducible refine And.intro ?_ ?_)
          | (with_reducible exact True.intro)
          | (simp (dsimp := false) only [↓opsP_nil, ↓opsP_cons, ↓opsD_nil, ↓opsD_cons, footOf, ↓opP, ↓stepP, ↓stepG, go_sem, reduceIte, Nat.reduceAdd, Nat.reduceMul, Nat.reduceEqDiff, Nat.reduceLT, Nat.reduceLeDiff, Nat.reduceSub, reduceCtorEq, Int.reduceToNat, Int.reduceAdd, Int.reduceSub, Int.reduceLT, Int.reduceLE, Int.reduceNeg, Int.reduceBEq, Int.reduceBNe, true_or, hgx, c3', w, hlen, hl, Item.d, Item.cells]))
        all_goals (try (first | (intro hg; simp [hg]; done) | exact of_decide_eq_true rfl | (cases h; done)))
        exact Sub.view V0 (by simp [L10b]) rfl (by simp [viewH, viewP, viewL, viewO, V0, V9, V9n, VR, VN, keptOf, find, PVal.toD, subD, subL, subV, subD_refl, viewL_ds, disj, PVal.ids, pnil, List.range, List.range.loop, L10b, e, c3_view]) (by simp [viewT, St.ev, viewH, viewP, viewL, viewO, V0, V9, V9n, VR, VN, keptOf, find, PVal.toD, subD, subL, subV, subD_refl, viewL_ds, disj, PVal.ids, pnil, List.range, List.range.loop, L10b, e, c3_view])
      | false =>
        repeat' (first
          | ((first | refine Pwp.step (kit _) rfl fun K hK => ?_ | refine Pwp.last (kit _) rfl fun K hK => ?_ | refine Pwp.stepD (kit _) rfl rfl fun K hK => ?_ | refine Pwp.lastD (kit _) rfl rfl fun K hK => ?_); simp (dsimp := false) only [↓opsP_nil, ↓opsP_cons, ↓opsD_nil, ↓opsD_cons, footOf, ↓opP, ↓stepP, ↓stepG, go_sem, reduceIte, Nat.reduceAdd, Nat.reduceMul, Nat.reduceEqDiff, Nat.reduceLT, Nat.reduceLeDiff, Nat.reduceSub, reduceCtorEq, Int.reduceToNat, Int.reduceAdd, Int.reduceSub, Int.reduceLT, Int.reduceLE, Int.reduceNeg, Int.reduceBEq, Int.reduceBNe, true_or, hgx, c3', hlen, hl, Item.d, Item.cells])
          | (refine Pwp.seq ?_)
          | (refine Pwp.block ?_)
          | (refine Pwp.exit ?_; simp only [thenS, blockS, if_true, if_false, reduceIte, Nat.reduceEqDiff, Nat.add_one_ne_zero, reduceCtorEq])
          | (refine Pwp.skip ?_; simp only [thenS, blockS])
          | (refine Pwp.cond rfl True.intro (fun h => ?_) (fun h => ?_) <;> (try (cases h; done)) <;> (try simp only [h]))
          | (refine Pwp.ret ?_; try simp only [thenS, blockS])
          | (refine hK _ ?_; clear hK K)
          | (refine hK _ _ rfl ?_; clear hK K)
          | (refine CallG.off ?_)
          | (with_reducible refine Or.inl ?_)
          | (simp only [thenS, blockS])
          | (with_reducible refine And.intro ?_ ?_)
          | (with_reducible exact True.intro)
          | (simp (dsimp := false) only [↓opsP_nil, ↓opsP_cons, ↓opsD_nil, ↓opsD_cons, footOf, ↓opP, ↓stepP, ↓stepG, go_sem, reduceIte, Nat.reduceAdd, Nat.reduceMul, Nat.reduceEqDiff, Nat.reduceLT, Nat.reduceLeDiff, Nat.reduceSub, reduceCtorEq, Int.reduceToNat, Int.reduceAdd, Int.reduceSub, Int.reduceLT, Int.reduceLE, Int.reduceNeg, Int.reduceBEq, Int.reduceBNe, true_or, hgx, c3', hlen, hl, Item.d, Item.cells]))
        all_goals (try (first | (intro hg; simp [hg]; done) | exact of_decide_eq_true rfl | (cases h; done)))
        refine Pwp.range 3 (S := L10c c odd list x n) (Sub.view V0 (by simp [L10c]) rfl (by simp [viewH, viewP, viewL, viewO, V0, V9, V9n, VR, VN, keptOf, find, PVal.toD, subD, subL, subV, subD_refl, viewL_ds, disj, PVal.ids, pnil, List.range, List.range.loop, L10c, B10_none, Item.cells, c3_view]) (by simp [viewT, St.ev, viewH, viewP, viewL, viewO, V0, V9, V9n, VR, VN, keptOf, find, PVal.toD, subD, subL, subV, subD_refl, viewL_ds, disj, PVal.ids, pnil, List.range, List.range.loop, L10c, B10_none, Item.cells, c3_view])) (fun j hj => ?_) ?_
        · have c4 : decide ((j : Int) < 3) = true := decide_eq_true (by omega)
          have w2 := wrap_succ (i := j) (by omega)
          have hld := c3_drop meI (B10 odd list n j) hj
          rw [B10_at] at hld
          have hzl := (zb_good odd j list n).2.2
          have r50 := run50S j (zb odd j list n) [] x (by omega)
          have hcl := c3_len meI (B10 odd list n j)
          have hst := c3_put meI (B10 odd list n j) hj (j : Int) (zb odd j list (n + 1))
          rw [B10_step] at hst
          unfold L10c Item.cells
          simp only [List.map_cons, List.map_nil]
          cases ho : ((n : Int) == odd && (j : Int) == x.buyer) with
          | true =>
            have e := B10_same (zb_odd hx hl ho)
            repeat' (first
              | ((first | refine Pwp.step (kit _) rfl fun K hK => ?_ | refine Pwp.last (kit _) rfl fun K hK => ?_ | refine Pwp.stepD (kit _) rfl rfl fun K hK => ?_ | refine Pwp.lastD (kit _) rfl rfl fun K hK => ?_); simp (dsimp := false) only [↓opsP_nil, ↓opsP_cons, ↓opsD_nil, ↓opsD_cons, footOf, ↓opP, ↓stepP, ↓stepG, go_sem, reduceIte, Nat.reduceAdd, Nat.reduceMul, Nat.reduceEqDiff, Nat.reduceLT, Nat.reduceLeDiff, Nat.reduceSub, reduceCtorEq, Int.reduceToNat, Int.reduceAdd, Int.reduceSub, Int.reduceLT, Int.reduceLE, Int.reduceNeg, Int.reduceBEq, Int.reduceBNe, true_or, c4, w2, ho])
              | (refine Pwp.seq ?_)
              | (refine Pwp.block ?_)
              | (refine Pwp.exit ?_; simp only [thenS, blockS, if_true, if_false, reduceIte, Nat.reduceEqDiff, Nat.add_one_ne_zero, reduceCtorEq])
              | (refine Pwp.skip ?_; simp only [thenS, blockS])
              | (refine Pwp.cond rfl True.intro (fun h => ?_) (fun h => ?_) <;> (try (cases h; done)) <;> (try simp only [h]))
              | (refine Pwp.ret ?_; try simp only [thenS, blockS])
              | (refine hK _ ?_; clear hK K)
              | (refine hK _ _ rfl ?_; clear hK K)
              | (refine CallG.off ?_)
              | (with_reducible refine Or.inl ?_)
              | (simp only [thenS, blockS])
              | (with_reducible refine And.intro ?_ ?_)
              | (with_reducible exact True.intro)
              | (simp (dsimp := false) only [↓opsP_nil, ↓opsP_cons, ↓opsD_nil, ↓opsD_cons, footOf, ↓opP, ↓stepP, ↓stepG, go_sem, reduceIte, Nat.reduceAdd, Nat.reduceMul, Nat.reduceEqDiff, Nat.reduceLT, Nat.reduceLeDiff, Nat.reduceSub, reduceCtorEq, Int.reduceToNat, Int.reduceAdd, Int.reduceSub, Int.reduceLT, Int.reduceLE, Int.reduceNeg, Int.reduceBEq, Int.reduceBNe, true_or, c4, w2, ho]))
            all_goals (try (first | (intro hg; simp [hg]; done) | exact of_decide_eq_true rfl | (cases h; done)))
            exact Sub.view V0 (by simp [L10c]) rfl (by simp [viewH, viewP, viewL, viewO, V0, V9, V9n, VR, VN, keptOf, find, PVal.toD, subD, subL, subV, subD_refl, viewL_ds, disj, PVal.ids, pnil, List.range, List.range.loop, L10c, Item.cells, e, c3_view]) (by simp [viewT, St.ev, viewH, viewP, viewL, viewO, V0, V9, V9n, VR, VN, keptOf, find, PVal.toD, subD, subL, subV, subD_refl, viewL_ds, disj, PVal.ids, pnil, List.range, List.range.loop, L10c, Item.cells, e, c3_view])
          | false =>
            have hz := zb_put hx hl ho
            by_cases he : putE j (zb odd j list n) x = 0
            · rw [he, ← hz] at r50
              repeat' (first
                | ((first | refine Pwp.step (kit _) rfl fun K hK => ?_ | refine Pwp.last (kit _) rfl fun K hK => ?_ | refine Pwp.stepD (kit _) rfl rfl fun K hK => ?_ | refine Pwp.lastD (kit _) rfl rfl fun K hK => ?_); simp (dsimp := false) only [↓opsP_nil, ↓opsP_cons, ↓opsD_nil, ↓opsD_cons, footOf, ↓opP, ↓stepP, ↓stepG, go_sem, reduceIte, Nat.reduceAdd, Nat.reduceMul, Nat.reduceEqDiff, Nat.reduceLT, Nat.reduceLeDiff, Nat.reduceSub, reduceCtorEq, Int.reduceToNat, Int.reduceAdd, Int.reduceSub, Int.reduceLT, Int.reduceLE, Int.reduceNeg, Int.reduceBEq, Int.reduceBNe, true_or, c4, w2, ho, hld, hst, hcl, bookD])
                | (refine Pwp.seq ?_)
                | (refine Pwp.block ?_)
                | (refine Pwp.exit ?_; simp only [thenS, blockS, if_true, if_false, reduceIte, Nat.reduceEqDiff, Nat.add_one_ne_zero, reduceCtorEq])
                | (refine Pwp.skip ?_; simp only [thenS, blockS])
                | (refine Pwp.cond rfl True.intro (fun h => ?_) (fun h => ?_) <;> (try (cases h; done)) <;> (try simp only [h]))
                | (refine Pwp.ret ?_; try simp only [thenS, blockS])
                | (refine hK _ ?_; clear hK K)
                | (refine hK _ _ rfl ?_; clear hK K)
                | (refine CallK.give (ds := [bookD j (zb odd j list n) [], x.d]) rfl (r50) (by simp) ?_)
                | (refine CallG.off ?_)
                | (with_reducible refine Or.inl ?_)
                | (simp only [thenS, blockS])
                | (with_reducible refine And.intro ?_ ?_)
                | (with_reducible exact True.intro)
                | (simp (dsimp := false) only [↓opsP_nil, ↓opsP_cons, ↓opsD_nil, ↓opsD_cons, footOf, ↓opP, ↓stepP, ↓stepG, go_sem, reduceIte, Nat.reduceAdd, Nat.reduceMul, Nat.reduceEqDiff, Nat.reduceLT, Nat.reduceLeDiff, Nat.reduceSub, reduceCtorEq, Int.reduceToNat, Int.reduceAdd, Int.reduceSub, Int.reduceLT, Int.reduceLE, Int.reduceNeg, Int.reduceBEq, Int.reduceBNe, true_or, c4, w2, ho, hld, hst, hcl, bookD]))
              all_goals (try (first | (intro hg; simp [hg]; done) | exact of_decide_eq_true rfl | (cases h; done)))
              all_goals (try omega)
              exact Sub.view V0 (by simp [L10c]) rfl (by simp [viewH, viewP, viewL, viewO, V0, V9, V9n, VR, VN, keptOf, find, PVal.toD, subD, subL, subV, subD_refl, viewL_ds, disj, PVal.ids, pnil, List.range, List.range.loop, L10c, Item.cells, c3_view]) (by simp [viewT, St.ev, viewH, viewP, viewL, viewO, V0, V9, V9n, VR, VN, keptOf, find, PVal.toD, subD, subL, subV, subD_refl, viewL_ds, disj, PVal.ids, pnil, List.range, List.range.loop, L10c, Item.cells, c3_view])
            · have hz2 : zb odd j list (n + 1) = zb odd j list n := by rw [hz, putS, if_neg he]
              have e := B10_same hz2
              have hb : (putE j (zb odd j list n) x == 0) = false := by simpa using he
              repeat' (first
                | ((first | refine Pwp.step (kit _) rfl fun K hK => ?_ | refine Pwp.last (kit _) rfl fun K hK => ?_ | refine Pwp.stepD (kit _) rfl rfl fun K hK => ?_ | refine Pwp.lastD (kit _) rfl rfl fun K hK => ?_); simp (dsimp := false) only [↓opsP_nil, ↓opsP_cons, ↓opsD_nil, ↓opsD_cons, footOf, ↓opP, ↓stepP, ↓stepG, go_sem, reduceIte, Nat.reduceAdd, Nat.reduceMul, Nat.reduceEqDiff, Nat.reduceLT, Nat.reduceLeDiff, Nat.reduceSub, reduceCtorEq, Int.reduceToNat, Int.reduceAdd, Int.reduceSub, Int.reduceLT, Int.reduceLE, Int.reduceNeg, Int.reduceBEq, Int.reduceBNe, true_or, c4, w2, ho, hld, hcl, hb, bookD])
                | (refine Pwp.seq ?_)
                | (refine Pwp.block ?_)
                | (refine Pwp.exit ?_; simp only [thenS, blockS, if_true, if_false, reduceIte, Nat.reduceEqDiff, Nat.add_one_ne_zero, reduceCtorEq])
                | (refine Pwp.skip ?_; simp only [thenS, blockS])
                | (refine Pwp.cond rfl True.intro (fun h => ?_) (fun h => ?_) <;> (try (cases h; done)) <;> (try simp only [h]))
                | (refine Pwp.ret ?_; try simp only [thenS, blockS])
                | (refine hK _ ?_; clear hK K)
                | (refine hK _ _ rfl ?_; clear hK K)
                | (refine CallK.give (ds := [bookD j (zb odd j list n) [], x.d]) rfl (r50) (by simp) ?_)
                | (refine CallG.off ?_)
                | (with_reducible refine Or.inl ?_)
                | (simp only [thenS, blockS])
                | (with_reducible refine And.intro ?_ ?_)
                | (with_reducible exact True.intro)
                | (simp (dsimp := false) only [↓opsP_nil, ↓opsP_cons, ↓opsD_nil, ↓opsD_cons, footOf, ↓opP, ↓stepP, ↓stepG, go_sem, reduceIte, Nat.reduceAdd, Nat.reduceMul, Nat.reduceEqDiff, Nat.reduceLT, Nat.reduceLeDiff, Nat.reduceSub, reduceCtorEq, Int.reduceToNat, Int.reduceAdd, Int.reduceSub, Int.reduceLT, Int.reduceLE, Int.reduceNeg, Int.reduceBEq, Int.reduceBNe, true_or, c4, w2, ho, hld, hcl, hb, bookD]))
              all_goals (try (first | (intro hg; simp [hg]; done) | exact of_decide_eq_true rfl | (cases h; done)))
              all_goals (try omega)
              exact Sub.view V0 (by simp [L10c]) rfl (by simp [viewH, viewP, viewL, viewO, V0, V9, V9n, VR, VN, keptOf, find, PVal.toD, subD, subL, subV, subD_refl, viewL_ds, disj, PVal.ids, pnil, List.range, List.range.loop, L10c, Item.cells, e, c3_view]) (by simp [viewT, St.ev, viewH, viewP, viewL, viewO, V0, V9, V9n, VR, VN, keptOf, find, PVal.toD, subD, subL, subV, subD_refl, viewL_ds, disj, PVal.ids, pnil, List.range, List.range.loop, L10c, Item.cells, e, c3_view])
        · have c4 : decide (((3 : Nat) : Int) < 3) = false := by simp
          have e := B10_all odd list n
          unfold L10c
          repeat' (first
            | ((first | refine Pwp.step (kit _) rfl fun K hK => ?_ | refine Pwp.last (kit _) rfl fun K hK => ?_ | refine Pwp.stepD (kit _) rfl rfl fun K hK => ?_ | refine Pwp.lastD (kit _) rfl rfl fun K hK => ?_); simp (dsimp := false) only [↓opsP_nil, ↓opsP_cons, ↓opsD_nil, ↓opsD_cons, footOf, ↓opP, ↓stepP, ↓stepG, go_sem, reduceIte, Nat.reduceAdd, Nat.reduceMul, Nat.reduceEqDiff, Nat.reduceLT, Nat.reduceLeDiff, Nat.reduceSub, reduceCtorEq, Int.reduceToNat, Int.reduceAdd, Int.reduceSub, Int.reduceLT, Int.reduceLE, Int.reduceNeg, Int.reduceBEq, Int.reduceBNe, true_or, c4, w])
            | (refine Pwp.seq ?_)
            | (refine Pwp.block ?_)
            | (refine Pwp.exit ?_; simp only [thenS, blockS, if_true, if_false, reduceIte, Nat.reduceEqDiff, Nat.add_one_ne_zero, reduceCtorEq])
            | (refine Pwp.skip ?_; simp only [thenS, blockS])
            | (refine Pwp.cond rfl True.intro (fun h => ?_) (fun h => ?_) <;> (try (cases h; done)) <;> (try simp only [h]))
            | (refine Pwp.ret ?_; try simp only [thenS, blockS])
            | (refine hK _ ?_; clear hK K)
            | (refine hK _ _ rfl ?_; clear hK K)
            | (refine CallG.off ?_)
            | (with_reducible refine Or.inl ?_)
            | (simp only [thenS, blockS])
            | (with_reducible refine And.intro ?_ ?_)
            | (with_reducible exact True.intro)
            | (simp (dsimp := false) only [↓opsP_nil, ↓opsP_cons, ↓opsD_nil, ↓opsD_cons, footOf, ↓opP, ↓stepP, ↓stepG, go_sem, reduceIte, Nat.reduceAdd, Nat.reduceMul, Nat.reduceEqDiff, Nat.reduceLT, Nat.reduceLeDiff, Nat.reduceSub, reduceCtorEq, Int.reduceToNat, Int.reduceAdd, Int.reduceSub, Int.reduceLT, Int.reduceLE, Int.reduceNeg, Int.reduceBEq, Int.reduceBNe, true_or, c4, w]))
          all_goals (try (first | (intro hg; simp [hg]; done) | exact of_decide_eq_true rfl | (cases h; done)))
          exact Sub.view V0 (by simp [L10b]) rfl (by simp [viewH, viewP, viewL, viewO, V0, V9, V9n, VR, VN, keptOf, find, PVal.toD, subD, subL, subV, subD_refl, viewL_ds, disj, PVal.ids, pnil, List.range, List.range.loop, L10b, e, c3_view]) (by simp [viewT, St.ev, viewH, viewP, viewL, viewO, V0, V9, V9n, VR, VN, keptOf, find, PVal.toD, subD, subL, subV, subD_refl, viewL_ds, disj, PVal.ids, pnil, List.range, List.range.loop, L10b, e, c3_view])
    · have c3'' := dge (Nat.le_refl list.length)
      have hz := zb_good odd
      have hin : 0 ≤ c ∧ c < 8 := by omega
      have bk : ∀ i : Int, okBk (i, zb odd i list list.length) := fun i => ⟨Nat.le_trans (hz i list list.length).2.2 (by omega), (hz i list list.length).1.fine⟩
      have r51 := run51 c [(0, zb odd 0 list list.length), (1, zb odd 1 list list.length), (2, zb odd 2 list list.length)] (by simp) (by simp [bk])
      have r52 := run52 c [(0, zb odd 0 list list.length), (1, zb odd 1 list list.length), (2, zb odd 2 list list.length)] (by simp) (by simp [bk])
      rw [group3 hin (bk 0) (bk 1) (bk 2)] at r52
      have i0 := net64 (c := c) (bk 0)
      have i1 := net64 (c := c) (bk 1)
      have i2 := net64 (c := c) (bk 2)
      have n0 := net_in (me := 0) (c := c) (bk 0).2 (bk 0).1
      have n1 := net_in (me := 1) (c := c) (bk 1).2 (bk 1).1
      have n2 := net_in (me := 2) (c := c) (bk 2).2 (bk 2).1
      simp only at n0 n1 n2
      have hvl := vec_len (tab3 c (net 0 c (zb odd 0 list list.length)) (net 1 c (zb odd 1 list list.length)) (net 2 c (zb odd 2 list list.length)))
      have r42 := run42 (vec (tab3 c (net 0 c (zb odd 0 list list.length)) (net 1 c (zb odd 1 list list.length)) (net 2 c (zb odd 2 list list.length)))) c (by omega) (ofCur_in (put_in (put_in (put_in zero_in i0) i1) i2) c)
      rw [total3 hin, if_pos (by simp [fits]; omega)] at r42
      have hez := even_zero (c := c) (hz 0 list list.length).1 (hz 1 list list.length).1 (hz 2 list list.length).1 (hz 0 list list.length).2.1 (hz 1 list list.length).2.1 (hz 2 list list.length).2.1
      have heS : evenB c [(0, zb odd 0 list list.length), (1, zb odd 1 list list.length), (2, zb odd 2 list list.length)] = true → ∀ i j : Nat, i < 3 → j < 3 → i ≠ j → alikeL (agL i j c (zb odd i list list.length)) (agL i j c (zb odd j list list.length)) = true ∧ sumOf (amts (agL i j c (zb odd i list list.length))) = sumOf (amts (agL i j c (zb odd j list list.length))) := by
        intro h i j hi hj hne
        have mem : ∀ k : Nat, k < 3 → ((k : Int), zb odd k list list.length) ∈ ([(0, zb odd 0 list list.length), (1, zb odd 1 list list.length), (2, zb odd 2 list list.length)] : List Bk) := by
          intro k hk
          have : k = 0 ∨ k = 1 ∨ k = 2 := by omega
          rcases this with rfl | rfl | rfl <;> simp
        exact even_S h (mem i hi) (mem j hj) (by simp only; omega)
      have hc3 : (c3 meI fun j : Nat => zb odd j list list.length) = [.d (I64 0), .d (.slc 8 (itemsD (zb odd 0 list list.length))), .d (.slc 3 []), .d (I64 1), .d (.slc 8 (itemsD (zb odd 1 list list.length))), .d (.slc 3 []), .d (I64 2), .d (.slc 8 (itemsD (zb odd 2 list list.length))), .d (.slc 3 [])] := rfl
      have hr48 : ∀ i j : Nat, Runs Try.prog 48 [.d (bookD i (zb odd i list list.length) []), .d (bookD j (zb odd j list list.length) []), pint .i64 c] [] (.d (.tup [pairD i j (sumOf (amts (agL i j c (zb odd i list list.length)))) (sumOf (amts (agL i j c (zb odd j list list.length)))) (alikeL (agL i j c (zb odd i list list.length)) (agL i j c (zb odd j list list.length))), I64 0])) [] :=
        fun i j => run48F i j c _ _ (bk i).1 (bk j).1 (bk i).2 (bk j).2
      unfold L10b
      rw [hc3]
      generalize vec (tab3 c (net 0 c (zb odd 0 list list.length)) (net 1 c (zb odd 1 list list.length)) (net 2 c (zb odd 2 list list.length))) = v at *
      cases hE : evenB c [(0, zb odd 0 list list.length), (1, zb odd 1 list list.length), (2, zb odd 2 list list.length)] with
      | true =>
        rw [hE] at r51
        rw [hez hE] at r42
        have hS := heS hE
        repeat' (first
          | ((first | refine Pwp.step (kit _) rfl fun K hK => ?_ | refine Pwp.last (kit _) rfl fun K hK => ?_ | refine Pwp.stepD (kit _) rfl rfl fun K hK => ?_ | refine Pwp.lastD (kit _) rfl rfl fun K hK => ?_); simp (dsimp := false) only [↓opsP_nil, ↓opsP_cons, ↓opsD_nil, ↓opsD_cons, footOf, ↓opP, ↓stepP, ↓stepG, go_sem, reduceIte, Nat.reduceAdd, Nat.reduceMul, Nat.reduceEqDiff, Nat.reduceLT, Nat.reduceLeDiff, Nat.reduceSub, reduceCtorEq, Int.reduceToNat, Int.reduceAdd, Int.reduceSub, Int.reduceLT, Int.reduceLE, Int.reduceNeg, Int.reduceBEq, Int.reduceBNe, true_or, c3'', hlen, bookD, vecD])
          | (refine Pwp.seq ?_)
          | (refine Pwp.block ?_)
          | (refine Pwp.exit ?_; simp only [thenS, blockS, if_true, if_false, reduceIte, Nat.reduceEqDiff, Nat.add_one_ne_zero, reduceCtorEq])
          | (refine Pwp.skip ?_; simp only [thenS, blockS])
          | (refine Pwp.cond rfl True.intro (fun h => ?_) (fun h => ?_) <;> (try (cases h; done)) <;> (try simp only [h]))
          | (refine Pwp.ret ?_; try simp only [thenS, blockS])
          | (refine hK _ ?_; clear hK K)
          | (refine hK _ _ rfl ?_; clear hK K)
          | (refine CallK.give (ds := [I64 c, .slc 3 (booksD [(0, zb odd 0 list list.length), (1, zb odd 1 list list.length), (2, zb odd 2 list list.length)])]) rfl (r51) (by simp) ?_)
          | (refine CallK.give (ds := [I64 c, .slc 3 (booksD [(0, zb odd 0 list list.length), (1, zb odd 1 list list.length), (2, zb odd 2 list list.length)])]) rfl (r52) (by simp) ?_)
          | (refine CallK.give (ds := [vecD v, I64 c]) rfl (r42) (by simp) ?_)
          | (refine CallG.off ?_)
          | (with_reducible refine Or.inl ?_)
          | (simp only [thenS, blockS])
          | (with_reducible refine And.intro ?_ ?_)
          | (with_reducible exact True.intro)
          | (simp (dsimp := false) only [↓opsP_nil, ↓opsP_cons, ↓opsD_nil, ↓opsD_cons, footOf, ↓opP, ↓stepP, ↓stepG, go_sem, reduceIte, Nat.reduceAdd, Nat.reduceMul, Nat.reduceEqDiff, Nat.reduceLT, Nat.reduceLeDiff, Nat.reduceSub, reduceCtorEq, Int.reduceToNat, Int.reduceAdd, Int.reduceSub, Int.reduceLT, Int.reduceLE, Int.reduceNeg, Int.reduceBEq, Int.reduceBNe, true_or, c3'', hlen, bookD, vecD]))
        all_goals (try (first | (intro hg; simp [hg]; done) | exact of_decide_eq_true rfl | (cases h; done)))
        refine Pwp.range 3 (S := L10d c true fun j : Nat => zb odd j list list.length) (Sub.view V0 (by simp [L10d]) rfl (by simp [viewH, viewP, viewL, viewO, V0, V9, V9n, VR, VN, keptOf, find, PVal.toD, subD, subL, subV, subD_refl, viewL_ds, disj, PVal.ids, pnil, List.range, List.range.loop, L10d, c3, meI]) (by simp [viewT, St.ev, viewH, viewP, viewL, viewO, V0, V9, V9n, VR, VN, keptOf, find, PVal.toD, subD, subL, subV, subD_refl, viewL_ds, disj, PVal.ids, pnil, List.range, List.range.loop, L10d, c3, meI])) (fun i hi => ?_) ?_
        · have c4 : decide ((i : Int) < 3) = true := decide_eq_true (by omega)
          have w := wrap_succ (i := i) (by omega)
          have hld := c3_drop meI (fun j : Nat => zb odd j list list.length) hi
          unfold L10d
          repeat' (first
            | ((first | refine Pwp.step (kit _) rfl fun K hK => ?_ | refine Pwp.last (kit _) rfl fun K hK => ?_ | refine Pwp.stepD (kit _) rfl rfl fun K hK => ?_ | refine Pwp.lastD (kit _) rfl rfl fun K hK => ?_); simp (dsimp := false) only [↓opsP_nil, ↓opsP_cons, ↓opsD_nil, ↓opsD_cons, footOf, ↓opP, ↓stepP, ↓stepG, go_sem, reduceIte, Nat.reduceAdd, Nat.reduceMul, Nat.reduceEqDiff, Nat.reduceLT, Nat.reduceLeDiff, Nat.reduceSub, reduceCtorEq, Int.reduceToNat, Int.reduceAdd, Int.reduceSub, Int.reduceLT, Int.reduceLE, Int.reduceNeg, Int.reduceBEq, Int.reduceBNe, true_or, c4])
            | (refine Pwp.seq ?_)
            | (refine Pwp.block ?_)
            | (refine Pwp.exit ?_; simp only [thenS, blockS, if_true, if_false, reduceIte, Nat.reduceEqDiff, Nat.add_one_ne_zero, reduceCtorEq])
            | (refine Pwp.skip ?_; simp only [thenS, blockS])
            | (refine Pwp.cond rfl True.intro (fun h => ?_) (fun h => ?_) <;> (try (cases h; done)) <;> (try simp only [h]))
            | (refine Pwp.ret ?_; try simp only [thenS, blockS])
            | (refine hK _ ?_; clear hK K)
            | (refine hK _ _ rfl ?_; clear hK K)
            | (refine CallG.off ?_)
            | (with_reducible refine Or.inl ?_)
            | (simp only [thenS, blockS])
            | (with_reducible refine And.intro ?_ ?_)
            | (with_reducible exact True.intro)
            | (simp (dsimp := false) only [↓opsP_nil, ↓opsP_cons, ↓opsD_nil, ↓opsD_cons, footOf, ↓opP, ↓stepP, ↓stepG, go_sem, reduceIte, Nat.reduceAdd, Nat.reduceMul, Nat.reduceEqDiff, Nat.reduceLT, Nat.reduceLeDiff, Nat.reduceSub, reduceCtorEq, Int.reduceToNat, Int.reduceAdd, Int.reduceSub, Int.reduceLT, Int.reduceLE, Int.reduceNeg, Int.reduceBEq, Int.reduceBNe, true_or, c4]))
          all_goals (try (first | (intro hg; simp [hg]; done) | exact of_decide_eq_true rfl | (cases h; done)))
          refine Pwp.range 3 (S := L10e c true (fun j : Nat => zb odd j list list.length) i) (Sub.view V0 (by simp [L10e]) rfl (by simp [viewH, viewP, viewL, viewO, V0, V9, V9n, VR, VN, keptOf, find, PVal.toD, subD, subL, subV, subD_refl, viewL_ds, disj, PVal.ids, pnil, List.range, List.range.loop, L10e, c3_view]) (by simp [viewT, St.ev, viewH, viewP, viewL, viewO, V0, V9, V9n, VR, VN, keptOf, find, PVal.toD, subD, subL, subV, subD_refl, viewL_ds, disj, PVal.ids, pnil, List.range, List.range.loop, L10e, c3_view])) (fun j hj => ?_) ?_
          · have c5 : decide ((j : Int) < 3) = true := decide_eq_true (by omega)
            have w2 := wrap_succ (i := j) (by omega)
            have hld2 := c3_drop meI (fun j : Nat => zb odd j list list.length) hj
            unfold L10e
            by_cases hij : i = j
            · have hb : ((i : Int) == (j : Int)) = true := by simp [hij]
              repeat' (first
                | ((first | refine Pwp.step (kit _) rfl fun K hK => ?_ | refine Pwp.last (kit _) rfl fun K hK => ?_ | refine Pwp.stepD (kit _) rfl rfl fun K hK => ?_ | refine Pwp.lastD (kit _) rfl rfl fun K hK => ?_); simp (dsimp := false) only [↓opsP_nil, ↓opsP_cons, ↓opsD_nil, ↓opsD_cons, footOf, ↓opP, ↓stepP, ↓stepG, go_sem, reduceIte, Nat.reduceAdd, Nat.reduceMul, Nat.reduceEqDiff, Nat.reduceLT, Nat.reduceLeDiff, Nat.reduceSub, reduceCtorEq, Int.reduceToNat, Int.reduceAdd, Int.reduceSub, Int.reduceLT, Int.reduceLE, Int.reduceNeg, Int.reduceBEq, Int.reduceBNe, true_or, c5, w2, hb])
                | (refine Pwp.seq ?_)
                | (refine Pwp.block ?_)
                | (refine Pwp.exit ?_; simp only [thenS, blockS, if_true, if_false, reduceIte, Nat.reduceEqDiff, Nat.add_one_ne_zero, reduceCtorEq])
                | (refine Pwp.skip ?_; simp only [thenS, blockS])
                | (refine Pwp.cond rfl True.intro (fun h => ?_) (fun h => ?_) <;> (try (cases h; done)) <;> (try simp only [h]))
                | (refine Pwp.ret ?_; try simp only [thenS, blockS])
                | (refine hK _ ?_; clear hK K)
                | (refine hK _ _ rfl ?_; clear hK K)
                | (refine CallG.off ?_)
                | (with_reducible refine Or.inl ?_)
                | (simp only [thenS, blockS])
                | (with_reducible refine And.intro ?_ ?_)
                | (with_reducible exact True.intro)
                | (simp (dsimp := false) only [↓opsP_nil, ↓opsP_cons, ↓opsD_nil, ↓opsD_cons, footOf, ↓opP, ↓stepP, ↓stepG, go_sem, reduceIte, Nat.reduceAdd, Nat.reduceMul, Nat.reduceEqDiff, Nat.reduceLT, Nat.reduceLeDiff, Nat.reduceSub, reduceCtorEq, Int.reduceToNat, Int.reduceAdd, Int.reduceSub, Int.reduceLT, Int.reduceLE, Int.reduceNeg, Int.reduceBEq, Int.reduceBNe, true_or, c5, w2, hb]))
              all_goals (try (first | (intro hg; simp [hg]; done) | exact of_decide_eq_true rfl | (cases h; done)))
              exact Sub.view V0 (by simp [L10e]) rfl (by simp [viewH, viewP, viewL, viewO, V0, V9, V9n, VR, VN, keptOf, find, PVal.toD, subD, subL, subV, subD_refl, viewL_ds, disj, PVal.ids, pnil, List.range, List.range.loop, L10e, c3_view]) (by simp [viewT, St.ev, viewH, viewP, viewL, viewO, V0, V9, V9n, VR, VN, keptOf, find, PVal.toD, subD, subL, subV, subD_refl, viewL_ds, disj, PVal.ids, pnil, List.range, List.range.loop, L10e, c3_view])
            · have hb : ((i : Int) == (j : Int)) = false := by simp; omega
              have r48 := hr48 i j
              obtain ⟨s1, s2⟩ := hS i j hi hj hij
              rw [s1, s2] at r48
              have hcl := c3_len meI (fun j : Nat => zb odd j list list.length)
              repeat' (first
                | ((first | refine Pwp.step (kit _) rfl fun K hK => ?_ | refine Pwp.last (kit _) rfl fun K hK => ?_ | refine Pwp.stepD (kit _) rfl rfl fun K hK => ?_ | refine Pwp.lastD (kit _) rfl rfl fun K hK => ?_); simp (dsimp := false) only [↓opsP_nil, ↓opsP_cons, ↓opsD_nil, ↓opsD_cons, footOf, ↓opP, ↓stepP, ↓stepG, go_sem, reduceIte, Nat.reduceAdd, Nat.reduceMul, Nat.reduceEqDiff, Nat.reduceLT, Nat.reduceLeDiff, Nat.reduceSub, reduceCtorEq, Int.reduceToNat, Int.reduceAdd, Int.reduceSub, Int.reduceLT, Int.reduceLE, Int.reduceNeg, Int.reduceBEq, Int.reduceBNe, true_or, c5, w2, hb, hld, hld2, hcl, bookD, pairD, bne_self_eq_false])
                | (refine Pwp.seq ?_)
                | (refine Pwp.block ?_)
                | (refine Pwp.exit ?_; simp only [thenS, blockS, if_true, if_false, reduceIte, Nat.reduceEqDiff, Nat.add_one_ne_zero, reduceCtorEq])
                | (refine Pwp.skip ?_; simp only [thenS, blockS])
                | (refine Pwp.cond rfl True.intro (fun h => ?_) (fun h => ?_) <;> (try (cases h; done)) <;> (try simp only [h]))
                | (refine Pwp.ret ?_; try simp only [thenS, blockS])
                | (refine hK _ ?_; clear hK K)
                | (refine hK _ _ rfl ?_; clear hK K)
                | (refine CallK.give (ds := [bookD i (zb odd i list list.length) [], bookD j (zb odd j list list.length) [], I64 c]) rfl (r48) (by simp) ?_)
                | (refine CallG.off ?_)
                | (with_reducible refine Or.inl ?_)
                | (simp only [thenS, blockS])
                | (with_reducible refine And.intro ?_ ?_)
                | (with_reducible exact True.intro)
                | (simp (dsimp := false) only [↓opsP_nil, ↓opsP_cons, ↓opsD_nil, ↓opsD_cons, footOf, ↓opP, ↓stepP, ↓stepG, go_sem, reduceIte, Nat.reduceAdd, Nat.reduceMul, Nat.reduceEqDiff, Nat.reduceLT, Nat.reduceLeDiff, Nat.reduceSub, reduceCtorEq, Int.reduceToNat, Int.reduceAdd, Int.reduceSub, Int.reduceLT, Int.reduceLE, Int.reduceNeg, Int.reduceBEq, Int.reduceBNe, true_or, c5, w2, hb, hld, hld2, hcl, bookD, pairD, bne_self_eq_false]))
              all_goals (try (first | (intro hg; simp [hg]; done) | exact of_decide_eq_true rfl | (cases h; done)))
              all_goals (try omega)
              exact Sub.view V0 (by simp [L10e]) rfl (by simp [viewH, viewP, viewL, viewO, V0, V9, V9n, VR, VN, keptOf, find, PVal.toD, subD, subL, subV, subD_refl, viewL_ds, disj, PVal.ids, pnil, List.range, List.range.loop, L10e, c3_view]) (by simp [viewT, St.ev, viewH, viewP, viewL, viewO, V0, V9, V9n, VR, VN, keptOf, find, PVal.toD, subD, subL, subV, subD_refl, viewL_ds, disj, PVal.ids, pnil, List.range, List.range.loop, L10e, c3_view])
          · have c5 : decide (((3 : Nat) : Int) < 3) = false := by simp
            unfold L10e
            repeat' (first
              | ((first | refine Pwp.step (kit _) rfl fun K hK => ?_ | refine Pwp.last (kit _) rfl fun K hK => ?_ | refine Pwp.stepD (kit _) rfl rfl fun K hK => ?_ | refine Pwp.lastD (kit _) rfl rfl fun K hK => ?_); simp (dsimp := false) only [↓opsP_nil, ↓opsP_cons, ↓opsD_nil, ↓opsD_cons, footOf, ↓opP, ↓stepP, ↓stepG, go_sem, reduceIte, Nat.reduceAdd, Nat.reduceMul, Nat.reduceEqDiff, Nat.reduceLT, Nat.reduceLeDiff, Nat.reduceSub, reduceCtorEq, Int.reduceToNat, Int.reduceAdd, Int.reduceSub, Int.reduceLT, Int.reduceLE, Int.reduceNeg, Int.reduceBEq, Int.reduceBNe, true_or, c5, w])
              | (refine Pwp.seq ?_)
              | (refine Pwp.block ?_)
              | (refine Pwp.exit ?_; simp only [thenS, blockS, if_true, if_false, reduceIte, Nat.reduceEqDiff, Nat.add_one_ne_zero, reduceCtorEq])
              | (refine Pwp.skip ?_; simp only [thenS, blockS])
              | (refine Pwp.cond rfl True.intro (fun h => ?_) (fun h => ?_) <;> (try (cases h; done)) <;> (try simp only [h]))
              | (refine Pwp.ret ?_; try simp only [thenS, blockS])
              | (refine hK _ ?_; clear hK K)
              | (refine hK _ _ rfl ?_; clear hK K)
              | (refine CallG.off ?_)
              | (with_reducible refine Or.inl ?_)
              | (simp only [thenS, blockS])
              | (with_reducible refine And.intro ?_ ?_)
              | (with_reducible exact True.intro)
              | (simp (dsimp := false) only [↓opsP_nil, ↓opsP_cons, ↓opsD_nil, ↓opsD_cons, footOf, ↓opP, ↓stepP, ↓stepG, go_sem, reduceIte, Nat.reduceAdd, Nat.reduceMul, Nat.reduceEqDiff, Nat.reduceLT, Nat.reduceLeDiff, Nat.reduceSub, reduceCtorEq, Int.reduceToNat, Int.reduceAdd, Int.reduceSub, Int.reduceLT, Int.reduceLE, Int.reduceNeg, Int.reduceBEq, Int.reduceBNe, true_or, c5, w]))
            all_goals (try (first | (intro hg; simp [hg]; done) | exact of_decide_eq_true rfl | (cases h; done)))
            exact Sub.view V0 (by simp [L10d]) rfl (by simp [viewH, viewP, viewL, viewO, V0, V9, V9n, VR, VN, keptOf, find, PVal.toD, subD, subL, subV, subD_refl, viewL_ds, disj, PVal.ids, pnil, List.range, List.range.loop, L10d, c3_view]) (by simp [viewT, St.ev, viewH, viewP, viewL, viewO, V0, V9, V9n, VR, VN, keptOf, find, PVal.toD, subD, subL, subV, subD_refl, viewL_ds, disj, PVal.ids, pnil, List.range, List.range.loop, L10d, c3_view])
        · have c4 : decide (((3 : Nat) : Int) < 3) = false := by simp
          unfold L10d
          repeat' (first
            | ((first | refine Pwp.step (kit _) rfl fun K hK => ?_ | refine Pwp.last (kit _) rfl fun K hK => ?_ | refine Pwp.stepD (kit _) rfl rfl fun K hK => ?_ | refine Pwp.lastD (kit _) rfl rfl fun K hK => ?_); simp (dsimp := false) only [↓opsP_nil, ↓opsP_cons, ↓opsD_nil, ↓opsD_cons, footOf, ↓opP, ↓stepP, ↓stepG, go_sem, reduceIte, Nat.reduceAdd, Nat.reduceMul, Nat.reduceEqDiff, Nat.reduceLT, Nat.reduceLeDiff, Nat.reduceSub, reduceCtorEq, Int.reduceToNat, Int.reduceAdd, Int.reduceSub, Int.reduceLT, Int.reduceLE, Int.reduceNeg, Int.reduceBEq, Int.reduceBNe, true_or, c4])
            | (refine Pwp.seq ?_)
            | (refine Pwp.block ?_)
            | (refine Pwp.exit ?_; simp only [thenS, blockS, if_true, if_false, reduceIte, Nat.reduceEqDiff, Nat.add_one_ne_zero, reduceCtorEq])
            | (refine Pwp.skip ?_; simp only [thenS, blockS])
            | (refine Pwp.cond rfl True.intro (fun h => ?_) (fun h => ?_) <;> (try (cases h; done)) <;> (try simp only [h]))
            | (refine Pwp.ret ?_; try simp only [thenS, blockS])
            | (refine hK _ ?_; clear hK K)
            | (refine hK _ _ rfl ?_; clear hK K)
            | (refine CallG.off ?_)
            | (with_reducible refine Or.inl ?_)
            | (simp only [thenS, blockS])
            | (with_reducible refine And.intro ?_ ?_)
            | (with_reducible exact True.intro)
            | (simp (dsimp := false) only [↓opsP_nil, ↓opsP_cons, ↓opsD_nil, ↓opsD_cons, footOf, ↓opP, ↓stepP, ↓stepG, go_sem, reduceIte, Nat.reduceAdd, Nat.reduceMul, Nat.reduceEqDiff, Nat.reduceLT, Nat.reduceLeDiff, Nat.reduceSub, reduceCtorEq, Int.reduceToNat, Int.reduceAdd, Int.reduceSub, Int.reduceLT, Int.reduceLE, Int.reduceNeg, Int.reduceBEq, Int.reduceBNe, true_or, c4]))
          all_goals (try (first | (intro hg; simp [hg]; done) | exact of_decide_eq_true rfl | (cases h; done)))
          (refine Fin.data (.inr rfl) (by simp (dsimp := false) only [↓opsP_nil, ↓opsP_cons, ↓opsD_nil, ↓opsD_cons, footOf, ↓opP, ↓stepP, ↓stepG, go_sem, reduceIte, Nat.reduceAdd, Nat.reduceMul, Nat.reduceEqDiff, Nat.reduceLT, Nat.reduceLeDiff, Nat.reduceSub, reduceCtorEq, Int.reduceToNat, Int.reduceAdd, Int.reduceSub, Int.reduceLT, Int.reduceLE, Int.reduceNeg, Int.reduceBEq, Int.reduceBNe, true_or, resL]; rfl) (by simp only [and_self]) (by simp (dsimp := false) only [↓opsP_nil, ↓opsP_cons, ↓opsD_nil, ↓opsD_cons, footOf, ↓opP, ↓stepP, ↓stepG, go_sem, reduceIte, Nat.reduceAdd, Nat.reduceMul, Nat.reduceEqDiff, Nat.reduceLT, Nat.reduceLeDiff, Nat.reduceSub, reduceCtorEq, Int.reduceToNat, Int.reduceAdd, Int.reduceSub, Int.reduceLT, Int.reduceLE, Int.reduceNeg, Int.reduceBEq, Int.reduceBNe, true_or, resP, Nat.le_refl, List.take_length]; try rfl) ?_)
          exact subD_refl _
      | false =>
        rw [hE] at r51
        repeat' (first
          | ((first | refine Pwp.step (kit _) rfl fun K hK => ?_ | refine Pwp.last (kit _) rfl fun K hK => ?_ | refine Pwp.stepD (kit _) rfl rfl fun K hK => ?_ | refine Pwp.lastD (kit _) rfl rfl fun K hK => ?_); simp (dsimp := false) only [↓opsP_nil, ↓opsP_cons, ↓opsD_nil, ↓opsD_cons, footOf, ↓opP, ↓stepP, ↓stepG, go_sem, reduceIte, Nat.reduceAdd, Nat.reduceMul, Nat.reduceEqDiff, Nat.reduceLT, Nat.reduceLeDiff, Nat.reduceSub, reduceCtorEq, Int.reduceToNat, Int.reduceAdd, Int.reduceSub, Int.reduceLT, Int.reduceLE, Int.reduceNeg, Int.reduceBEq, Int.reduceBNe, true_or, c3'', hlen, bookD, vecD])
          | (refine Pwp.seq ?_)
          | (refine Pwp.block ?_)
          | (refine Pwp.exit ?_; simp only [thenS, blockS, if_true, if_false, reduceIte, Nat.reduceEqDiff, Nat.add_one_ne_zero, reduceCtorEq])
          | (refine Pwp.skip ?_; simp only [thenS, blockS])
          | (refine Pwp.cond rfl True.intro (fun h => ?_) (fun h => ?_) <;> (try (cases h; done)) <;> (try simp only [h]))
          | (refine Pwp.ret ?_; try simp only [thenS, blockS])
          | (refine hK _ ?_; clear hK K)
          | (refine hK _ _ rfl ?_; clear hK K)
          | (refine CallK.give (ds := [I64 c, .slc 3 (booksD [(0, zb odd 0 list list.length), (1, zb odd 1 list list.length), (2, zb odd 2 list list.length)])]) rfl (r51) (by simp) ?_)
          | (refine CallK.give (ds := [I64 c, .slc 3 (booksD [(0, zb odd 0 list list.length), (1, zb odd 1 list list.length), (2, zb odd 2 list list.length)])]) rfl (r52) (by simp) ?_)
          | (refine CallK.give (ds := [vecD v, I64 c]) rfl (r42) (by simp) ?_)
          | (refine CallG.off ?_)
          | (with_reducible refine Or.inl ?_)
          | (simp only [thenS, blockS])
          | (with_reducible refine And.intro ?_ ?_)
          | (with_reducible exact True.intro)
          | (simp (dsimp := false) only [↓opsP_nil, ↓opsP_cons, ↓opsD_nil, ↓opsD_cons, footOf, ↓opP, ↓stepP, ↓stepG, go_sem, reduceIte, Nat.reduceAdd, Nat.reduceMul, Nat.reduceEqDiff, Nat.reduceLT, Nat.reduceLeDiff, Nat.reduceSub, reduceCtorEq, Int.reduceToNat, Int.reduceAdd, Int.reduceSub, Int.reduceLT, Int.reduceLE, Int.reduceNeg, Int.reduceBEq, Int.reduceBNe, true_or, c3'', hlen, bookD, vecD]))
        all_goals (try (first | (intro hg; simp [hg]; done) | exact of_decide_eq_true rfl | (cases h; done)))
        refine Pwp.range 3 (S := L10d c false fun j : Nat => zb odd j list list.length) (Sub.view V0 (by simp [L10d]) rfl (by simp [viewH, viewP, viewL, viewO, V0, V9, V9n, VR, VN, keptOf, find, PVal.toD, subD, subL, subV, subD_refl, viewL_ds, disj, PVal.ids, pnil, List.range, List.range.loop, L10d, c3, meI]) (by simp [viewT, St.ev, viewH, viewP, viewL, viewO, V0, V9, V9n, VR, VN, keptOf, find, PVal.toD, subD, subL, subV, subD_refl, viewL_ds, disj, PVal.ids, pnil, List.range, List.range.loop, L10d, c3, meI])) (fun i hi => ?_) ?_
        · have c4 : decide ((i : Int) < 3) = true := decide_eq_true (by omega)
          have w := wrap_succ (i := i) (by omega)
          have hld := c3_drop meI (fun j : Nat => zb odd j list list.length) hi
          unfold L10d
          repeat' (first
            | ((first | refine Pwp.step (kit _) rfl fun K hK => ?_ | refine Pwp.last (kit _) rfl fun K hK => ?_ | refine Pwp.stepD (kit _) rfl rfl fun K hK => ?_ | refine Pwp.lastD (kit _) rfl rfl fun K hK => ?_); simp (dsimp := false) only [↓opsP_nil, ↓opsP_cons, ↓opsD_nil, ↓opsD_cons, footOf, ↓opP, ↓stepP, ↓stepG, go_sem, reduceIte, Nat.reduceAdd, Nat.reduceMul, Nat.reduceEqDiff, Nat.reduceLT, Nat.reduceLeDiff, Nat.reduceSub, reduceCtorEq, Int.reduceToNat, Int.reduceAdd, Int.reduceSub, Int.reduceLT, Int.reduceLE, Int.reduceNeg, Int.reduceBEq, Int.reduceBNe, true_or, c4])
            | (refine Pwp.seq ?_)
            | (refine Pwp.block ?_)
            | (refine Pwp.exit ?_; simp only [thenS, blockS, if_true, if_false, reduceIte, Nat.reduceEqDiff, Nat.add_one_ne_zero, reduceCtorEq])
            | (refine Pwp.skip ?_; simp only [thenS, blockS])
            | (refine Pwp.cond rfl True.intro (fun h => ?_) (fun h => ?_) <;> (try (cases h; done)) <;> (try simp only [h]))
            | (refine Pwp.ret ?_; try simp only [thenS, blockS])
            | (refine hK _ ?_; clear hK K)
            | (refine hK _ _ rfl ?_; clear hK K)
            | (refine CallG.off ?_)
            | (with_reducible refine Or.inl ?_)
            | (simp only [thenS, blockS])
            | (with_reducible refine And.intro ?_ ?_)
            | (with_reducible exact True.intro)
            | (simp (dsimp := false) only [↓opsP_nil, ↓opsP_cons, ↓opsD_nil, ↓opsD_cons, footOf, ↓opP, ↓stepP, ↓stepG, go_sem, reduceIte, Nat.reduceAdd, Nat.reduceMul, Nat.reduceEqDiff, Nat.reduceLT, Nat.reduceLeDiff, Nat.reduceSub, reduceCtorEq, Int.reduceToNat, Int.reduceAdd, Int.reduceSub, Int.reduceLT, Int.reduceLE, Int.reduceNeg, Int.reduceBEq, Int.reduceBNe, true_or, c4]))
          all_goals (try (first | (intro hg; simp [hg]; done) | exact of_decide_eq_true rfl | (cases h; done)))
          refine Pwp.range 3 (S := L10e c false (fun j : Nat => zb odd j list list.length) i) (Sub.view V0 (by simp [L10e]) rfl (by simp [viewH, viewP, viewL, viewO, V0, V9, V9n, VR, VN, keptOf, find, PVal.toD, subD, subL, subV, subD_refl, viewL_ds, disj, PVal.ids, pnil, List.range, List.range.loop, L10e, c3_view]) (by simp [viewT, St.ev, viewH, viewP, viewL, viewO, V0, V9, V9n, VR, VN, keptOf, find, PVal.toD, subD, subL, subV, subD_refl, viewL_ds, disj, PVal.ids, pnil, List.range, List.range.loop, L10e, c3_view])) (fun j hj => ?_) ?_
          · have c5 : decide ((j : Int) < 3) = true := decide_eq_true (by omega)
            have w2 := wrap_succ (i := j) (by omega)
            have hld2 := c3_drop meI (fun j : Nat => zb odd j list list.length) hj
            unfold L10e
            by_cases hij : i = j
            · have hb : ((i : Int) == (j : Int)) = true := by simp [hij]
              repeat' (first
                | ((first | refine Pwp.step (kit _) rfl fun K hK => ?_ | refine Pwp.last (kit _) rfl fun K hK => ?_ | refine Pwp.stepD (kit _) rfl rfl fun K hK => ?_ | refine Pwp.lastD (kit _) rfl rfl fun K hK => ?_); simp (dsimp := false) only [↓opsP_nil, ↓opsP_cons, ↓opsD_nil, ↓opsD_cons, footOf, ↓opP, ↓stepP, ↓stepG, go_sem, reduceIte, Nat.reduceAdd, Nat.reduceMul, Nat.reduceEqDiff, Nat.reduceLT, Nat.reduceLeDiff, Nat.reduceSub, reduceCtorEq, Int.reduceToNat, Int.reduceAdd, Int.reduceSub, Int.reduceLT, Int.reduceLE, Int.reduceNeg, Int.reduceBEq, Int.reduceBNe, true_or, c5, w2, hb])
                | (refine Pwp.seq ?_)
                | (refine Pwp.block ?_)
                | (refine Pwp.exit ?_; simp only [thenS, blockS, if_true, if_false, reduceIte, Nat.reduceEqDiff, Nat.add_one_ne_zero, reduceCtorEq])
                | (refine Pwp.skip ?_; simp only [thenS, blockS])
                | (refine Pwp.cond rfl True.intro (fun h => ?_) (fun h => ?_) <;> (try (cases h; done)) <;> (try simp only [h]))
                | (refine Pwp.ret ?_; try simp only [thenS, blockS])
                | (refine hK _ ?_; clear hK K)
                | (refine hK _ _ rfl ?_; clear hK K)
                | (refine CallG.off ?_)
                | (with_reducible refine Or.inl ?_)
                | (simp only [thenS, blockS])
                | (with_reducible refine And.intro ?_ ?_)
                | (with_reducible exact True.intro)
                | (simp (dsimp := false) only [↓opsP_nil, ↓opsP_cons, ↓opsD_nil, ↓opsD_cons, footOf, ↓opP, ↓stepP, ↓stepG, go_sem, reduceIte, Nat.reduceAdd, Nat.reduceMul, Nat.reduceEqDiff, Nat.reduceLT, Nat.reduceLeDiff, Nat.reduceSub, reduceCtorEq, Int.reduceToNat, Int.reduceAdd, Int.reduceSub, Int.reduceLT, Int.reduceLE, Int.reduceNeg, Int.reduceBEq, Int.reduceBNe, true_or, c5, w2, hb]))
              all_goals (try (first | (intro hg; simp [hg]; done) | exact of_decide_eq_true rfl | (cases h; done)))
              exact Sub.view V0 (by simp [L10e]) rfl (by simp [viewH, viewP, viewL, viewO, V0, V9, V9n, VR, VN, keptOf, find, PVal.toD, subD, subL, subV, subD_refl, viewL_ds, disj, PVal.ids, pnil, List.range, List.range.loop, L10e, c3_view]) (by simp [viewT, St.ev, viewH, viewP, viewL, viewO, V0, V9, V9n, VR, VN, keptOf, find, PVal.toD, subD, subL, subV, subD_refl, viewL_ds, disj, PVal.ids, pnil, List.range, List.range.loop, L10e, c3_view])
            · have hb : ((i : Int) == (j : Int)) = false := by simp; omega
              have r48 := hr48 i j
              have hcl := c3_len meI (fun j : Nat => zb odd j list list.length)
              repeat' (first
                | ((first | refine Pwp.step (kit _) rfl fun K hK => ?_ | refine Pwp.last (kit _) rfl fun K hK => ?_ | refine Pwp.stepD (kit _) rfl rfl fun K hK => ?_ | refine Pwp.lastD (kit _) rfl rfl fun K hK => ?_); simp (dsimp := false) only [↓opsP_nil, ↓opsP_cons, ↓opsD_nil, ↓opsD_cons, footOf, ↓opP, ↓stepP, ↓stepG, go_sem, reduceIte, Nat.reduceAdd, Nat.reduceMul, Nat.reduceEqDiff, Nat.reduceLT, Nat.reduceLeDiff, Nat.reduceSub, reduceCtorEq, Int.reduceToNat, Int.reduceAdd, Int.reduceSub, Int.reduceLT, Int.reduceLE, Int.reduceNeg, Int.reduceBEq, Int.reduceBNe, true_or, c5, w2, hb, hld, hld2, hcl, bookD, pairD])
                | (refine Pwp.seq ?_)
                | (refine Pwp.block ?_)
                | (refine Pwp.exit ?_; simp only [thenS, blockS, if_true, if_false, reduceIte, Nat.reduceEqDiff, Nat.add_one_ne_zero, reduceCtorEq])
                | (refine Pwp.skip ?_; simp only [thenS, blockS])
                | (refine Pwp.cond rfl True.intro (fun h => ?_) (fun h => ?_) <;> (try (cases h; done)) <;> (try simp only [h]))
                | (refine Pwp.ret ?_; try simp only [thenS, blockS])
                | (refine hK _ ?_; clear hK K)
                | (refine hK _ _ rfl ?_; clear hK K)
                | (refine CallK.give (ds := [bookD i (zb odd i list list.length) [], bookD j (zb odd j list list.length) [], I64 c]) rfl (r48) (by simp) ?_)
                | (refine CallG.off ?_)
                | (with_reducible refine Or.inl ?_)
                | (simp only [thenS, blockS])
                | (with_reducible refine And.intro ?_ ?_)
                | (with_reducible exact True.intro)
                | (simp (dsimp := false) only [↓opsP_nil, ↓opsP_cons, ↓opsD_nil, ↓opsD_cons, footOf, ↓opP, ↓stepP, ↓stepG, go_sem, reduceIte, Nat.reduceAdd, Nat.reduceMul, Nat.reduceEqDiff, Nat.reduceLT, Nat.reduceLeDiff, Nat.reduceSub, reduceCtorEq, Int.reduceToNat, Int.reduceAdd, Int.reduceSub, Int.reduceLT, Int.reduceLE, Int.reduceNeg, Int.reduceBEq, Int.reduceBNe, true_or, c5, w2, hb, hld, hld2, hcl, bookD, pairD]))
              all_goals (try (first | (intro hg; simp [hg]; done) | exact of_decide_eq_true rfl | (cases h; done)))
              all_goals (try omega)
              exact Sub.view V0 (by simp [L10e]) rfl (by simp [viewH, viewP, viewL, viewO, V0, V9, V9n, VR, VN, keptOf, find, PVal.toD, subD, subL, subV, subD_refl, viewL_ds, disj, PVal.ids, pnil, List.range, List.range.loop, L10e, c3_view]) (by simp [viewT, St.ev, viewH, viewP, viewL, viewO, V0, V9, V9n, VR, VN, keptOf, find, PVal.toD, subD, subL, subV, subD_refl, viewL_ds, disj, PVal.ids, pnil, List.range, List.range.loop, L10e, c3_view])
          · have c5 : decide (((3 : Nat) : Int) < 3) = false := by simp
            unfold L10e
            repeat' (first
              | ((first | refine Pwp.step (kit _) rfl fun K hK => ?_ | refine Pwp.last (kit _) rfl fun K hK => ?_ | refine Pwp.stepD (kit _) rfl rfl fun K hK => ?_ | refine Pwp.lastD (kit _) rfl rfl fun K hK => ?_); simp (dsimp := false) only [↓opsP_nil, ↓opsP_cons, ↓opsD_nil, ↓opsD_cons, footOf, ↓opP, ↓stepP, ↓stepG, go_sem, reduceIte, Nat.reduceAdd, Nat.reduceMul, Nat.reduceEqDiff, Nat.reduceLT, Nat.reduceLeDiff, Nat.reduceSub, reduceCtorEq, Int.reduceToNat, Int.reduceAdd, Int.reduceSub, Int.reduceLT, Int.reduceLE, Int.reduceNeg, Int.reduceBEq, Int.reduceBNe, true_or, c5, w])
              | (refine Pwp.seq ?_)
              | (refine Pwp.block ?_)
              | (refine Pwp.exit ?_; simp only [thenS, blockS, if_true, if_false, reduceIte, Nat.reduceEqDiff, Nat.add_one_ne_zero, reduceCtorEq])
              | (refine Pwp.skip ?_; simp only [thenS, blockS])
              | (refine Pwp.cond rfl True.intro (fun h => ?_) (fun h => ?_) <;> (try (cases h; done)) <;> (try simp only [h]))
              | (refine Pwp.ret ?_; try simp only [thenS, blockS])
              | (refine hK _ ?_; clear hK K)
              | (refine hK _ _ rfl ?_; clear hK K)
              | (refine CallG.off ?_)
              | (with_reducible refine Or.inl ?_)
              | (simp only [thenS, blockS])
              | (with_reducible refine And.intro ?_ ?_)
              | (with_reducible exact True.intro)
              | (simp (dsimp := false) only [↓opsP_nil, ↓opsP_cons, ↓opsD_nil, ↓opsD_cons, footOf, ↓opP, ↓stepP, ↓stepG, go_sem, reduceIte, Nat.reduceAdd, Nat.reduceMul, Nat.reduceEqDiff, Nat.reduceLT, Nat.reduceLeDiff, Nat.reduceSub, reduceCtorEq, Int.reduceToNat, Int.reduceAdd, Int.reduceSub, Int.reduceLT, Int.reduceLE, Int.reduceNeg, Int.reduceBEq, Int.reduceBNe, true_or, c5, w]))
            all_goals (try (first | (intro hg; simp [hg]; done) | exact of_decide_eq_true rfl | (cases h; done)))
            exact Sub.view V0 (by simp [L10d]) rfl (by simp [viewH, viewP, viewL, viewO, V0, V9, V9n, VR, VN, keptOf, find, PVal.toD, subD, subL, subV, subD_refl, viewL_ds, disj, PVal.ids, pnil, List.range, List.range.loop, L10d, c3_view]) (by simp [viewT, St.ev, viewH, viewP, viewL, viewO, V0, V9, V9n, VR, VN, keptOf, find, PVal.toD, subD, subL, subV, subD_refl, viewL_ds, disj, PVal.ids, pnil, List.range, List.range.loop, L10d, c3_view])
        · have c4 : decide (((3 : Nat) : Int) < 3) = false := by simp
          unfold L10d
          repeat' (first
            | ((first | refine Pwp.step (kit _) rfl fun K hK => ?_ | refine Pwp.last (kit _) rfl fun K hK => ?_ | refine Pwp.stepD (kit _) rfl rfl fun K hK => ?_ | refine Pwp.lastD (kit _) rfl rfl fun K hK => ?_); simp (dsimp := false) only [↓opsP_nil, ↓opsP_cons, ↓opsD_nil, ↓opsD_cons, footOf, ↓opP, ↓stepP, ↓stepG, go_sem, reduceIte, Nat.reduceAdd, Nat.reduceMul, Nat.reduceEqDiff, Nat.reduceLT, Nat.reduceLeDiff, Nat.reduceSub, reduceCtorEq, Int.reduceToNat, Int.reduceAdd, Int.reduceSub, Int.reduceLT, Int.reduceLE, Int.reduceNeg, Int.reduceBEq, Int.reduceBNe, true_or, c4])
            | (refine Pwp.seq ?_)
            | (refine Pwp.block ?_)
            | (refine Pwp.exit ?_; simp only [thenS, blockS, if_true, if_false, reduceIte, Nat.reduceEqDiff, Nat.add_one_ne_zero, reduceCtorEq])
            | (refine Pwp.skip ?_; simp only [thenS, blockS])
            | (refine Pwp.cond rfl True.intro (fun h => ?_) (fun h => ?_) <;> (try (cases h; done)) <;> (try simp only [h]))
            | (refine Pwp.ret ?_; try simp only [thenS, blockS])
            | (refine hK _ ?_; clear hK K)
            | (refine hK _ _ rfl ?_; clear hK K)
            | (refine CallG.off ?_)
            | (with_reducible refine Or.inl ?_)
            | (simp only [thenS, blockS])
            | (with_reducible refine And.intro ?_ ?_)
            | (with_reducible exact True.intro)
            | (simp (dsimp := false) only [↓opsP_nil, ↓opsP_cons, ↓opsD_nil, ↓opsD_cons, footOf, ↓opP, ↓stepP, ↓stepG, go_sem, reduceIte, Nat.reduceAdd, Nat.reduceMul, Nat.reduceEqDiff, Nat.reduceLT, Nat.reduceLeDiff, Nat.reduceSub, reduceCtorEq, Int.reduceToNat, Int.reduceAdd, Int.reduceSub, Int.reduceLT, Int.reduceLE, Int.reduceNeg, Int.reduceBEq, Int.reduceBNe, true_or, c4]))
          all_goals (try (first | (intro hg; simp [hg]; done) | exact of_decide_eq_true rfl | (cases h; done)))
          (refine Fin.data (.inr rfl) (by simp (dsimp := false) only [↓opsP_nil, ↓opsP_cons, ↓opsD_nil, ↓opsD_cons, footOf, ↓opP, ↓stepP, ↓stepG, go_sem, reduceIte, Nat.reduceAdd, Nat.reduceMul, Nat.reduceEqDiff, Nat.reduceLT, Nat.reduceLeDiff, Nat.reduceSub, reduceCtorEq, Int.reduceToNat, Int.reduceAdd, Int.reduceSub, Int.reduceLT, Int.reduceLE, Int.reduceNeg, Int.reduceBEq, Int.reduceBNe, true_or, resL]; rfl) (by simp only [and_self]) (by simp (dsimp := false) only [↓opsP_nil, ↓opsP_cons, ↓opsD_nil, ↓opsD_cons, footOf, ↓opP, ↓stepP, ↓stepG, go_sem, reduceIte, Nat.reduceAdd, Nat.reduceMul, Nat.reduceEqDiff, Nat.reduceLT, Nat.reduceLeDiff, Nat.reduceSub, reduceCtorEq, Int.reduceToNat, Int.reduceAdd, Int.reduceSub, Int.reduceLT, Int.reduceLE, Int.reduceNeg, Int.reduceBEq, Int.reduceBNe, true_or, resP, Nat.le_refl, List.take_length]; try rfl) ?_)
          exact subD_refl _

end Go.Proofs.Ytdodgbhodkcckaa.Pv
