/- Walks of the statements of books against each other: the head, what all have. -/
import Derived.Test.YtdodgbhodkcckaaPyd
import Derived.Test.YtdodgbhodkcckaaPxk
set_option linter.unusedVariables false
set_option linter.unusedSimpArgs false
set_option autoImplicit false
set_option maxRecDepth 100000
namespace Go.Proofs.Ytdodgbhodkcckaa.Pv
open Go Go.RowKit

theorem puts_single {me : Int} {x : Item} (hf : Fine x) (hm : x.seller = me ∨ x.buyer = me) : putsI me [x] = [x] := by
  show putS me [] x = [x]
  unfold putS
  have hi : isIn [] x.seller x.number = false := by simp [isIn]
  rw [if_pos (putE_zero.2 ⟨hf, hm, .inr (by simp)⟩)]
  unfold putIn
  rw [hi]; simp
theorem addV_at {m : Nat → Int} (hm : ∀ k, k < 64 → In64 (m k)) {me c a : Int} (h1 : 0 ≤ me ∧ me < 8) (h2 : 0 ≤ c ∧ c < 8) (ha : In64 a) (h0 : m (8 * me + c).toNat = 0) : addV (vec m) me c a = (vec (put m (8 * me + c).toNat a), 0) := by
  obtain ⟨k, hk, rfl, rfl⟩ := inV (e := me) (c := c) (by simp only [outV, Bool.or_eq_false_iff, decide_eq_false_iff_not]; omega)
  have e : (8 * ((k / 8 : Nat) : Int) + ((k % 8 : Nat) : Int)).toNat = k := by omega
  rw [e] at h0 ⊢
  rw [addV_vec hm hk ha, h0, Int.zero_add, if_pos ha.fits]
theorem put_in {m : Nat → Int} (hm : ∀ k, k < 64 → In64 (m k)) {j : Nat} {a : Int} (ha : In64 a) : ∀ k, k < 64 → In64 (put m j a k) := by
  intro k hk
  unfold put
  split
  · exact ha
  · exact hm k hk
theorem zero_in : ∀ k, k < 64 → In64 ((fun _ => 0 : Nat → Int) k) := fun _ _ => by simp [In64]
/-- What two have, and three. -/
def tab2 (c n0 n1 : Int) : Nat → Int := put (put (fun _ => 0) c.toNat n0) (8 + c).toNat n1
def tab3 (c n0 n1 n2 : Int) : Nat → Int := put (tab2 c n0 n1) (16 + c).toNat n2
theorem net64 {me c : Int} {l : List Item} (h : okBk (me, l)) : In64 (net me c l) := by
  have := net_in (me := me) (c := c) (l := l) h.2 h.1
  simp [In64]; omega
theorem group2 {c : Int} (hc : 0 ≤ c ∧ c < 8) {l0 l1 : List Item} (h0 : okBk (0, l0)) (h1 : okBk (1, l1)) : groupV c [] [(0, l0), (1, l1)] = (vec (tab2 c (net 0 c l0) (net 1 c l1)), 0) := by
  have i0 := net64 (c := c) h0
  have i1 := net64 (c := c) h1
  have e0 := addV_at (me := 0) zero_in (by omega) hc i0 rfl
  have e1 := addV_at (me := 1) (put_in zero_in (j := c.toNat) i0) (by omega) hc i1 (by simp only [put]; rw [if_neg (by omega)])
  simp only [groupV, show ([] : List Pos) = vec (fun _ => 0) from rfl, e0, show (8 * 0 + c).toNat = c.toNat by omega, if_true, e1, show (8 * 1 + c).toNat = (8 + c).toNat by omega]
  rfl
theorem group3 {c : Int} (hc : 0 ≤ c ∧ c < 8) {l0 l1 l2 : List Item} (h0 : okBk (0, l0)) (h1 : okBk (1, l1)) (h2 : okBk (2, l2)) : groupV c [] [(0, l0), (1, l1), (2, l2)] = (vec (tab3 c (net 0 c l0) (net 1 c l1) (net 2 c l2)), 0) := by
  have i0 := net64 (c := c) h0
  have i1 := net64 (c := c) h1
  have i2 := net64 (c := c) h2
  have e0 := addV_at (me := 0) zero_in (by omega) hc i0 rfl
  have e1 := addV_at (me := 1) (put_in zero_in (j := c.toNat) i0) (by omega) hc i1 (by simp only [put]; rw [if_neg (by omega)])
  have e2 := addV_at (me := 2) (put_in (put_in zero_in (j := c.toNat) i0) (j := (8 + c).toNat) i1) (by omega) hc i2 (by simp only [put]; rw [if_neg (by omega), if_neg (by omega)])
  simp only [groupV, show ([] : List Pos) = vec (fun _ => 0) from rfl, e0, show (8 * 0 + c).toNat = c.toNat by omega, if_true, e1, show (8 * 1 + c).toNat = (8 + c).toNat by omega, e2, show (8 * 2 + c).toNat = (16 + c).toNat by omega]
  rfl
theorem groupOut {c : Int} (hc : ¬ (0 ≤ c ∧ c < 8)) (b : Bk) (bs : List Bk) : groupV c [] (b :: bs) = ([], 1) := by
  have ho : outV b.1 c = true := by simp only [outV, Bool.or_eq_true, decide_eq_true_eq]; omega
  rw [groupV, addV_out ho]; simp
theorem of2 {c n0 n1 : Int} (hc : 0 ≤ c ∧ c < 8) : ofT (tab2 c n0 n1) 0 c = n0 ∧ ofT (tab2 c n0 n1) 1 c = n1 ∧ ofT (tab2 c n0 n1) 2 c = 0 := by
  unfold ofT tab2 put outV
  refine ⟨?_, ?_, ?_⟩ <;> rw [if_neg (by simp; omega)]
  · rw [if_neg (by omega), if_pos (by omega)]
  · rw [if_pos (by omega)]
  · rw [if_neg (by omega), if_neg (by omega)]

def h46a : Item := ⟨0, 1, 1, 0, 70, 0, 3, 0⟩
def h46b : Item := ⟨0, 1, 1, 0, 70, 0, 3, 5⟩
theorem fine46a : Fine h46a := chk_fine.1 rfl
theorem fine46b : Fine h46b := chk_fine.1 rfl
theorem total2 : sumOf (ofCur 0 (vec (tab2 0 70 (-70)))) = 0 := rfl
theorem w00 : IntKind.i64.wrap 0 = 0 := wrap_of (by omega) (by omega)
set_option maxHeartbeats 8000000 in
theorem run46 : Runs Try.prog 46 [] [] (pbool true) [] := by
  have b0 : okBk (0, [h46a]) := ⟨by simp, fun x hx => by simp at hx; subst hx; exact fine46a⟩
  have b1 : okBk (1, [h46b]) := ⟨by simp, fun x hx => by simp at hx; subst hx; exact fine46b⟩
  have r47 := run47 [h46a] [h46b] (by simp) (by simp)
  rw [puts_single (me := 0) fine46a (.inl rfl), puts_single (me := 1) fine46b (.inr rfl)] at r47
  have r48 := run48F 0 1 0 [h46a] [h46b] (by simp) (by simp) b0.2 b1.2
  rw [show sumOf (amts (agL 0 1 0 [h46a])) = 70 from rfl, show sumOf (amts (agL 0 1 0 [h46b])) = 70 from rfl, show alikeL (agL 0 1 0 [h46a]) (agL 0 1 0 [h46b]) = true from rfl] at r48
  have r52 := run52 0 [(0, [h46a]), (1, [h46b])] (by simp) (by simp [b0, b1])
  rw [group2 (by omega) b0 b1, show net 0 0 [h46a] = 70 from rfl, show net 1 0 [h46b] = -70 from rfl] at r52
  have hvl := vec_len (tab2 0 70 (-70))
  have r42 := run42 (vec (tab2 0 70 (-70))) 0 (by omega) (ofCur_in (put_in (put_in zero_in (by simp [In64])) (by simp [In64])) 0)
  rw [total2, if_pos (show fits 0 = true from rfl)] at r42
  have r36 := run36 (vec (tab2 0 70 (-70))) 0 0 (by omega)
  rw [hasV_vec _ (by simp [In64]) (by simp [In64]), (of2 (by omega)).1] at r36
  have r51 := run51 0 [(0, [h46a]), (1, [h46b])] (by simp) (by simp [b0, b1])
  rw [show evenB 0 [(0, [h46a]), (1, [h46b])] = true from rfl] at r51
  refine Runs.of (kit Try.prog) Try.func46 rfl rfl (by rw [Try.ntmps46]; exact of_decide_eq_true rfl) ?_; rw [Try.ntmps46, Try.results46]
  repeat' (first
    | ((first | refine Pwp.step (kit _) rfl fun K hK => ?_ | refine Pwp.last (kit _) rfl fun K hK => ?_ | refine Pwp.stepD (kit _) rfl rfl fun K hK => ?_ | refine Pwp.lastD (kit _) rfl rfl fun K hK => ?_); simp (dsimp := false) only [↓opsP_nil, ↓opsP_cons, ↓opsD_nil, ↓opsD_cons, footOf, ↓opP, ↓stepP, ↓stepG, go_sem, reduceIte, Nat.reduceAdd, Nat.reduceMul, Nat.reduceEqDiff, Nat.reduceLT, Nat.reduceLeDiff, Nat.reduceSub, reduceCtorEq, Int.reduceToNat, Int.reduceAdd, Int.reduceSub, Int.reduceLT, Int.reduceLE, Int.reduceNeg, Int.reduceBEq, Int.reduceBNe, true_or, bookD, vecD, pairD, w00])
    | (refine Pwp.seq ?_)
    | (refine Pwp.block ?_)
    | (refine Pwp.exit ?_; simp only [thenS, blockS, if_true, if_false, reduceIte, Nat.reduceEqDiff, Nat.add_one_ne_zero, reduceCtorEq])
    | (refine Pwp.skip ?_; simp only [thenS, blockS])
    | (refine Pwp.cond rfl True.intro (fun h => ?_) (fun h => ?_) <;> (try (cases h; done)) <;> (try simp only [h]))
    | (refine Pwp.ret ?_; try simp only [thenS, blockS])
    | (refine hK _ ?_; clear hK K)
    | (refine hK _ _ rfl ?_; clear hK K)
    | (refine CallK.give (ds := [.slc 8 (itemsD [h46a]), .slc 8 (itemsD [h46b])]) rfl (r47) (by simp) ?_)
    | (refine CallK.give (ds := [bookD 0 [h46a] [], bookD 1 [h46b] [], I64 0]) rfl (r48) (by simp) ?_)
    | (refine CallK.give (ds := [I64 0, .slc 3 (booksD [(0, [h46a]), (1, [h46b])])]) rfl (r52) (by simp) ?_)
    | (refine CallK.give (ds := [vecD (vec (tab2 0 70 (-70))), I64 0]) rfl (r42) (by simp) ?_)
    | (refine CallG.toD (ds := [vecD (vec (tab2 0 70 (-70))), I64 0, I64 0]) rfl (r36) rfl ?_ ?_)
    | (refine CallG.toD (ds := [I64 0, .slc 3 (booksD [(0, [h46a]), (1, [h46b])])]) rfl (r51) rfl ?_ ?_)
    | (refine CallG.off ?_)
    | (with_reducible refine Or.inl ?_)
    | (simp only [thenS, blockS])
    | (with_reducible refine And.intro ?_ ?_)
    | (with_reducible exact True.intro)
    | (simp (dsimp := false) only [↓opsP_nil, ↓opsP_cons, ↓opsD_nil, ↓opsD_cons, footOf, ↓opP, ↓stepP, ↓stepG, go_sem, reduceIte, Nat.reduceAdd, Nat.reduceMul, Nat.reduceEqDiff, Nat.reduceLT, Nat.reduceLeDiff, Nat.reduceSub, reduceCtorEq, Int.reduceToNat, Int.reduceAdd, Int.reduceSub, Int.reduceLT, Int.reduceLE, Int.reduceNeg, Int.reduceBEq, Int.reduceBNe, true_or, bookD, vecD, pairD, w00]))
  all_goals (try (first | (intro hg; simp [hg]; done) | exact of_decide_eq_true rfl | (cases h; done)))
  (refine Fin.data (.inr rfl) (by simp (dsimp := false) only [↓opsP_nil, ↓opsP_cons, ↓opsD_nil, ↓opsD_cons, footOf, ↓opP, ↓stepP, ↓stepG, go_sem, reduceIte, Nat.reduceAdd, Nat.reduceMul, Nat.reduceEqDiff, Nat.reduceLT, Nat.reduceLeDiff, Nat.reduceSub, reduceCtorEq, Int.reduceToNat, Int.reduceAdd, Int.reduceSub, Int.reduceLT, Int.reduceLE, Int.reduceNeg, Int.reduceBEq, Int.reduceBNe, true_or, resL]; rfl) (by simp only [and_self]) (by simp (dsimp := false) only [↓opsP_nil, ↓opsP_cons, ↓opsD_nil, ↓opsD_cons, footOf, ↓opP, ↓stepP, ↓stepG, go_sem, reduceIte, Nat.reduceAdd, Nat.reduceMul, Nat.reduceEqDiff, Nat.reduceLT, Nat.reduceLeDiff, Nat.reduceSub, reduceCtorEq, Int.reduceToNat, Int.reduceAdd, Int.reduceSub, Int.reduceLT, Int.reduceLE, Int.reduceNeg, Int.reduceBEq, Int.reduceBNe, true_or, resP, Nat.le_refl, List.take_length]; try rfl) ?_)
  exact subD_refl _

end Go.Proofs.Ytdodgbhodkcckaa.Pv
