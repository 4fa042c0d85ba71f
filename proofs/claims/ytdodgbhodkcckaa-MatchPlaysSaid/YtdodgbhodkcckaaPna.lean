/- Matching: a desk and the document's, plain laws: lists in order, and as they came. -/
import Derived.Test.YtdodgbhodkcckaaPmk
import Derived.Test.YtdodgbhodkcckaaPmy
set_option linter.unusedVariables false
set_option linter.unusedSimpArgs false
set_option autoImplicit false
set_option maxRecDepth 100000
namespace Go.Proofs.Ytdodgbhodkcckaa.Pv
open Go Go.RowKit

theorem split_get {α : Type} {l : List α} {k : Nat} {z : α} (h : l[k]? = some z) : l = l.take k ++ z :: l.drop (k + 1) := by
  obtain ⟨hk, rfl⟩ := List.getElem?_eq_some_iff.1 h
  rw [← List.drop_eq_getElem_cons hk, List.take_append_drop]
theorem set_split {α : Type} {l : List α} {k : Nat} {z : α} (h : l[k]? = some z) (y : α) : l.set k y = l.take k ++ y :: l.drop (k + 1) := by
  have hk := (List.getElem?_eq_some_iff.1 h).1
  rw [List.set_eq_take_append_cons_drop, if_pos hk]
/-- One in the place of another one, in lists of the same things. -/
theorem set_perm {α : Type} {l A B : List α} {k : Nat} {z : α} (hz : l[k]? = some z) (h : l.Perm (A ++ z :: B)) (y : α) : (l.set k y).Perm (A ++ y :: B) := by
  rw [set_split hz]
  have h1 : (z :: (l.take k ++ l.drop (k + 1))).Perm (z :: (A ++ B)) := by
    have e := split_get hz
    have p1 : l.Perm (z :: (l.take k ++ l.drop (k + 1))) := by
      have := List.perm_middle (a := z) (l₁ := l.take k) (l₂ := l.drop (k + 1))
      rw [← e] at this
      exact this
    exact p1.symm.trans (h.trans List.perm_middle)
  have h2 := List.Perm.cons_inv h1
  exact List.perm_middle.trans ((List.Perm.cons y h2).trans List.perm_middle.symm)
theorem isNm_key {s n : Int} {y : Item} (hn : In64 n) (hy : In64 y.number) : isNm s n y = true ↔ kI y = keyN s n := by
  unfold isNm kI
  rw [Bool.and_eq_true, beq_iff_eq, beq_iff_eq, keyN_inj hy hn]
/-- The same items. -/
structure RelI (me : Int) (l w : List Item) : Prop where
  gd : Good me l
  pm : w.Perm l
theorem rel_has {me : Int} {l w : List Item} (h : RelI me l w) {s n : Int} (hn : In64 n) : (fndV s n 0 w = -1 ∧ isIn l s n = false ∧ seek kI l (keyN s n) = none) ∨ ∃ (k : Nat) (y : Item), fndV s n 0 w = ((0 + k : Nat) : Int) ∧ w[k]? = some y ∧ isIn l s n = true ∧ getI l s n = y ∧ seek kI l (keyN s n) = some y := by
  rcases fnd_at s n w 0 with ⟨h1, h2⟩ | ⟨k, y, h1, h2, h3⟩
  · left
    have hs : seek kI l (keyN s n) = none := by
      rw [seek_none_iff h.gd.rise]
      intro y hy e
      have := h2 y (h.pm.mem_iff.2 hy)
      rw [(isNm_key hn (h.gd.fine y hy).num).2 e] at this
      cases this
    exact ⟨h1, by rw [in_seek h.gd hn, hs]; rfl, hs⟩
  · right
    have hy := h.pm.mem_iff.1 (List.mem_of_getElem? h2)
    have hs : seek kI l (keyN s n) = some y := (seek_some_iff h.gd.rise).2 ⟨hy, (isNm_key hn (h.gd.fine y hy).num).1 h3⟩
    exact ⟨k, y, h1, h2, by rw [in_seek h.gd hn, hs]; rfl, by rw [get_seek h.gd hn, hs]; rfl, hs⟩
theorem keep_perm {me : Int} {l w : List Item} (h : RelI me l w) {x : Item} (hf : Fine x) (hm : x.seller = me ∨ x.buyer = me) : RelI me (putIn l x) (keepL2 w x) := by
  refine ⟨by rw [put_enter h.gd hf.num]; exact h.gd.enter hf hm, ?_⟩
  rw [put_enter h.gd hf.num]
  unfold keepL2
  rcases rel_has h (s := x.seller) hf.num with ⟨h1, _, h3⟩ | ⟨k, y, h1, h2, _, _, h3⟩
  · rw [h1, if_pos (by decide)]
    have e := enter_none (k := kI) (y := x) h3
    rw [← e]
    refine List.Perm.trans ?_ List.perm_middle.symm
    refine (List.perm_append_comm).trans ?_
    show (x :: w).Perm _
    refine List.Perm.cons x (h.pm.trans ?_)
    rw [List.take_append_drop]
  · rw [h1, Nat.zero_add, if_neg (by omega), Int.toNat_natCast]
    have hl : l = below kI l (kI x) ++ y :: rest kI l (kI x) := by
      have h3' : seek kI l (kI x) = some y := h3
      rw [← rest_some h3', split_at]
    have e : enter kI x l = below kI l (kI x) ++ x :: rest kI l (kI x) := rfl
    rw [e]
    refine set_perm h2 ?_ x
    rw [← hl]
    exact h.pm

/-! ### Orders -/
def kO (o : Order) : Int := keyN o.seller o.number
structure GoodO (l : List Order) : Prop where
  rise : Rising kO l
  num : ∀ o ∈ l, In64 o.number
  am : ∀ o ∈ l, 0 ≤ o.amount ∧ o.amount ≤ 1125899906842624
theorem posO_below {l : List Order} (h : GoodO l) {s n : Int} (hn : In64 n) : posO l s n = (below kO l (keyN s n)).length :=
  bs_rising h.rise fun i y hy => by
    simp only [cmpAtO, hy]
    exact keyN_lt (h.num y (List.mem_of_getElem? hy)) hn
theorem inO_seek {l : List Order} (h : GoodO l) {s n : Int} (hn : In64 n) : isInO l s n = (seek kO l (keyN s n)).isSome := by
  unfold isInO
  rw [posO_below h hn]
  exact bs_there fun i y hy => by
    simp only [cmpAtO, hy]
    exact keyN_eq (h.num y (List.mem_of_getElem? hy)) hn
theorem getO_seek {l : List Order} (h : GoodO l) {s n : Int} (hn : In64 n) {y : Order} (hs : seek kO l (keyN s n) = some y) : getO l s n = y.amount := by
  unfold getO
  rw [inO_seek h hn, posO_below h hn, hs, (seek_at hs).1]; rfl
theorem putO_enter {l : List Order} (h : GoodO l) {x : Order} (hn : In64 x.number) : putO l x = enter kO x l := by
  unfold putO
  rw [inO_seek h hn, posO_below h hn]
  cases hs : seek kO l (keyN x.seller x.number) with
  | none => simp only [Option.isSome_none, Bool.false_eq_true, if_false]; exact enter_none (y := x) hs
  | some y =>
    simp only [Option.isSome_some, if_true, (seek_at hs).1]
    have hy := (seek_some_iff h.rise).1 hs
    obtain ⟨e1, e2⟩ := (keyN_inj (h.num y hy.1) hn).1 hy.2
    rw [show (⟨y.seller, y.number, x.amount⟩ : Order) = x by rw [e1, e2]]
    exact enter_some (y := x) hs
theorem GoodO.enter {l : List Order} (h : GoodO l) {x : Order} (hn : In64 x.number) (ha : 0 ≤ x.amount ∧ x.amount ≤ 1125899906842624) : GoodO (enter kO x l) :=
  ⟨rising_enter h.rise x, fun y hy => by
    rcases (mem_enter h.rise).1 hy with rfl | ⟨h1, _⟩
    · exact hn
    · exact h.num y h1, fun y hy => by
    rcases (mem_enter h.rise).1 hy with rfl | ⟨h1, _⟩
    · exact ha
    · exact h.am y h1⟩
theorem isNmO_key {s n : Int} {y : Order} (hn : In64 n) (hy : In64 y.number) : isNmO s n y = true ↔ kO y = keyN s n := by
  unfold isNmO kO
  rw [Bool.and_eq_true, beq_iff_eq, beq_iff_eq, keyN_inj hy hn]
structure RelO (l w : List Order) : Prop where
  gd : GoodO l
  pm : w.Perm l
/-- What is left where a name is taken out. -/
theorem keepO_eq {l : List Order} (h : GoodO l) {s n : Int} (hn : In64 n) : keepO s n l = below kO l (keyN s n) ++ rest kO l (keyN s n) := by
  have out : ∀ y ∈ l, kO y ≠ keyN s n → isNmO s n y = false := fun y hy hk => by
    cases hq : isNmO s n y with
    | false => rfl
    | true => exact absurd ((isNmO_key hn (h.num y hy)).1 hq) hk
  cases hs : seek kO l (keyN s n) with
  | none =>
    rw [rest_none hs]
    have hl : below kO l (keyN s n) ++ l.drop (below kO l (keyN s n)).length = l := by
      have e1 := (cut_at (split_at (k := kO) l (keyN s n)))
      rw [e1.2.1, split_at]
    rw [hl]
    unfold keepO
    rw [List.filter_eq_self]
    intro y hy
    rw [out y hy ((seek_none_iff h.rise).1 hs y hy)]; rfl
  | some z =>
    have hl : l = below kO l (keyN s n) ++ z :: rest kO l (keyN s n) := by rw [← rest_some hs, split_at]
    have hz := (seek_some_iff h.rise).1 hs
    have hzt : isNmO s n z = true := (isNmO_key hn (h.num z hz.1)).2 hz.2
    have hu : ∀ y ∈ l, kO y = keyN s n → y = z := fun y hy hk => rising_inj h.rise hy hz.1 (hk.trans hz.2.symm)
    have hr := h.rise
    generalize hA : below kO l (keyN s n) = A at *
    generalize hB : rest kO l (keyN s n) = B at *
    unfold keepO
    rw [hl] at hr
    conv => lhs; rw [hl]
    obtain ⟨r1, r2, r3⟩ := Rising.append hr
    have r4 := (Rising.tail r2).1
    rw [List.filter_append, List.filter_cons, hzt]
    simp only [Bool.not_true, Bool.false_eq_true, if_false]
    congr 1
    · rw [List.filter_eq_self]
      intro y hy
      have hyl : y ∈ l := by rw [hl]; exact List.mem_append.2 (.inl hy)
      have := r3 y hy z (by simp)
      rw [out y hyl (by rw [← hz.2]; omega)]; rfl
    · rw [List.filter_eq_self]
      intro y hy
      have hyl : y ∈ l := by rw [hl]; exact List.mem_append.2 (.inr (List.mem_cons.2 (.inr hy)))
      have := r4 y hy
      rw [out y hyl (by rw [← hz.2]; omega)]; rfl
theorem order_perm {l w : List Order} (h : RelO l w) {x : Order} (hn : In64 x.number) (ha : 0 ≤ x.amount ∧ x.amount ≤ 1125899906842624) : RelO (putO l x) (keepO x.seller x.number w ++ [x]) := by
  refine ⟨by rw [putO_enter h.gd hn]; exact h.gd.enter hn ha, ?_⟩
  rw [putO_enter h.gd hn]
  have e := keepO_eq h.gd (s := x.seller) hn
  have p : (keepO x.seller x.number w).Perm (keepO x.seller x.number l) := h.pm.filter _
  rw [e] at p
  refine (List.perm_append_comm).trans ?_
  show (x :: keepO x.seller x.number w).Perm _
  exact (List.Perm.cons x p).trans List.perm_middle.symm

end Go.Proofs.Ytdodgbhodkcckaa.Pv
