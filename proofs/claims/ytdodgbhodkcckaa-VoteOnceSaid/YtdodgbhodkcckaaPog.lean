/- An entity's part in cycles, plain laws: items locked, items freed or settled. No program is in sight here. -/
import Derived.Test.YtdodgbhodkcckaaPoa
import Derived.Test.YtdodgbhodkcckaaPoe
import Derived.Test.YtdodgbhodkcckaaPya
set_option linter.unusedVariables false
set_option linter.unusedSimpArgs false
set_option autoImplicit false
namespace Go.Proofs.Ytdodgbhodkcckaa.Pv
open Go Go.RowKit

/-- Some items put, each in another form. -/
def foldB (f : Item → Item) (ys l : List Item) : List Item := ys.foldl (fun b x => putIn b (f x)) l
theorem foldB_cons (f : Item → Item) (x : Item) (ys l : List Item) : foldB f (x :: ys) l = foldB f ys (putIn l (f x)) := rfl
theorem foldB_take {f : Item → Item} {ys l : List Item} {i : Nat} {x : Item} (h : ys[i]? = some x) : foldB f (ys.take (i + 1)) l = putIn (foldB f (ys.take i) l) (f x) := by
  unfold foldB; rw [List.take_add_one, h, List.foldl_append]; rfl
theorem put_good {me : Int} {l : List Item} (h : Good me l) {x : Item} (hf : Fine x) (hm : x.seller = me ∨ x.buyer = me) : Good me (putIn l x) := by
  rw [put_enter h hf.num]; exact h.enter hf hm
theorem foldB_good {f : Item → Item} {me : Int} : ∀ (ys l : List Item), Good me l → (∀ x ∈ ys, Fine (f x) ∧ ((f x).seller = me ∨ (f x).buyer = me)) → Good me (foldB f ys l)
  | [], l, h, _ => h
  | x :: ys, l, h, hx => foldB_good ys _ (put_good h (hx x (by simp)).1 (hx x (by simp)).2) fun y hy => hx y (by simp [hy])
theorem foldB_enter {f : Item → Item} {me : Int} : ∀ (ys l : List Item), Good me l → (∀ x ∈ ys, Fine (f x) ∧ ((f x).seller = me ∨ (f x).buyer = me)) → foldB f ys l = ys.foldl (fun b x => enter kI (f x) b) l
  | [], l, h, _ => rfl
  | x :: ys, l, h, hx => by
    rw [foldB_cons, List.foldl_cons, foldB_enter ys _ (put_good h (hx x (by simp)).1 (hx x (by simp)).2) fun y hy => hx y (by simp [hy]), put_enter h (hx x (by simp)).1.num]
theorem foldB_map {f : Item → Item} {me : Int} {ys l : List Item} (h : Good me l) (hs : ys.Sublist l) (hk : ∀ x, kI (f x) = kI x) (hx : ∀ x ∈ ys, Fine (f x) ∧ ((f x).seller = me ∨ (f x).buyer = me)) :
    foldB f ys l = l.map (fun x => if x ∈ ys then f x else x) := by
  rw [foldB_enter ys l h hx]; exact puts_sub' hk hs h.rise
theorem foldB_len {f : Item → Item} {me : Int} {ys l : List Item} (h : Good me l) (hs : ys.Sublist l) (hk : ∀ x, kI (f x) = kI x) (hx : ∀ x ∈ ys, Fine (f x) ∧ ((f x).seller = me ∨ (f x).buyer = me)) :
    (foldB f ys l).length = l.length := by rw [foldB_map h hs hk hx, List.length_map]
theorem in_mem {me : Int} {l : List Item} (h : Good me l) {x : Item} (hx : x ∈ l) : isIn l x.seller x.number = true ∧ getI l x.seller x.number = x := by
  have hn := (h.fine x hx).num
  have hs : seek kI l (keyN x.seller x.number) = some x := (seek_some_iff h.rise).2 ⟨hx, rfl⟩
  exact ⟨by rw [in_seek h hn, hs]; rfl, by rw [get_seek h hn, hs]; rfl⟩
theorem get_mem {me : Int} {l : List Item} (h : Good me l) {s n : Int} (hn : In64 n) (hi : isIn l s n = true) : getI l s n ∈ l ∧ (getI l s n).seller = s ∧ (getI l s n).number = n := by
  rw [in_seek h hn] at hi
  rw [get_seek h hn]
  cases hs : seek kI l (keyN s n) with
  | none => rw [hs] at hi; cases hi
  | some y =>
    have := (seek_some_iff h.rise).1 hs
    exact ⟨this.1, (keyN_inj (h.fine y this.1).num hn).1 this.2⟩
/-- Whatever step of puts: it is there, and can be put. -/
theorem foldB_put {f : Item → Item} {me : Int} {ys l : List Item} (h : Good me l) (hs : ys.Sublist l) (hk : ∀ x, (f x).seller = x.seller ∧ (f x).number = x.number) (hx : ∀ x ∈ ys, Fine (f x) ∧ ((f x).seller = me ∨ (f x).buyer = me)) {i : Nat} {x : Item} (hi : ys[i]? = some x) :
    Good me (foldB f (ys.take i) l) ∧ (foldB f (ys.take i) l).length = l.length ∧ putE me (foldB f (ys.take i) l) (f x) = 0 := by
  have hm := List.mem_of_getElem? hi
  have hx' : ∀ x ∈ ys.take i, Fine (f x) ∧ ((f x).seller = me ∨ (f x).buyer = me) := fun x hx2 => hx x (List.mem_of_mem_take hx2)
  have hs' : (ys.take i).Sublist l := (List.take_sublist i ys).trans hs
  have hk' : ∀ x, kI (f x) = kI x := fun x => by unfold kI; rw [(hk x).1, (hk x).2]
  have hg := foldB_good _ l h hx'
  refine ⟨hg, foldB_len h hs' hk' hx', putE_zero.2 ⟨(hx x hm).1, (hx x hm).2, .inl ?_⟩⟩
  rw [foldB_map h hs' hk' hx']
  rw [foldB_map h hs' hk' hx'] at hg
  have hml : (fun z => if z ∈ ys.take i then f z else z) x ∈ l.map (fun z => if z ∈ ys.take i then f z else z) := List.mem_map.2 ⟨x, hs.subset hm, rfl⟩
  have := (in_mem hg hml).1
  rw [(hk x).1, (hk x).2]
  by_cases hc : x ∈ ys.take i
  · simp only [if_pos hc] at this
    rw [(hk x).1, (hk x).2] at this; exact this
  · simp only [if_neg hc] at this
    exact this

theorem free_spec {c : Int} {l : List Item} {x : Item} : x ∈ keepF (notFree c) l ↔ x ∈ l ∧ x.state = 3 ∧ x.currency = c ∧ x.cycle = 0 := by
  unfold keepF notFree
  rw [List.mem_filter]
  simp only [Bool.not_or, Bool.not_not, Bool.and_eq_true, beq_iff_eq, Bool.not_eq_true', bne_eq_false_iff_eq, and_assoc]
theorem held_spec {c : Int} {l : List Item} {x : Item} : x ∈ keepF (notHeld c) l ↔ x ∈ l ∧ x.state = 3 ∧ x.cycle = c ∧ c ≠ 0 := by
  unfold keepF notHeld
  rw [List.mem_filter]
  simp only [Bool.not_or, Bool.and_eq_true, Bool.not_eq_true', bne_eq_false_iff_eq, beq_eq_false_iff_ne, and_assoc, ne_eq]
/-- The items that are offered. -/
def askL (c : Int) (l : List Item) : List Item := (keepF (notFree c) l).take 128
theorem askL_sub (c : Int) (l : List Item) : (askL c l).Sublist l := (List.take_sublist _ _).trans List.filter_sublist
theorem askL_spec {c : Int} {l : List Item} {x : Item} (h : x ∈ askL c l) : x ∈ l ∧ x.state = 3 ∧ x.currency = c ∧ x.cycle = 0 := free_spec.1 (List.mem_of_mem_take h)
theorem askL_len (c : Int) (l : List Item) : (askL c l).length ≤ 128 := by unfold askL; rw [List.length_take]; omega
def withC (c : Int) (x : Item) : Item := { x with cycle := c }
theorem lock_fine {x : Item} (h : Fine x) (h3 : x.state = 3) {c : Int} (hc : 1 ≤ c ∧ c ≤ 1048576) : Fine (withC c x) := by
  obtain ⟨s, b, sb, n, c', a, r, t, y, y3, y0⟩ := h
  exact ⟨s, b, sb, n, c', a, r, t, ⟨by simp only [withC]; omega, by simp only [withC]; omega⟩, fun _ => .inl h3, fun e => by simp only [withC] at e; omega⟩
theorem ask_ok {me : Int} {l : List Item} (h : Good me l) {c n : Int} (hn : 1 ≤ n ∧ n ≤ 1048576) : ∀ x ∈ askL c l, Fine (withC n x) ∧ ((withC n x).seller = me ∨ (withC n x).buyer = me) := fun x hx => by
  obtain ⟨h1, h2, _, _⟩ := askL_spec hx
  exact ⟨lock_fine (h.fine x h1) h2 hn, h.mine x h1⟩
theorem ask_lock {c n : Int} {l : List Item} {x : Item} (h : x ∈ askL c l) (hn : 1 ≤ n ∧ n ≤ 1048576) : lockI x n = withC n x ∧ lockE x n = 0 := by
  obtain ⟨_, h2, _, h4⟩ := askL_spec h
  have e1 : (x.state != 3 || x.cycle != 0) = false := by rw [h2, h4]; rfl
  have e2 : (decide (n < 1) || decide (1048576 < n)) = false := by rw [decide_eq_false (by omega), decide_eq_false (by omega)]; rfl
  unfold lockI lockE
  rw [e1, e2]; simp [withC]
/-- What becomes of an item as its cycle ends. -/
def endI (yes : Bool) (ls : List Line) (x : Item) : Item := if (yes && decide (lineOf x ∈ ls)) = true then { x with state := 5 } else { x with cycle := 0 }
theorem endI_key (yes : Bool) (ls : List Line) (x : Item) : (endI yes ls x).seller = x.seller ∧ (endI yes ls x).number = x.number ∧ (endI yes ls x).buyer = x.buyer := by
  unfold endI; split <;> exact ⟨rfl, rfl, rfl⟩
theorem end_fine {x : Item} (h : Fine x) (h3 : x.state = 3) (hc : x.cycle ≠ 0) (yes : Bool) (ls : List Line) : Fine (endI yes ls x) := by
  obtain ⟨s, b, sb, n, c', a, r, t, y, y3, y0⟩ := h
  unfold endI
  split
  · exact ⟨s, b, sb, n, c', a, r, ⟨by simp only; omega, by simp only; omega⟩, y, fun _ => .inr rfl, fun e => absurd e hc⟩
  · exact ⟨s, b, sb, n, c', a, r, t, ⟨by simp only; omega, by simp only; omega⟩, fun e => absurd rfl e, fun _ => by simp only; omega⟩
theorem end_ok {me : Int} {l : List Item} (h : Good me l) {n : Int} (yes : Bool) (ls : List Line) : ∀ x ∈ keepF (notHeld n) l, Fine (endI yes ls x) ∧ ((endI yes ls x).seller = me ∨ (endI yes ls x).buyer = me) := fun x hx => by
  obtain ⟨h1, h2, h3, h4⟩ := held_spec.1 hx
  refine ⟨end_fine (h.fine x h1) h2 (by rw [h3]; exact h4) yes ls, ?_⟩
  obtain ⟨e1, _, e3⟩ := endI_key yes ls x
  rw [e1, e3]; exact h.mine x h1
theorem held_sub (n : Int) (l : List Item) : (keepF (notHeld n) l).Sublist l := List.filter_sublist
theorem end_do {n : Int} {l : List Item} {x : Item} (h : x ∈ keepF (notHeld n) l) : held x = true := by
  obtain ⟨_, h2, h3, h4⟩ := held_spec.1 h
  unfold held
  rw [h2, h3, Bool.and_eq_true]
  exact ⟨rfl, by simpa using h4⟩

end Go.Proofs.Ytdodgbhodkcckaa.Pv
