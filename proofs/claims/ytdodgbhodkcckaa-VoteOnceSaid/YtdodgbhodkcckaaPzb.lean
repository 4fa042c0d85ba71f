/- Lists in the order of a key: what is found, and what is put: plain laws. No program is in sight here. -/
import Derived.Test.YtdodgbhodkcckaaPzs
set_option linter.unusedVariables false
set_option linter.unusedSimpArgs false
set_option autoImplicit false
namespace Go.Proofs.Ytdodgbhodkcckaa.Pv

section
variable {α : Type} (k : α → Int)

/-- Each stands ahead of all behind it. -/
def Rising (l : List α) : Prop := l.Pairwise fun a b => k a < k b
/-- What stands ahead of a key, and the rest. -/
def below (l : List α) (x : Int) : List α := l.takeWhile fun y => decide (k y < x)
def above (l : List α) (x : Int) : List α := l.dropWhile fun y => decide (k y < x)
/-- What has the key. -/
def seek (l : List α) (x : Int) : Option α := match above k l x with
  | y :: _ => if k y = x then some y else none
  | [] => none
/-- The rest without what has the key. -/
def rest (l : List α) (x : Int) : List α := match above k l x with
  | y :: ys => if k y = x then ys else y :: ys
  | [] => []
/-- The list with y, in the place of what has its key. -/
def enter (y : α) (l : List α) : List α := below k l (k y) ++ y :: rest k l (k y)

variable {k}
theorem split_at (l : List α) (x : Int) : below k l x ++ above k l x = l := List.takeWhile_append_dropWhile
theorem mem_below {l : List α} {x : Int} : ∀ {y : α}, y ∈ below k l x → k y < x := by
  intro y hy
  unfold below at hy
  induction l with
  | nil => simp at hy
  | cons z l ih =>
    rw [List.takeWhile_cons] at hy
    split at hy
    · rename_i h
      rcases List.mem_cons.1 hy with rfl | hy
      · simpa using h
      · exact ih hy
    · simp at hy
theorem above_head {l : List α} {x : Int} {y : α} {ys : List α} (h : above k l x = y :: ys) : ¬ k y < x := by
  unfold above at h
  induction l with
  | nil => simp at h
  | cons z l ih =>
    rw [List.dropWhile_cons] at h
    split at h
    · exact ih h
    · rename_i hz
      cases h
      simpa using hz
theorem Rising.append {l m : List α} (h : Rising k (l ++ m)) : Rising k l ∧ Rising k m ∧ ∀ a ∈ l, ∀ b ∈ m, k a < k b := List.pairwise_append.1 h
theorem Rising.tail {y : α} {l : List α} (h : Rising k (y :: l)) : (∀ b ∈ l, k y < k b) ∧ Rising k l := List.pairwise_cons.1 h
theorem mem_above {l : List α} (hr : Rising k l) {x : Int} {y : α} (hy : y ∈ above k l x) : ¬ k y < x := by
  have hs := split_at (k := k) l x
  rw [← hs] at hr
  obtain ⟨_, h2, _⟩ := hr.append
  cases ha : above k l x with
  | nil => rw [ha] at hy; simp at hy
  | cons z zs =>
    have hz := above_head ha
    rw [ha] at hy h2
    rcases List.mem_cons.1 hy with rfl | hy
    · exact hz
    · have := h2.tail.1 y hy; omega

/-- Where a search ends. -/
theorem bs_rising {l : List α} (hr : Rising k l) {x : Int} {c : Nat → Int} (hc : ∀ i y, l[i]? = some y → (c i < 0 ↔ k y < x)) : bsLoop c 0 l.length = (below k l x).length := by
  have hs := split_at (k := k) l x
  have hlen : (below k l x).length + (above k l x).length = l.length := by rw [← List.length_append, hs]
  refine bs_spec (by omega) (fun i hi => ?_) (fun i hi hn => ?_)
  · have hg : l[i]? = some (below k l x)[i] := by
      conv => lhs; rw [← hs]
      rw [List.getElem?_append_left hi, List.getElem?_eq_getElem hi]
    exact (hc i _ hg).2 (mem_below (List.getElem_mem hi))
  · have hlt : i - (below k l x).length < (above k l x).length := by omega
    have hg : l[i]? = some (above k l x)[i - (below k l x).length] := by
      conv => lhs; rw [← hs]
      rw [List.getElem?_append_right hi, List.getElem?_eq_getElem hlt]
    exact fun h => mem_above hr (List.getElem_mem hlt) ((hc i _ hg).1 h)
theorem cut_at {l A B : List α} (h : A ++ B = l) : l[A.length]? = B.head? ∧ l.drop A.length = B ∧ l.take A.length = A := by
  subst h
  refine ⟨?_, List.drop_left' rfl, List.take_left' rfl⟩
  rw [List.getElem?_append_right (Nat.le_refl _), Nat.sub_self]
  cases B <;> rfl
theorem at_border (l : List α) (x : Int) : l[(below k l x).length]? = (above k l x).head? := (cut_at (split_at l x)).1
/-- Whether it is there. -/
theorem bs_there {l : List α} {x : Int} {c : Nat → Int} (hc : ∀ i y, l[i]? = some y → (c i = 0 ↔ k y = x)) :
    (decide ((below k l x).length < l.length) && (c (below k l x).length == 0)) = (seek k l x).isSome := by
  have hb := at_border (k := k) l x
  have hlen : (below k l x).length + (above k l x).length = l.length := by rw [← List.length_append, split_at]
  unfold seek
  cases ha : above k l x with
  | nil => rw [ha] at hlen; simp at hlen; simp [hlen]
  | cons y ys =>
    rw [ha] at hb hlen
    have hlt : (below k l x).length < l.length := by simp at hlen; omega
    have := hc _ y hb
    by_cases h : k y = x
    · simp [h, hlt, this.2 h]
    · have h0 : c (below k l x).length ≠ 0 := fun e => h (this.1 e)
      simp [h, h0]
theorem seek_at {l : List α} {x : Int} {y : α} (h : seek k l x = some y) : l[(below k l x).length]? = some y ∧ k y = x := by
  rw [at_border]
  unfold seek at h
  split at h
  · rename_i z zs ha
    rw [ha]
    split at h
    · rename_i hz; cases h; exact ⟨rfl, hz⟩
    · cases h
  · cases h
theorem rest_none {l : List α} {x : Int} (h : seek k l x = none) : rest k l x = l.drop (below k l x).length := by
  have hd : l.drop (below k l x).length = above k l x := (cut_at (split_at l x)).2.1
  rw [hd]
  unfold seek at h; unfold rest
  split at h
  · rename_i z zs ha
    split at h
    · cases h
    · rename_i hz; rw [ha]; simp [hz]
  · rename_i ha; rw [ha]
theorem rest_some {l : List α} {x : Int} {y : α} (h : seek k l x = some y) : above k l x = y :: rest k l x := by
  unfold seek at h; unfold rest
  split at h
  · rename_i z zs ha
    split at h
    · rename_i hz; cases h; rw [ha]; simp [hz]
    · cases h
  · cases h
/-- What is put where nothing has its key, and where something has. -/
theorem enter_none {l : List α} {y : α} (h : seek k l (k y) = none) : l.take (below k l (k y)).length ++ y :: l.drop (below k l (k y)).length = enter k y l := by
  have ht : l.take (below k l (k y)).length = below k l (k y) := (cut_at (split_at l (k y))).2.2
  rw [ht, enter, rest_none h]
theorem enter_some {l : List α} {y z : α} (h : seek k l (k y) = some z) : l.set (below k l (k y)).length y = enter k y l := by
  have hs : below k l (k y) ++ z :: rest k l (k y) = l := by
    rw [← rest_some h, split_at]
  have key : ∀ A B : List α, A ++ z :: B = l → l.set A.length y = A ++ y :: B := by
    intro A B h; subst h; simp
  exact key _ _ hs

theorem rising_enter {l : List α} (hr : Rising k l) (y : α) : Rising k (enter k y l) := by
  have hs := split_at (k := k) l (k y)
  have hr' := hr
  rw [← hs] at hr'
  obtain ⟨h1, h2, h3⟩ := hr'.append
  have hrest : Rising k (y :: rest k l (k y)) := by
    refine List.pairwise_cons.2 ⟨fun b hb => ?_, ?_⟩
    · unfold rest at hb
      split at hb
      · rename_i z zs ha
        rw [ha] at h2
        have hz := above_head ha
        split at hb
        · rename_i e; rw [← e]; exact h2.tail.1 b hb
        · rename_i e
          rcases List.mem_cons.1 hb with rfl | hb
          · omega
          · have := h2.tail.1 b hb; omega
      · simp at hb
    · unfold rest
      split
      · rename_i z zs ha
        rw [ha] at h2
        split
        · exact h2.tail.2
        · exact h2
      · exact List.Pairwise.nil
  refine List.pairwise_append.2 ⟨h1, hrest, fun a ha b hb => ?_⟩
  have hka := mem_below ha
  rcases List.mem_cons.1 hb with rfl | hb
  · exact hka
  · have := hrest.tail.1 b hb; omega

theorem mem_enter {l : List α} (hr : Rising k l) {y z : α} : z ∈ enter k y l ↔ z = y ∨ (z ∈ l ∧ k z ≠ k y) := by
  have hs := split_at (k := k) l (k y)
  have hr' := hr
  rw [← hs] at hr'
  obtain ⟨h1, h2, h3⟩ := hr'.append
  have hm : z ∈ l ↔ z ∈ below k l (k y) ∨ z ∈ above k l (k y) := by
    conv => lhs; rw [← hs]
    exact List.mem_append
  have hrest : z ∈ rest k l (k y) ↔ z ∈ above k l (k y) ∧ k z ≠ k y := by
    unfold rest
    cases ha : above k l (k y) with
    | nil => simp
    | cons w ws =>
      rw [ha] at h2
      have hw := above_head ha
      simp only
      split
      · rename_i e
        constructor
        · intro hz; have := h2.tail.1 z hz; exact ⟨List.mem_cons_of_mem _ hz, by omega⟩
        · rintro ⟨hz, hne⟩
          rcases List.mem_cons.1 hz with rfl | hz
          · exact absurd e hne
          · exact hz
      · rename_i e
        constructor
        · intro hz
          refine ⟨hz, ?_⟩
          rcases List.mem_cons.1 hz with rfl | hz
          · exact e
          · have := h2.tail.1 z hz; omega
        · exact fun h => h.1
  unfold enter
  rw [List.mem_append, List.mem_cons, hrest, hm]
  constructor
  · rintro (h | rfl | ⟨h, hne⟩)
    · exact .inr ⟨.inl h, by have := mem_below h; omega⟩
    · exact .inl rfl
    · exact .inr ⟨.inr h, hne⟩
  · rintro (rfl | ⟨h | h, hne⟩)
    · exact .inr (.inl rfl)
    · exact .inl h
    · exact .inr (.inr ⟨h, hne⟩)

/-- Two with one key are one. -/
theorem rising_inj {l : List α} (hr : Rising k l) {a b : α} (ha : a ∈ l) (hb : b ∈ l) (h : k a = k b) : a = b := by
  induction l with
  | nil => simp at ha
  | cons x l ih =>
    obtain ⟨h1, h2⟩ := hr.tail
    rcases List.mem_cons.1 ha with rfl | ha' <;> rcases List.mem_cons.1 hb with rfl | hb'
    · rfl
    · have := h1 b hb'; omega
    · have := h1 a ha'; omega
    · exact ih h2 ha' hb'
theorem seek_some_iff {l : List α} (hr : Rising k l) {x : Int} {y : α} : seek k l x = some y ↔ y ∈ l ∧ k y = x := by
  constructor
  · intro h
    obtain ⟨h1, h2⟩ := seek_at h
    exact ⟨List.mem_of_getElem? h1, h2⟩
  · rintro ⟨hy, rfl⟩
    have hs := split_at (k := k) l (k y)
    have hya : y ∈ above k l (k y) := by
      have hm : y ∈ below k l (k y) ++ above k l (k y) := by rw [hs]; exact hy
      rcases List.mem_append.1 hm with h | h
      · have := mem_below h; omega
      · exact h
    unfold seek
    cases ha : above k l (k y) with
    | nil => rw [ha] at hya; simp at hya
    | cons z zs =>
      simp only
      have hz := above_head ha
      have hr' := hr
      rw [← hs] at hr'
      have h2 := hr'.append.2.1
      rw [ha] at hya h2
      rcases List.mem_cons.1 hya with rfl | h
      · simp
      · have := h2.tail.1 y h; omega
theorem seek_none_iff {l : List α} (hr : Rising k l) {x : Int} : seek k l x = none ↔ ∀ y ∈ l, k y ≠ x := by
  constructor
  · intro h y hy e
    rw [(seek_some_iff hr).2 ⟨hy, e⟩] at h; cases h
  · intro h
    cases hs : seek k l x with
    | none => rfl
    | some y =>
      obtain ⟨h1, h2⟩ := (seek_some_iff hr).1 hs
      exact absurd h2 (h y h1)
theorem seek_enter {l : List α} (hr : Rising k l) (y : α) (x : Int) : seek k (enter k y l) x = if k y = x then some y else seek k l x := by
  have hr2 := rising_enter hr y
  split
  · rename_i e
    exact (seek_some_iff hr2).2 ⟨(mem_enter hr).2 (.inl rfl), e⟩
  · rename_i e
    cases hs : seek k l x with
    | none =>
      refine (seek_none_iff hr2).2 fun z hz => ?_
      rcases (mem_enter hr).1 hz with rfl | ⟨h1, h2⟩
      · exact e
      · exact (seek_none_iff hr).1 hs z h1
    | some z =>
      obtain ⟨h1, h2⟩ := (seek_some_iff hr).1 hs
      exact (seek_some_iff hr2).2 ⟨(mem_enter hr).2 (.inr ⟨h1, by omega⟩), h2⟩
theorem length_enter (l : List α) (y : α) : (enter k y l).length = if (seek k l (k y)).isSome then l.length else l.length + 1 := by
  have hlen : (below k l (k y)).length + (above k l (k y)).length = l.length := by rw [← List.length_append, split_at]
  unfold enter rest seek
  rw [List.length_append, List.length_cons]
  cases ha : above k l (k y) with
  | nil => rw [ha] at hlen; simp at hlen ⊢; omega
  | cons z zs =>
    rw [ha] at hlen
    simp only [List.length_cons] at hlen
    by_cases h : k z = k y
    · simp [h]; omega
    · simp [h]; omega
end

end Go.Proofs.Ytdodgbhodkcckaa.Pv
