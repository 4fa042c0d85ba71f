/- Lists in the order of a key: what many puts come to: plain laws. No program is in sight here. -/
import Derived.Test.YtdodgbhodkcckaaPzb
set_option linter.unusedVariables false
set_option linter.unusedSimpArgs false
set_option autoImplicit false
namespace Go.Proofs.Ytdodgbhodkcckaa.Pv
open Go

section
variable {α : Type} {k : α → Int}
/-- Where the key is: one in the place of another one. -/
theorem enter_mid {A B : List α} {x y : α} (hr : Rising k (A ++ x :: B)) (h : k y = k x) : enter k y (A ++ x :: B) = A ++ y :: B := by
  have hs : seek k (A ++ x :: B) (k y) = some x := (seek_some_iff hr).2 ⟨by simp, h.symm⟩
  have e := enter_some (y := y) hs
  have hl : below k (A ++ x :: B) (k y) ++ x :: rest k (A ++ x :: B) (k y) = A ++ x :: B := by rw [← rest_some hs, split_at]
  have ha : ∀ (A' B' A B : List α), Rising k (A ++ x :: B) → A' ++ x :: B' = A ++ x :: B → A' = A ∧ B' = B := by
    intro A'
    induction A' with
    | nil =>
      intro B' A B hr h
      cases A with
      | nil => simpa using h
      | cons z A =>
        exfalso
        simp only [List.nil_append, List.cons_append, List.cons.injEq] at h
        obtain ⟨rfl, h⟩ := h
        have := hr.tail.1 x (by simp)
        omega
    | cons z A' ih =>
      intro B' A B hr h
      cases A with
      | nil =>
        exfalso
        simp only [List.nil_append, List.cons_append, List.cons.injEq] at h
        obtain ⟨rfl, h⟩ := h
        rw [List.nil_append, ← h] at hr
        have := hr.tail.1 z (by simp)
        omega
      | cons z' A =>
        simp only [List.cons_append, List.cons.injEq] at h
        obtain ⟨rfl, h⟩ := h
        obtain ⟨h1, h2⟩ := ih B' A B hr.tail.2 h
        exact ⟨by rw [h1], h2⟩
  obtain ⟨h1, h2⟩ := ha _ _ A B hr hl
  unfold enter
  rw [h1, h2]
theorem rising_map {f : α → α} (hf : ∀ x, k (f x) = k x) {l : List α} (h : Rising k l) : Rising k (l.map f) := by
  refine List.pairwise_map.2 (h.imp ?_)
  intro a b hab
  rw [hf, hf]; exact hab
theorem rising_replace {A B : List α} {x y : α} (hr : Rising k (A ++ x :: B)) (h : k y = k x) : Rising k (A ++ y :: B) := by
  rw [← enter_mid hr h]; exact rising_enter hr y
/-- Some of a list, each in another form, put into it again. -/
theorem puts_sub [DecidableEq α] {f : α → α} (hf : ∀ x, k (f x) = k x) : ∀ (ys B A : List α), ys.Sublist B → Rising k (A ++ B) →
    ys.foldl (fun b y => enter k (f y) b) (A ++ B) = A ++ B.map (fun x => if x ∈ ys then f x else x) := by
  intro ys B
  induction B generalizing ys with
  | nil =>
    intro A hs hr
    cases List.sublist_nil.1 hs
    simp
  | cons x B ih =>
    intro A hs hr
    cases hs with
    | cons _ hs =>
      have hx : x ∉ ys := fun hm => by
        have := (Rising.append hr).2.1.tail.1 x (hs.subset hm)
        omega
      have := ih ys (A ++ [x]) hs (by simpa using hr)
      rw [List.append_assoc, List.singleton_append] at this
      rw [this, List.map_cons, if_neg hx]; simp
    | cons_cons _ hs =>
      rename_i ys
      rw [List.foldl_cons, enter_mid hr (hf x)]
      have hr2 := rising_replace hr (hf x)
      have := ih ys (A ++ [f x]) hs (by simpa using hr2)
      rw [List.append_assoc, List.singleton_append] at this
      rw [this, List.map_cons, if_pos (by simp)]
      simp only [List.append_assoc, List.singleton_append]
      congr 2
      refine List.map_congr_left fun z hz => ?_
      have hne : z ≠ x := fun e => by
        subst e
        have := (Rising.append hr).2.1.tail.1 z hz
        omega
      simp [hne]
theorem puts_sub' [DecidableEq α] {f : α → α} (hf : ∀ x, k (f x) = k x) {ys l : List α} (hs : ys.Sublist l) (hr : Rising k l) :
    ys.foldl (fun b y => enter k (f y) b) l = l.map (fun x => if x ∈ ys then f x else x) := puts_sub hf ys l [] hs hr
end

end Go.Proofs.Ytdodgbhodkcckaa.Pv
