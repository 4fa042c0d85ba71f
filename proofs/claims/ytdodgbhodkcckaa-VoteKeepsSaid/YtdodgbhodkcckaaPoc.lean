/- What is left of a list of which some are taken out, step by step: plain laws. No program is in sight here. -/
import Derived.Test.YtdodgbhodkcckaaPzs
set_option linter.unusedVariables false
set_option linter.unusedSimpArgs false
set_option autoImplicit false
namespace Go.Proofs.Ytdodgbhodkcckaa.Pv

section
variable {α : Type} (pr : α → Bool)
def keepF (l : List α) : List α := l.filter fun x => !pr x
/-- Where the first one stands that is taken out. -/
def idxF : Nat → List α → Int
  | _, [] => -1
  | i, y :: l => if pr y = true then i else idxF (i + 1) l
theorem idxF_split : ∀ (l : List α) (i : Nat), (idxF pr i l = -1 ∧ keepF pr l = l) ∨ ∃ (k : Nat) (y : α), idxF pr i l = ((i + k : Nat) : Int) ∧ l[k]? = some y ∧ pr y = true ∧ keepF pr (l.take k) = l.take k
  | [], i => .inl ⟨rfl, rfl⟩
  | x :: l, i => by
    rw [idxF]
    cases hx : pr x with
    | true => exact .inr ⟨0, x, by simp, by simp, hx, by simp [keepF]⟩
    | false =>
      rw [if_neg (by simp)]
      rcases idxF_split l (i + 1) with ⟨h1, h2⟩ | ⟨k, y, h1, h2, h3, h4⟩
      · refine .inl ⟨h1, ?_⟩
        unfold keepF at h2 ⊢
        rw [List.filter_cons, hx, h2]; rfl
      · refine .inr ⟨k + 1, y, by rw [h1]; congr 1; omega, by simpa using h2, h3, ?_⟩
        unfold keepF at h4 ⊢
        rw [List.take_succ_cons, List.filter_cons, hx, h4]; rfl
variable {pr}
theorem keepF_take {l : List α} {j : Nat} {x : α} (h : l[j]? = some x) : keepF pr (l.take (j + 1)) = keepF pr (l.take j) ++ if pr x = true then [] else [x] := by
  unfold keepF
  rw [List.take_add_one, h]
  simp only [Option.toList, List.filter_append, List.filter_cons, List.filter_nil]
  cases pr x <;> simp
variable (pr)
/-- The row behind j steps. -/
def delF (l : List α) (j : Nat) : List α := keepF pr (l.take j) ++ l.drop (keepF pr (l.take j)).length
def kF (l : List α) (j : Nat) : Nat := (keepF pr (l.take j)).length
theorem kF_le (l : List α) (j : Nat) : kF pr l j ≤ j := by
  have := List.length_filter_le (fun x => !pr x) (l.take j)
  rw [List.length_take] at this
  unfold kF keepF; omega
theorem kF_len (l : List α) (j : Nat) : kF pr l j ≤ l.length := by
  have := List.length_filter_le (fun x => !pr x) (l.take j)
  rw [List.length_take] at this
  unfold kF keepF; omega
theorem delF_len (l : List α) (j : Nat) : (delF pr l j).length = l.length := by
  have := kF_len pr l j
  unfold kF at this
  unfold delF; simp; omega
variable {pr}
theorem delF_get {l : List α} {j : Nat} {x : α} (h : l[j]? = some x) : (delF pr l j)[j]? = some x := by
  have := kF_le pr l j
  unfold kF at this
  unfold delF
  rw [List.getElem?_append_right this, List.getElem?_drop, show (keepF pr (l.take j)).length + (j - (keepF pr (l.take j)).length) = j by omega]
  exact h
theorem delF_at {l : List α} {j : Nat} (h : kF pr l j < l.length) : ∃ y, (delF pr l j)[kF pr l j]? = some y := by
  have := delF_len pr l j
  exact ⟨_, List.getElem?_eq_getElem (by omega)⟩
theorem delF_mem {l : List α} {j : Nat} {y : α} (h : y ∈ delF pr l j) : y ∈ l := by
  unfold delF at h
  rcases List.mem_append.1 h with h | h
  · exact List.mem_of_mem_take (List.mem_filter.1 h).1
  · exact List.mem_of_mem_drop h
theorem delF_in {l : List α} {j : Nat} {x : α} (h : l[j]? = some x) (hx : pr x = false) (hk : kF pr l j < l.length) : (delF pr l j).set (kF pr l j) x = delF pr l (j + 1) := by
  have e := keepF_take (pr := pr) h
  rw [hx, if_neg (by simp)] at e
  unfold delF
  rw [e]
  unfold kF at hk ⊢
  rw [List.set_append_right _ _ (Nat.le_refl _), Nat.sub_self, List.drop_eq_getElem_cons hk, List.set_cons_zero]
  simp
theorem kF_in {l : List α} {j : Nat} {x : α} (h : l[j]? = some x) (hx : pr x = false) : kF pr l (j + 1) = kF pr l j + 1 := by
  have e := keepF_take (pr := pr) h
  rw [hx, if_neg (by simp)] at e
  unfold kF; rw [e]; simp
theorem delF_out {l : List α} {j : Nat} {x : α} (h : l[j]? = some x) (hx : pr x = true) : delF pr l (j + 1) = delF pr l j ∧ kF pr l (j + 1) = kF pr l j := by
  have e := keepF_take (pr := pr) h
  rw [hx, if_pos rfl, List.append_nil] at e
  unfold delF kF
  rw [e]; exact ⟨rfl, rfl⟩
variable (pr)
def doneF (z : α) (l : List α) : List α := keepF pr l ++ List.replicate (l.length - (keepF pr l).length) z
theorem doneF_row {β : Type} (f : α → β) (z : α) (l : List α) : List.take (kF pr l l.length) ((delF pr l l.length).map f) ++ List.replicate (l.length - kF pr l l.length) (f z) ++ List.drop (kF pr l l.length + (l.length - kF pr l l.length)) ((delF pr l l.length).map f) = (doneF pr z l).map f := by
  have h1 := kF_len pr l l.length
  have h3 := delF_len pr l l.length
  rw [List.drop_of_length_le (by simp; omega), List.append_nil]
  unfold doneF kF delF
  rw [List.take_length, List.map_append, List.map_append, List.take_left' (by simp), List.map_replicate]
theorem doneF_take (z : α) (l : List α) : (doneF pr z l).take (keepF pr l).length = keepF pr l := by
  unfold doneF; rw [List.take_left' rfl]
theorem keepF_le (l : List α) : (keepF pr l).length ≤ l.length := List.length_filter_le _ _
end

end Go.Proofs.Ytdodgbhodkcckaa.Pv
