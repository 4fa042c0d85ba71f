/- A binary search, and lists that are put together out of what stands at places in order: plain laws. No program is in sight here. -/
import Derived.KernelRfl
set_option linter.unusedVariables false
set_option linter.unusedSimpArgs false
set_option autoImplicit false
namespace Go.Proofs.Ytdodgbhodkcckaa.Pv

/-- The search's loop: c: how an element compares. -/
def bsLoop (c : Nat → Int) (i j : Nat) : Nat := if h : i < j then (if c ((i + j) / 2) < 0 then bsLoop c ((i + j) / 2 + 1) j else bsLoop c i ((i + j) / 2)) else i
termination_by j - i
decreasing_by all_goals omega

theorem bsLoop_lt {c : Nat → Int} {i j : Nat} (h : i < j) (hc : c ((i + j) / 2) < 0) : bsLoop c i j = bsLoop c ((i + j) / 2 + 1) j := by
  rw [bsLoop]; simp [h, hc]
theorem bsLoop_ge {c : Nat → Int} {i j : Nat} (h : i < j) (hc : ¬ c ((i + j) / 2) < 0) : bsLoop c i j = bsLoop c i ((i + j) / 2) := by
  rw [bsLoop]; simp [h, hc]
theorem bsLoop_end {c : Nat → Int} {i j : Nat} (h : ¬ i < j) : bsLoop c i j = i := by
  rw [bsLoop]; simp [h]

theorem bsLoop_le (c : Nat → Int) : ∀ (d i j : Nat), j - i = d → i ≤ j → bsLoop c i j ≤ j := by
  intro d
  induction d using Nat.strongRecOn with
  | _ d ih =>
    intro i j hd hij
    by_cases h : i < j
    · by_cases hc : c ((i + j) / 2) < 0
      · rw [bsLoop_lt h hc]; exact ih _ (by omega) _ _ rfl (by omega)
      · rw [bsLoop_ge h hc]; have := ih (((i + j) / 2) - i) (by omega) i ((i + j) / 2) rfl (by omega); omega
    · rw [bsLoop_end h]; exact hij

/-- Where what is less stands ahead of what isn't, the search finds the border. -/
theorem bsLoop_spec {c : Nat → Int} {p n : Nat} (h1 : ∀ i, i < p → c i < 0) (h2 : ∀ i, p ≤ i → i < n → ¬ c i < 0) : ∀ (d i j : Nat), j - i = d → i ≤ p → p ≤ j → j ≤ n → bsLoop c i j = p := by
  intro d
  induction d using Nat.strongRecOn with
  | _ d ih =>
    intro i j hd hi hj hn
    by_cases h : i < j
    · by_cases hc : c ((i + j) / 2) < 0
      · have hp : (i + j) / 2 < p := by
          rcases Nat.lt_or_ge ((i + j) / 2) p with h3 | h3
          · exact h3
          · exact absurd hc (h2 _ h3 (by omega))
        rw [bsLoop_lt h hc]; exact ih _ (by omega) _ _ rfl (by omega) hj hn
      · have hp : p ≤ (i + j) / 2 := by
          rcases Nat.lt_or_ge ((i + j) / 2) p with h3 | h3
          · exact absurd (h1 _ h3) hc
          · exact h3
        rw [bsLoop_ge h hc]; exact ih (((i + j) / 2) - i) (by omega) i ((i + j) / 2) rfl hi hp (by omega)
    · rw [bsLoop_end h]; omega

theorem bs_spec {c : Nat → Int} {p n : Nat} (hp : p ≤ n) (h1 : ∀ i, i < p → c i < 0) (h2 : ∀ i, p ≤ i → i < n → ¬ c i < 0) : bsLoop c 0 n = p :=
  bsLoop_spec h1 h2 _ 0 n rfl (by omega) hp (Nat.le_refl _)

/-- The border in a list that falls into a part of what is less and one of what isn't. -/
theorem bs_split {α : Type} {xs ys : List α} {f : α → Int} {c : Nat → Int} (hc : ∀ i x, (xs ++ ys)[i]? = some x → c i = f x) (h1 : ∀ x ∈ xs, f x < 0) (h2 : ∀ x ∈ ys, ¬ f x < 0) : bsLoop c 0 (xs ++ ys).length = xs.length := by
  refine bs_spec (by simp) (fun i hi => ?_) (fun i hi hn => ?_)
  · have hg : (xs ++ ys)[i]? = some xs[i] := by rw [List.getElem?_append_left hi, List.getElem?_eq_getElem hi]
    rw [hc i _ hg]; exact h1 _ (by simp)
  · have hl : i - xs.length < ys.length := by simp at hn; omega
    have hg : (xs ++ ys)[i]? = some ys[i - xs.length] := by rw [List.getElem?_append_right hi, List.getElem?_eq_getElem hl]
    rw [hc i _ hg]; exact h2 _ (by simp)

/-- What stands behind elements that were moved to make room. -/
theorem put_grown {α : Type} {els : List α} {x z : α} {i : Nat} (hi : i < els.length) :
    ((els.take i ++ List.replicate (els.length + 1 - i) z).take i ++ [x] ++ (els.take i ++ List.replicate (els.length + 1 - i) z).drop (i + 1)).take (i + 1) ++ (els.drop i) ++
      ((els.take i ++ List.replicate (els.length + 1 - i) z).take i ++ [x] ++ (els.take i ++ List.replicate (els.length + 1 - i) z).drop (i + 1)).drop (i + 1 + (els.length - i)) = els.take i ++ x :: els.drop i := by
  have h1 : (els.take i).length = i := by simp; omega
  have h2 : (els.take i ++ List.replicate (els.length + 1 - i) z).take i = els.take i := List.take_left' h1
  have h3 : (els.take i ++ List.replicate (els.length + 1 - i) z).drop (i + 1) = List.replicate (els.length - i) z := by
    rw [show i + 1 = (els.take i).length + 1 by omega, List.drop_append, List.drop_eq_nil_of_le (by omega), List.nil_append, List.drop_replicate]
    congr 1; omega
  rw [h2, h3]
  have h4 : (els.take i ++ [x]).length = i + 1 := by simp; omega
  have h5 : (els.take i ++ [x] ++ List.replicate (els.length - i) z).drop (i + 1 + (els.length - i)) = [] := List.drop_eq_nil_of_le (by simp; omega)
  rw [List.take_left' h4, h5]
  simp
theorem put_moved {α : Type} {els : List α} {x : α} {i : Nat} (hi : i < els.length) :
    (els.take (i + 1) ++ els.drop i ++ els.drop (i + 1 + (els.length - i))).take i ++ [x] ++ (els.take (i + 1) ++ els.drop i ++ els.drop (i + 1 + (els.length - i))).drop (i + 1) = els.take i ++ x :: els.drop i := by
  have h1 : (els.take (i + 1)).length = i + 1 := by simp; omega
  have h0 : els.drop (i + 1 + (els.length - i)) = [] := List.drop_eq_nil_of_le (by omega)
  rw [h0, List.append_nil, List.drop_left' h1, List.take_append, List.take_take, h1]
  simp [Nat.min_eq_left (Nat.le_succ i), show i - (i + 1) = 0 by omega]
theorem del_done {α : Type} {els : List α} {z : α} {i : Nat} (hi : i < els.length) :
    (els.take i ++ els.drop (i + 1) ++ els.drop (els.length - 1)).take (els.length - 1) ++ [z] ++ (els.take i ++ els.drop (i + 1) ++ els.drop (els.length - 1)).drop (els.length - 1 + 1) = els.take i ++ els.drop (i + 1) ++ [z] := by
  have h1 : (els.take i ++ els.drop (i + 1)).length = els.length - 1 := by simp; omega
  have h2 : (els.take i ++ els.drop (i + 1) ++ els.drop (els.length - 1)).drop (els.length - 1 + 1) = [] := List.drop_eq_nil_of_le (by simp; omega)
  rw [List.take_left' h1, h2, List.append_nil]
theorem take_drop_all {α : Type} (els : List α) (i n : Nat) (h : els.length - i ≤ n) : (els.drop i).take n = els.drop i := List.take_of_length_le (by simpa using h)

end Go.Proofs.Ytdodgbhodkcckaa.Pv
