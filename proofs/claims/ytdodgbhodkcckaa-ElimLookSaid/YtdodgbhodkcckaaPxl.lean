/- Vectors as tables: two together, what all have, in whatever order: plain laws. -/
import Derived.Test.YtdodgbhodkcckaaPxk
set_option linter.unusedVariables false
set_option linter.unusedSimpArgs false
set_option autoImplicit false
namespace Go.Proofs.Ytdodgbhodkcckaa.Pv
open Go Go.RowKit

theorem vec_congr {m m' : Nat → Int} (h : ∀ k, k < 64 → m k = m' k) : vec m = vec m' := vecOn_congr fun j hj => h j (by simpa using hj)
/-- Two vectors together, to the machine. -/
def plusV (l0 : List Pos) : List Pos → List Pos → List Pos × Int
  | acc, [] => (acc, 0)
  | acc, p :: ps => if (addV acc p.e p.c p.a).2 = 0 then plusV l0 (addV acc p.e p.c p.a).1 ps else (l0, (addV acc p.e p.c p.a).2)
/-- A table of which the first places have both. -/
def mix (m n : Nat → Int) (j : Nat) : Nat → Int := fun k => if k < j then m k + n k else m k
theorem mix_in {m n : Nat → Int} (hm : ∀ k, k < 64 → In64 (m k)) {j : Nat} (hf : ∀ k, k < j → fits (m k + n k) = true) : ∀ k, k < 64 → In64 (mix m n j k) := by
  intro k hk
  unfold mix
  split
  · exact fits_in (hf k ‹_›)
  · exact hm k hk
theorem plusV_go {m n : Nat → Int} (hm : ∀ k, k < 64 → In64 (m k)) (hn : ∀ k, k < 64 → In64 (n k)) (l0 : List Pos) : ∀ (d j : Nat), j + d = 64 → (∀ k, k < j → fits (m k + n k) = true) →
    plusV l0 (vec (mix m n j)) (vecOn n (List.range' j d)) = if (List.range' j d).all (fun k => fits (m k + n k)) = true then (vec (mix m n 64), 0) else (l0, 10)
  | 0, j, hj, hf => by
    obtain rfl : j = 64 := by omega
    simp [vecOn, plusV]
  | d + 1, j, hj, hf => by
    have hj64 : j < 64 := by omega
    have hs : List.range' j (d + 1) = [j] ++ List.range' (j + 1) d := by rw [List.range'_succ]; rfl
    rw [hs, vecOn_append, vecOn_one, List.all_append]
    have hmj : mix m n j j = m j := by simp [mix]
    cases hfj : fits (m j + n j) with
    | true =>
      have hf' : ∀ k, k < j + 1 → fits (m k + n k) = true := by
        intro k hk
        rcases Nat.lt_or_ge k j with h | h
        · exact hf k h
        · obtain rfl : k = j := by omega
          exact hfj
      have ih := plusV_go hm hn l0 d (j + 1) (by omega) hf'
      have hall : ([j].all (fun k => fits (m k + n k)) && (List.range' (j + 1) d).all (fun k => fits (m k + n k))) = (List.range' (j + 1) d).all (fun k => fits (m k + n k)) := by simp [hfj]
      rw [hall, ← ih]
      by_cases h0 : n j = 0
      · rw [if_pos h0, List.nil_append]
        congr 2
        funext k
        simp only [mix]
        by_cases hk : k < j
        · rw [if_pos hk, if_pos (by omega)]
        · rw [if_neg hk]
          split
          · obtain rfl : k = j := by omega
            omega
          · rfl
      · rw [if_neg h0]
        show plusV l0 (vec (mix m n j)) (⟨(j / 8 : Nat), (j % 8 : Nat), n j⟩ :: vecOn n (List.range' (j + 1) d)) = _
        have ha := addV_vec (mix_in hm hf) hj64 (hn j hj64)
        rw [hmj, if_pos hfj] at ha
        simp only [plusV]
        rw [ha]
        simp only [if_true]
        congr 2
        funext k
        simp only [mix, put]
        by_cases hk : k = j
        · subst hk; rw [if_pos rfl, if_pos (by omega)]
        · rw [if_neg hk]
          by_cases hk2 : k < j
          · rw [if_pos hk2, if_pos (by omega)]
          · rw [if_neg hk2, if_neg (by omega)]
    | false =>
      have hall : ([j].all (fun k => fits (m k + n k)) && (List.range' (j + 1) d).all (fun k => fits (m k + n k))) = false := by simp [hfj]
      rw [hall]
      have h0 : n j ≠ 0 := by
        intro h0
        rw [h0, Int.add_zero, (hm j hj64).fits] at hfj; cases hfj
      rw [if_neg h0]
      show plusV l0 (vec (mix m n j)) (⟨(j / 8 : Nat), (j % 8 : Nat), n j⟩ :: vecOn n (List.range' (j + 1) d)) = _
      have ha := addV_vec (mix_in hm hf) hj64 (hn j hj64)
      rw [hmj, hfj, if_neg (by simp)] at ha
      simp only [plusV]
      rw [ha]
      simp
def allFit (m n : Nat → Int) : Bool := (List.range 64).all fun k => fits (m k + n k)
theorem plusV_vec {m n : Nat → Int} (hm : ∀ k, k < 64 → In64 (m k)) (hn : ∀ k, k < 64 → In64 (n k)) (l0 : List Pos) :
    plusV l0 (vec m) (vec n) = if allFit m n = true then (vec fun k => m k + n k, 0) else (l0, 10) := by
  have h := plusV_go hm hn l0 64 0 rfl (fun k hk => by omega)
  rw [← List.range_eq_range'] at h
  have e1 : mix m n 0 = m := by funext k; simp [mix]
  have e2 : vec (mix m n 64) = vec fun k => m k + n k := vec_congr fun k hk => by simp [mix, hk]
  rw [e1, e2] at h
  exact h

/-- What all have of a currency. -/
def ofCur (c : Int) (l : List Pos) : List Int := (l.filter fun p => p.c == c).map Pos.a
def allT (m : Nat → Int) (c : Int) (j : Nat) : List Int := ((List.range j).filter fun k => ((k % 8 : Nat) : Int) == c).map m
theorem ofCur_sum (m : Nat → Int) (c : Int) : ∀ l : List Nat, sumOf (ofCur c (vecOn m l)) = sumOf ((l.filter fun k => ((k % 8 : Nat) : Int) == c).map m)
  | [] => rfl
  | k :: l => by
    have ih := ofCur_sum m c l
    have hs : vecOn m (k :: l) = (if m k = 0 then [] else [⟨(k / 8 : Nat), (k % 8 : Nat), m k⟩]) ++ vecOn m l := by
      rw [← vecOn_one, ← vecOn_append]; rfl
    rw [hs]
    unfold ofCur at ih ⊢
    rw [List.filter_append, List.map_append, sumOf_append, ih, List.filter_cons]
    by_cases hc : (((k % 8 : Nat) : Int) == c) = true
    · rw [if_pos hc, List.map_cons, sumOf_cons]
      by_cases h0 : m k = 0
      · rw [if_pos h0, h0]; rfl
      · rw [if_neg h0, List.filter_cons, if_pos hc]
        simp [sumOf]
    · rw [if_neg hc]
      by_cases h0 : m k = 0
      · rw [if_pos h0]; simp [sumOf]
      · rw [if_neg h0, List.filter_cons, if_neg hc]
        simp [sumOf]
theorem total_vec (m : Nat → Int) (c : Int) : sumOf (ofCur c (vec m)) = sumOf (allT m c 64) := ofCur_sum m c _
theorem allT_succ (m : Nat → Int) (c : Int) (j : Nat) : allT m c (j + 1) = allT m c j ++ (if (((j % 8 : Nat) : Int) == c) = true then [m j] else []) := by
  unfold allT
  rw [List.range_succ, List.filter_append, List.map_append, List.filter_cons]
  split <;> rfl
theorem allT_len (m : Nat → Int) (c : Int) (j : Nat) : (allT m c j).length ≤ j := by
  unfold allT
  rw [List.length_map]
  have := List.length_filter_le (fun k => ((k % 8 : Nat) : Int) == c) (List.range j)
  simpa using this
theorem allT_in {m : Nat → Int} (hm : ∀ k, k < 64 → In64 (m k)) (c : Int) {j : Nat} (hj : j ≤ 64) : ∀ a ∈ allT m c j, In64 a := by
  intro a ha
  obtain ⟨k, hk, rfl⟩ := List.mem_map.1 ha
  have := List.mem_range.1 (List.mem_filter.1 hk).1
  exact hm k (by omega)
theorem ofCur_in {m : Nat → Int} (hm : ∀ k, k < 64 → In64 (m k)) (c : Int) : ∀ a ∈ ofCur c (vec m), In64 a := by
  intro a ha
  obtain ⟨p, hp, rfl⟩ := List.mem_map.1 ha
  obtain ⟨k, hk, _, rfl⟩ := mem_vecOn (List.mem_filter.1 hp).1
  exact hm k (by simpa using hk)

/-- Small amounts: a place has what was put there. -/
def amt (k : Nat) : List Put → Int
  | [] => 0
  | p :: l => (if outV p.e p.c = false ∧ (8 * p.e + p.c).toNat = k then p.a else 0) + amt k l
theorem amt_append (k : Nat) : ∀ l r : List Put, amt k (l ++ r) = amt k l + amt k r
  | [], r => by simp [amt]
  | p :: l, r => by simp only [List.cons_append, amt, amt_append k l r]; omega
theorem step_small {m : Nat → Int} {p : Put} (h1 : -1125899906842624 ≤ p.a ∧ p.a ≤ 1125899906842624) (hk : -4611686018427387904 ≤ m (8 * p.e + p.c).toNat ∧ m (8 * p.e + p.c).toNat ≤ 4611686018427387904) (k : Nat) :
    step m p k = m k + (if outV p.e p.c = false ∧ (8 * p.e + p.c).toNat = k then p.a else 0) := by
  unfold step
  cases ho : outV p.e p.c with
  | true => simp
  | false =>
    rw [if_neg (by simp), if_pos (by simp [fits]; omega)]
    simp only [put, true_and]
    by_cases e : k = (8 * p.e + p.c).toNat
    · subst e; simp
    · rw [if_neg e, if_neg (fun h => e h.symm)]; omega
theorem fold_small (l : List Put) : ∀ (m : Nat → Int), (∀ p ∈ l, -1125899906842624 ≤ p.a ∧ p.a ≤ 1125899906842624) → (∀ k, -(4611686018427387904 - 1125899906842624 * (l.length : Int)) ≤ m k ∧ m k ≤ 4611686018427387904 - 1125899906842624 * (l.length : Int)) →
    ∀ k, l.foldl step m k = m k + amt k l := by
  induction l with
  | nil => intro m _ _ k; simp [amt]
  | cons p l ih =>
    intro m hp hm k
    have h1 := hp p (by simp)
    have hstep : ∀ k, step m p k = m k + (if outV p.e p.c = false ∧ (8 * p.e + p.c).toNat = k then p.a else 0) := fun k => step_small h1 (by
      have hk := hm (8 * p.e + p.c).toNat
      simp only [List.length_cons] at hk
      omega) k
    rw [List.foldl_cons, ih (step m p) (fun q hq => hp q (by simp [hq])) ?_ k, hstep k]
    · simp only [amt]; omega
    · intro k
      have hk := hm k
      simp only [List.length_cons] at hk
      rw [hstep k]
      split <;> omega
theorem tab_small {l : List Put} (hp : ∀ p ∈ l, -1125899906842624 ≤ p.a ∧ p.a ≤ 1125899906842624) (hl : l.length ≤ 4000) (k : Nat) : tab l k = amt k l := by
  unfold tab
  rw [fold_small l _ hp (fun k => by omega) k]; omega
theorem amt_in {l : List Put} (hp : ∀ p ∈ l, -1125899906842624 ≤ p.a ∧ p.a ≤ 1125899906842624) (k : Nat) : -(1125899906842624 * (l.length : Int)) ≤ amt k l ∧ amt k l ≤ 1125899906842624 * (l.length : Int) := by
  induction l with
  | nil => simp [amt]
  | cons p l ih =>
    have h1 := hp p (by simp)
    have h2 := ih fun q hq => hp q (by simp [hq])
    simp only [amt, List.length_cons]
    split <;> omega
/-- In another order. -/
theorem tab_turn {l r : List Put} (hp : ∀ p ∈ l ++ r, -1125899906842624 ≤ p.a ∧ p.a ≤ 1125899906842624) (hl : (l ++ r).length ≤ 4000) : tab (l ++ r) = tab (r ++ l) := by
  funext k
  rw [tab_small hp hl, tab_small (l := r ++ l) (fun p h => hp p (by simpa [or_comm] using h)) (by simpa [Nat.add_comm] using hl), amt_append, amt_append]; omega
/-- Two together. -/
theorem tab_both {l r : List Put} (hp : ∀ p ∈ l ++ r, -1125899906842624 ≤ p.a ∧ p.a ≤ 1125899906842624) (hl : (l ++ r).length ≤ 4000) : allFit (tab l) (tab r) = true ∧ ∀ k, tab (l ++ r) k = tab l k + tab r k := by
  have hl' : l.length + r.length ≤ 4000 := by simpa using hl
  have h1 : ∀ p ∈ l, -1125899906842624 ≤ p.a ∧ p.a ≤ 1125899906842624 := fun p h => hp p (by simp [h])
  have h2 : ∀ p ∈ r, -1125899906842624 ≤ p.a ∧ p.a ≤ 1125899906842624 := fun p h => hp p (by simp [h])
  refine ⟨?_, fun k => ?_⟩
  · unfold allFit
    rw [List.all_eq_true]
    intro k _
    rw [tab_small h1 (by omega), tab_small h2 (by omega)]
    have := amt_in h1 k
    have := amt_in h2 k
    simp [fits]; omega
  · rw [tab_small hp hl, tab_small h1 (by omega), tab_small h2 (by omega), amt_append]

/-- What is put and taken out again. -/
theorem put_back {m : Nat → Int} {k : Nat} {a : Int} : put (put m k (m k + a)) k (put m k (m k + a) k + -a) = m := by
  funext j; simp only [put]; split
  · rename_i h; subst h; simp only [if_true]; omega
  · rfl

end Go.Proofs.Ytdodgbhodkcckaa.Pv
