/- Vectors as tables: what the machine's lists come to. -/
import Derived.Test.YtdodgbhodkcckaaPxb
set_option linter.unusedVariables false
set_option linter.unusedSimpArgs false
set_option autoImplicit false
namespace Go.Proofs.Ytdodgbhodkcckaa.Pv
open Go Go.RowKit

def Sm (p : Pos) : Prop := 0 ≤ p.e ∧ p.e < 8 ∧ 0 ≤ p.c ∧ p.c < 8
theorem cmpW_small {p q : Pos} (h1 : Sm p) (h2 : Sm q) : cmpW p q = p.cmp q := by
  obtain ⟨a1, a2, a3, a4⟩ := h1
  obtain ⟨b1, b2, b3, b4⟩ := h2
  unfold cmpW Pos.cmp
  split <;> exact wrap_of (by omega) (by omega)
theorem vec_small {m : Nat → Int} {p : Pos} (h : p ∈ vec m) : Sm p := by
  obtain ⟨k, hk, _, rfl⟩ := mem_vecOn h
  have : k < 64 := by simpa using hk
  refine ⟨?_, ?_, ?_, ?_⟩ <;> simp only <;> omega
theorem cmpAt_vec {m : Nat → Int} {q : Pos} (hq : Sm q) : ∀ i p, (vec m)[i]? = some p → cmpAtV (vec m) q i = p.cmp q := by
  intro i p hp
  simp only [cmpAtV, hp]
  exact cmpW_small (vec_small (List.mem_of_getElem? hp)) hq
theorem Sm.at {k : Nat} (hk : k < 64) {a : Int} : Sm ⟨(k / 8 : Nat), (k % 8 : Nat), a⟩ := by refine ⟨?_, ?_, ?_, ?_⟩ <;> simp only <;> omega
theorem posV_vec {m : Nat → Int} {k : Nat} (hk : k < 64) (a : Int) : posV (vec m) ⟨(k / 8 : Nat), (k % 8 : Nat), a⟩ = (lo m k).length := bs_vec hk rfl rfl (cmpAt_vec (Sm.at hk))
theorem isInV_vec {m : Nat → Int} {k : Nat} (hk : k < 64) (a : Int) : isInV (vec m) ⟨(k / 8 : Nat), (k % 8 : Nat), a⟩ = decide (m k ≠ 0) := by
  unfold isInV
  rw [posV_vec hk]
  exact there_vec hk rfl rfl (cmpAt_vec (Sm.at hk))
theorem inV {e c : Int} (h : outV e c = false) : ∃ k, k < 64 ∧ e = (k / 8 : Nat) ∧ c = (k % 8 : Nat) := by
  simp only [outV, Bool.or_eq_false_iff, decide_eq_false_iff_not] at h
  exact ⟨(8 * e + c).toNat, by omega, by omega, by omega⟩
theorem outV_at {k : Nat} (hk : k < 64) : outV (k / 8 : Nat) (k % 8 : Nat) = false := by
  simp only [outV, Bool.or_eq_false_iff, decide_eq_false_iff_not]; omega
theorem vec_len (m : Nat → Int) : (vec m).length ≤ 64 := by
  have := List.length_filterMap_le (fun k => if m k = 0 then none else some (⟨(k / 8 : Nat), (k % 8 : Nat), m k⟩ : Pos)) (List.range 64)
  simpa [vec, vecOn] using this

theorem over_fits {x a : Int} (hx : In64 x) (ha : In64 a) : over x a = !fits (x + a) := by
  obtain ⟨h1, h2⟩ := hx
  obtain ⟨h3, h4⟩ := ha
  unfold over fits
  rw [Bool.eq_iff_iff]
  simp only [IntKind.wrap_i64, Bool.or_eq_true, Bool.and_eq_true, Bool.not_eq_true', Bool.and_eq_false_iff, decide_eq_true_eq, decide_eq_false_iff_not]
  omega
theorem fits_in {x : Int} (h : fits x = true) : In64 x := by
  simpa [fits, In64] using h
theorem In64.fits {x : Int} (h : In64 x) : fits x = true := by
  simpa [Pv.fits, In64] using h
theorem In64.wrap {x : Int} (h : In64 x) : IntKind.i64.wrap x = x := wrap_of h.1 h.2

/-- What is added to a table. -/
theorem addV_vec {m : Nat → Int} (hm : ∀ k, k < 64 → In64 (m k)) {k : Nat} (hk : k < 64) {a : Int} (ha : In64 a) :
    addV (vec m) (k / 8 : Nat) (k % 8 : Nat) a = if fits (m k + a) = true then (vec (put m k (m k + a)), 0) else (vec m, 10) := by
  unfold addV
  rw [if_neg (by rw [outV_at hk]; simp), isInV_vec hk, posV_vec hk]
  have hmk := hm k hk
  by_cases h0 : m k = 0
  · rw [if_neg (by simp [h0]), h0, Int.zero_add, if_pos ha.fits]
    by_cases ha0 : a = 0
    · subst ha0
      rw [if_neg (by simp), show put m k 0 = m from by rw [← h0, put_same]]
    · rw [if_pos (by simpa using ha0)]
      have := vec_insert hk h0 ha0
      simp only [List.append_assoc, List.singleton_append] at this
      rw [this]
  · rw [if_pos (by simp [h0]), vec_at hk h0]
    simp only
    rw [over_fits hmk ha]
    cases hf : fits (m k + a) with
    | false => simp
    | true =>
      have hw := (fits_in hf).wrap
      rw [if_neg (by simp), if_pos rfl, hw]
      by_cases hs : m k + a = 0
      · rw [if_pos (by simpa using hs), hs, vec_erase hk h0]
      · rw [if_neg (by simpa using hs), vec_set hk h0 hs]
theorem addV_out {l : List Pos} {e c a : Int} (h : outV e c = true) : addV l e c a = (l, 1) := by unfold addV; rw [if_pos h]

/-- What an entity has of a currency. -/
def ofT (m : Nat → Int) (e c : Int) : Int := if outV e c = true then 0 else m (8 * e + c).toNat
theorem ofT_at (m : Nat → Int) {k : Nat} (hk : k < 64) : ofT m (k / 8 : Nat) (k % 8 : Nat) = m k := by
  unfold ofT; rw [if_neg (by rw [outV_at hk]; simp)]; congr 1; omega
theorem cmpW_zero {p q : Pos} (hp : Sm p) (hq1 : In64 q.e) (hq2 : In64 q.c) (h : cmpW p q = 0) : p.e = q.e ∧ p.c = q.c := by
  obtain ⟨a1, a2, a3, a4⟩ := hp
  obtain ⟨b1, b2⟩ := hq1
  obtain ⟨b3, b4⟩ := hq2
  unfold cmpW at h
  split at h <;> rw [IntKind.wrap_i64] at h <;> omega
theorem hasV_vec (m : Nat → Int) {e c : Int} (he : In64 e) (hc : In64 c) : hasV (vec m) e c = ofT m e c := by
  cases ho : outV e c with
  | false =>
    obtain ⟨k, hk, rfl, rfl⟩ := inV ho
    rw [ofT_at m hk]
    unfold hasV
    rw [isInV_vec hk, posV_vec hk]
    by_cases h0 : m k = 0
    · rw [if_neg (by simp [h0]), h0]
    · rw [if_pos (by simp [h0]), vec_at hk h0]
  | true =>
    unfold hasV ofT
    rw [ho, if_pos rfl, if_neg ?_]
    intro hin
    simp only [isInV, Bool.and_eq_true, decide_eq_true_eq, beq_iff_eq] at hin
    obtain ⟨p, hp⟩ : ∃ p, (vec m)[posV (vec m) ⟨e, c, 0⟩]? = some p := ⟨_, List.getElem?_eq_getElem hin.1⟩
    have hz := hin.2
    simp only [cmpAtV, hp] at hz
    have hs := vec_small (List.mem_of_getElem? hp)
    obtain ⟨h1, h2⟩ := cmpW_zero hs he hc hz
    obtain ⟨a1, a2, a3, a4⟩ := hs
    simp only at h1 h2
    simp only [outV, Bool.or_eq_true, decide_eq_true_eq] at ho
    omega

/-- What an entity puts. -/
structure Put where
  e : Int
  c : Int
  a : Int
/-- The table behind what is put. -/
def step (m : Nat → Int) (p : Put) : Nat → Int := if outV p.e p.c = true then m else if fits (m (8 * p.e + p.c).toNat + p.a) = true then put m (8 * p.e + p.c).toNat (m (8 * p.e + p.c).toNat + p.a) else m
def tab (l : List Put) : Nat → Int := l.foldl step fun _ => 0
theorem tab_take {l : List Put} {i : Nat} {p : Put} (h : l[i]? = some p) : tab (l.take (i + 1)) = step (tab (l.take i)) p := by
  unfold tab; rw [List.take_add_one, h, List.foldl_append]; rfl
theorem step_in {m : Nat → Int} (hm : ∀ k, k < 64 → In64 (m k)) (p : Put) : ∀ k, k < 64 → In64 (step m p k) := by
  intro k hk
  unfold step
  split
  · exact hm k hk
  · split
    · rename_i h
      unfold put
      split
      · exact fits_in h
      · exact hm k hk
    · exact hm k hk
theorem tab_in (l : List Put) : ∀ k, k < 64 → In64 (tab l k) := by
  unfold tab
  have : ∀ (l : List Put) (m : Nat → Int), (∀ k, k < 64 → In64 (m k)) → ∀ k, k < 64 → In64 (l.foldl step m k) := by
    intro l
    induction l with
    | nil => intro m hm; exact hm
    | cons p l ih => intro m hm; exact ih _ (step_in hm p)
  exact this l _ fun k hk => by simp [In64]

end Go.Proofs.Ytdodgbhodkcckaa.Pv
