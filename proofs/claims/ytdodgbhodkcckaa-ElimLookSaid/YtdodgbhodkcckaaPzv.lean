/- Vectors: what each has of each, in order: plain laws. No program is in sight here. -/
import Derived.Test.YtdodgbhodkcckaaPzs
set_option linter.unusedVariables false
set_option linter.unusedSimpArgs false
set_option autoImplicit false
namespace Go.Proofs.Ytdodgbhodkcckaa.Pv

/-- A position: entity, currency, amount. -/
structure Pos where
  e : Int
  c : Int
  a : Int
deriving DecidableEq

/-- How two positions stand. -/
def Pos.cmp (p q : Pos) : Int := if p.e ≠ q.e then p.e - q.e else p.c - q.c

/-- What the places of a list have that isn't nothing. -/
def vecOn (m : Nat → Int) (l : List Nat) : List Pos := l.filterMap fun k => if m k = 0 then none else some ⟨(k / 8 : Nat), (k % 8 : Nat), m k⟩
def vec (m : Nat → Int) : List Pos := vecOn m (List.range 64)
/-- A place has another amount. -/
def put (m : Nat → Int) (k : Nat) (n : Int) : Nat → Int := fun j => if j = k then n else m j

theorem vecOn_append (m : Nat → Int) (l k : List Nat) : vecOn m (l ++ k) = vecOn m l ++ vecOn m k := by simp [vecOn]
theorem vecOn_congr {m m' : Nat → Int} {l : List Nat} (h : ∀ j ∈ l, m j = m' j) : vecOn m l = vecOn m' l := by
  induction l with
  | nil => rfl
  | cons j l ih =>
    have h1 := h j (by simp)
    have h2 := ih fun i hi => h i (by simp [hi])
    simp only [vecOn, List.filterMap_cons, h1] at h2 ⊢
    rw [h2]
theorem vecOn_one (m : Nat → Int) (k : Nat) : vecOn m [k] = if m k = 0 then [] else [⟨(k / 8 : Nat), (k % 8 : Nat), m k⟩] := by
  simp only [vecOn, List.filterMap_cons, List.filterMap_nil]
  split <;> simp_all
theorem mem_vecOn {m : Nat → Int} {l : List Nat} {p : Pos} (h : p ∈ vecOn m l) : ∃ k ∈ l, m k ≠ 0 ∧ p = ⟨(k / 8 : Nat), (k % 8 : Nat), m k⟩ := by
  simp only [vecOn, List.mem_filterMap] at h
  obtain ⟨k, h1, h2⟩ := h
  split at h2
  · cases h2
  · rename_i h0; exact ⟨k, h1, h0, (Option.some.inj h2).symm⟩

theorem range_split {k : Nat} (h : k < 64) : List.range 64 = List.range k ++ ([k] ++ (List.range' (k + 1) (63 - k))) := by
  have h1 : List.range 64 = List.range' 0 64 := List.range_eq_range'
  have h2 : List.range k = List.range' 0 k := List.range_eq_range'
  rw [h1, h2]
  have h3 : [k] ++ List.range' (k + 1) (63 - k) = List.range' k (64 - k) := by
    rw [show 64 - k = (63 - k) + 1 by omega, List.range'_succ]; rfl
  rw [h3]
  have := List.range'_append (s := 0) (m := k) (n := 64 - k) (step := 1)
  rw [show k + (64 - k) = 64 by omega] at this
  simpa using this.symm

def lo (m : Nat → Int) (k : Nat) : List Pos := vecOn m (List.range k)
def hi (m : Nat → Int) (k : Nat) : List Pos := vecOn m (List.range' (k + 1) (63 - k))
theorem vec_split (m : Nat → Int) {k : Nat} (h : k < 64) : vec m = lo m k ++ ((if m k = 0 then [] else [⟨(k / 8 : Nat), (k % 8 : Nat), m k⟩]) ++ hi m k) := by
  unfold vec lo hi; rw [range_split h, vecOn_append, vecOn_append, vecOn_one]
theorem lo_put (m : Nat → Int) (k : Nat) (n : Int) : lo (put m k n) k = lo m k := vecOn_congr fun j hj => by
  have : j < k := by simpa using hj
  simp only [put]; rw [if_neg (by omega)]
theorem hi_put (m : Nat → Int) (k : Nat) (n : Int) : hi (put m k n) k = hi m k := vecOn_congr fun j hj => by
  have : k + 1 ≤ j := by simp at hj; omega
  simp only [put]; rw [if_neg (by omega)]

/-- The place of a position. -/
theorem cmp_lo {m : Nat → Int} {k : Nat} {p : Pos} (h : p ∈ lo m k) (q : Pos) (he : q.e = (k / 8 : Nat)) (hc : q.c = (k % 8 : Nat)) : p.cmp q < 0 := by
  obtain ⟨j, hj, _, rfl⟩ := mem_vecOn h
  have hj : j < k := by simpa using hj
  simp only [Pos.cmp, he, hc]
  split
  · omega
  · omega
theorem cmp_hi {m : Nat → Int} {k : Nat} {p : Pos} (h : p ∈ hi m k) (q : Pos) (he : q.e = (k / 8 : Nat)) (hc : q.c = (k % 8 : Nat)) : p.cmp q > 0 := by
  obtain ⟨j, hj, _, rfl⟩ := mem_vecOn h
  have hj : k + 1 ≤ j := by simp at hj; omega
  simp only [Pos.cmp, he, hc]
  split
  · omega
  · omega

/-- Where the search ends. -/
theorem bs_vec {m : Nat → Int} {k : Nat} (hk : k < 64) {q : Pos} (he : q.e = (k / 8 : Nat)) (hc : q.c = (k % 8 : Nat)) {c : Nat → Int} (h : ∀ i p, (vec m)[i]? = some p → c i = p.cmp q) : bsLoop c 0 (vec m).length = (lo m k).length := by
  rw [vec_split m hk] at h ⊢
  refine bs_split (f := fun p => p.cmp q) h (fun x hx => cmp_lo hx q he hc) (fun x hx => ?_)
  rcases List.mem_append.1 hx with hx | hx
  · split at hx
    · cases hx
    · simp at hx; subst hx
      simp only [Pos.cmp, he, hc]; simp
  · have := cmp_hi hx q he hc; omega

/-- Is a place taken? -/
theorem vec_at {m : Nat → Int} {k : Nat} (hk : k < 64) (h : m k ≠ 0) : (vec m)[(lo m k).length]? = some ⟨(k / 8 : Nat), (k % 8 : Nat), m k⟩ := by
  rw [vec_split m hk, List.getElem?_append_right (Nat.le_refl _), Nat.sub_self, if_neg h]; rfl
theorem there_vec {m : Nat → Int} {k : Nat} (hk : k < 64) {q : Pos} (he : q.e = (k / 8 : Nat)) (hc : q.c = (k % 8 : Nat)) {c : Nat → Int} (h : ∀ i p, (vec m)[i]? = some p → c i = p.cmp q) :
    (decide ((lo m k).length < (vec m).length) && (c (lo m k).length == 0)) = decide (m k ≠ 0) := by
  by_cases h0 : m k = 0
  · simp only [h0, ne_eq, not_true, decide_false, Bool.and_eq_false_iff, decide_eq_false_iff_not]
    rw [vec_split m hk, if_pos h0, List.nil_append] at *
    cases hh : hi m k with
    | nil => left; simp
    | cons x l =>
      right
      have hg : (lo m k ++ hi m k)[(lo m k).length]? = some x := by rw [List.getElem?_append_right (Nat.le_refl _), Nat.sub_self, hh]; rfl
      rw [h _ _ hg]
      have := cmp_hi (p := x) (by rw [hh]; simp) q he hc
      simp; omega
  · have hg := vec_at hk h0
    have hl := (List.getElem?_eq_some_iff.1 hg).1
    rw [h _ _ hg]
    simp [h0, hl, Pos.cmp, he, hc]

/-- What is put in its place. -/
theorem vec_insert {m : Nat → Int} {k : Nat} (hk : k < 64) (h0 : m k = 0) {n : Int} (hn : n ≠ 0) : (vec m).take (lo m k).length ++ [⟨(k / 8 : Nat), (k % 8 : Nat), n⟩] ++ (vec m).drop (lo m k).length = vec (put m k n) := by
  have hp : put m k n k = n := by simp [put]
  rw [vec_split m hk, vec_split (put m k n) hk, lo_put, hi_put, if_pos h0, hp, if_neg hn]
  simp
theorem vec_set {m : Nat → Int} {k : Nat} (hk : k < 64) (h0 : m k ≠ 0) {n : Int} (hn : n ≠ 0) : (vec m).set (lo m k).length ⟨(k / 8 : Nat), (k % 8 : Nat), n⟩ = vec (put m k n) := by
  have hp : put m k n k = n := by simp [put]
  rw [vec_split m hk, vec_split (put m k n) hk, lo_put, hi_put, if_neg h0, hp, if_neg hn]
  simp
theorem vec_erase {m : Nat → Int} {k : Nat} (hk : k < 64) (h0 : m k ≠ 0) : (vec m).take (lo m k).length ++ (vec m).drop ((lo m k).length + 1) = vec (put m k 0) := by
  have hp : put m k 0 k = 0 := by simp [put]
  rw [vec_split m hk, vec_split (put m k 0) hk, lo_put, hi_put, if_neg h0, hp, if_pos rfl]
  simp [List.drop_append]
theorem put_same {m : Nat → Int} {k : Nat} : put m k (m k) = m := by
  funext j; simp only [put]; split <;> simp_all

end Go.Proofs.Ytdodgbhodkcckaa.Pv
