/- Walks of sums, and of what is open. -/
import Derived.Test.YtdodgbhodkcckaaPwa
set_option linter.unusedVariables false
set_option linter.unusedSimpArgs false
set_option autoImplicit false
set_option maxRecDepth 100000
namespace Go.Proofs.Ytdodgbhodkcckaa.Pv
open Go Go.RowKit

abbrev U64 (n : Int) : D := .v (.int .u64 n)
def In64 (a : Int) : Prop := -9223372036854775808 ≤ a ∧ a ≤ 9223372036854775807
theorem wrap_u (x : Int) : IntKind.u64.wrap x = x % 18446744073709551616 := by
  simp only [IntKind.wrap, IntKind.bits, IntKind.signed]; simp
/-- A whole number in two words. -/
def wideD (s : Int) : D := .agg [I64 (s / 18446744073709551616), U64 (s % 18446744073709551616)]

theorem wide_eq {x y x' y' : Int} (h1 : x = x') (h2 : y = y') : subD (.agg [I64 x, U64 y]) (.agg [I64 x', U64 y']) := by subst h1; subst h2; exact subD_refl _

set_option maxHeartbeats 8000000 in
theorem run164 (s a : Int) (hs : -1000000000000000000000000000000 ≤ s ∧ s ≤ 1000000000000000000000000000000) (ha : In64 a) : Runs Try.prog 164 [.d (wideD s), pint .i64 a] [] (.d (wideD (s + a))) [] := by
  obtain ⟨ha1, ha2⟩ := ha
  unfold wideD I64 U64
  refine Runs.of (kit Try.prog) Try.func164 rfl rfl (by rw [Try.ntmps164]; exact of_decide_eq_true rfl) ?_; rw [Try.ntmps164, Try.results164]
  repeat' (first
    | ((first | refine Pwp.step (kit _) rfl fun K hK => ?_ | refine Pwp.last (kit _) rfl fun K hK => ?_ | refine Pwp.stepD (kit _) rfl rfl fun K hK => ?_ | refine Pwp.lastD (kit _) rfl rfl fun K hK => ?_); simp (dsimp := false) only [↓opsP_nil, ↓opsP_cons, ↓opsD_nil, ↓opsD_cons, ↓opP, ↓stepP, ↓stepG, go_sem])
    | (refine Pwp.seq ?_)
    | (refine Pwp.block ?_)
    | (refine Pwp.exit ?_; simp only [thenS, blockS, if_true, if_false, reduceIte, Nat.reduceEqDiff, Nat.add_one_ne_zero, reduceCtorEq])
    | (refine Pwp.skip ?_; simp only [thenS, blockS])
    | (refine Pwp.cond rfl True.intro (fun h => ?_) (fun h => ?_) <;> (try (cases h; done)) <;> (try simp only [h]))
    | (refine Pwp.ret ?_; try simp only [thenS, blockS])
    | (refine hK _ ?_; clear hK K)
    | (refine hK _ _ rfl ?_; clear hK K)
    | (refine CallG.off ?_)
    | (with_reducible refine Or.inl ?_)
    | (simp only [thenS, blockS])
    | (with_reducible refine And.intro ?_ ?_)
    | (with_reducible exact True.intro)
    | (simp (dsimp := false) only [↓opsP_nil, ↓opsP_cons, ↓opsD_nil, ↓opsD_cons, ↓opP, ↓stepP, ↓stepG, go_sem]))
  all_goals (try (first | (intro hg; simp_all; done) | (intro hg; simp [hg]; done) | exact of_decide_eq_true rfl | (cases h; done)))
  all_goals ((refine Fin.data (.inr rfl) (by simp (dsimp := false) only [↓opsP_nil, ↓opsP_cons, ↓opsD_nil, ↓opsD_cons, ↓opP, ↓stepP, ↓stepG, go_sem, resL]; rfl) (by simp only [and_self]) (by simp (dsimp := false) only [↓opsP_nil, ↓opsP_cons, ↓opsD_nil, ↓opsD_cons, ↓opP, ↓stepP, ↓stepG, go_sem, resP, Nat.le_refl, List.take_length]; try rfl) ?_))
  all_goals (simp only [wrap_u] at *)
  all_goals (simp only [decide_eq_true_eq, decide_eq_false_iff_not, IntKind.wrap_i64] at *)
  all_goals (refine wide_eq ?_ ?_ <;> omega)

/-- What amounts come to, if it fits. -/
def sumOf (l : List Int) : Int := l.foldl (· + ·) 0
theorem foldl_add : ∀ (l : List Int) (a : Int), l.foldl (· + ·) a = a + sumOf l
  | [], a => by simp [sumOf]
  | x :: l, a => by
    simp only [sumOf, List.foldl_cons]
    rw [foldl_add l (a + x), foldl_add l (0 + x)]; omega
theorem sumOf_cons (x : Int) (l : List Int) : sumOf (x :: l) = x + sumOf l := by simp only [sumOf, List.foldl_cons]; rw [foldl_add]; simp [sumOf]
theorem sumOf_append (l k : List Int) : sumOf (l ++ k) = sumOf l + sumOf k := by simp only [sumOf, List.foldl_append]; rw [foldl_add]; rfl
theorem sumOf_take {l : List Int} {i : Nat} {a : Int} (h : l[i]? = some a) : sumOf (l.take (i + 1)) = sumOf (l.take i) + a := by
  rw [List.take_add_one, h, sumOf_append]; simp [sumOf]
theorem sumOf_bound : ∀ {l : List Int}, (∀ a ∈ l, In64 a) → -(9223372036854775808 * (l.length : Int)) ≤ sumOf l ∧ sumOf l ≤ 9223372036854775808 * (l.length : Int)
  | [], _ => by simp [sumOf]
  | x :: l, h => by
    have ih := sumOf_bound (l := l) fun a ha => h a (by simp [ha])
    have hx := h x (by simp)
    rw [sumOf_cons]
    obtain ⟨h1, h2⟩ := hx
    simp only [List.length_cons]
    omega
def fits (s : Int) : Bool := decide (-9223372036854775808 ≤ s) && decide (s ≤ 9223372036854775807)
theorem fits_in {x : Int} (h : fits x = true) : In64 x := by
  simpa [fits, In64] using h
theorem In64.fits {x : Int} (h : In64 x) : fits x = true := by
  simpa [Pv.fits, In64] using h
theorem In64.wrap {x : Int} (h : In64 x) : IntKind.i64.wrap x = x := wrap_of h.1 h.2

theorem sum_no {s : Int} (hb : -1000000000000000000000000000000 ≤ s ∧ s ≤ 1000000000000000000000000000000) (h : (0 ≤ IntKind.i64.wrap (s % 18446744073709551616) ∧ ¬ s / 18446744073709551616 = 0) ∨ (IntKind.i64.wrap (s % 18446744073709551616) < 0 ∧ ¬ s / 18446744073709551616 = -1)) : ¬ fits s = true := by
  rw [IntKind.wrap_i64] at h
  simp only [fits, Bool.and_eq_true, decide_eq_true_eq]
  omega
theorem sum_yes {s : Int} (hb : -1000000000000000000000000000000 ≤ s ∧ s ≤ 1000000000000000000000000000000) (h : (0 ≤ IntKind.i64.wrap (s % 18446744073709551616) → s / 18446744073709551616 = 0) ∧ (IntKind.i64.wrap (s % 18446744073709551616) < 0 → s / 18446744073709551616 = -1)) : fits s = true ∧ IntKind.i64.wrap (s % 18446744073709551616) = s := by
  rw [IntKind.wrap_i64] at h ⊢
  simp only [fits, Bool.and_eq_true, decide_eq_true_eq]
  omega

def L105 (l : List Int) (i : Nat) : St := ⟨[(10, pint .i64 i), (9, pint .i64 l.length), (8, .d (.slc 1 (l.map I64))), (4, .ref 16 0)], [(16, .box [.d (I64 (sumOf (l.take i) / 18446744073709551616)), .d (U64 (sumOf (l.take i) % 18446744073709551616))])], 40⟩

set_option maxHeartbeats 8000000 in
theorem run105 (l : List Int) (hl : l.length ≤ 1000000) (ha : ∀ a ∈ l, In64 a) : Runs Try.prog 105 [.d (.slc 1 (l.map I64))] [] (.d (.tup (if fits (sumOf l) = true then [I64 (sumOf l), I64 0] else [I64 0, I64 10]))) [] := by
  refine Runs.of (kit Try.prog) Try.func105 rfl rfl (by rw [Try.ntmps105]; exact of_decide_eq_true rfl) ?_; rw [Try.ntmps105, Try.results105]
  repeat' (first
    | ((first | refine Pwp.step (kit _) rfl fun K hK => ?_ | refine Pwp.last (kit _) rfl fun K hK => ?_ | refine Pwp.stepD (kit _) rfl rfl fun K hK => ?_ | refine Pwp.lastD (kit _) rfl rfl fun K hK => ?_); simp (dsimp := false) only [↓opsP_nil, ↓opsP_cons, ↓opsD_nil, ↓opsD_cons, ↓opP, ↓stepP, ↓stepG, go_sem])
    | (refine Pwp.seq ?_)
    | (refine Pwp.block ?_)
    | (refine Pwp.exit ?_; simp only [thenS, blockS, if_true, if_false, reduceIte, Nat.reduceEqDiff, Nat.add_one_ne_zero, reduceCtorEq])
    | (refine Pwp.skip ?_; simp only [thenS, blockS])
    | (refine Pwp.cond rfl True.intro (fun h => ?_) (fun h => ?_) <;> (try (cases h; done)) <;> (try simp only [h]))
    | (refine Pwp.ret ?_; try simp only [thenS, blockS])
    | (refine hK _ ?_; clear hK K)
    | (refine hK _ _ rfl ?_; clear hK K)
    | (refine CallG.off ?_)
    | (with_reducible refine Or.inl ?_)
    | (simp only [thenS, blockS])
    | (with_reducible refine And.intro ?_ ?_)
    | (with_reducible exact True.intro)
    | (simp (dsimp := false) only [↓opsP_nil, ↓opsP_cons, ↓opsD_nil, ↓opsD_cons, ↓opP, ↓stepP, ↓stepG, go_sem]))
  all_goals (try (first | (intro hg; simp_all; done) | (intro hg; simp [hg]; done) | exact of_decide_eq_true rfl | (cases h; done)))
  refine Pwp.loop (fun k s => ∃ i, i ≤ l.length ∧ k = l.length - i ∧ s = L105 l i) l.length (s := L105 l 0) (Sub.same (by simp [L105]) ?_ ?_) ⟨0, by omega, by omega, rfl⟩ ?_
  · simp [viewH, viewP, viewL, viewO, L105, V0, keptOf, find, PVal.toD, subD, subV, disj, PVal.ids, sumOf, List.range, List.range.loop]
  · simp [viewT, viewP, L105, V0, keptOf, St.ev, find, PVal.toD, subD, subV, disj, PVal.ids, List.length_map]
  rintro k s ⟨i, hi, rfl, rfl⟩
  have hb : ∀ j, j ≤ l.length → -1000000000000000000000000000000 ≤ sumOf (l.take j) ∧ sumOf (l.take j) ≤ 1000000000000000000000000000000 := by
    intro j hj
    have := sumOf_bound (l := l.take j) fun a hh => ha a (List.mem_of_mem_take hh)
    rw [List.length_take, Nat.min_eq_left hj] at this
    omega
  rcases Nat.lt_or_ge i l.length with hlt | hge
  · obtain ⟨a, hae⟩ : ∃ a, l[i]? = some a := ⟨_, List.getElem?_eq_getElem hlt⟩
    have hg : (l.map I64)[i]? = some (I64 a) := by simp [hae]
    have hcc : decide ((i : Int) < (l.length : Int)) = true := by simp; omega
    unfold L105
    repeat' (first
      | ((first | refine Pwp.step (kit _) rfl fun K hK => ?_ | refine Pwp.last (kit _) rfl fun K hK => ?_ | refine Pwp.stepD (kit _) rfl rfl fun K hK => ?_ | refine Pwp.lastD (kit _) rfl rfl fun K hK => ?_); simp (dsimp := false) only [↓opsP_nil, ↓opsP_cons, ↓opsD_nil, ↓opsD_cons, ↓opP, ↓stepP, ↓stepG, go_sem, hg, hcc, wideD])
      | (refine Pwp.seq ?_)
      | (refine Pwp.block ?_)
      | (refine Pwp.exit ?_; simp only [thenS, blockS, if_true, if_false, reduceIte, Nat.reduceEqDiff, Nat.add_one_ne_zero, reduceCtorEq])
      | (refine Pwp.skip ?_; simp only [thenS, blockS])
      | (refine Pwp.cond rfl True.intro (fun h => ?_) (fun h => ?_) <;> (try (cases h; done)) <;> (try simp only [h]))
      | (refine Pwp.ret ?_; try simp only [thenS, blockS])
      | (refine hK _ ?_; clear hK K)
      | (refine hK _ _ rfl ?_; clear hK K)
      | (refine CallK.toD (ds := [wideD (sumOf (l.take i)), I64 a]) rfl (run164 _ a (hb i hi) (ha a (List.mem_of_getElem? hae))) rfl ?_)
      | (refine CallG.off ?_)
      | (with_reducible refine Or.inl ?_)
      | (simp only [thenS, blockS])
      | (with_reducible refine And.intro ?_ ?_)
      | (with_reducible exact True.intro)
      | (simp (dsimp := false) only [↓opsP_nil, ↓opsP_cons, ↓opsD_nil, ↓opsD_cons, ↓opP, ↓stepP, ↓stepG, go_sem, hg, hcc, wideD]))
    all_goals (try (first | (intro hg; simp_all; done) | (intro hg; simp [hg]; done) | exact of_decide_eq_true rfl | (cases h; done)))
    refine ⟨l.length - (i + 1), L105 l (i + 1), by omega, Sub.same (by simp [L105]) ?_ ?_, i + 1, by omega, rfl, rfl⟩
    · simp [viewH, viewP, viewL, viewO, L105, V0, keptOf, find, PVal.toD, disj, PVal.ids, sumOf_take hae, subD_refl]
    · rw [wrap_succ (by omega)]
      simp [viewT, viewP, L105, V0, keptOf, St.ev, find, PVal.toD, disj, PVal.ids, subD_refl]
  · obtain rfl : i = l.length := by omega
    have hcc : decide ((l.length : Int) < (l.length : Int)) = false := by simp
    have htl : l.take l.length = l := List.take_length
    have hbb := hb l.length (Nat.le_refl _)
    rw [htl] at hbb
    unfold L105
    repeat' (first
      | ((first | refine Pwp.step (kit _) rfl fun K hK => ?_ | refine Pwp.last (kit _) rfl fun K hK => ?_ | refine Pwp.stepD (kit _) rfl rfl fun K hK => ?_ | refine Pwp.lastD (kit _) rfl rfl fun K hK => ?_); simp (dsimp := false) only [↓opsP_nil, ↓opsP_cons, ↓opsD_nil, ↓opsD_cons, ↓opP, ↓stepP, ↓stepG, go_sem, hcc, htl])
      | (refine Pwp.seq ?_)
      | (refine Pwp.block ?_)
      | (refine Pwp.exit ?_; simp only [thenS, blockS, if_true, if_false, reduceIte, Nat.reduceEqDiff, Nat.add_one_ne_zero, reduceCtorEq])
      | (refine Pwp.skip ?_; simp only [thenS, blockS])
      | (refine Pwp.cond rfl True.intro (fun h => ?_) (fun h => ?_) <;> (try (cases h; done)) <;> (try simp only [h]))
      | (refine Pwp.ret ?_; try simp only [thenS, blockS])
      | (refine hK _ ?_; clear hK K)
      | (refine hK _ _ rfl ?_; clear hK K)
      | (refine CallG.off ?_)
      | (with_reducible refine Or.inl ?_)
      | (simp only [thenS, blockS])
      | (with_reducible refine And.intro ?_ ?_)
      | (with_reducible exact True.intro)
      | (simp (dsimp := false) only [↓opsP_nil, ↓opsP_cons, ↓opsD_nil, ↓opsD_cons, ↓opP, ↓stepP, ↓stepG, go_sem, hcc, htl]))
    all_goals (try (first | (intro hg; simp_all; done) | (intro hg; simp [hg]; done) | exact of_decide_eq_true rfl | (cases h; done)))
    · (refine Fin.data (.inr rfl) (by simp (dsimp := false) only [↓opsP_nil, ↓opsP_cons, ↓opsD_nil, ↓opsD_cons, ↓opP, ↓stepP, ↓stepG, go_sem, resL]; rfl) (by simp only [and_self]) (by simp (dsimp := false) only [↓opsP_nil, ↓opsP_cons, ↓opsD_nil, ↓opsD_cons, ↓opP, ↓stepP, ↓stepG, go_sem, resP, Nat.le_refl, List.take_length]; try rfl) ?_)
      rw [if_neg (sum_no hbb (by simpa using h))]
      exact subD_refl _
    · (refine Fin.data (.inr rfl) (by simp (dsimp := false) only [↓opsP_nil, ↓opsP_cons, ↓opsD_nil, ↓opsD_cons, ↓opP, ↓stepP, ↓stepG, go_sem, resL]; rfl) (by simp only [and_self]) (by simp (dsimp := false) only [↓opsP_nil, ↓opsP_cons, ↓opsD_nil, ↓opsD_cons, ↓opP, ↓stepP, ↓stepG, go_sem, resP, Nat.le_refl, List.take_length]; try rfl) ?_)
      obtain ⟨e1, e2⟩ := sum_yes hbb (by simpa using h)
      rw [if_pos e1, e2]
      exact subD_refl _

end Go.Proofs.Ytdodgbhodkcckaa.Pv
