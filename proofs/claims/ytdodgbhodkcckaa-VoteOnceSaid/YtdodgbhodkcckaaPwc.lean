/- Walks of binary searches. -/
import Derived.Test.YtdodgbhodkcckaaPty
import Derived.Test.YtdodgbhodkcckaaPv3
import Derived.Test.YtdodgbhodkcckaaPzs
set_option linter.unusedVariables false
set_option linter.unusedSimpArgs false
set_option autoImplicit false
set_option maxRecDepth 100000
namespace Go.Proofs.Ytdodgbhodkcckaa.Pv
open Go Go.RowKit


def L96 (xs : List (List D)) (tv : List D) (g : Nat) (i j : Nat) : St := ⟨[(10, pint .i64 j), (9, pint .i64 i), (8, pint .i64 xs.length), (4, .ref 8 0), (0, .d (.slc 3 (xs.map .agg))), (2, .d (.v (.func (.func g) #[] #[])))], [(8, .box (tv.map .d))], 40⟩

theorem run96 (xs : List (List D)) (tv : List D) (g : Nat) (c : Nat → Int) (hx : ∀ x ∈ xs, x.length = 3) (ht : tv.length = 3) (hl : xs.length < 4611686018427387904) (hc : ∀ i x, xs[i]? = some x → Runs Try.prog g [.d (.agg x), .d (.agg tv)] [] (pint .i64 (c i)) []) :
    Runs Try.prog 96 [.d (.slc 3 (xs.map .agg)), .d (.agg tv), .d (.v (.func (.func g) #[] #[]))] [] (.d (.tup [.v (.int .i64 (bsLoop c 0 xs.length)), .v (.bool (decide (bsLoop c 0 xs.length < xs.length) && (c (bsLoop c 0 xs.length) == 0)))])) [] := by
  refine Runs.of (kit Try.prog) Try.func96 rfl rfl (by rw [Try.ntmps96]; exact of_decide_eq_true rfl) ?_; rw [Try.ntmps96, Try.results96]
  repeat' (first
    | ((first | refine Pwp.step (kit _) rfl fun K hK => ?_ | refine Pwp.last (kit _) rfl fun K hK => ?_ | refine Pwp.stepD (kit _) rfl rfl fun K hK => ?_ | refine Pwp.lastD (kit _) rfl rfl fun K hK => ?_); simp (dsimp := false) only [↓opsP_nil, ↓opsP_cons, ↓opsD_nil, ↓opsD_cons, ↓opP, ↓stepP, ↓stepG, go_sem])
    | (refine Pwp.seq ?_)
    | (refine Pwp.block ?_)
    | (refine Pwp.exit ?_; simp only [thenS, blockS, if_true, if_false, reduceIte, Nat.reduceEqDiff, Nat.add_one_ne_zero, reduceCtorEq])
    | (refine Pwp.skip ?_; simp only [thenS, blockS])
    | (refine Pwp.cond rfl True.intro (fun h => ?_) (fun h => ?_) <;> (try (cases h; done)) <;> (try simp only [h]))
    | (refine Pwp.ret ?_; try simp only [thenS, blockS])
    | (refine hK _ ?_; clear hK K)
    | (refine hK _ _ rfl ?_; clear hK K)
    | (refine CallG.off ?_)
    | (with_reducible refine Or.inl ?_)
    | (simp only [thenS, blockS])
    | (with_reducible refine And.intro ?_ ?_)
    | (with_reducible exact True.intro)
    | (simp (dsimp := false) only [↓opsP_nil, ↓opsP_cons, ↓opsD_nil, ↓opsD_cons, ↓opP, ↓stepP, ↓stepG, go_sem]))
  all_goals (try (first | (intro hg; simp_all; done) | (intro hg; simp [hg]; done) | exact of_decide_eq_true rfl | (cases h; done)))
  refine Pwp.loop (fun k s => ∃ i j, i ≤ j ∧ j ≤ xs.length ∧ k = j - i ∧ s = L96 xs tv g i j ∧ bsLoop c i j = bsLoop c 0 xs.length) xs.length (s := L96 xs tv g 0 xs.length) (Sub.same (by simp [L96]) ?_ ?_) ⟨0, xs.length, by omega, by omega, by omega, rfl, rfl⟩ ?_
  · simp [viewH, viewP, viewO, L96, V0, keptOf, find, viewL_ds]
  · simp [viewT, viewP, L96, V0, keptOf, St.ev, find, PVal.toD, subD, subV, disj, PVal.ids]
  rintro k s ⟨i, j, hij, hj, rfl, rfl, hb⟩
  rcases Nat.lt_or_ge i j with hlt | hge
  · have hh := half (i := i) (j := j) (by omega)
    have hh2 : IntKind.i64.wrap (Int.fdiv (IntKind.u64.wrap (IntKind.i64.wrap ((i : Int) + j))) (2 ^ min 1 64)) = (((i + j) / 2 : Nat) : Int) := half (i := i) (j := j) (by omega)
    obtain ⟨x, hxe⟩ : ∃ x, xs[(i + j) / 2]? = some x := ⟨_, List.getElem?_eq_getElem (by omega)⟩
    have hg : (xs.map D.agg)[(i + j) / 2]? = some (.agg x) := by simp [hxe]
    have hx1 : (x.map PVal.d).length = 3 := by simp [hx x (List.mem_of_getElem? hxe)]
    have hx3 : (x.map PVal.d).take 3 = x.map PVal.d := List.take_of_length_le (by omega)
    have ht1 : (tv.map PVal.d).length = 3 := by simp [ht]
    have ht3 : (tv.map PVal.d).take 3 = tv.map PVal.d := List.take_of_length_le (by omega)
    have hcc := hc _ x hxe
    have hlt' : decide ((i : Int) < (j : Int)) = true := by simp; omega
    unfold L96
    repeat' (first
      | ((first | refine Pwp.step (kit _) rfl fun K hK => ?_ | refine Pwp.last (kit _) rfl fun K hK => ?_ | refine Pwp.stepD (kit _) rfl rfl fun K hK => ?_ | refine Pwp.lastD (kit _) rfl rfl fun K hK => ?_); simp (dsimp := false) only [↓opsP_nil, ↓opsP_cons, ↓opsD_nil, ↓opsD_cons, ↓opP, ↓stepP, ↓stepG, go_sem, hh, hh2, hlt', hg, hx1, hx3, ht1, ht3, toDL_ds])
      | (refine Pwp.seq ?_)
      | (refine Pwp.block ?_)
      | (refine Pwp.exit ?_; simp only [thenS, blockS, if_true, if_false, reduceIte, Nat.reduceEqDiff, Nat.add_one_ne_zero, reduceCtorEq])
      | (refine Pwp.skip ?_; simp only [thenS, blockS])
      | (refine Pwp.cond rfl True.intro (fun h => ?_) (fun h => ?_) <;> (try (cases h; done)) <;> (try simp only [h]))
      | (refine Pwp.ret ?_; try simp only [thenS, blockS])
      | (refine hK _ ?_; clear hK K)
      | (refine hK _ _ rfl ?_; clear hK K)
      | (refine CallK.toD (ds := [.agg x, .agg tv]) (by simp only [toDL, PVal.toD, toDL_ds, Option.map]) hcc rfl ?_)
      | (refine CallG.off ?_)
      | (with_reducible refine Or.inl ?_)
      | (simp only [thenS, blockS])
      | (with_reducible refine And.intro ?_ ?_)
      | (with_reducible exact True.intro)
      | (simp (dsimp := false) only [↓opsP_nil, ↓opsP_cons, ↓opsD_nil, ↓opsD_cons, ↓opP, ↓stepP, ↓stepG, go_sem, hh, hh2, hlt', hg, hx1, hx3, ht1, ht3, toDL_ds]))
    all_goals (try (first | (intro hg; simp_all; done) | (intro hg; simp [hg]; done) | exact of_decide_eq_true rfl | (cases h; done)))
    · refine ⟨j - ((i + j) / 2 + 1), L96 xs tv g ((i + j) / 2 + 1) j, by omega, Sub.same (by simp [L96]) ?_ ?_, (i + j) / 2 + 1, j, by omega, hj, rfl, rfl, ?_⟩
      · simp [viewH, viewP, viewO, L96, V0, keptOf, find, viewL_ds]
      · rw [wrap_succ (by omega)]
        simp [viewT, viewP, L96, V0, keptOf, St.ev, find, PVal.toD, subD, subV, disj, PVal.ids]
      · rw [← hb, bsLoop_lt hlt (by simpa using h)]
    · refine ⟨(i + j) / 2 - i, L96 xs tv g i ((i + j) / 2), by omega, Sub.same (by simp [L96]) ?_ ?_, i, (i + j) / 2, by omega, by omega, rfl, rfl, ?_⟩
      · simp [viewH, viewP, viewO, L96, V0, keptOf, find, viewL_ds]
      · simp [viewT, viewP, L96, V0, keptOf, St.ev, find, PVal.toD, subD, subV, disj, PVal.ids]
      · rw [← hb, bsLoop_ge hlt (by simpa using h)]
  · obtain rfl : i = j := by omega
    have hlt' : decide ((i : Int) < (i : Int)) = false := by simp
    have hbi : bsLoop c 0 xs.length = i := by rw [← hb, bsLoop_end (Nat.lt_irrefl _)]
    unfold L96
    rcases Nat.lt_or_ge i xs.length with hlt | hge2
    · obtain ⟨x, hxe⟩ : ∃ x, xs[i]? = some x := ⟨_, List.getElem?_eq_getElem (by omega)⟩
      have hg : (xs.map D.agg)[i]? = some (.agg x) := by simp [hxe]
      have hx1 : (x.map PVal.d).length = 3 := by simp [hx x (List.mem_of_getElem? hxe)]
      have hx3 : (x.map PVal.d).take 3 = x.map PVal.d := List.take_of_length_le (by omega)
      have ht1 : (tv.map PVal.d).length = 3 := by simp [ht]
      have ht3 : (tv.map PVal.d).take 3 = tv.map PVal.d := List.take_of_length_le (by omega)
      have hcc := hc _ x hxe
      have hin : decide ((i : Int) < (xs.length : Int)) = true := by simp; omega
      repeat' (first
        | ((first | refine Pwp.step (kit _) rfl fun K hK => ?_ | refine Pwp.last (kit _) rfl fun K hK => ?_ | refine Pwp.stepD (kit _) rfl rfl fun K hK => ?_ | refine Pwp.lastD (kit _) rfl rfl fun K hK => ?_); simp (dsimp := false) only [↓opsP_nil, ↓opsP_cons, ↓opsD_nil, ↓opsD_cons, ↓opP, ↓stepP, ↓stepG, go_sem, hg, hx1, hx3, ht1, ht3, toDL_ds, hin, hlt'])
        | (refine Pwp.seq ?_)
        | (refine Pwp.block ?_)
        | (refine Pwp.exit ?_; simp only [thenS, blockS, if_true, if_false, reduceIte, Nat.reduceEqDiff, Nat.add_one_ne_zero, reduceCtorEq])
        | (refine Pwp.skip ?_; simp only [thenS, blockS])
        | (refine Pwp.cond rfl True.intro (fun h => ?_) (fun h => ?_) <;> (try (cases h; done)) <;> (try simp only [h]))
        | (refine Pwp.ret ?_; try simp only [thenS, blockS])
        | (refine hK _ ?_; clear hK K)
        | (refine hK _ _ rfl ?_; clear hK K)
        | (refine CallG.toD (ds := [.agg x, .agg tv]) (by simp only [toDL, PVal.toD, toDL_ds, Option.map]) hcc rfl ?_ ?_)
        | (refine CallG.off ?_)
        | (with_reducible refine Or.inl ?_)
        | (simp only [thenS, blockS])
        | (with_reducible refine And.intro ?_ ?_)
        | (with_reducible exact True.intro)
        | (simp (dsimp := false) only [↓opsP_nil, ↓opsP_cons, ↓opsD_nil, ↓opsD_cons, ↓opP, ↓stepP, ↓stepG, go_sem, hg, hx1, hx3, ht1, ht3, toDL_ds, hin, hlt']))
      all_goals (try (first | (intro hg; simp_all; done) | (intro hg; simp [hg]; done) | exact of_decide_eq_true rfl | (cases h; done)))
      all_goals (try (first | exact fun _ => trivial | trivial))
      have e : (D.tup [D.v (Value.int IntKind.i64 ↑(bsLoop c 0 xs.length)), D.v (Value.bool (decide (bsLoop c 0 xs.length < xs.length) && c (bsLoop c 0 xs.length) == 0))]) = D.tup [.v (.int .i64 i), .v (.bool (c i == 0))] := by rw [hbi]; simp [hlt]
      rw [e]
      exact Fin.data (.inr rfl) rfl ⟨True.intro, True.intro, True.intro⟩ rfl (subD_refl _)
    · have hin : decide ((i : Int) < (xs.length : Int)) = false := by simp; omega
      have hg' : (xs.map D.agg)[i]? = none := by simp; omega
      have ht1 : (tv.map PVal.d).length = 3 := by simp [ht]
      have ht3 : (tv.map PVal.d).take 3 = tv.map PVal.d := List.take_of_length_le (by omega)
      repeat' (first
        | ((first | refine Pwp.step (kit _) rfl fun K hK => ?_ | refine Pwp.last (kit _) rfl fun K hK => ?_ | refine Pwp.stepD (kit _) rfl rfl fun K hK => ?_ | refine Pwp.lastD (kit _) rfl rfl fun K hK => ?_); simp (dsimp := false) only [↓opsP_nil, ↓opsP_cons, ↓opsD_nil, ↓opsD_cons, ↓opP, ↓stepP, ↓stepG, go_sem, hg', ht1, ht3, hin, hlt'])
        | (refine Pwp.seq ?_)
        | (refine Pwp.block ?_)
        | (refine Pwp.exit ?_; simp only [thenS, blockS, if_true, if_false, reduceIte, Nat.reduceEqDiff, Nat.add_one_ne_zero, reduceCtorEq])
        | (refine Pwp.skip ?_; simp only [thenS, blockS])
        | (refine Pwp.cond rfl True.intro (fun h => ?_) (fun h => ?_) <;> (try (cases h; done)) <;> (try simp only [h]))
        | (refine Pwp.ret ?_; try simp only [thenS, blockS])
        | (refine hK _ ?_; clear hK K)
        | (refine hK _ _ rfl ?_; clear hK K)
        | (refine CallG.off ?_)
        | (with_reducible refine Or.inl ?_)
        | (simp only [thenS, blockS])
        | (with_reducible refine And.intro ?_ ?_)
        | (with_reducible exact True.intro)
        | (simp (dsimp := false) only [↓opsP_nil, ↓opsP_cons, ↓opsD_nil, ↓opsD_cons, ↓opP, ↓stepP, ↓stepG, go_sem, hg', ht1, ht3, hin, hlt']))
      all_goals (try (first | (intro hg; simp_all; done) | (intro hg; simp [hg]; done) | exact of_decide_eq_true rfl | (cases h; done)))
      have e : (D.tup [D.v (Value.int IntKind.i64 ↑(bsLoop c 0 xs.length)), D.v (Value.bool (decide (bsLoop c 0 xs.length < xs.length) && c (bsLoop c 0 xs.length) == 0))]) = D.tup [.v (.int .i64 i), .v (.bool false)] := by rw [hbi]; simp [Nat.not_lt.2 hge2]
      rw [e]
      exact Fin.data (.inr rfl) rfl ⟨True.intro, True.intro, True.intro⟩ rfl (subD_refl _)


def L113 (xs : List (List D)) (tv : List D) (g : Nat) (i j : Nat) : St := ⟨[(10, pint .i64 j), (9, pint .i64 i), (8, pint .i64 xs.length), (4, .ref 8 0), (0, .d (.slc 8 (xs.map .agg))), (2, .d (.v (.func (.func g) #[] #[])))], [(8, .box (tv.map .d))], 40⟩

theorem run113 (xs : List (List D)) (tv : List D) (g : Nat) (c : Nat → Int) (hx : ∀ x ∈ xs, x.length = 8) (ht : tv.length = 2) (hl : xs.length < 4611686018427387904) (hc : ∀ i x, xs[i]? = some x → Runs Try.prog g [.d (.agg x), .d (.agg tv)] [] (pint .i64 (c i)) []) :
    Runs Try.prog 113 [.d (.slc 8 (xs.map .agg)), .d (.agg tv), .d (.v (.func (.func g) #[] #[]))] [] (.d (.tup [.v (.int .i64 (bsLoop c 0 xs.length)), .v (.bool (decide (bsLoop c 0 xs.length < xs.length) && (c (bsLoop c 0 xs.length) == 0)))])) [] := by
  refine Runs.of (kit Try.prog) Try.func113 rfl rfl (by rw [Try.ntmps113]; exact of_decide_eq_true rfl) ?_; rw [Try.ntmps113, Try.results113]
  repeat' (first
    | ((first | refine Pwp.step (kit _) rfl fun K hK => ?_ | refine Pwp.last (kit _) rfl fun K hK => ?_ | refine Pwp.stepD (kit _) rfl rfl fun K hK => ?_ | refine Pwp.lastD (kit _) rfl rfl fun K hK => ?_); simp (dsimp := false) only [↓opsP_nil, ↓opsP_cons, ↓opsD_nil, ↓opsD_cons, ↓opP, ↓stepP, ↓stepG, go_sem])
    | (refine Pwp.seq ?_)
    | (refine Pwp.block ?_)
    | (refine Pwp.exit ?_; simp only [thenS, blockS, if_true, if_false, reduceIte, Nat.reduceEqDiff, Nat.add_one_ne_zero, reduceCtorEq])
    | (refine Pwp.skip ?_; simp only [thenS, blockS])
    | (refine Pwp.cond rfl True.intro (fun h => ?_) (fun h => ?_) <;> (try (cases h; done)) <;> (try simp only [h]))
    | (refine Pwp.ret ?_; try simp only [thenS, blockS])
    | (refine hK _ ?_; clear hK K)
    | (refine hK _ _ rfl ?_; clear hK K)
    | (refine CallG.off ?_)
    | (with_reducible refine Or.inl ?_)
    | (simp only [thenS, blockS])
    | (with_reducible refine And.intro ?_ ?_)
    | (with_reducible exact True.intro)
    | (simp (dsimp := false) only [↓opsP_nil, ↓opsP_cons, ↓opsD_nil, ↓opsD_cons, ↓opP, ↓stepP, ↓stepG, go_sem]))
  all_goals (try (first | (intro hg; simp_all; done) | (intro hg; simp [hg]; done) | exact of_decide_eq_true rfl | (cases h; done)))
  refine Pwp.loop (fun k s => ∃ i j, i ≤ j ∧ j ≤ xs.length ∧ k = j - i ∧ s = L113 xs tv g i j ∧ bsLoop c i j = bsLoop c 0 xs.length) xs.length (s := L113 xs tv g 0 xs.length) (Sub.same (by simp [L113]) ?_ ?_) ⟨0, xs.length, by omega, by omega, by omega, rfl, rfl⟩ ?_
  · simp [viewH, viewP, viewO, L113, V0, keptOf, find, viewL_ds]
  · simp [viewT, viewP, L113, V0, keptOf, St.ev, find, PVal.toD, subD, subV, disj, PVal.ids]
  rintro k s ⟨i, j, hij, hj, rfl, rfl, hb⟩
  rcases Nat.lt_or_ge i j with hlt | hge
  · have hh := half (i := i) (j := j) (by omega)
    have hh2 : IntKind.i64.wrap (Int.fdiv (IntKind.u64.wrap (IntKind.i64.wrap ((i : Int) + j))) (2 ^ min 1 64)) = (((i + j) / 2 : Nat) : Int) := half (i := i) (j := j) (by omega)
    obtain ⟨x, hxe⟩ : ∃ x, xs[(i + j) / 2]? = some x := ⟨_, List.getElem?_eq_getElem (by omega)⟩
    have hg : (xs.map D.agg)[(i + j) / 2]? = some (.agg x) := by simp [hxe]
    have hx1 : (x.map PVal.d).length = 8 := by simp [hx x (List.mem_of_getElem? hxe)]
    have hx3 : (x.map PVal.d).take 8 = x.map PVal.d := List.take_of_length_le (by omega)
    have ht1 : (tv.map PVal.d).length = 2 := by simp [ht]
    have ht3 : (tv.map PVal.d).take 2 = tv.map PVal.d := List.take_of_length_le (by omega)
    have hcc := hc _ x hxe
    have hlt' : decide ((i : Int) < (j : Int)) = true := by simp; omega
    unfold L113
    repeat' (first
      | ((first | refine Pwp.step (kit _) rfl fun K hK => ?_ | refine Pwp.last (kit _) rfl fun K hK => ?_ | refine Pwp.stepD (kit _) rfl rfl fun K hK => ?_ | refine Pwp.lastD (kit _) rfl rfl fun K hK => ?_); simp (dsimp := false) only [↓opsP_nil, ↓opsP_cons, ↓opsD_nil, ↓opsD_cons, ↓opP, ↓stepP, ↓stepG, go_sem, hh, hh2, hlt', hg, hx1, hx3, ht1, ht3, toDL_ds])
      | (refine Pwp.seq ?_)
      | (refine Pwp.block ?_)
      | (refine Pwp.exit ?_; simp only [thenS, blockS, if_true, if_false, reduceIte, Nat.reduceEqDiff, Nat.add_one_ne_zero, reduceCtorEq])
      | (refine Pwp.skip ?_; simp only [thenS, blockS])
      | (refine Pwp.cond rfl True.intro (fun h => ?_) (fun h => ?_) <;> (try (cases h; done)) <;> (try simp only [h]))
      | (refine Pwp.ret ?_; try simp only [thenS, blockS])
      | (refine hK _ ?_; clear hK K)
      | (refine hK _ _ rfl ?_; clear hK K)
      | (refine CallK.toD (ds := [.agg x, .agg tv]) (by simp only [toDL, PVal.toD, toDL_ds, Option.map]) hcc rfl ?_)
      | (refine CallG.off ?_)
      | (with_reducible refine Or.inl ?_)
      | (simp only [thenS, blockS])
      | (with_reducible refine And.intro ?_ ?_)
      | (with_reducible exact True.intro)
      | (simp (dsimp := false) only [↓opsP_nil, ↓opsP_cons, ↓opsD_nil, ↓opsD_cons, ↓opP, ↓stepP, ↓stepG, go_sem, hh, hh2, hlt', hg, hx1, hx3, ht1, ht3, toDL_ds]))
    all_goals (try (first | (intro hg; simp_all; done) | (intro hg; simp [hg]; done) | exact of_decide_eq_true rfl | (cases h; done)))
    · refine ⟨j - ((i + j) / 2 + 1), L113 xs tv g ((i + j) / 2 + 1) j, by omega, Sub.same (by simp [L113]) ?_ ?_, (i + j) / 2 + 1, j, by omega, hj, rfl, rfl, ?_⟩
      · simp [viewH, viewP, viewO, L113, V0, keptOf, find, viewL_ds]
      · rw [wrap_succ (by omega)]
        simp [viewT, viewP, L113, V0, keptOf, St.ev, find, PVal.toD, subD, subV, disj, PVal.ids]
      · rw [← hb, bsLoop_lt hlt (by simpa using h)]
    · refine ⟨(i + j) / 2 - i, L113 xs tv g i ((i + j) / 2), by omega, Sub.same (by simp [L113]) ?_ ?_, i, (i + j) / 2, by omega, by omega, rfl, rfl, ?_⟩
      · simp [viewH, viewP, viewO, L113, V0, keptOf, find, viewL_ds]
      · simp [viewT, viewP, L113, V0, keptOf, St.ev, find, PVal.toD, subD, subV, disj, PVal.ids]
      · rw [← hb, bsLoop_ge hlt (by simpa using h)]
  · obtain rfl : i = j := by omega
    have hlt' : decide ((i : Int) < (i : Int)) = false := by simp
    have hbi : bsLoop c 0 xs.length = i := by rw [← hb, bsLoop_end (Nat.lt_irrefl _)]
    unfold L113
    rcases Nat.lt_or_ge i xs.length with hlt | hge2
    · obtain ⟨x, hxe⟩ : ∃ x, xs[i]? = some x := ⟨_, List.getElem?_eq_getElem (by omega)⟩
      have hg : (xs.map D.agg)[i]? = some (.agg x) := by simp [hxe]
      have hx1 : (x.map PVal.d).length = 8 := by simp [hx x (List.mem_of_getElem? hxe)]
      have hx3 : (x.map PVal.d).take 8 = x.map PVal.d := List.take_of_length_le (by omega)
      have ht1 : (tv.map PVal.d).length = 2 := by simp [ht]
      have ht3 : (tv.map PVal.d).take 2 = tv.map PVal.d := List.take_of_length_le (by omega)
      have hcc := hc _ x hxe
      have hin : decide ((i : Int) < (xs.length : Int)) = true := by simp; omega
      repeat' (first
        | ((first | refine Pwp.step (kit _) rfl fun K hK => ?_ | refine Pwp.last (kit _) rfl fun K hK => ?_ | refine Pwp.stepD (kit _) rfl rfl fun K hK => ?_ | refine Pwp.lastD (kit _) rfl rfl fun K hK => ?_); simp (dsimp := false) only [↓opsP_nil, ↓opsP_cons, ↓opsD_nil, ↓opsD_cons, ↓opP, ↓stepP, ↓stepG, go_sem, hg, hx1, hx3, ht1, ht3, toDL_ds, hin, hlt'])
        | (refine Pwp.seq ?_)
        | (refine Pwp.block ?_)
        | (refine Pwp.exit ?_; simp only [thenS, blockS, if_true, if_false, reduceIte, Nat.reduceEqDiff, Nat.add_one_ne_zero, reduceCtorEq])
        | (refine Pwp.skip ?_; simp only [thenS, blockS])
        | (refine Pwp.cond rfl True.intro (fun h => ?_) (fun h => ?_) <;> (try (cases h; done)) <;> (try simp only [h]))
        | (refine Pwp.ret ?_; try simp only [thenS, blockS])
        | (refine hK _ ?_; clear hK K)
        | (refine hK _ _ rfl ?_; clear hK K)
        | (refine CallG.toD (ds := [.agg x, .agg tv]) (by simp only [toDL, PVal.toD, toDL_ds, Option.map]) hcc rfl ?_ ?_)
        | (refine CallG.off ?_)
        | (with_reducible refine Or.inl ?_)
        | (simp only [thenS, blockS])
        | (with_reducible refine And.intro ?_ ?_)
        | (with_reducible exact True.intro)
        | (simp (dsimp := false) only [↓opsP_nil, ↓opsP_cons, ↓opsD_nil, ↓opsD_cons, ↓opP, ↓stepP, ↓stepG, go_sem, hg, hx1, hx3, ht1, ht3, toDL_ds, hin, hlt']))
      all_goals (try (first | (intro hg; simp_all; done) | (intro hg; simp [hg]; done) | exact of_decide_eq_true rfl | (cases h; done)))
      all_goals (try (first | exact fun _ => trivial | trivial))
      have e : (D.tup [D.v (Value.int IntKind.i64 ↑(bsLoop c 0 xs.length)), D.v (Value.bool (decide (bsLoop c 0 xs.length < xs.length) && c (bsLoop c 0 xs.length) == 0))]) = D.tup [.v (.int .i64 i), .v (.bool (c i == 0))] := by rw [hbi]; simp [hlt]
      rw [e]
      exact Fin.data (.inr rfl) rfl ⟨True.intro, True.intro, True.intro⟩ rfl (subD_refl _)
    · have hin : decide ((i : Int) < (xs.length : Int)) = false := by simp; omega
      have hg' : (xs.map D.agg)[i]? = none := by simp; omega
      have ht1 : (tv.map PVal.d).length = 2 := by simp [ht]
      have ht3 : (tv.map PVal.d).take 2 = tv.map PVal.d := List.take_of_length_le (by omega)
      repeat' (first
        | ((first | refine Pwp.step (kit _) rfl fun K hK => ?_ | refine Pwp.last (kit _) rfl fun K hK => ?_ | refine Pwp.stepD (kit _) rfl rfl fun K hK => ?_ | refine Pwp.lastD (kit _) rfl rfl fun K hK => ?_); simp (dsimp := false) only [↓opsP_nil, ↓opsP_cons, ↓opsD_nil, ↓opsD_cons, ↓opP, ↓stepP, ↓stepG, go_sem, hg', ht1, ht3, hin, hlt'])
        | (refine Pwp.seq ?_)
        | (refine Pwp.block ?_)
        | (refine Pwp.exit ?_; simp only [thenS, blockS, if_true, if_false, reduceIte, Nat.reduceEqDiff, Nat.add_one_ne_zero, reduceCtorEq])
        | (refine Pwp.skip ?_; simp only [thenS, blockS])
        | (refine Pwp.cond rfl True.intro (fun h => ?_) (fun h => ?_) <;> (try (cases h; done)) <;> (try simp only [h]))
        | (refine Pwp.ret ?_; try simp only [thenS, blockS])
        | (refine hK _ ?_; clear hK K)
        | (refine hK _ _ rfl ?_; clear hK K)
        | (refine CallG.off ?_)
        | (with_reducible refine Or.inl ?_)
        | (simp only [thenS, blockS])
        | (with_reducible refine And.intro ?_ ?_)
        | (with_reducible exact True.intro)
        | (simp (dsimp := false) only [↓opsP_nil, ↓opsP_cons, ↓opsD_nil, ↓opsD_cons, ↓opP, ↓stepP, ↓stepG, go_sem, hg', ht1, ht3, hin, hlt']))
      all_goals (try (first | (intro hg; simp_all; done) | (intro hg; simp [hg]; done) | exact of_decide_eq_true rfl | (cases h; done)))
      have e : (D.tup [D.v (Value.int IntKind.i64 ↑(bsLoop c 0 xs.length)), D.v (Value.bool (decide (bsLoop c 0 xs.length < xs.length) && c (bsLoop c 0 xs.length) == 0))]) = D.tup [.v (.int .i64 i), .v (.bool false)] := by rw [hbi]; simp [Nat.not_lt.2 hge2]
      rw [e]
      exact Fin.data (.inr rfl) rfl ⟨True.intro, True.intro, True.intro⟩ rfl (subD_refl _)


def L165 (xs : List (List D)) (tv : List D) (g : Nat) (i j : Nat) : St := ⟨[(10, pint .i64 j), (9, pint .i64 i), (8, pint .i64 xs.length), (4, .ref 8 0), (0, .d (.slc 3 (xs.map .agg))), (2, .d (.v (.func (.func g) #[] #[])))], [(8, .box (tv.map .d))], 40⟩

theorem run165 (xs : List (List D)) (tv : List D) (g : Nat) (c : Nat → Int) (hx : ∀ x ∈ xs, x.length = 3) (ht : tv.length = 2) (hl : xs.length < 4611686018427387904) (hc : ∀ i x, xs[i]? = some x → Runs Try.prog g [.d (.agg x), .d (.agg tv)] [] (pint .i64 (c i)) []) :
    Runs Try.prog 165 [.d (.slc 3 (xs.map .agg)), .d (.agg tv), .d (.v (.func (.func g) #[] #[]))] [] (.d (.tup [.v (.int .i64 (bsLoop c 0 xs.length)), .v (.bool (decide (bsLoop c 0 xs.length < xs.length) && (c (bsLoop c 0 xs.length) == 0)))])) [] := by
  refine Runs.of (kit Try.prog) Try.func165 rfl rfl (by rw [Try.ntmps165]; exact of_decide_eq_true rfl) ?_; rw [Try.ntmps165, Try.results165]
  repeat' (first
    | ((first | refine Pwp.step (kit _) rfl fun K hK => ?_ | refine Pwp.last (kit _) rfl fun K hK => ?_ | refine Pwp.stepD (kit _) rfl rfl fun K hK => ?_ | refine Pwp.lastD (kit _) rfl rfl fun K hK => ?_); simp (dsimp := false) only [↓opsP_nil, ↓opsP_cons, ↓opsD_nil, ↓opsD_cons, ↓opP, ↓stepP, ↓stepG, go_sem])
    | (refine Pwp.seq ?_)
    | (refine Pwp.block ?_)
    | (refine Pwp.exit ?_; simp only [thenS, blockS, if_true, if_false, reduceIte, Nat.reduceEqDiff, Nat.add_one_ne_zero, reduceCtorEq])
    | (refine Pwp.skip ?_; simp only [thenS, blockS])
    | (refine Pwp.cond rfl True.intro (fun h => ?_) (fun h => ?_) <;> (try (cases h; done)) <;> (try simp only [h]))
    | (refine Pwp.ret ?_; try simp only [thenS, blockS])
    | (refine hK _ ?_; clear hK K)
    | (refine hK _ _ rfl ?_; clear hK K)
    | (refine CallG.off ?_)
    | (with_reducible refine Or.inl ?_)
    | (simp only [thenS, blockS])
    | (with_reducible refine And.intro ?_ ?_)
    | (with_reducible exact True.intro)
    | (simp (dsimp := false) only [↓opsP_nil, ↓opsP_cons, ↓opsD_nil, ↓opsD_cons, ↓opP, ↓stepP, ↓stepG, go_sem]))
  all_goals (try (first | (intro hg; simp_all; done) | (intro hg; simp [hg]; done) | exact of_decide_eq_true rfl | (cases h; done)))
  refine Pwp.loop (fun k s => ∃ i j, i ≤ j ∧ j ≤ xs.length ∧ k = j - i ∧ s = L165 xs tv g i j ∧ bsLoop c i j = bsLoop c 0 xs.length) xs.length (s := L165 xs tv g 0 xs.length) (Sub.same (by simp [L165]) ?_ ?_) ⟨0, xs.length, by omega, by omega, by omega, rfl, rfl⟩ ?_
  · simp [viewH, viewP, viewO, L165, V0, keptOf, find, viewL_ds]
  · simp [viewT, viewP, L165, V0, keptOf, St.ev, find, PVal.toD, subD, subV, disj, PVal.ids]
  rintro k s ⟨i, j, hij, hj, rfl, rfl, hb⟩
  rcases Nat.lt_or_ge i j with hlt | hge
  · have hh := half (i := i) (j := j) (by omega)
    have hh2 : IntKind.i64.wrap (Int.fdiv (IntKind.u64.wrap (IntKind.i64.wrap ((i : Int) + j))) (2 ^ min 1 64)) = (((i + j) / 2 : Nat) : Int) := half (i := i) (j := j) (by omega)
    obtain ⟨x, hxe⟩ : ∃ x, xs[(i + j) / 2]? = some x := ⟨_, List.getElem?_eq_getElem (by omega)⟩
    have hg : (xs.map D.agg)[(i + j) / 2]? = some (.agg x) := by simp [hxe]
    have hx1 : (x.map PVal.d).length = 3 := by simp [hx x (List.mem_of_getElem? hxe)]
    have hx3 : (x.map PVal.d).take 3 = x.map PVal.d := List.take_of_length_le (by omega)
    have ht1 : (tv.map PVal.d).length = 2 := by simp [ht]
    have ht3 : (tv.map PVal.d).take 2 = tv.map PVal.d := List.take_of_length_le (by omega)
    have hcc := hc _ x hxe
    have hlt' : decide ((i : Int) < (j : Int)) = true := by simp; omega
    unfold L165
    repeat' (first
      | ((first | refine Pwp.step (kit _) rfl fun K hK => ?_ | refine Pwp.last (kit _) rfl fun K hK => ?_ | refine Pwp.stepD (kit _) rfl rfl fun K hK => ?_ | refine Pwp.lastD (kit _) rfl rfl fun K hK => ?_); simp (dsimp := false) only [↓opsP_nil, ↓opsP_cons, ↓opsD_nil, ↓opsD_cons, ↓opP, ↓stepP, ↓stepG, go_sem, hh, hh2, hlt', hg, hx1, hx3, ht1, ht3, toDL_ds])
      | (refine Pwp.seq ?_)
      | (refine Pwp.block ?_)
      | (refine Pwp.exit ?_; simp only [thenS, blockS, if_true, if_false, reduceIte, Nat.reduceEqDiff, Nat.add_one_ne_zero, reduceCtorEq])
      | (refine Pwp.skip ?_; simp only [thenS, blockS])
      | (refine Pwp.cond rfl True.intro (fun h => ?_) (fun h => ?_) <;> (try (cases h; done)) <;> (try simp only [h]))
      | (refine Pwp.ret ?_; try simp only [thenS, blockS])
      | (refine hK _ ?_; clear hK K)
      | (refine hK _ _ rfl ?_; clear hK K)
      | (refine CallK.toD (ds := [.agg x, .agg tv]) (by simp only [toDL, PVal.toD, toDL_ds, Option.map]) hcc rfl ?_)
      | (refine CallG.off ?_)
      | (with_reducible refine Or.inl ?_)
      | (simp only [thenS, blockS])
      | (with_reducible refine And.intro ?_ ?_)
      | (with_reducible exact True.intro)
      | (simp (dsimp := false) only [↓opsP_nil, ↓opsP_cons, ↓opsD_nil, ↓opsD_cons, ↓opP, ↓stepP, ↓stepG, go_sem, hh, hh2, hlt', hg, hx1, hx3, ht1, ht3, toDL_ds]))
    all_goals (try (first | (intro hg; simp_all; done) | (intro hg; simp [hg]; done) | exact of_decide_eq_true rfl | (cases h; done)))
    · refine ⟨j - ((i + j) / 2 + 1), L165 xs tv g ((i + j) / 2 + 1) j, by omega, Sub.same (by simp [L165]) ?_ ?_, (i + j) / 2 + 1, j, by omega, hj, rfl, rfl, ?_⟩
      · simp [viewH, viewP, viewO, L165, V0, keptOf, find, viewL_ds]
      · rw [wrap_succ (by omega)]
        simp [viewT, viewP, L165, V0, keptOf, St.ev, find, PVal.toD, subD, subV, disj, PVal.ids]
      · rw [← hb, bsLoop_lt hlt (by simpa using h)]
    · refine ⟨(i + j) / 2 - i, L165 xs tv g i ((i + j) / 2), by omega, Sub.same (by simp [L165]) ?_ ?_, i, (i + j) / 2, by omega, by omega, rfl, rfl, ?_⟩
      · simp [viewH, viewP, viewO, L165, V0, keptOf, find, viewL_ds]
      · simp [viewT, viewP, L165, V0, keptOf, St.ev, find, PVal.toD, subD, subV, disj, PVal.ids]
      · rw [← hb, bsLoop_ge hlt (by simpa using h)]
  · obtain rfl : i = j := by omega
    have hlt' : decide ((i : Int) < (i : Int)) = false := by simp
    have hbi : bsLoop c 0 xs.length = i := by rw [← hb, bsLoop_end (Nat.lt_irrefl _)]
    unfold L165
    rcases Nat.lt_or_ge i xs.length with hlt | hge2
    · obtain ⟨x, hxe⟩ : ∃ x, xs[i]? = some x := ⟨_, List.getElem?_eq_getElem (by omega)⟩
      have hg : (xs.map D.agg)[i]? = some (.agg x) := by simp [hxe]
      have hx1 : (x.map PVal.d).length = 3 := by simp [hx x (List.mem_of_getElem? hxe)]
      have hx3 : (x.map PVal.d).take 3 = x.map PVal.d := List.take_of_length_le (by omega)
      have ht1 : (tv.map PVal.d).length = 2 := by simp [ht]
      have ht3 : (tv.map PVal.d).take 2 = tv.map PVal.d := List.take_of_length_le (by omega)
      have hcc := hc _ x hxe
      have hin : decide ((i : Int) < (xs.length : Int)) = true := by simp; omega
      repeat' (first
        | ((first | refine Pwp.step (kit _) rfl fun K hK => ?_ | refine Pwp.last (kit _) rfl fun K hK => ?_ | refine Pwp.stepD (kit _) rfl rfl fun K hK => ?_ | refine Pwp.lastD (kit _) rfl rfl fun K hK => ?_); simp (dsimp := false) only [↓opsP_nil, ↓opsP_cons, ↓opsD_nil, ↓opsD_cons, ↓opP, ↓stepP, ↓stepG, go_sem, hg, hx1, hx3, ht1, ht3, toDL_ds, hin, hlt'])
        | (refine Pwp.seq ?_)
        | (refine Pwp.block ?_)
        | (refine Pwp.exit ?_; simp only [thenS, blockS, if_true, if_false, reduceIte, Nat.reduceEqDiff, Nat.add_one_ne_zero, reduceCtorEq])
        | (refine Pwp.skip ?_; simp only [thenS, blockS])
        | (refine Pwp.cond rfl True.intro (fun h => ?_) (fun h => ?_) <;> (try (cases h; done)) <;> (try simp only [h]))
        | (refine Pwp.ret ?_; try simp only [thenS, blockS])
        | (refine hK _ ?_; clear hK K)
        | (refine hK _ _ rfl ?_; clear hK K)
        | (refine CallG.toD (ds := [.agg x, .agg tv]) (by simp only [toDL, PVal.toD, toDL_ds, Option.map]) hcc rfl ?_ ?_)
        | (refine CallG.off ?_)
        | (with_reducible refine Or.inl ?_)
        | (simp only [thenS, blockS])
        | (with_reducible refine And.intro ?_ ?_)
        | (with_reducible exact True.intro)
        | (simp (dsimp := false) only [↓opsP_nil, ↓opsP_cons, ↓opsD_nil, ↓opsD_cons, ↓opP, ↓stepP, ↓stepG, go_sem, hg, hx1, hx3, ht1, ht3, toDL_ds, hin, hlt']))
      all_goals (try (first | (intro hg; simp_all; done) | (intro hg; simp [hg]; done) | exact of_decide_eq_true rfl | (cases h; done)))
      all_goals (try (first | exact fun _ => trivial | trivial))
      have e : (D.tup [D.v (Value.int IntKind.i64 ↑(bsLoop c 0 xs.length)), D.v (Value.bool (decide (bsLoop c 0 xs.length < xs.length) && c (bsLoop c 0 xs.length) == 0))]) = D.tup [.v (.int .i64 i), .v (.bool (c i == 0))] := by rw [hbi]; simp [hlt]
      rw [e]
      exact Fin.data (.inr rfl) rfl ⟨True.intro, True.intro, True.intro⟩ rfl (subD_refl _)
    · have hin : decide ((i : Int) < (xs.length : Int)) = false := by simp; omega
      have hg' : (xs.map D.agg)[i]? = none := by simp; omega
      have ht1 : (tv.map PVal.d).length = 2 := by simp [ht]
      have ht3 : (tv.map PVal.d).take 2 = tv.map PVal.d := List.take_of_length_le (by omega)
      repeat' (first
        | ((first | refine Pwp.step (kit _) rfl fun K hK => ?_ | refine Pwp.last (kit _) rfl fun K hK => ?_ | refine Pwp.stepD (kit _) rfl rfl fun K hK => ?_ | refine Pwp.lastD (kit _) rfl rfl fun K hK => ?_); simp (dsimp := false) only [↓opsP_nil, ↓opsP_cons, ↓opsD_nil, ↓opsD_cons, ↓opP, ↓stepP, ↓stepG, go_sem, hg', ht1, ht3, hin, hlt'])
        | (refine Pwp.seq ?_)
        | (refine Pwp.block ?_)
        | (refine Pwp.exit ?_; simp only [thenS, blockS, if_true, if_false, reduceIte, Nat.reduceEqDiff, Nat.add_one_ne_zero, reduceCtorEq])
        | (refine Pwp.skip ?_; simp only [thenS, blockS])
        | (refine Pwp.cond rfl True.intro (fun h => ?_) (fun h => ?_) <;> (try (cases h; done)) <;> (try simp only [h]))
        | (refine Pwp.ret ?_; try simp only [thenS, blockS])
        | (refine hK _ ?_; clear hK K)
        | (refine hK _ _ rfl ?_; clear hK K)
        | (refine CallG.off ?_)
        | (with_reducible refine Or.inl ?_)
        | (simp only [thenS, blockS])
        | (with_reducible refine And.intro ?_ ?_)
        | (with_reducible exact True.intro)
        | (simp (dsimp := false) only [↓opsP_nil, ↓opsP_cons, ↓opsD_nil, ↓opsD_cons, ↓opP, ↓stepP, ↓stepG, go_sem, hg', ht1, ht3, hin, hlt']))
      all_goals (try (first | (intro hg; simp_all; done) | (intro hg; simp [hg]; done) | exact of_decide_eq_true rfl | (cases h; done)))
      have e : (D.tup [D.v (Value.int IntKind.i64 ↑(bsLoop c 0 xs.length)), D.v (Value.bool (decide (bsLoop c 0 xs.length < xs.length) && c (bsLoop c 0 xs.length) == 0))]) = D.tup [.v (.int .i64 i), .v (.bool false)] := by rw [hbi]; simp [Nat.not_lt.2 hge2]
      rw [e]
      exact Fin.data (.inr rfl) rfl ⟨True.intro, True.intro, True.intro⟩ rfl (subD_refl _)


end Go.Proofs.Ytdodgbhodkcckaa.Pv
