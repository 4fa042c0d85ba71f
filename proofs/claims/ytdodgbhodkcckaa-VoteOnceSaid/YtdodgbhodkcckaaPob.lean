/- Walks of an entity's cycles: copies, searches, puts of parts. Printed by a program. -/
import Derived.Test.YtdodgbhodkcckaaPty
import Derived.Test.YtdodgbhodkcckaaPv3
import Derived.Test.YtdodgbhodkcckaaPzs
set_option linter.unusedVariables false
set_option linter.unusedSimpArgs false
set_option autoImplicit false
set_option maxRecDepth 100000
namespace Go.Proofs.Ytdodgbhodkcckaa.Pv
open Go Go.RowKit



theorem run230 (els : List D) (ho : ∀ d ∈ els, d.cells.all D.one = true) (hm : els.length * 48 ≤ 140737488355328) : Runs Try.prog 230 [.d (.slc 4 els)] [] (.own 8 0 4 0 els.length) [(8, .arr 144 4 0 none els)] := by
  refine Runs.slc (pre := []) (post := []) (fun hne => ?_) (fun he ad cap => ?_)
  · obtain ⟨x, xs, rfl⟩ := List.exists_cons_of_ne_nil hne
    refine Runs.of (kit Try.prog) Try.func230 rfl rfl (by rw [Try.ntmps230]; exact of_decide_eq_true rfl) ?_; rw [Try.ntmps230, Try.results230]
    repeat' (first
      | ((first | refine Pwp.step (kit _) rfl fun K hK => ?_ | refine Pwp.last (kit _) rfl fun K hK => ?_ | refine Pwp.stepD (kit _) rfl rfl fun K hK => ?_ | refine Pwp.lastD (kit _) rfl rfl fun K hK => ?_); simp (dsimp := false) only [↓opsP_nil, ↓opsP_cons, ↓opsD_nil, ↓opsD_cons, ↓opP, ↓stepP, ↓stepG, go_sem])
      | (refine Pwp.seq ?_)
      | (refine Pwp.block ?_)
      | (refine Pwp.exit ?_; simp only [thenS, blockS, if_true, if_false, reduceIte, Nat.reduceEqDiff, Nat.add_one_ne_zero, reduceCtorEq])
      | (refine Pwp.skip ?_; simp only [thenS, blockS])
      | (refine Pwp.cond rfl True.intro (fun h => ?_) (fun h => ?_) <;> (try (cases h; done)) <;> (try simp only [h]))
      | (refine Pwp.ret ?_; try simp only [thenS, blockS])
      | (refine hK _ ?_; clear hK K)
      | (refine hK _ _ rfl ?_; clear hK K)
      | (refine CallG.off ?_)
      | (with_reducible refine Or.inl ?_)
      | (simp only [thenS, blockS])
      | (with_reducible refine And.intro ?_ ?_)
      | (with_reducible exact True.intro)
      | (simp (dsimp := false) only [↓opsP_nil, ↓opsP_cons, ↓opsD_nil, ↓opsD_cons, ↓opP, ↓stepP, ↓stepG, go_sem]))
    all_goals (try (first | (intro hg; simp_all; done) | (intro hg; simp [hg]; done) | exact of_decide_eq_true rfl | (cases h; done)))
    all_goals (try (first | exact ho | (simp [maxLen] at hm ⊢; omega)))
    show Fin _ _ (.own 8 0 4 0 (x :: xs).length) [(8, .arr 144 4 0 none (x :: xs))] _ _
    refine Fin.row (els := x :: xs) (.inr rfl) rfl ?_ rfl rfl
    exact ⟨True.intro, True.intro⟩
  · subst he
    cases ad with
    | none =>
      refine Runs.of (kit Try.prog) Try.func230 rfl rfl (by rw [Try.ntmps230]; exact of_decide_eq_true rfl) ?_; rw [Try.ntmps230, Try.results230]
      repeat' (first
        | ((first | refine Pwp.step (kit _) rfl fun K hK => ?_ | refine Pwp.last (kit _) rfl fun K hK => ?_ | refine Pwp.stepD (kit _) rfl rfl fun K hK => ?_ | refine Pwp.lastD (kit _) rfl rfl fun K hK => ?_); simp (dsimp := false) only [↓opsP_nil, ↓opsP_cons, ↓opsD_nil, ↓opsD_cons, ↓opP, ↓stepP, ↓stepG, go_sem])
        | (refine Pwp.seq ?_)
        | (refine Pwp.block ?_)
        | (refine Pwp.exit ?_; simp only [thenS, blockS, if_true, if_false, reduceIte, Nat.reduceEqDiff, Nat.add_one_ne_zero, reduceCtorEq])
        | (refine Pwp.skip ?_; simp only [thenS, blockS])
        | (refine Pwp.cond rfl True.intro (fun h => ?_) (fun h => ?_) <;> (try (cases h; done)) <;> (try simp only [h]))
        | (refine Pwp.ret ?_; try simp only [thenS, blockS])
        | (refine hK _ ?_; clear hK K)
        | (refine hK _ _ rfl ?_; clear hK K)
        | (refine CallG.off ?_)
        | (with_reducible refine Or.inl ?_)
        | (simp only [thenS, blockS])
        | (with_reducible refine And.intro ?_ ?_)
        | (with_reducible exact True.intro)
        | (simp (dsimp := false) only [↓opsP_nil, ↓opsP_cons, ↓opsD_nil, ↓opsD_cons, ↓opP, ↓stepP, ↓stepG, go_sem]))
      all_goals (try (first | (intro hg; simp_all; done) | (intro hg; simp [hg]; done) | exact of_decide_eq_true rfl | (cases h; done)))
      refine Fin.nil (.inr rfl) rfl ?_
      exact ⟨True.intro, True.intro⟩
    | some ad =>
      refine Runs.of (kit Try.prog) Try.func230 rfl rfl (by rw [Try.ntmps230]; exact of_decide_eq_true rfl) ?_; rw [Try.ntmps230, Try.results230]
      repeat' (first
        | ((first | refine Pwp.step (kit _) rfl fun K hK => ?_ | refine Pwp.last (kit _) rfl fun K hK => ?_ | refine Pwp.stepD (kit _) rfl rfl fun K hK => ?_ | refine Pwp.lastD (kit _) rfl rfl fun K hK => ?_); simp (dsimp := false) only [↓opsP_nil, ↓opsP_cons, ↓opsD_nil, ↓opsD_cons, ↓opP, ↓stepP, ↓stepG, go_sem])
        | (refine Pwp.seq ?_)
        | (refine Pwp.block ?_)
        | (refine Pwp.exit ?_; simp only [thenS, blockS, if_true, if_false, reduceIte, Nat.reduceEqDiff, Nat.add_one_ne_zero, reduceCtorEq])
        | (refine Pwp.skip ?_; simp only [thenS, blockS])
        | (refine Pwp.cond rfl True.intro (fun h => ?_) (fun h => ?_) <;> (try (cases h; done)) <;> (try simp only [h]))
        | (refine Pwp.ret ?_; try simp only [thenS, blockS])
        | (refine hK _ ?_; clear hK K)
        | (refine hK _ _ rfl ?_; clear hK K)
        | (refine CallG.off ?_)
        | (with_reducible refine Or.inl ?_)
        | (simp only [thenS, blockS])
        | (with_reducible refine And.intro ?_ ?_)
        | (with_reducible exact True.intro)
        | (simp (dsimp := false) only [↓opsP_nil, ↓opsP_cons, ↓opsD_nil, ↓opsD_cons, ↓opP, ↓stepP, ↓stepG, go_sem]))
      all_goals (try (first | (intro hg; simp_all; done) | (intro hg; simp [hg]; done) | exact of_decide_eq_true rfl | (cases h; done)))
      all_goals (try (first | exact ho | (simp [maxLen]; done)))
      refine Fin.row (els := []) (.inr rfl) rfl ?_ rfl rfl
      exact ⟨True.intro, True.intro⟩


def L131 (xs : List (List D)) (n : Int) (g : Nat) (i j : Nat) : St := ⟨[(10, pint .i64 j), (9, pint .i64 i), (8, pint .i64 xs.length), (0, .d (.slc 4 (xs.map .agg))), (1, pint .i64 n), (2, .d (.v (.func (.func g) #[] #[])))], [], 40⟩

theorem run131 (xs : List (List D)) (n : Int) (g : Nat) (c : Nat → Int) (hx : ∀ x ∈ xs, x.length = 4) (hl : xs.length < 4611686018427387904) (hc : ∀ i x, xs[i]? = some x → Runs Try.prog g [.d (.agg x), pint .i64 n] [] (pint .i64 (c i)) []) :
    Runs Try.prog 131 [.d (.slc 4 (xs.map .agg)), pint .i64 n, .d (.v (.func (.func g) #[] #[]))] [] (.d (.tup [.v (.int .i64 (bsLoop c 0 xs.length)), .v (.bool (decide (bsLoop c 0 xs.length < xs.length) && (c (bsLoop c 0 xs.length) == 0)))])) [] := by
  refine Runs.of (kit Try.prog) Try.func131 rfl rfl (by rw [Try.ntmps131]; exact of_decide_eq_true rfl) ?_; rw [Try.ntmps131, Try.results131]
  repeat' (first
    | ((first | refine Pwp.step (kit _) rfl fun K hK => ?_ | refine Pwp.last (kit _) rfl fun K hK => ?_ | refine Pwp.stepD (kit _) rfl rfl fun K hK => ?_ | refine Pwp.lastD (kit _) rfl rfl fun K hK => ?_); simp (dsimp := false) only [↓opsP_nil, ↓opsP_cons, ↓opsD_nil, ↓opsD_cons, ↓opP, ↓stepP, ↓stepG, go_sem])
    | (refine Pwp.seq ?_)
    | (refine Pwp.block ?_)
    | (refine Pwp.exit ?_; simp only [thenS, blockS, if_true, if_false, reduceIte, Nat.reduceEqDiff, Nat.add_one_ne_zero, reduceCtorEq])
    | (refine Pwp.skip ?_; simp only [thenS, blockS])
    | (refine Pwp.cond rfl True.intro (fun h => ?_) (fun h => ?_) <;> (try (cases h; done)) <;> (try simp only [h]))
    | (refine Pwp.ret ?_; try simp only [thenS, blockS])
    | (refine hK _ ?_; clear hK K)
    | (refine hK _ _ rfl ?_; clear hK K)
    | (refine CallG.off ?_)
    | (with_reducible refine Or.inl ?_)
    | (simp only [thenS, blockS])
    | (with_reducible refine And.intro ?_ ?_)
    | (with_reducible exact True.intro)
    | (simp (dsimp := false) only [↓opsP_nil, ↓opsP_cons, ↓opsD_nil, ↓opsD_cons, ↓opP, ↓stepP, ↓stepG, go_sem]))
  all_goals (try (first | (intro hg; simp_all; done) | (intro hg; simp [hg]; done) | exact of_decide_eq_true rfl | (cases h; done)))
  refine Pwp.loop (fun k s => ∃ i j, i ≤ j ∧ j ≤ xs.length ∧ k = j - i ∧ s = L131 xs n g i j ∧ bsLoop c i j = bsLoop c 0 xs.length) xs.length (s := L131 xs n g 0 xs.length) (Sub.same (by simp [L131]) ?_ ?_) ⟨0, xs.length, by omega, by omega, by omega, rfl, rfl⟩ ?_
  · simp [viewH, viewP, viewO, L131, V0, keptOf, find, viewL_ds]
  · simp [viewT, viewP, L131, V0, keptOf, St.ev, find, PVal.toD, subD, subV, disj, PVal.ids]
  rintro k s ⟨i, j, hij, hj, rfl, rfl, hb⟩
  rcases Nat.lt_or_ge i j with hlt | hge
  · have hh := half (i := i) (j := j) (by omega)
    have hh2 : IntKind.i64.wrap (Int.fdiv (IntKind.u64.wrap (IntKind.i64.wrap ((i : Int) + j))) (2 ^ min 1 64)) = (((i + j) / 2 : Nat) : Int) := half (i := i) (j := j) (by omega)
    obtain ⟨x, hxe⟩ : ∃ x, xs[(i + j) / 2]? = some x := ⟨_, List.getElem?_eq_getElem (by omega)⟩
    have hg : (xs.map D.agg)[(i + j) / 2]? = some (.agg x) := by simp [hxe]
    have hx1 : (x.map PVal.d).length = 4 := by simp [hx x (List.mem_of_getElem? hxe)]
    have hx3 : (x.map PVal.d).take 4 = x.map PVal.d := List.take_of_length_le (by omega)
    have hcc := hc _ x hxe
    have hlt' : decide ((i : Int) < (j : Int)) = true := by simp; omega
    unfold L131
    repeat' (first
      | ((first | refine Pwp.step (kit _) rfl fun K hK => ?_ | refine Pwp.last (kit _) rfl fun K hK => ?_ | refine Pwp.stepD (kit _) rfl rfl fun K hK => ?_ | refine Pwp.lastD (kit _) rfl rfl fun K hK => ?_); simp (dsimp := false) only [↓opsP_nil, ↓opsP_cons, ↓opsD_nil, ↓opsD_cons, ↓opP, ↓stepP, ↓stepG, go_sem, hh, hh2, hlt', hg, hx1, hx3, toDL_ds])
      | (refine Pwp.seq ?_)
      | (refine Pwp.block ?_)
      | (refine Pwp.exit ?_; simp only [thenS, blockS, if_true, if_false, reduceIte, Nat.reduceEqDiff, Nat.add_one_ne_zero, reduceCtorEq])
      | (refine Pwp.skip ?_; simp only [thenS, blockS])
      | (refine Pwp.cond rfl True.intro (fun h => ?_) (fun h => ?_) <;> (try (cases h; done)) <;> (try simp only [h]))
      | (refine Pwp.ret ?_; try simp only [thenS, blockS])
      | (refine hK _ ?_; clear hK K)
      | (refine hK _ _ rfl ?_; clear hK K)
      | (refine CallK.toD (ds := [.agg x, .v (.int .i64 n)]) (by simp only [toDL, PVal.toD, toDL_ds, Option.map]) hcc rfl ?_)
      | (refine CallG.off ?_)
      | (with_reducible refine Or.inl ?_)
      | (simp only [thenS, blockS])
      | (with_reducible refine And.intro ?_ ?_)
      | (with_reducible exact True.intro)
      | (simp (dsimp := false) only [↓opsP_nil, ↓opsP_cons, ↓opsD_nil, ↓opsD_cons, ↓opP, ↓stepP, ↓stepG, go_sem, hh, hh2, hlt', hg, hx1, hx3, toDL_ds]))
    all_goals (try (first | (intro hg; simp_all; done) | (intro hg; simp [hg]; done) | exact of_decide_eq_true rfl | (cases h; done)))
    · refine ⟨j - ((i + j) / 2 + 1), L131 xs n g ((i + j) / 2 + 1) j, by omega, Sub.same (by simp [L131]) ?_ ?_, (i + j) / 2 + 1, j, by omega, hj, rfl, rfl, ?_⟩
      · simp [viewH, viewP, viewO, L131, V0, keptOf, find, viewL_ds]
      · rw [wrap_succ (by omega)]
        simp [viewT, viewP, L131, V0, keptOf, St.ev, find, PVal.toD, subD, subV, disj, PVal.ids]
      · rw [← hb, bsLoop_lt hlt (by simpa using h)]
    · refine ⟨(i + j) / 2 - i, L131 xs n g i ((i + j) / 2), by omega, Sub.same (by simp [L131]) ?_ ?_, i, (i + j) / 2, by omega, by omega, rfl, rfl, ?_⟩
      · simp [viewH, viewP, viewO, L131, V0, keptOf, find, viewL_ds]
      · simp [viewT, viewP, L131, V0, keptOf, St.ev, find, PVal.toD, subD, subV, disj, PVal.ids]
      · rw [← hb, bsLoop_ge hlt (by simpa using h)]
  · obtain rfl : i = j := by omega
    have hlt' : decide ((i : Int) < (i : Int)) = false := by simp
    have hbi : bsLoop c 0 xs.length = i := by rw [← hb, bsLoop_end (Nat.lt_irrefl _)]
    unfold L131
    rcases Nat.lt_or_ge i xs.length with hlt | hge2
    · obtain ⟨x, hxe⟩ : ∃ x, xs[i]? = some x := ⟨_, List.getElem?_eq_getElem (by omega)⟩
      have hg : (xs.map D.agg)[i]? = some (.agg x) := by simp [hxe]
      have hx1 : (x.map PVal.d).length = 4 := by simp [hx x (List.mem_of_getElem? hxe)]
      have hx3 : (x.map PVal.d).take 4 = x.map PVal.d := List.take_of_length_le (by omega)
      have hcc := hc _ x hxe
      have hin : decide ((i : Int) < (xs.length : Int)) = true := by simp; omega
      repeat' (first
        | ((first | refine Pwp.step (kit _) rfl fun K hK => ?_ | refine Pwp.last (kit _) rfl fun K hK => ?_ | refine Pwp.stepD (kit _) rfl rfl fun K hK => ?_ | refine Pwp.lastD (kit _) rfl rfl fun K hK => ?_); simp (dsimp := false) only [↓opsP_nil, ↓opsP_cons, ↓opsD_nil, ↓opsD_cons, ↓opP, ↓stepP, ↓stepG, go_sem, hg, hx1, hx3, toDL_ds, hin, hlt'])
        | (refine Pwp.seq ?_)
        | (refine Pwp.block ?_)
        | (refine Pwp.exit ?_; simp only [thenS, blockS, if_true, if_false, reduceIte, Nat.reduceEqDiff, Nat.add_one_ne_zero, reduceCtorEq])
        | (refine Pwp.skip ?_; simp only [thenS, blockS])
        | (refine Pwp.cond rfl True.intro (fun h => ?_) (fun h => ?_) <;> (try (cases h; done)) <;> (try simp only [h]))
        | (refine Pwp.ret ?_; try simp only [thenS, blockS])
        | (refine hK _ ?_; clear hK K)
        | (refine hK _ _ rfl ?_; clear hK K)
        | (refine CallG.toD (ds := [.agg x, .v (.int .i64 n)]) (by simp only [toDL, PVal.toD, toDL_ds, Option.map]) hcc rfl ?_ ?_)
        | (refine CallG.off ?_)
        | (with_reducible refine Or.inl ?_)
        | (simp only [thenS, blockS])
        | (with_reducible refine And.intro ?_ ?_)
        | (with_reducible exact True.intro)
        | (simp (dsimp := false) only [↓opsP_nil, ↓opsP_cons, ↓opsD_nil, ↓opsD_cons, ↓opP, ↓stepP, ↓stepG, go_sem, hg, hx1, hx3, toDL_ds, hin, hlt']))
      all_goals (try (first | (intro hg; simp_all; done) | (intro hg; simp [hg]; done) | exact of_decide_eq_true rfl | (cases h; done)))
      all_goals (try (first | exact fun _ => trivial | trivial))
      have e : (D.tup [D.v (Value.int IntKind.i64 ↑(bsLoop c 0 xs.length)), D.v (Value.bool (decide (bsLoop c 0 xs.length < xs.length) && c (bsLoop c 0 xs.length) == 0))]) = D.tup [.v (.int .i64 i), .v (.bool (c i == 0))] := by rw [hbi]; simp [hlt]
      rw [e]
      exact Fin.data (.inr rfl) rfl ⟨True.intro, True.intro, True.intro⟩ rfl (subD_refl _)
    · have hin : decide ((i : Int) < (xs.length : Int)) = false := by simp; omega
      have hg' : (xs.map D.agg)[i]? = none := by simp; omega
      repeat' (first
        | ((first | refine Pwp.step (kit _) rfl fun K hK => ?_ | refine Pwp.last (kit _) rfl fun K hK => ?_ | refine Pwp.stepD (kit _) rfl rfl fun K hK => ?_ | refine Pwp.lastD (kit _) rfl rfl fun K hK => ?_); simp (dsimp := false) only [↓opsP_nil, ↓opsP_cons, ↓opsD_nil, ↓opsD_cons, ↓opP, ↓stepP, ↓stepG, go_sem, hg', hin, hlt'])
        | (refine Pwp.seq ?_)
        | (refine Pwp.block ?_)
        | (refine Pwp.exit ?_; simp only [thenS, blockS, if_true, if_false, reduceIte, Nat.reduceEqDiff, Nat.add_one_ne_zero, reduceCtorEq])
        | (refine Pwp.skip ?_; simp only [thenS, blockS])
        | (refine Pwp.cond rfl True.intro (fun h => ?_) (fun h => ?_) <;> (try (cases h; done)) <;> (try simp only [h]))
        | (refine Pwp.ret ?_; try simp only [thenS, blockS])
        | (refine hK _ ?_; clear hK K)
        | (refine hK _ _ rfl ?_; clear hK K)
        | (refine CallG.off ?_)
        | (with_reducible refine Or.inl ?_)
        | (simp only [thenS, blockS])
        | (with_reducible refine And.intro ?_ ?_)
        | (with_reducible exact True.intro)
        | (simp (dsimp := false) only [↓opsP_nil, ↓opsP_cons, ↓opsD_nil, ↓opsD_cons, ↓opP, ↓stepP, ↓stepG, go_sem, hg', hin, hlt']))
      all_goals (try (first | (intro hg; simp_all; done) | (intro hg; simp [hg]; done) | exact of_decide_eq_true rfl | (cases h; done)))
      have e : (D.tup [D.v (Value.int IntKind.i64 ↑(bsLoop c 0 xs.length)), D.v (Value.bool (decide (bsLoop c 0 xs.length < xs.length) && c (bsLoop c 0 xs.length) == 0))]) = D.tup [.v (.int .i64 i), .v (.bool false)] := by rw [hbi]; simp [Nat.not_lt.2 hge2]
      rw [e]
      exact Fin.data (.inr rfl) rfl ⟨True.intro, True.intro, True.intro⟩ rfl (subD_refl _)




theorem over251 : IsOver Try.prog 251 126 := ⟨Try.f251, 4, Try.func251, by kernel_rfl, by kernel_rfl, by kernel_rfl, by kernel_rfl⟩

theorem k126 : kindOf (tiOf Try.prog) 126 = some (.slice 144) := by rw [kindOf, T126]; rfl

set_option maxHeartbeats 8000000 in
theorem run231 (els : List D) (x : D) (i : Nat) (hi : i ≤ els.length) (ho : ∀ d ∈ els, d.cells.all D.one = true) (hx : x.cells.all D.one = true) (hm : (els.length + 1) * 48 ≤ 140737488355328) :
    Runs Try.prog 231 [.own 0 0 4 0 els.length, pint .i64 i, .own 1 0 4 0 1] [(0, .arr 144 4 0 none els), (1, .arr 144 4 0 (some 1) [x])] (.own 8 0 4 0 (els.take i ++ x :: els.drop i).length) [(8, .arr 144 4 0 none (els.take i ++ x :: els.drop i))] := by
  have hl63 : els.length + 1 ≤ maxLen := by simp [maxLen]; omega
  refine Runs.of (kit Try.prog) Try.func231 rfl rfl (by rw [Try.ntmps231]; exact of_decide_eq_true rfl) ?_; rw [Try.ntmps231, Try.results231]
  have w1 : IntKind.i64.wrap ((els.length : Int) + 1) = ((els.length + 1 : Nat) : Int) := wrap_succ (by simp [maxLen] at hl63; omega)
  have w2 : IntKind.i64.wrap (((els.length + 1 : Nat) : Int) - (i : Int)) = ((els.length + 1 - i : Nat) : Int) := by rw [wrap_of (by simp [maxLen] at hl63; omega) (by simp [maxLen] at hl63; omega)]; omega
  have w3 : IntKind.i64.wrap ((i : Int) + 1) = ((i + 1 : Nat) : Int) := wrap_succ (by simp [maxLen] at hl63; omega)
  have w4 : i + (els.length + 1 - i) = els.length + 1 := by omega
  rcases Nat.lt_or_ge i els.length with hlt | hge
  · have w5 : min 1 (els.length + 1 - i) = 1 := by omega
    have w6 : min (els.length - i) (els.length + 1 - (i + 1)) = els.length - i := by omega
    have w7 : min (els.length + 1 - i) (els.length + 1 - (i + 1)) = els.length - i := by omega
    have w8 : (els.drop i).take (els.length - i) = els.drop i := take_drop_all _ _ _ (Nat.le_refl _)
    have w9 : (els.drop i).take (els.length + 1 - i) = els.drop i := take_drop_all _ _ _ (by omega)
    have hin : ((i : Int) == (els.length : Int)) = false := by simp; omega
    refine Pwp.room (id := 0) rfl fun r hr hr2 => ?_
    simp only [St.start, upd, if_true, List.length, List.range, List.range.loop, List.zip, List.zipWith, reduceIte]
    rcases Nat.lt_or_ge r (els.length + 1) with hroom | hroom
    · have hcap : decide ((r : Int) < ((els.length + 1 : Nat) : Int)) = true := by simp; omega
      repeat' (first
        | ((first | refine Pwp.step (kit _) rfl fun K hK => ?_ | refine Pwp.last (kit _) rfl fun K hK => ?_ | refine Pwp.stepD (kit _) rfl rfl fun K hK => ?_ | refine Pwp.lastD (kit _) rfl rfl fun K hK => ?_); simp (dsimp := false) only [↓opsP_nil, ↓opsP_cons, ↓opsD_nil, ↓opsD_cons, ↓opP, ↓stepP, ↓stepG, go_sem, w1, w2, w3, w4, w5, w6, w7, w8, w9, hin, hcap])
        | (refine Pwp.seq ?_)
        | (refine Pwp.block ?_)
        | (refine Pwp.exit ?_; simp only [thenS, blockS, if_true, if_false, reduceIte, Nat.reduceEqDiff, Nat.add_one_ne_zero, reduceCtorEq])
        | (refine Pwp.skip ?_; simp only [thenS, blockS])
        | (refine Pwp.cond rfl True.intro (fun h => ?_) (fun h => ?_) <;> (try (cases h; done)) <;> (try simp only [h]))
        | (refine Pwp.ret ?_; try simp only [thenS, blockS])
        | (refine hK _ ?_; clear hK K)
        | (refine hK _ _ rfl ?_; clear hK K)
        | (refine CallG.off ?_)
        | (with_reducible refine Or.inl ?_)
        | (simp only [thenS, blockS])
        | (with_reducible refine And.intro ?_ ?_)
        | (with_reducible exact True.intro)
        | (simp (dsimp := false) only [↓opsP_nil, ↓opsP_cons, ↓opsD_nil, ↓opsD_cons, ↓opP, ↓stepP, ↓stepG, go_sem, w1, w2, w3, w4, w5, w6, w7, w8, w9, hin, hcap]))
      all_goals (try (first | (intro hg; simp_all; done) | (intro hg; simp [hg]; done) | exact of_decide_eq_true rfl | (cases h; done)))
      all_goals (try (first | omega | (simp [maxLen] at hl63 ⊢; omega) | (simp; omega) | (simp; done) | exact fun d hd => ho d (List.mem_of_mem_drop hd)))
      rw [← put_grown (x := x) (z := D.agg [D.v (Value.int IntKind.i64 0), D.v (Value.int IntKind.i64 0), D.v (Value.int IntKind.i64 0), D.v (Value.slice none 0 0)]) hlt]
      refine Fin.row (.inr rfl) rfl ⟨True.intro, True.intro⟩ rfl ?_
      rw [put_grown hlt]; simp; omega
    · have hcap : decide ((r : Int) < ((els.length + 1 : Nat) : Int)) = false := by simp; omega
      repeat' (first
        | ((first | refine Pwp.step (kit _) rfl fun K hK => ?_ | refine Pwp.last (kit _) rfl fun K hK => ?_ | refine Pwp.stepD (kit _) rfl rfl fun K hK => ?_ | refine Pwp.lastD (kit _) rfl rfl fun K hK => ?_); simp (dsimp := false) only [↓opsP_nil, ↓opsP_cons, ↓opsD_nil, ↓opsD_cons, ↓opP, ↓stepP, ↓stepG, go_sem, w1, w2, w3, w4, w5, w6, w7, w8, w9, hin, hcap])
        | (refine Pwp.seq ?_)
        | (refine Pwp.block ?_)
        | (refine Pwp.exit ?_; simp only [thenS, blockS, if_true, if_false, reduceIte, Nat.reduceEqDiff, Nat.add_one_ne_zero, reduceCtorEq])
        | (refine Pwp.skip ?_; simp only [thenS, blockS])
        | (refine Pwp.cond rfl True.intro (fun h => ?_) (fun h => ?_) <;> (try (cases h; done)) <;> (try simp only [h]))
        | (refine Pwp.ret ?_; try simp only [thenS, blockS])
        | (refine hK _ ?_; clear hK K)
        | (refine hK _ _ rfl ?_; clear hK K)
        | (refine Or.inr (OverK.two over251 k126 T144 rfl (of_decide_eq_true rfl) (of_decide_eq_true rfl) rfl rfl ?_ ?_))
        | (refine CallG.off ?_)
        | (with_reducible refine Or.inl ?_)
        | (simp only [thenS, blockS])
        | (with_reducible refine And.intro ?_ ?_)
        | (with_reducible exact True.intro)
        | (simp (dsimp := false) only [↓opsP_nil, ↓opsP_cons, ↓opsD_nil, ↓opsD_cons, ↓opP, ↓stepP, ↓stepG, go_sem, w1, w2, w3, w4, w5, w6, w7, w8, w9, hin, hcap]))
      all_goals (try (first | (intro hg; simp_all; done) | (intro hg; simp [hg]; done) | exact of_decide_eq_true rfl | (cases h; done)))
      all_goals (try (first | omega | (simp [maxLen] at hl63 ⊢; omega) | (simp; omega) | (simp; done) | exact fun d hd => ho d (List.mem_of_mem_drop hd)))
      rw [← put_moved (x := x) hlt]
      refine Fin.row (.inr rfl) rfl ⟨True.intro, True.intro⟩ rfl ?_
      rw [put_moved hlt]; simp; omega
  · obtain rfl : i = els.length := by omega
    repeat' (first
      | ((first | refine Pwp.step (kit _) rfl fun K hK => ?_ | refine Pwp.last (kit _) rfl fun K hK => ?_ | refine Pwp.stepD (kit _) rfl rfl fun K hK => ?_ | refine Pwp.lastD (kit _) rfl rfl fun K hK => ?_); simp (dsimp := false) only [↓opsP_nil, ↓opsP_cons, ↓opsD_nil, ↓opsD_cons, ↓opP, ↓stepP, ↓stepG, go_sem, beq_self_eq_true, w1])
      | (refine Pwp.seq ?_)
      | (refine Pwp.block ?_)
      | (refine Pwp.exit ?_; simp only [thenS, blockS, if_true, if_false, reduceIte, Nat.reduceEqDiff, Nat.add_one_ne_zero, reduceCtorEq])
      | (refine Pwp.skip ?_; simp only [thenS, blockS])
      | (refine Pwp.cond rfl True.intro (fun h => ?_) (fun h => ?_) <;> (try (cases h; done)) <;> (try simp only [h]))
      | (refine Pwp.ret ?_; try simp only [thenS, blockS])
      | (refine hK _ ?_; clear hK K)
      | (refine hK _ _ rfl ?_; clear hK K)
      | (refine CallG.off ?_)
      | (with_reducible refine Or.inl ?_)
      | (simp only [thenS, blockS])
      | (with_reducible refine And.intro ?_ ?_)
      | (with_reducible exact True.intro)
      | (simp (dsimp := false) only [↓opsP_nil, ↓opsP_cons, ↓opsD_nil, ↓opsD_cons, ↓opP, ↓stepP, ↓stepG, go_sem, beq_self_eq_true, w1]))
    all_goals (try (first | (intro hg; simp_all; done) | (intro hg; simp [hg]; done) | exact of_decide_eq_true rfl | (cases h; done)))
    all_goals (try (first | omega | (simp [maxLen] at hl63 ⊢; omega) | (simp; omega) | (simp; done) | exact fun d hd => ho d (List.mem_of_mem_drop hd)))
    have e : els.take els.length ++ x :: els.drop els.length = els.take els.length ++ [x] := by simp
    rw [e]
    exact Fin.row (.inr rfl) rfl ⟨True.intro, True.intro⟩ rfl (by simp)



end Go.Proofs.Ytdodgbhodkcckaa.Pv
