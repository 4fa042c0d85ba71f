/- Walks of what is put into slices. -/
import Derived.Test.YtdodgbhodkcckaaPty
import Derived.Test.YtdodgbhodkcckaaPv3
import Derived.Test.YtdodgbhodkcckaaPzs
set_option linter.unusedVariables false
set_option linter.unusedSimpArgs false
set_option autoImplicit false
set_option maxRecDepth 100000
namespace Go.Proofs.Ytdodgbhodkcckaa.Pv
open Go Go.RowKit


theorem over158 : IsOver Try.prog 158 25 := ⟨Try.f158, 4, Try.func158, by kernel_rfl, by kernel_rfl, by kernel_rfl, by kernel_rfl⟩

theorem k25 : kindOf (tiOf Try.prog) 25 = some (.slice 42) := by rw [kindOf, T25]; rfl

set_option maxHeartbeats 8000000 in
theorem run101 (els : List D) (x : D) (i : Nat) (hi : i ≤ els.length) (ho : ∀ d ∈ els, d.cells.all D.one = true) (hx : x.cells.all D.one = true) (hm : (els.length + 1) * 24 ≤ 140737488355328) :
    Runs Try.prog 101 [.own 0 0 3 0 els.length, pint .i64 i, .own 1 0 3 0 1] [(0, .arr 42 3 0 none els), (1, .arr 42 3 0 (some 1) [x])] (.own 8 0 3 0 (els.take i ++ x :: els.drop i).length) [(8, .arr 42 3 0 none (els.take i ++ x :: els.drop i))] := by
  have hl63 : els.length + 1 ≤ maxLen := by simp [maxLen]; omega
  refine Runs.of (kit Try.prog) Try.func101 rfl rfl (by rw [Try.ntmps101]; exact of_decide_eq_true rfl) ?_; rw [Try.ntmps101, Try.results101]
  have w1 : IntKind.i64.wrap ((els.length : Int) + 1) = ((els.length + 1 : Nat) : Int) := wrap_succ (by simp [maxLen] at hl63; omega)
  have w2 : IntKind.i64.wrap (((els.length + 1 : Nat) : Int) - (i : Int)) = ((els.length + 1 - i : Nat) : Int) := by rw [wrap_of (by simp [maxLen] at hl63; omega) (by simp [maxLen] at hl63; omega)]; omega
  have w3 : IntKind.i64.wrap ((i : Int) + 1) = ((i + 1 : Nat) : Int) := wrap_succ (by simp [maxLen] at hl63; omega)
  have w4 : i + (els.length + 1 - i) = els.length + 1 := by omega
  rcases Nat.lt_or_ge i els.length with hlt | hge
  · have w5 : min 1 (els.length + 1 - i) = 1 := by omega
    have w6 : min (els.length - i) (els.length + 1 - (i + 1)) = els.length - i := by omega
    have w7 : min (els.length + 1 - i) (els.length + 1 - (i + 1)) = els.length - i := by omega
    have w8 : (els.drop i).take (els.length - i) = els.drop i := take_drop_all _ _ _ (Nat.le_refl _)
    have w9 : (els.drop i).take (els.length + 1 - i) = els.drop i := take_drop_all _ _ _ (by omega)
    have hin : ((i : Int) == (els.length : Int)) = false := by simp; omega
    refine Pwp.room (id := 0) rfl fun r hr hr2 => ?_
    simp only [St.start, upd, if_true, List.length, List.range, List.range.loop, List.zip, List.zipWith, reduceIte]
    rcases Nat.lt_or_ge r (els.length + 1) with hroom | hroom
    · have hcap : decide ((r : Int) < ((els.length + 1 : Nat) : Int)) = true := by simp; omega
      repeat' (first
        | ((first | refine Pwp.step (kit _) rfl fun K hK => ?_ | refine Pwp.last (kit _) rfl fun K hK => ?_ | refine Pwp.stepD (kit _) rfl rfl fun K hK => ?_ | refine Pwp.lastD (kit _) rfl rfl fun K hK => ?_); simp (dsimp := false) only [↓opsP_nil, ↓opsP_cons, ↓opsD_nil, ↓opsD_cons, ↓opP, ↓stepP, ↓stepG, go_sem, w1, w2, w3, w4, w5, w6, w7, w8, w9, hin, hcap])
        | (refine Pwp.seq ?_)
        | (refine Pwp.block ?_)
        | (refine Pwp.exit ?_; simp only [thenS, blockS, if_true, if_false, reduceIte, Nat.reduceEqDiff, Nat.add_one_ne_zero, reduceCtorEq])
        | (refine Pwp.skip ?_; simp only [thenS, blockS])
        | (refine Pwp.cond rfl True.intro (fun h => ?_) (fun h => ?_) <;> (try (cases h; done)) <;> (try simp only [h]))
        | (refine Pwp.ret ?_; try simp only [thenS, blockS])
        | (refine hK _ ?_; clear hK K)
        | (refine hK _ _ rfl ?_; clear hK K)
        | (refine CallG.off ?_)
        | (with_reducible refine Or.inl ?_)
        | (simp only [thenS, blockS])
        | (with_reducible refine And.intro ?_ ?_)
        | (with_reducible exact True.intro)
        | (simp (dsimp := false) only [↓opsP_nil, ↓opsP_cons, ↓opsD_nil, ↓opsD_cons, ↓opP, ↓stepP, ↓stepG, go_sem, w1, w2, w3, w4, w5, w6, w7, w8, w9, hin, hcap]))
      all_goals (try (first | (intro hg; simp_all; done) | (intro hg; simp [hg]; done) | exact of_decide_eq_true rfl | (cases h; done)))
      all_goals (try (first | omega | (simp [maxLen] at hl63 ⊢; omega) | (simp; omega) | (simp; done) | exact fun d hd => ho d (List.mem_of_mem_drop hd)))
      rw [← put_grown (x := x) (z := D.agg [D.v (Value.int IntKind.i64 0), D.v (Value.int IntKind.i64 0), D.v (Value.int IntKind.i64 0)]) hlt]
      refine Fin.row (.inr rfl) rfl ⟨True.intro, True.intro⟩ rfl ?_
      rw [put_grown hlt]; simp; omega
    · have hcap : decide ((r : Int) < ((els.length + 1 : Nat) : Int)) = false := by simp; omega
      repeat' (first
        | ((first | refine Pwp.step (kit _) rfl fun K hK => ?_ | refine Pwp.last (kit _) rfl fun K hK => ?_ | refine Pwp.stepD (kit _) rfl rfl fun K hK => ?_ | refine Pwp.lastD (kit _) rfl rfl fun K hK => ?_); simp (dsimp := false) only [↓opsP_nil, ↓opsP_cons, ↓opsD_nil, ↓opsD_cons, ↓opP, ↓stepP, ↓stepG, go_sem, w1, w2, w3, w4, w5, w6, w7, w8, w9, hin, hcap])
        | (refine Pwp.seq ?_)
        | (refine Pwp.block ?_)
        | (refine Pwp.exit ?_; simp only [thenS, blockS, if_true, if_false, reduceIte, Nat.reduceEqDiff, Nat.add_one_ne_zero, reduceCtorEq])
        | (refine Pwp.skip ?_; simp only [thenS, blockS])
        | (refine Pwp.cond rfl True.intro (fun h => ?_) (fun h => ?_) <;> (try (cases h; done)) <;> (try simp only [h]))
        | (refine Pwp.ret ?_; try simp only [thenS, blockS])
        | (refine hK _ ?_; clear hK K)
        | (refine hK _ _ rfl ?_; clear hK K)
        | (refine Or.inr (OverK.two over158 k25 T42 rfl (of_decide_eq_true rfl) (of_decide_eq_true rfl) rfl rfl ?_ ?_))
        | (refine CallG.off ?_)
        | (with_reducible refine Or.inl ?_)
        | (simp only [thenS, blockS])
        | (with_reducible refine And.intro ?_ ?_)
        | (with_reducible exact True.intro)
        | (simp (dsimp := false) only [↓opsP_nil, ↓opsP_cons, ↓opsD_nil, ↓opsD_cons, ↓opP, ↓stepP, ↓stepG, go_sem, w1, w2, w3, w4, w5, w6, w7, w8, w9, hin, hcap]))
      all_goals (try (first | (intro hg; simp_all; done) | (intro hg; simp [hg]; done) | exact of_decide_eq_true rfl | (cases h; done)))
      all_goals (try (first | omega | (simp [maxLen] at hl63 ⊢; omega) | (simp; omega) | (simp; done) | exact fun d hd => ho d (List.mem_of_mem_drop hd)))
      rw [← put_moved (x := x) hlt]
      refine Fin.row (.inr rfl) rfl ⟨True.intro, True.intro⟩ rfl ?_
      rw [put_moved hlt]; simp; omega
  · obtain rfl : i = els.length := by omega
    repeat' (first
      | ((first | refine Pwp.step (kit _) rfl fun K hK => ?_ | refine Pwp.last (kit _) rfl fun K hK => ?_ | refine Pwp.stepD (kit _) rfl rfl fun K hK => ?_ | refine Pwp.lastD (kit _) rfl rfl fun K hK => ?_); simp (dsimp := false) only [↓opsP_nil, ↓opsP_cons, ↓opsD_nil, ↓opsD_cons, ↓opP, ↓stepP, ↓stepG, go_sem, beq_self_eq_true, w1])
      | (refine Pwp.seq ?_)
      | (refine Pwp.block ?_)
      | (refine Pwp.exit ?_; simp only [thenS, blockS, if_true, if_false, reduceIte, Nat.reduceEqDiff, Nat.add_one_ne_zero, reduceCtorEq])
      | (refine Pwp.skip ?_; simp only [thenS, blockS])
      | (refine Pwp.cond rfl True.intro (fun h => ?_) (fun h => ?_) <;> (try (cases h; done)) <;> (try simp only [h]))
      | (refine Pwp.ret ?_; try simp only [thenS, blockS])
      | (refine hK _ ?_; clear hK K)
      | (refine hK _ _ rfl ?_; clear hK K)
      | (refine CallG.off ?_)
      | (with_reducible refine Or.inl ?_)
      | (simp only [thenS, blockS])
      | (with_reducible refine And.intro ?_ ?_)
      | (with_reducible exact True.intro)
      | (simp (dsimp := false) only [↓opsP_nil, ↓opsP_cons, ↓opsD_nil, ↓opsD_cons, ↓opP, ↓stepP, ↓stepG, go_sem, beq_self_eq_true, w1]))
    all_goals (try (first | (intro hg; simp_all; done) | (intro hg; simp [hg]; done) | exact of_decide_eq_true rfl | (cases h; done)))
    all_goals (try (first | omega | (simp [maxLen] at hl63 ⊢; omega) | (simp; omega) | (simp; done) | exact fun d hd => ho d (List.mem_of_mem_drop hd)))
    have e : els.take els.length ++ x :: els.drop els.length = els.take els.length ++ [x] := by simp
    rw [e]
    exact Fin.row (.inr rfl) rfl ⟨True.intro, True.intro⟩ rfl (by simp)


theorem over170 : IsOver Try.prog 170 58 := ⟨Try.f170, 4, Try.func170, by kernel_rfl, by kernel_rfl, by kernel_rfl, by kernel_rfl⟩

theorem k58 : kindOf (tiOf Try.prog) 58 = some (.slice 70) := by rw [kindOf, T58]; rfl

set_option maxHeartbeats 8000000 in
theorem run116 (els : List D) (x : D) (i : Nat) (hi : i ≤ els.length) (ho : ∀ d ∈ els, d.cells.all D.one = true) (hx : x.cells.all D.one = true) (hm : (els.length + 1) * 64 ≤ 140737488355328) :
    Runs Try.prog 116 [.own 0 0 8 0 els.length, pint .i64 i, .own 1 0 8 0 1] [(0, .arr 70 8 0 none els), (1, .arr 70 8 0 (some 1) [x])] (.own 8 0 8 0 (els.take i ++ x :: els.drop i).length) [(8, .arr 70 8 0 none (els.take i ++ x :: els.drop i))] := by
  have hl63 : els.length + 1 ≤ maxLen := by simp [maxLen]; omega
  refine Runs.of (kit Try.prog) Try.func116 rfl rfl (by rw [Try.ntmps116]; exact of_decide_eq_true rfl) ?_; rw [Try.ntmps116, Try.results116]
  have w1 : IntKind.i64.wrap ((els.length : Int) + 1) = ((els.length + 1 : Nat) : Int) := wrap_succ (by simp [maxLen] at hl63; omega)
  have w2 : IntKind.i64.wrap (((els.length + 1 : Nat) : Int) - (i : Int)) = ((els.length + 1 - i : Nat) : Int) := by rw [wrap_of (by simp [maxLen] at hl63; omega) (by simp [maxLen] at hl63; omega)]; omega
  have w3 : IntKind.i64.wrap ((i : Int) + 1) = ((i + 1 : Nat) : Int) := wrap_succ (by simp [maxLen] at hl63; omega)
  have w4 : i + (els.length + 1 - i) = els.length + 1 := by omega
  rcases Nat.lt_or_ge i els.length with hlt | hge
  · have w5 : min 1 (els.length + 1 - i) = 1 := by omega
    have w6 : min (els.length - i) (els.length + 1 - (i + 1)) = els.length - i := by omega
    have w7 : min (els.length + 1 - i) (els.length + 1 - (i + 1)) = els.length - i := by omega
    have w8 : (els.drop i).take (els.length - i) = els.drop i := take_drop_all _ _ _ (Nat.le_refl _)
    have w9 : (els.drop i).take (els.length + 1 - i) = els.drop i := take_drop_all _ _ _ (by omega)
    have hin : ((i : Int) == (els.length : Int)) = false := by simp; omega
    refine Pwp.room (id := 0) rfl fun r hr hr2 => ?_
    simp only [St.start, upd, if_true, List.length, List.range, List.range.loop, List.zip, List.zipWith, reduceIte]
    rcases Nat.lt_or_ge r (els.length + 1) with hroom | hroom
    · have hcap : decide ((r : Int) < ((els.length + 1 : Nat) : Int)) = true := by simp; omega
      repeat' (first
        | ((first | refine Pwp.step (kit _) rfl fun K hK => ?_ | refine Pwp.last (kit _) rfl fun K hK => ?_ | refine Pwp.stepD (kit _) rfl rfl fun K hK => ?_ | refine Pwp.lastD (kit _) rfl rfl fun K hK => ?_); simp (dsimp := false) only [↓opsP_nil, ↓opsP_cons, ↓opsD_nil, ↓opsD_cons, ↓opP, ↓stepP, ↓stepG, go_sem, w1, w2, w3, w4, w5, w6, w7, w8, w9, hin, hcap])
        | (refine Pwp.seq ?_)
        | (refine Pwp.block ?_)
        | (refine Pwp.exit ?_; simp only [thenS, blockS, if_true, if_false, reduceIte, Nat.reduceEqDiff, Nat.add_one_ne_zero, reduceCtorEq])
        | (refine Pwp.skip ?_; simp only [thenS, blockS])
        | (refine Pwp.cond rfl True.intro (fun h => ?_) (fun h => ?_) <;> (try (cases h; done)) <;> (try simp only [h]))
        | (refine Pwp.ret ?_; try simp only [thenS, blockS])
        | (refine hK _ ?_; clear hK K)
        | (refine hK _ _ rfl ?_; clear hK K)
        | (refine CallG.off ?_)
        | (with_reducible refine Or.inl ?_)
        | (simp only [thenS, blockS])
        | (with_reducible refine And.intro ?_ ?_)
        | (with_reducible exact True.intro)
        | (simp (dsimp := false) only [↓opsP_nil, ↓opsP_cons, ↓opsD_nil, ↓opsD_cons, ↓opP, ↓stepP, ↓stepG, go_sem, w1, w2, w3, w4, w5, w6, w7, w8, w9, hin, hcap]))
      all_goals (try (first | (intro hg; simp_all; done) | (intro hg; simp [hg]; done) | exact of_decide_eq_true rfl | (cases h; done)))
      all_goals (try (first | omega | (simp [maxLen] at hl63 ⊢; omega) | (simp; omega) | (simp; done) | exact fun d hd => ho d (List.mem_of_mem_drop hd)))
      rw [← put_grown (x := x) (z := D.agg [D.v (Value.int IntKind.i64 0), D.v (Value.int IntKind.i64 0), D.v (Value.int IntKind.i64 0), D.v (Value.int IntKind.i64 0), D.v (Value.int IntKind.i64 0), D.v (Value.int IntKind.i64 0), D.v (Value.int IntKind.i64 0), D.v (Value.int IntKind.i64 0)]) hlt]
      refine Fin.row (.inr rfl) rfl ⟨True.intro, True.intro⟩ rfl ?_
      rw [put_grown hlt]; simp; omega
    · have hcap : decide ((r : Int) < ((els.length + 1 : Nat) : Int)) = false := by simp; omega
      repeat' (first
        | ((first | refine Pwp.step (kit _) rfl fun K hK => ?_ | refine Pwp.last (kit _) rfl fun K hK => ?_ | refine Pwp.stepD (kit _) rfl rfl fun K hK => ?_ | refine Pwp.lastD (kit _) rfl rfl fun K hK => ?_); simp (dsimp := false) only [↓opsP_nil, ↓opsP_cons, ↓opsD_nil, ↓opsD_cons, ↓opP, ↓stepP, ↓stepG, go_sem, w1, w2, w3, w4, w5, w6, w7, w8, w9, hin, hcap])
        | (refine Pwp.seq ?_)
        | (refine Pwp.block ?_)
        | (refine Pwp.exit ?_; simp only [thenS, blockS, if_true, if_false, reduceIte, Nat.reduceEqDiff, Nat.add_one_ne_zero, reduceCtorEq])
        | (refine Pwp.skip ?_; simp only [thenS, blockS])
        | (refine Pwp.cond rfl True.intro (fun h => ?_) (fun h => ?_) <;> (try (cases h; done)) <;> (try simp only [h]))
        | (refine Pwp.ret ?_; try simp only [thenS, blockS])
        | (refine hK _ ?_; clear hK K)
        | (refine hK _ _ rfl ?_; clear hK K)
        | (refine Or.inr (OverK.two over170 k58 T70 rfl (of_decide_eq_true rfl) (of_decide_eq_true rfl) rfl rfl ?_ ?_))
        | (refine CallG.off ?_)
        | (with_reducible refine Or.inl ?_)
        | (simp only [thenS, blockS])
        | (with_reducible refine And.intro ?_ ?_)
        | (with_reducible exact True.intro)
        | (simp (dsimp := false) only [↓opsP_nil, ↓opsP_cons, ↓opsD_nil, ↓opsD_cons, ↓opP, ↓stepP, ↓stepG, go_sem, w1, w2, w3, w4, w5, w6, w7, w8, w9, hin, hcap]))
      all_goals (try (first | (intro hg; simp_all; done) | (intro hg; simp [hg]; done) | exact of_decide_eq_true rfl | (cases h; done)))
      all_goals (try (first | omega | (simp [maxLen] at hl63 ⊢; omega) | (simp; omega) | (simp; done) | exact fun d hd => ho d (List.mem_of_mem_drop hd)))
      rw [← put_moved (x := x) hlt]
      refine Fin.row (.inr rfl) rfl ⟨True.intro, True.intro⟩ rfl ?_
      rw [put_moved hlt]; simp; omega
  · obtain rfl : i = els.length := by omega
    repeat' (first
      | ((first | refine Pwp.step (kit _) rfl fun K hK => ?_ | refine Pwp.last (kit _) rfl fun K hK => ?_ | refine Pwp.stepD (kit _) rfl rfl fun K hK => ?_ | refine Pwp.lastD (kit _) rfl rfl fun K hK => ?_); simp (dsimp := false) only [↓opsP_nil, ↓opsP_cons, ↓opsD_nil, ↓opsD_cons, ↓opP, ↓stepP, ↓stepG, go_sem, beq_self_eq_true, w1])
      | (refine Pwp.seq ?_)
      | (refine Pwp.block ?_)
      | (refine Pwp.exit ?_; simp only [thenS, blockS, if_true, if_false, reduceIte, Nat.reduceEqDiff, Nat.add_one_ne_zero, reduceCtorEq])
      | (refine Pwp.skip ?_; simp only [thenS, blockS])
      | (refine Pwp.cond rfl True.intro (fun h => ?_) (fun h => ?_) <;> (try (cases h; done)) <;> (try simp only [h]))
      | (refine Pwp.ret ?_; try simp only [thenS, blockS])
      | (refine hK _ ?_; clear hK K)
      | (refine hK _ _ rfl ?_; clear hK K)
      | (refine CallG.off ?_)
      | (with_reducible refine Or.inl ?_)
      | (simp only [thenS, blockS])
      | (with_reducible refine And.intro ?_ ?_)
      | (with_reducible exact True.intro)
      | (simp (dsimp := false) only [↓opsP_nil, ↓opsP_cons, ↓opsD_nil, ↓opsD_cons, ↓opP, ↓stepP, ↓stepG, go_sem, beq_self_eq_true, w1]))
    all_goals (try (first | (intro hg; simp_all; done) | (intro hg; simp [hg]; done) | exact of_decide_eq_true rfl | (cases h; done)))
    all_goals (try (first | omega | (simp [maxLen] at hl63 ⊢; omega) | (simp; omega) | (simp; done) | exact fun d hd => ho d (List.mem_of_mem_drop hd)))
    have e : els.take els.length ++ x :: els.drop els.length = els.take els.length ++ [x] := by simp
    rw [e]
    exact Fin.row (.inr rfl) rfl ⟨True.intro, True.intro⟩ rfl (by simp)


theorem over213 : IsOver Try.prog 213 59 := ⟨Try.f213, 4, Try.func213, by kernel_rfl, by kernel_rfl, by kernel_rfl, by kernel_rfl⟩

theorem k59 : kindOf (tiOf Try.prog) 59 = some (.slice 277) := by rw [kindOf, T59]; rfl

set_option maxHeartbeats 8000000 in
theorem run168 (els : List D) (x : D) (i : Nat) (hi : i ≤ els.length) (ho : ∀ d ∈ els, d.cells.all D.one = true) (hx : x.cells.all D.one = true) (hm : (els.length + 1) * 24 ≤ 140737488355328) :
    Runs Try.prog 168 [.own 0 0 3 0 els.length, pint .i64 i, .own 1 0 3 0 1] [(0, .arr 277 3 0 none els), (1, .arr 277 3 0 (some 1) [x])] (.own 8 0 3 0 (els.take i ++ x :: els.drop i).length) [(8, .arr 277 3 0 none (els.take i ++ x :: els.drop i))] := by
  have hl63 : els.length + 1 ≤ maxLen := by simp [maxLen]; omega
  refine Runs.of (kit Try.prog) Try.func168 rfl rfl (by rw [Try.ntmps168]; exact of_decide_eq_true rfl) ?_; rw [Try.ntmps168, Try.results168]
  have w1 : IntKind.i64.wrap ((els.length : Int) + 1) = ((els.length + 1 : Nat) : Int) := wrap_succ (by simp [maxLen] at hl63; omega)
  have w2 : IntKind.i64.wrap (((els.length + 1 : Nat) : Int) - (i : Int)) = ((els.length + 1 - i : Nat) : Int) := by rw [wrap_of (by simp [maxLen] at hl63; omega) (by simp [maxLen] at hl63; omega)]; omega
  have w3 : IntKind.i64.wrap ((i : Int) + 1) = ((i + 1 : Nat) : Int) := wrap_succ (by simp [maxLen] at hl63; omega)
  have w4 : i + (els.length + 1 - i) = els.length + 1 := by omega
  rcases Nat.lt_or_ge i els.length with hlt | hge
  · have w5 : min 1 (els.length + 1 - i) = 1 := by omega
    have w6 : min (els.length - i) (els.length + 1 - (i + 1)) = els.length - i := by omega
    have w7 : min (els.length + 1 - i) (els.length + 1 - (i + 1)) = els.length - i := by omega
    have w8 : (els.drop i).take (els.length - i) = els.drop i := take_drop_all _ _ _ (Nat.le_refl _)
    have w9 : (els.drop i).take (els.length + 1 - i) = els.drop i := take_drop_all _ _ _ (by omega)
    have hin : ((i : Int) == (els.length : Int)) = false := by simp; omega
    refine Pwp.room (id := 0) rfl fun r hr hr2 => ?_
    simp only [St.start, upd, if_true, List.length, List.range, List.range.loop, List.zip, List.zipWith, reduceIte]
    rcases Nat.lt_or_ge r (els.length + 1) with hroom | hroom
    · have hcap : decide ((r : Int) < ((els.length + 1 : Nat) : Int)) = true := by simp; omega
      repeat' (first
        | ((first | refine Pwp.step (kit _) rfl fun K hK => ?_ | refine Pwp.last (kit _) rfl fun K hK => ?_ | refine Pwp.stepD (kit _) rfl rfl fun K hK => ?_ | refine Pwp.lastD (kit _) rfl rfl fun K hK => ?_); simp (dsimp := false) only [↓opsP_nil, ↓opsP_cons, ↓opsD_nil, ↓opsD_cons, ↓opP, ↓stepP, ↓stepG, go_sem, w1, w2, w3, w4, w5, w6, w7, w8, w9, hin, hcap])
        | (refine Pwp.seq ?_)
        | (refine Pwp.block ?_)
        | (refine Pwp.exit ?_; simp only [thenS, blockS, if_true, if_false, reduceIte, Nat.reduceEqDiff, Nat.add_one_ne_zero, reduceCtorEq])
        | (refine Pwp.skip ?_; simp only [thenS, blockS])
        | (refine Pwp.cond rfl True.intro (fun h => ?_) (fun h => ?_) <;> (try (cases h; done)) <;> (try simp only [h]))
        | (refine Pwp.ret ?_; try simp only [thenS, blockS])
        | (refine hK _ ?_; clear hK K)
        | (refine hK _ _ rfl ?_; clear hK K)
        | (refine CallG.off ?_)
        | (with_reducible refine Or.inl ?_)
        | (simp only [thenS, blockS])
        | (with_reducible refine And.intro ?_ ?_)
        | (with_reducible exact True.intro)
        | (simp (dsimp := false) only [↓opsP_nil, ↓opsP_cons, ↓opsD_nil, ↓opsD_cons, ↓opP, ↓stepP, ↓stepG, go_sem, w1, w2, w3, w4, w5, w6, w7, w8, w9, hin, hcap]))
      all_goals (try (first | (intro hg; simp_all; done) | (intro hg; simp [hg]; done) | exact of_decide_eq_true rfl | (cases h; done)))
      all_goals (try (first | omega | (simp [maxLen] at hl63 ⊢; omega) | (simp; omega) | (simp; done) | exact fun d hd => ho d (List.mem_of_mem_drop hd)))
      rw [← put_grown (x := x) (z := D.agg [D.v (Value.int IntKind.i64 0), D.v (Value.int IntKind.i64 0), D.v (Value.int IntKind.i64 0)]) hlt]
      refine Fin.row (.inr rfl) rfl ⟨True.intro, True.intro⟩ rfl ?_
      rw [put_grown hlt]; simp; omega
    · have hcap : decide ((r : Int) < ((els.length + 1 : Nat) : Int)) = false := by simp; omega
      repeat' (first
        | ((first | refine Pwp.step (kit _) rfl fun K hK => ?_ | refine Pwp.last (kit _) rfl fun K hK => ?_ | refine Pwp.stepD (kit _) rfl rfl fun K hK => ?_ | refine Pwp.lastD (kit _) rfl rfl fun K hK => ?_); simp (dsimp := false) only [↓opsP_nil, ↓opsP_cons, ↓opsD_nil, ↓opsD_cons, ↓opP, ↓stepP, ↓stepG, go_sem, w1, w2, w3, w4, w5, w6, w7, w8, w9, hin, hcap])
        | (refine Pwp.seq ?_)
        | (refine Pwp.block ?_)
        | (refine Pwp.exit ?_; simp only [thenS, blockS, if_true, if_false, reduceIte, Nat.reduceEqDiff, Nat.add_one_ne_zero, reduceCtorEq])
        | (refine Pwp.skip ?_; simp only [thenS, blockS])
        | (refine Pwp.cond rfl True.intro (fun h => ?_) (fun h => ?_) <;> (try (cases h; done)) <;> (try simp only [h]))
        | (refine Pwp.ret ?_; try simp only [thenS, blockS])
        | (refine hK _ ?_; clear hK K)
        | (refine hK _ _ rfl ?_; clear hK K)
        | (refine Or.inr (OverK.two over213 k59 T277 rfl (of_decide_eq_true rfl) (of_decide_eq_true rfl) rfl rfl ?_ ?_))
        | (refine CallG.off ?_)
        | (with_reducible refine Or.inl ?_)
        | (simp only [thenS, blockS])
        | (with_reducible refine And.intro ?_ ?_)
        | (with_reducible exact True.intro)
        | (simp (dsimp := false) only [↓opsP_nil, ↓opsP_cons, ↓opsD_nil, ↓opsD_cons, ↓opP, ↓stepP, ↓stepG, go_sem, w1, w2, w3, w4, w5, w6, w7, w8, w9, hin, hcap]))
      all_goals (try (first | (intro hg; simp_all; done) | (intro hg; simp [hg]; done) | exact of_decide_eq_true rfl | (cases h; done)))
      all_goals (try (first | omega | (simp [maxLen] at hl63 ⊢; omega) | (simp; omega) | (simp; done) | exact fun d hd => ho d (List.mem_of_mem_drop hd)))
      rw [← put_moved (x := x) hlt]
      refine Fin.row (.inr rfl) rfl ⟨True.intro, True.intro⟩ rfl ?_
      rw [put_moved hlt]; simp; omega
  · obtain rfl : i = els.length := by omega
    repeat' (first
      | ((first | refine Pwp.step (kit _) rfl fun K hK => ?_ | refine Pwp.last (kit _) rfl fun K hK => ?_ | refine Pwp.stepD (kit _) rfl rfl fun K hK => ?_ | refine Pwp.lastD (kit _) rfl rfl fun K hK => ?_); simp (dsimp := false) only [↓opsP_nil, ↓opsP_cons, ↓opsD_nil, ↓opsD_cons, ↓opP, ↓stepP, ↓stepG, go_sem, beq_self_eq_true, w1])
      | (refine Pwp.seq ?_)
      | (refine Pwp.block ?_)
      | (refine Pwp.exit ?_; simp only [thenS, blockS, if_true, if_false, reduceIte, Nat.reduceEqDiff, Nat.add_one_ne_zero, reduceCtorEq])
      | (refine Pwp.skip ?_; simp only [thenS, blockS])
      | (refine Pwp.cond rfl True.intro (fun h => ?_) (fun h => ?_) <;> (try (cases h; done)) <;> (try simp only [h]))
      | (refine Pwp.ret ?_; try simp only [thenS, blockS])
      | (refine hK _ ?_; clear hK K)
      | (refine hK _ _ rfl ?_; clear hK K)
      | (refine CallG.off ?_)
      | (with_reducible refine Or.inl ?_)
      | (simp only [thenS, blockS])
      | (with_reducible refine And.intro ?_ ?_)
      | (with_reducible exact True.intro)
      | (simp (dsimp := false) only [↓opsP_nil, ↓opsP_cons, ↓opsD_nil, ↓opsD_cons, ↓opP, ↓stepP, ↓stepG, go_sem, beq_self_eq_true, w1]))
    all_goals (try (first | (intro hg; simp_all; done) | (intro hg; simp [hg]; done) | exact of_decide_eq_true rfl | (cases h; done)))
    all_goals (try (first | omega | (simp [maxLen] at hl63 ⊢; omega) | (simp; omega) | (simp; done) | exact fun d hd => ho d (List.mem_of_mem_drop hd)))
    have e : els.take els.length ++ x :: els.drop els.length = els.take els.length ++ [x] := by simp
    rw [e]
    exact Fin.row (.inr rfl) rfl ⟨True.intro, True.intro⟩ rfl (by simp)


end Go.Proofs.Ytdodgbhodkcckaa.Pv
