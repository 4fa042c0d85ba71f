/- Walks of numbers written out digit by digit: digits less others. -/
import Derived.Test.YtdodgbhodkcckaaPxe
set_option linter.unusedVariables false
set_option linter.unusedSimpArgs false
set_option autoImplicit false
set_option maxRecDepth 100000
namespace Go.Proofs.Ytdodgbhodkcckaa.Pv
open Go Go.RowKit Dig

def L163 (a b out : List Nat) (i c : Nat) : St := ⟨[(7, pint .i64 i), (6, pint .i64 c), (5, .own 9 0 1 0 out.length), (0, .d (.slc 1 (digD a))), (1, .d (.slc 1 (digD b)))], [(9, .arr 3 1 0 none (digD out))], 40⟩
set_option maxHeartbeats 8000000 in
theorem run163 (a b : List Nat) (ha : Small a) (hb : Small b) (hl : a.length ≤ 1000000) (hk : b.length ≤ 1000000) : Runs Try.prog 163 [.d (.slc 1 (digD a)), .d (.slc 1 (digD b))] [] (.d (.slc 1 (digD (digs (val (Dig.subL a b 0)))))) [] := by
  have hla := dig_len a
  have hlb := dig_len b
  refine Runs.of (kit Try.prog) Try.func163 rfl rfl (by rw [Try.ntmps163]; exact of_decide_eq_true rfl) ?_; rw [Try.ntmps163, Try.results163]
  repeat' (first
    | ((first | refine Pwp.step (kit _) rfl fun K hK => ?_ | refine Pwp.last (kit _) rfl fun K hK => ?_ | refine Pwp.stepD (kit _) rfl rfl fun K hK => ?_ | refine Pwp.lastD (kit _) rfl rfl fun K hK => ?_); simp (dsimp := false) only [↓opsP_nil, ↓opsP_cons, ↓opsD_nil, ↓opsD_cons, footOf, ↓opP, ↓stepP, ↓stepG, go_sem, reduceIte, Nat.reduceAdd, Nat.reduceMul, Nat.reduceEqDiff, Nat.reduceLT, Nat.reduceLeDiff, Nat.reduceSub, reduceCtorEq, Int.reduceToNat, Int.reduceAdd, Int.reduceSub, Int.reduceLT, Int.reduceLE, Int.reduceNeg, Int.reduceBEq, Int.reduceBNe, true_or])
    | (refine Pwp.seq ?_)
    | (refine Pwp.block ?_)
    | (refine Pwp.exit ?_; simp only [thenS, blockS, if_true, if_false, reduceIte, Nat.reduceEqDiff, Nat.add_one_ne_zero, reduceCtorEq])
    | (refine Pwp.skip ?_; simp only [thenS, blockS])
    | (refine Pwp.cond rfl True.intro (fun h => ?_) (fun h => ?_) <;> (try (cases h; done)) <;> (try simp only [h]))
    | (refine Pwp.ret ?_; try simp only [thenS, blockS])
    | (refine hK _ ?_; clear hK K)
    | (refine hK _ _ rfl ?_; clear hK K)
    | (refine CallG.off ?_)
    | (with_reducible refine Or.inl ?_)
    | (simp only [thenS, blockS])
    | (with_reducible refine And.intro ?_ ?_)
    | (with_reducible exact True.intro)
    | (simp (dsimp := false) only [↓opsP_nil, ↓opsP_cons, ↓opsD_nil, ↓opsD_cons, footOf, ↓opP, ↓stepP, ↓stepG, go_sem, reduceIte, Nat.reduceAdd, Nat.reduceMul, Nat.reduceEqDiff, Nat.reduceLT, Nat.reduceLeDiff, Nat.reduceSub, reduceCtorEq, Int.reduceToNat, Int.reduceAdd, Int.reduceSub, Int.reduceLT, Int.reduceLE, Int.reduceNeg, Int.reduceBEq, Int.reduceBNe, true_or]))
  all_goals (try (first | (intro hg; simp_all; done) | (intro hg; simp [hg]; done) | exact of_decide_eq_true rfl | (cases h; done)))
  refine Pwp.loop (fun k s => ∃ i c out, k = a.length - i ∧ i ≤ a.length ∧ c ≤ 1 ∧ out.length = i ∧ out ++ Dig.subL (a.drop i) (b.drop i) c = Dig.subL a b 0 ∧ s = L163 a b out i c) a.length (s := L163 a b [] 0 0) (Sub.view V9n (by simp [L163]) rfl ?_ ?_) ⟨0, 0, [], by omega, by omega, by omega, rfl, rfl, rfl⟩ ?_
  · simp [viewH, viewP, viewL, viewO, L163, V9n, keptOf, find, digD]
  · simp [viewT, viewP, L163, V9n, keptOf, St.ev, find, PVal.toD, subD_refl, disj, PVal.ids, pnil]
  rintro k s ⟨i, c, out, rfl, hi, hc, ho, hsub, rfl⟩
  unfold L163
  have hol := dig_len out
  have htk : (digD out).take out.length = digD out := List.take_of_length_le (by omega)
  rcases Nat.lt_or_ge i a.length with h1 | h1
  rotate_left
  · have hc1 : decide ((i : Int) < (a.length : Int)) = false := decide_eq_false (by omega)
    have he : Dig.subL a b 0 = out := by rw [← hsub, List.drop_eq_nil_of_le h1]; simp [Dig.subL]
    have hsm := small_subL ha hb (by omega : 0 ≤ 1)
    rw [he] at hsm ⊢
    have hr := run160 out (by omega)
    rw [trim_eq hsm] at hr
    repeat' (first
      | ((first | refine Pwp.step (kit _) rfl fun K hK => ?_ | refine Pwp.last (kit _) rfl fun K hK => ?_ | refine Pwp.stepD (kit _) rfl rfl fun K hK => ?_ | refine Pwp.lastD (kit _) rfl rfl fun K hK => ?_); simp (dsimp := false) only [↓opsP_nil, ↓opsP_cons, ↓opsD_nil, ↓opsD_cons, footOf, ↓opP, ↓stepP, ↓stepG, go_sem, reduceIte, Nat.reduceAdd, Nat.reduceMul, Nat.reduceEqDiff, Nat.reduceLT, Nat.reduceLeDiff, Nat.reduceSub, reduceCtorEq, Int.reduceToNat, Int.reduceAdd, Int.reduceSub, Int.reduceLT, Int.reduceLE, Int.reduceNeg, Int.reduceBEq, Int.reduceBNe, true_or, hc1, hla])
      | (refine Pwp.seq ?_)
      | (refine Pwp.block ?_)
      | (refine Pwp.exit ?_; simp only [thenS, blockS, if_true, if_false, reduceIte, Nat.reduceEqDiff, Nat.add_one_ne_zero, reduceCtorEq])
      | (refine Pwp.skip ?_; simp only [thenS, blockS])
      | (refine Pwp.cond rfl True.intro (fun h => ?_) (fun h => ?_) <;> (try (cases h; done)) <;> (try simp only [h]))
      | (refine Pwp.ret ?_; try simp only [thenS, blockS])
      | (refine hK _ ?_; clear hK K)
      | (refine hK _ _ rfl ?_; clear hK K)
      | (refine CallK.give (ds := [.slc 1 (digD out)]) (by simp [toDL, PVal.toD, find, hol, htk]) hr (by simp) ?_)
      | (refine CallG.off ?_)
      | (with_reducible refine Or.inl ?_)
      | (simp only [thenS, blockS])
      | (with_reducible refine And.intro ?_ ?_)
      | (with_reducible exact True.intro)
      | (simp (dsimp := false) only [↓opsP_nil, ↓opsP_cons, ↓opsD_nil, ↓opsD_cons, footOf, ↓opP, ↓stepP, ↓stepG, go_sem, reduceIte, Nat.reduceAdd, Nat.reduceMul, Nat.reduceEqDiff, Nat.reduceLT, Nat.reduceLeDiff, Nat.reduceSub, reduceCtorEq, Int.reduceToNat, Int.reduceAdd, Int.reduceSub, Int.reduceLT, Int.reduceLE, Int.reduceNeg, Int.reduceBEq, Int.reduceBNe, true_or, hc1, hla]))
    all_goals (try (first | (intro hg; simp_all; done) | (intro hg; simp [hg]; done) | exact of_decide_eq_true rfl | (cases h; done)))
    (refine Fin.data (.inr rfl) (by simp (dsimp := false) only [↓opsP_nil, ↓opsP_cons, ↓opsD_nil, ↓opsD_cons, footOf, ↓opP, ↓stepP, ↓stepG, go_sem, reduceIte, Nat.reduceAdd, Nat.reduceMul, Nat.reduceEqDiff, Nat.reduceLT, Nat.reduceLeDiff, Nat.reduceSub, reduceCtorEq, Int.reduceToNat, Int.reduceAdd, Int.reduceSub, Int.reduceLT, Int.reduceLE, Int.reduceNeg, Int.reduceBEq, Int.reduceBNe, true_or, resL]; rfl) (by simp only [and_self]) (by simp (dsimp := false) only [↓opsP_nil, ↓opsP_cons, ↓opsD_nil, ↓opsD_cons, footOf, ↓opP, ↓stepP, ↓stepG, go_sem, reduceIte, Nat.reduceAdd, Nat.reduceMul, Nat.reduceEqDiff, Nat.reduceLT, Nat.reduceLeDiff, Nat.reduceSub, reduceCtorEq, Int.reduceToNat, Int.reduceAdd, Int.reduceSub, Int.reduceLT, Int.reduceLE, Int.reduceNeg, Int.reduceBEq, Int.reduceBNe, true_or, resP, Nat.le_refl, List.take_length]; try rfl) ?_)
    exact subD_refl _
  obtain ⟨d, hd⟩ : ∃ d, a[i]? = some d := ⟨_, List.getElem?_eq_getElem h1⟩
  have hd1 := ha d (List.mem_of_getElem? hd)
  have hg := dig_get hd
  have hc1 : decide ((i : Int) < (a.length : Int)) = true := decide_eq_true (by omega)
  have s1 : IntKind.i64.wrap ((d : Int) - (c : Int)) = (d : Int) - (c : Int) := wrap_of (by omega) (by omega)
  rcases Nat.lt_or_ge i b.length with h2 | h2
  · rcases Nat.lt_or_ge d ((b[i]?.getD 0) + c) with h3 | h3 <;> simp only [List.getElem?_eq_getElem h2, Option.getD_some] at h3
    · obtain ⟨e, he⟩ : ∃ e, b[i]? = some e := ⟨_, List.getElem?_eq_getElem h2⟩
      have hbe : b[i] = e := (List.getElem?_eq_some_iff.1 he).2
      rw [hbe] at h3
      have he1 := hb e (List.mem_of_getElem? he)
      have hg2 := dig_get he
      have c2 : decide ((i : Int) < (b.length : Int)) = true := decide_eq_true (by omega)
      have s2 : IntKind.i64.wrap ((d : Int) - (c : Int) - (e : Int)) = (d : Int) - (c : Int) - (e : Int) := wrap_of (by omega) (by omega)
      have n1 : decide ((d : Int) - (c : Int) - (e : Int) < 0) = true := decide_eq_true (by omega)
      have n2 : IntKind.i64.wrap ((d : Int) - (c : Int) - (e : Int) + 10) = ((d + 10 - e - c : Nat) : Int) := by rw [wrap_of (by omega) (by omega)]; omega
      repeat' (first
        | ((first | refine Pwp.step (kit _) rfl fun K hK => ?_ | refine Pwp.last (kit _) rfl fun K hK => ?_ | refine Pwp.stepD (kit _) rfl rfl fun K hK => ?_ | refine Pwp.lastD (kit _) rfl rfl fun K hK => ?_); simp (dsimp := false) only [↓opsP_nil, ↓opsP_cons, ↓opsD_nil, ↓opsD_cons, footOf, ↓opP, ↓stepP, ↓stepG, go_sem, reduceIte, Nat.reduceAdd, Nat.reduceMul, Nat.reduceEqDiff, Nat.reduceLT, Nat.reduceLeDiff, Nat.reduceSub, reduceCtorEq, Int.reduceToNat, Int.reduceAdd, Int.reduceSub, Int.reduceLT, Int.reduceLE, Int.reduceNeg, Int.reduceBEq, Int.reduceBNe, true_or, hg, hc1, s1, c2, n1, hla, hlb, htk, hol, hg2, s2, n2])
        | (refine Pwp.seq ?_)
        | (refine Pwp.block ?_)
        | (refine Pwp.exit ?_; simp only [thenS, blockS, if_true, if_false, reduceIte, Nat.reduceEqDiff, Nat.add_one_ne_zero, reduceCtorEq])
        | (refine Pwp.skip ?_; simp only [thenS, blockS])
        | (refine Pwp.cond rfl True.intro (fun h => ?_) (fun h => ?_) <;> (try (cases h; done)) <;> (try simp only [h]))
        | (refine Pwp.ret ?_; try simp only [thenS, blockS])
        | (refine hK _ ?_; clear hK K)
        | (refine hK _ _ rfl ?_; clear hK K)
        | (refine CallG.off ?_)
        | (with_reducible refine Or.inl ?_)
        | (simp only [thenS, blockS])
        | (with_reducible refine And.intro ?_ ?_)
        | (with_reducible exact True.intro)
        | (simp (dsimp := false) only [↓opsP_nil, ↓opsP_cons, ↓opsD_nil, ↓opsD_cons, footOf, ↓opP, ↓stepP, ↓stepG, go_sem, reduceIte, Nat.reduceAdd, Nat.reduceMul, Nat.reduceEqDiff, Nat.reduceLT, Nat.reduceLeDiff, Nat.reduceSub, reduceCtorEq, Int.reduceToNat, Int.reduceAdd, Int.reduceSub, Int.reduceLT, Int.reduceLE, Int.reduceNeg, Int.reduceBEq, Int.reduceBNe, true_or, hg, hc1, s1, c2, n1, hla, hlb, htk, hol, hg2, s2, n2]))
      all_goals (try (first | (intro hg; simp_all; done) | (intro hg; simp [hg]; done) | exact of_decide_eq_true rfl | (cases h; done)))
      all_goals (try (first | omega | (simp [maxLen]; omega)))
      refine ⟨a.length - (i + 1), L163 a b (out ++ [d + 10 - e - c]) (i + 1) 1, by omega, Sub.view (V9 1) (by simp [L163]) rfl ?_ ?_, i + 1, 1, out ++ [d + 10 - e - c], rfl, by omega, by omega, by simp [ho], ?_, rfl⟩
      · simp [viewH, viewP, viewL, viewO, L163, V9, keptOf, find, digD]
      · rw [wrap_succ (by omega)]
        simp [viewT, viewP, L163, V9, keptOf, St.ev, find, PVal.toD, subD_refl, disj, PVal.ids]
      · rw [← hsub, sub_step a b i c d e hd (by simp [he]), if_pos (by omega)]; simp
    · obtain ⟨e, he⟩ : ∃ e, b[i]? = some e := ⟨_, List.getElem?_eq_getElem h2⟩
      have hbe : b[i] = e := (List.getElem?_eq_some_iff.1 he).2
      rw [hbe] at h3
      have he1 := hb e (List.mem_of_getElem? he)
      have hg2 := dig_get he
      have c2 : decide ((i : Int) < (b.length : Int)) = true := decide_eq_true (by omega)
      have s2 : IntKind.i64.wrap ((d : Int) - (c : Int) - (e : Int)) = (d : Int) - (c : Int) - (e : Int) := wrap_of (by omega) (by omega)
      have n1 : decide ((d : Int) - (c : Int) - (e : Int) < 0) = false := decide_eq_false (by omega)
      have n2 : (d : Int) - (c : Int) - (e : Int) = ((d - e - c : Nat) : Int) := by omega
      repeat' (first
        | ((first | refine Pwp.step (kit _) rfl fun K hK => ?_ | refine Pwp.last (kit _) rfl fun K hK => ?_ | refine Pwp.stepD (kit _) rfl rfl fun K hK => ?_ | refine Pwp.lastD (kit _) rfl rfl fun K hK => ?_); simp (dsimp := false) only [↓opsP_nil, ↓opsP_cons, ↓opsD_nil, ↓opsD_cons, footOf, ↓opP, ↓stepP, ↓stepG, go_sem, reduceIte, Nat.reduceAdd, Nat.reduceMul, Nat.reduceEqDiff, Nat.reduceLT, Nat.reduceLeDiff, Nat.reduceSub, reduceCtorEq, Int.reduceToNat, Int.reduceAdd, Int.reduceSub, Int.reduceLT, Int.reduceLE, Int.reduceNeg, Int.reduceBEq, Int.reduceBNe, true_or, hg, hc1, s1, c2, n1, hla, hlb, htk, hol, hg2, s2])
        | (refine Pwp.seq ?_)
        | (refine Pwp.block ?_)
        | (refine Pwp.exit ?_; simp only [thenS, blockS, if_true, if_false, reduceIte, Nat.reduceEqDiff, Nat.add_one_ne_zero, reduceCtorEq])
        | (refine Pwp.skip ?_; simp only [thenS, blockS])
        | (refine Pwp.cond rfl True.intro (fun h => ?_) (fun h => ?_) <;> (try (cases h; done)) <;> (try simp only [h]))
        | (refine Pwp.ret ?_; try simp only [thenS, blockS])
        | (refine hK _ ?_; clear hK K)
        | (refine hK _ _ rfl ?_; clear hK K)
        | (refine CallG.off ?_)
        | (with_reducible refine Or.inl ?_)
        | (simp only [thenS, blockS])
        | (with_reducible refine And.intro ?_ ?_)
        | (with_reducible exact True.intro)
        | (simp (dsimp := false) only [↓opsP_nil, ↓opsP_cons, ↓opsD_nil, ↓opsD_cons, footOf, ↓opP, ↓stepP, ↓stepG, go_sem, reduceIte, Nat.reduceAdd, Nat.reduceMul, Nat.reduceEqDiff, Nat.reduceLT, Nat.reduceLeDiff, Nat.reduceSub, reduceCtorEq, Int.reduceToNat, Int.reduceAdd, Int.reduceSub, Int.reduceLT, Int.reduceLE, Int.reduceNeg, Int.reduceBEq, Int.reduceBNe, true_or, hg, hc1, s1, c2, n1, hla, hlb, htk, hol, hg2, s2]))
      all_goals (try (first | (intro hg; simp_all; done) | (intro hg; simp [hg]; done) | exact of_decide_eq_true rfl | (cases h; done)))
      all_goals (try (first | omega | (simp [maxLen]; omega)))
      refine ⟨a.length - (i + 1), L163 a b (out ++ [d - e - c]) (i + 1) 0, by omega, Sub.view (V9 1) (by simp [L163]) rfl ?_ ?_, i + 1, 0, out ++ [d - e - c], rfl, by omega, by omega, by simp [ho], ?_, rfl⟩
      · simp [viewH, viewP, viewL, viewO, L163, V9, keptOf, find, digD, n2]
      · rw [wrap_succ (by omega)]
        simp [viewT, viewP, L163, V9, keptOf, St.ev, find, PVal.toD, subD_refl, disj, PVal.ids]
      · rw [← hsub, sub_step a b i c d e hd (by simp [he]), if_neg (by omega)]; simp
  · rcases Nat.lt_or_ge d c with h3 | h3
    · have he : b[i]? = none := List.getElem?_eq_none h2
      have c2 : decide ((i : Int) < (b.length : Int)) = false := decide_eq_false (by omega)
      have n1 : decide ((d : Int) - (c : Int) < 0) = true := decide_eq_true (by omega)
      have n2 : IntKind.i64.wrap ((d : Int) - (c : Int) + 10) = ((d + 10 - 0 - c : Nat) : Int) := by rw [wrap_of (by omega) (by omega)]; omega
      repeat' (first
        | ((first | refine Pwp.step (kit _) rfl fun K hK => ?_ | refine Pwp.last (kit _) rfl fun K hK => ?_ | refine Pwp.stepD (kit _) rfl rfl fun K hK => ?_ | refine Pwp.lastD (kit _) rfl rfl fun K hK => ?_); simp (dsimp := false) only [↓opsP_nil, ↓opsP_cons, ↓opsD_nil, ↓opsD_cons, footOf, ↓opP, ↓stepP, ↓stepG, go_sem, reduceIte, Nat.reduceAdd, Nat.reduceMul, Nat.reduceEqDiff, Nat.reduceLT, Nat.reduceLeDiff, Nat.reduceSub, reduceCtorEq, Int.reduceToNat, Int.reduceAdd, Int.reduceSub, Int.reduceLT, Int.reduceLE, Int.reduceNeg, Int.reduceBEq, Int.reduceBNe, true_or, hg, hc1, s1, c2, n1, hla, hlb, htk, hol, n2])
        | (refine Pwp.seq ?_)
        | (refine Pwp.block ?_)
        | (refine Pwp.exit ?_; simp only [thenS, blockS, if_true, if_false, reduceIte, Nat.reduceEqDiff, Nat.add_one_ne_zero, reduceCtorEq])
        | (refine Pwp.skip ?_; simp only [thenS, blockS])
        | (refine Pwp.cond rfl True.intro (fun h => ?_) (fun h => ?_) <;> (try (cases h; done)) <;> (try simp only [h]))
        | (refine Pwp.ret ?_; try simp only [thenS, blockS])
        | (refine hK _ ?_; clear hK K)
        | (refine hK _ _ rfl ?_; clear hK K)
        | (refine CallG.off ?_)
        | (with_reducible refine Or.inl ?_)
        | (simp only [thenS, blockS])
        | (with_reducible refine And.intro ?_ ?_)
        | (with_reducible exact True.intro)
        | (simp (dsimp := false) only [↓opsP_nil, ↓opsP_cons, ↓opsD_nil, ↓opsD_cons, footOf, ↓opP, ↓stepP, ↓stepG, go_sem, reduceIte, Nat.reduceAdd, Nat.reduceMul, Nat.reduceEqDiff, Nat.reduceLT, Nat.reduceLeDiff, Nat.reduceSub, reduceCtorEq, Int.reduceToNat, Int.reduceAdd, Int.reduceSub, Int.reduceLT, Int.reduceLE, Int.reduceNeg, Int.reduceBEq, Int.reduceBNe, true_or, hg, hc1, s1, c2, n1, hla, hlb, htk, hol, n2]))
      all_goals (try (first | (intro hg; simp_all; done) | (intro hg; simp [hg]; done) | exact of_decide_eq_true rfl | (cases h; done)))
      all_goals (try (first | omega | (simp [maxLen]; omega)))
      refine ⟨a.length - (i + 1), L163 a b (out ++ [d + 10 - 0 - c]) (i + 1) 1, by omega, Sub.view (V9 1) (by simp [L163]) rfl ?_ ?_, i + 1, 1, out ++ [d + 10 - 0 - c], rfl, by omega, by omega, by simp [ho], ?_, rfl⟩
      · simp [viewH, viewP, viewL, viewO, L163, V9, keptOf, find, digD]
      · rw [wrap_succ (by omega)]
        simp [viewT, viewP, L163, V9, keptOf, St.ev, find, PVal.toD, subD_refl, disj, PVal.ids]
      · rw [← hsub, sub_step a b i c d 0 hd (by simp [he]), if_pos (by omega)]; simp
    · have he : b[i]? = none := List.getElem?_eq_none h2
      have c2 : decide ((i : Int) < (b.length : Int)) = false := decide_eq_false (by omega)
      have n1 : decide ((d : Int) - (c : Int) < 0) = false := decide_eq_false (by omega)
      have n2 : (d : Int) - (c : Int) = ((d - 0 - c : Nat) : Int) := by omega
      repeat' (first
        | ((first | refine Pwp.step (kit _) rfl fun K hK => ?_ | refine Pwp.last (kit _) rfl fun K hK => ?_ | refine Pwp.stepD (kit _) rfl rfl fun K hK => ?_ | refine Pwp.lastD (kit _) rfl rfl fun K hK => ?_); simp (dsimp := false) only [↓opsP_nil, ↓opsP_cons, ↓opsD_nil, ↓opsD_cons, footOf, ↓opP, ↓stepP, ↓stepG, go_sem, reduceIte, Nat.reduceAdd, Nat.reduceMul, Nat.reduceEqDiff, Nat.reduceLT, Nat.reduceLeDiff, Nat.reduceSub, reduceCtorEq, Int.reduceToNat, Int.reduceAdd, Int.reduceSub, Int.reduceLT, Int.reduceLE, Int.reduceNeg, Int.reduceBEq, Int.reduceBNe, true_or, hg, hc1, s1, c2, n1, hla, hlb, htk, hol])
        | (refine Pwp.seq ?_)
        | (refine Pwp.block ?_)
        | (refine Pwp.exit ?_; simp only [thenS, blockS, if_true, if_false, reduceIte, Nat.reduceEqDiff, Nat.add_one_ne_zero, reduceCtorEq])
        | (refine Pwp.skip ?_; simp only [thenS, blockS])
        | (refine Pwp.cond rfl True.intro (fun h => ?_) (fun h => ?_) <;> (try (cases h; done)) <;> (try simp only [h]))
        | (refine Pwp.ret ?_; try simp only [thenS, blockS])
        | (refine hK _ ?_; clear hK K)
        | (refine hK _ _ rfl ?_; clear hK K)
        | (refine CallG.off ?_)
        | (with_reducible refine Or.inl ?_)
        | (simp only [thenS, blockS])
        | (with_reducible refine And.intro ?_ ?_)
        | (with_reducible exact True.intro)
        | (simp (dsimp := false) only [↓opsP_nil, ↓opsP_cons, ↓opsD_nil, ↓opsD_cons, footOf, ↓opP, ↓stepP, ↓stepG, go_sem, reduceIte, Nat.reduceAdd, Nat.reduceMul, Nat.reduceEqDiff, Nat.reduceLT, Nat.reduceLeDiff, Nat.reduceSub, reduceCtorEq, Int.reduceToNat, Int.reduceAdd, Int.reduceSub, Int.reduceLT, Int.reduceLE, Int.reduceNeg, Int.reduceBEq, Int.reduceBNe, true_or, hg, hc1, s1, c2, n1, hla, hlb, htk, hol]))
      all_goals (try (first | (intro hg; simp_all; done) | (intro hg; simp [hg]; done) | exact of_decide_eq_true rfl | (cases h; done)))
      all_goals (try (first | omega | (simp [maxLen]; omega)))
      refine ⟨a.length - (i + 1), L163 a b (out ++ [d - 0 - c]) (i + 1) 0, by omega, Sub.view (V9 1) (by simp [L163]) rfl ?_ ?_, i + 1, 0, out ++ [d - 0 - c], rfl, by omega, by omega, by simp [ho], ?_, rfl⟩
      · simp [viewH, viewP, viewL, viewO, L163, V9, keptOf, find, digD, n2]
      · rw [wrap_succ (by omega)]
        simp [viewT, viewP, L163, V9, keptOf, St.ev, find, PVal.toD, subD_refl, disj, PVal.ids]
      · rw [← hsub, sub_step a b i c d 0 hd (by simp [he]), if_neg (by omega)]; simp

end Go.Proofs.Ytdodgbhodkcckaa.Pv
