/- Walks of numbers written out digit by digit: digits together. -/
import Derived.Test.YtdodgbhodkcckaaPxc
set_option linter.unusedVariables false
set_option linter.unusedSimpArgs false
set_option autoImplicit false
set_option maxRecDepth 100000
namespace Go.Proofs.Ytdodgbhodkcckaa.Pv
open Go Go.RowKit Dig

def L161 (a b out : List Nat) (i c : Nat) : St := ⟨[(7, pint .i64 i), (6, pint .i64 c), (5, .own 9 0 1 0 out.length), (0, .d (.slc 1 (digD a))), (1, .d (.slc 1 (digD b)))], [(9, .arr 3 1 0 none (digD out))], 40⟩
theorem quo10 {m : Nat} (h : m < 1000) : IntKind.i64.wrap (Int.tdiv (m : Int) 10) = ((m / 10 : Nat) : Int) := by
  rw [Int.tdiv_eq_ediv_of_nonneg (by omega), wrap_of (by omega) (by omega)]; omega
theorem rem10 {m : Nat} : Int.tmod (m : Int) 10 = ((m % 10 : Nat) : Int) := by
  rw [Int.tmod_eq_emod_of_nonneg (by omega)]; omega
theorem end161 {a b out : List Nat} {i c m : Nat} {s : St} (hi : i ≤ max a.length b.length + 1) (hc : c ≤ 1) (hz : max a.length b.length < i → c = 0) (ho : out.length = i) (hadd : out ++ addL (a.drop i) (b.drop i) c = addL a b 0) (h : i < a.length ∨ i < b.length ∨ 0 < c)
    (hm : m = (a[i]?.getD 0) + (b[i]?.getD 0) + c) (hm2 : m < 20) (hs : Sub 52 s (L161 a b (out ++ [m % 10]) (i + 1) (m / 10))) (h9 : i = max a.length b.length → m < 10) :
    ∃ k' t, k' < max a.length b.length + 2 - i ∧ Sub 52 s t ∧ ∃ i c out, k' = max a.length b.length + 2 - i ∧ i ≤ max a.length b.length + 1 ∧ c ≤ 1 ∧ (max a.length b.length < i → c = 0) ∧ out.length = i ∧ out ++ addL (a.drop i) (b.drop i) c = addL a b 0 ∧ t = L161 a b out i c := by
  refine ⟨max a.length b.length + 2 - (i + 1), _, by omega, hs, i + 1, m / 10, out ++ [m % 10], rfl, by omega, by omega, by omega, by simp [ho], ?_, rfl⟩
  rw [← hadd, add_step a b i c h (by omega), ← hm]; simp

set_option maxHeartbeats 8000000 in
theorem run161 (a b : List Nat) (ha : Small a) (hb : Small b) (hl : a.length ≤ 1000000) (hk : b.length ≤ 1000000) : Runs Try.prog 161 [.d (.slc 1 (digD a)), .d (.slc 1 (digD b))] [] (.d (.slc 1 (digD (addL a b 0)))) [] := by
  have hla := dig_len a
  have hlb := dig_len b
  refine Runs.of (kit Try.prog) Try.func161 rfl rfl (by rw [Try.ntmps161]; exact of_decide_eq_true rfl) ?_; rw [Try.ntmps161, Try.results161]
  repeat' (first
    | ((first | refine Pwp.step (kit _) rfl fun K hK => ?_ | refine Pwp.last (kit _) rfl fun K hK => ?_ | refine Pwp.stepD (kit _) rfl rfl fun K hK => ?_ | refine Pwp.lastD (kit _) rfl rfl fun K hK => ?_); simp (dsimp := false) only [↓opsP_nil, ↓opsP_cons, ↓opsD_nil, ↓opsD_cons, footOf, ↓opP, ↓stepP, ↓stepG, go_sem, reduceIte, Nat.reduceAdd, Nat.reduceMul, Nat.reduceEqDiff, Nat.reduceLT, Nat.reduceLeDiff, Nat.reduceSub, reduceCtorEq, Int.reduceToNat, Int.reduceAdd, Int.reduceSub, Int.reduceLT, Int.reduceLE, Int.reduceNeg, Int.reduceBEq, Int.reduceBNe, true_or])
    | (refine Pwp.seq ?_)
    | (refine Pwp.block ?_)
    | (refine Pwp.exit ?_; simp only [thenS, blockS, if_true, if_false, reduceIte, Nat.reduceEqDiff, Nat.add_one_ne_zero, reduceCtorEq])
    | (refine Pwp.skip ?_; simp only [thenS, blockS])
    | (refine Pwp.cond rfl True.intro (fun h => ?_) (fun h => ?_) <;> (try (cases h; done)) <;> (try simp only [h]))
    | (refine Pwp.ret ?_; try simp only [thenS, blockS])
    | (refine hK _ ?_; clear hK K)
    | (refine hK _ _ rfl ?_; clear hK K)
    | (refine CallG.off ?_)
    | (with_reducible refine Or.inl ?_)
    | (simp only [thenS, blockS])
    | (with_reducible refine And.intro ?_ ?_)
    | (with_reducible exact True.intro)
    | (simp (dsimp := false) only [↓opsP_nil, ↓opsP_cons, ↓opsD_nil, ↓opsD_cons, footOf, ↓opP, ↓stepP, ↓stepG, go_sem, reduceIte, Nat.reduceAdd, Nat.reduceMul, Nat.reduceEqDiff, Nat.reduceLT, Nat.reduceLeDiff, Nat.reduceSub, reduceCtorEq, Int.reduceToNat, Int.reduceAdd, Int.reduceSub, Int.reduceLT, Int.reduceLE, Int.reduceNeg, Int.reduceBEq, Int.reduceBNe, true_or]))
  all_goals (try (first | (intro hg; simp_all; done) | (intro hg; simp [hg]; done) | exact of_decide_eq_true rfl | (cases h; done)))
  refine Pwp.loop (fun k s => ∃ i c out, k = max a.length b.length + 2 - i ∧ i ≤ max a.length b.length + 1 ∧ c ≤ 1 ∧ (max a.length b.length < i → c = 0) ∧ out.length = i ∧ out ++ addL (a.drop i) (b.drop i) c = addL a b 0 ∧ s = L161 a b out i c) (max a.length b.length + 2) (s := L161 a b [] 0 0) (Sub.view V9n (by simp [L161]) rfl ?_ ?_) ⟨0, 0, [], by omega, by omega, by omega, by omega, rfl, rfl, rfl⟩ ?_
  · simp [viewH, viewP, viewL, viewO, L161, V9n, keptOf, find, digD]
  · simp [viewT, viewP, L161, V9n, keptOf, St.ev, find, PVal.toD, subD_refl, disj, PVal.ids, pnil]
  rintro k s ⟨i, c, out, rfl, hi, hc, hz, ho, hadd, rfl⟩
  unfold L161
  have hol := dig_len out
  have htk : (digD out).take out.length = digD out := List.take_of_length_le (by omega)
  rcases Nat.lt_or_ge i a.length with h1 | h1 <;> rcases Nat.lt_or_ge i b.length with h2 | h2
  · obtain ⟨d, hd⟩ : ∃ d, a[i]? = some d := ⟨_, List.getElem?_eq_getElem h1⟩
    have hd1 := ha d (List.mem_of_getElem? hd)
    have hg := dig_get hd
    have c1 : decide ((i : Int) < (a.length : Int)) = true := decide_eq_true (by omega)
    obtain ⟨e, he⟩ : ∃ e, b[i]? = some e := ⟨_, List.getElem?_eq_getElem h2⟩
    have he1 := hb e (List.mem_of_getElem? he)
    have hg2 := dig_get he
    have c2 : decide ((i : Int) < (b.length : Int)) = true := decide_eq_true (by omega)
    have s1 : IntKind.i64.wrap ((c : Int) + (d : Int)) = ((c + d : Nat) : Int) := by rw [wrap_of (by omega) (by omega)]; omega
    have s2 : IntKind.i64.wrap (((c + d : Nat) : Int) + (e : Int)) = ((c + d + e : Nat) : Int) := by rw [wrap_of (by omega) (by omega)]; omega
    have q1 := quo10 (m := c + d + e) (by omega)
    have q2 := rem10 (m := c + d + e)
    repeat' (first
      | ((first | refine Pwp.step (kit _) rfl fun K hK => ?_ | refine Pwp.last (kit _) rfl fun K hK => ?_ | refine Pwp.stepD (kit _) rfl rfl fun K hK => ?_ | refine Pwp.lastD (kit _) rfl rfl fun K hK => ?_); simp (dsimp := false) only [↓opsP_nil, ↓opsP_cons, ↓opsD_nil, ↓opsD_cons, footOf, ↓opP, ↓stepP, ↓stepG, go_sem, reduceIte, Nat.reduceAdd, Nat.reduceMul, Nat.reduceEqDiff, Nat.reduceLT, Nat.reduceLeDiff, Nat.reduceSub, reduceCtorEq, Int.reduceToNat, Int.reduceAdd, Int.reduceSub, Int.reduceLT, Int.reduceLE, Int.reduceNeg, Int.reduceBEq, Int.reduceBNe, true_or, c1, c2, hg, hg2, hla, hlb, htk, hol, s1, s2, q1, q2])
      | (refine Pwp.seq ?_)
      | (refine Pwp.block ?_)
      | (refine Pwp.exit ?_; simp only [thenS, blockS, if_true, if_false, reduceIte, Nat.reduceEqDiff, Nat.add_one_ne_zero, reduceCtorEq])
      | (refine Pwp.skip ?_; simp only [thenS, blockS])
      | (refine Pwp.cond rfl True.intro (fun h => ?_) (fun h => ?_) <;> (try (cases h; done)) <;> (try simp only [h]))
      | (refine Pwp.ret ?_; try simp only [thenS, blockS])
      | (refine hK _ ?_; clear hK K)
      | (refine hK _ _ rfl ?_; clear hK K)
      | (refine CallG.off ?_)
      | (with_reducible refine Or.inl ?_)
      | (simp only [thenS, blockS])
      | (with_reducible refine And.intro ?_ ?_)
      | (with_reducible exact True.intro)
      | (simp (dsimp := false) only [↓opsP_nil, ↓opsP_cons, ↓opsD_nil, ↓opsD_cons, footOf, ↓opP, ↓stepP, ↓stepG, go_sem, reduceIte, Nat.reduceAdd, Nat.reduceMul, Nat.reduceEqDiff, Nat.reduceLT, Nat.reduceLeDiff, Nat.reduceSub, reduceCtorEq, Int.reduceToNat, Int.reduceAdd, Int.reduceSub, Int.reduceLT, Int.reduceLE, Int.reduceNeg, Int.reduceBEq, Int.reduceBNe, true_or, c1, c2, hg, hg2, hla, hlb, htk, hol, s1, s2, q1, q2]))
    all_goals (try (first | (intro hg; simp_all; done) | (intro hg; simp [hg]; done) | exact of_decide_eq_true rfl | (cases h; done)))
    all_goals (try (first | omega | (simp [maxLen]; omega)))
    refine end161 (m := c + d + e) hi hc hz ho hadd (.inl h1) (by simp [hd, he] <;> omega) (by omega) (Sub.view (V9 1) (by simp [L161]) rfl ?_ ?_) (by intro; omega)
    · simp [viewH, viewP, viewL, viewO, L161, V9, keptOf, find, digD]
    · rw [wrap_succ (by omega)]
      simp [viewT, viewP, L161, V9, keptOf, St.ev, find, PVal.toD, subD_refl, disj, PVal.ids]
  · obtain ⟨d, hd⟩ : ∃ d, a[i]? = some d := ⟨_, List.getElem?_eq_getElem h1⟩
    have hd1 := ha d (List.mem_of_getElem? hd)
    have hg := dig_get hd
    have c1 : decide ((i : Int) < (a.length : Int)) = true := decide_eq_true (by omega)
    have he : b[i]? = none := List.getElem?_eq_none h2
    have c2 : decide ((i : Int) < (b.length : Int)) = false := decide_eq_false (by omega)
    have s1 : IntKind.i64.wrap ((c : Int) + (d : Int)) = ((c + d : Nat) : Int) := by rw [wrap_of (by omega) (by omega)]; omega
    have q1 := quo10 (m := c + d) (by omega)
    have q2 := rem10 (m := c + d)
    repeat' (first
      | ((first | refine Pwp.step (kit _) rfl fun K hK => ?_ | refine Pwp.last (kit _) rfl fun K hK => ?_ | refine Pwp.stepD (kit _) rfl rfl fun K hK => ?_ | refine Pwp.lastD (kit _) rfl rfl fun K hK => ?_); simp (dsimp := false) only [↓opsP_nil, ↓opsP_cons, ↓opsD_nil, ↓opsD_cons, footOf, ↓opP, ↓stepP, ↓stepG, go_sem, reduceIte, Nat.reduceAdd, Nat.reduceMul, Nat.reduceEqDiff, Nat.reduceLT, Nat.reduceLeDiff, Nat.reduceSub, reduceCtorEq, Int.reduceToNat, Int.reduceAdd, Int.reduceSub, Int.reduceLT, Int.reduceLE, Int.reduceNeg, Int.reduceBEq, Int.reduceBNe, true_or, c1, c2, hg, hla, hlb, htk, hol, s1, q1, q2])
      | (refine Pwp.seq ?_)
      | (refine Pwp.block ?_)
      | (refine Pwp.exit ?_; simp only [thenS, blockS, if_true, if_false, reduceIte, Nat.reduceEqDiff, Nat.add_one_ne_zero, reduceCtorEq])
      | (refine Pwp.skip ?_; simp only [thenS, blockS])
      | (refine Pwp.cond rfl True.intro (fun h => ?_) (fun h => ?_) <;> (try (cases h; done)) <;> (try simp only [h]))
      | (refine Pwp.ret ?_; try simp only [thenS, blockS])
      | (refine hK _ ?_; clear hK K)
      | (refine hK _ _ rfl ?_; clear hK K)
      | (refine CallG.off ?_)
      | (with_reducible refine Or.inl ?_)
      | (simp only [thenS, blockS])
      | (with_reducible refine And.intro ?_ ?_)
      | (with_reducible exact True.intro)
      | (simp (dsimp := false) only [↓opsP_nil, ↓opsP_cons, ↓opsD_nil, ↓opsD_cons, footOf, ↓opP, ↓stepP, ↓stepG, go_sem, reduceIte, Nat.reduceAdd, Nat.reduceMul, Nat.reduceEqDiff, Nat.reduceLT, Nat.reduceLeDiff, Nat.reduceSub, reduceCtorEq, Int.reduceToNat, Int.reduceAdd, Int.reduceSub, Int.reduceLT, Int.reduceLE, Int.reduceNeg, Int.reduceBEq, Int.reduceBNe, true_or, c1, c2, hg, hla, hlb, htk, hol, s1, q1, q2]))
    all_goals (try (first | (intro hg; simp_all; done) | (intro hg; simp [hg]; done) | exact of_decide_eq_true rfl | (cases h; done)))
    all_goals (try (first | omega | (simp [maxLen]; omega)))
    refine end161 (m := c + d) hi hc hz ho hadd (.inl h1) (by simp [hd, he] <;> omega) (by omega) (Sub.view (V9 1) (by simp [L161]) rfl ?_ ?_) (by intro; omega)
    · simp [viewH, viewP, viewL, viewO, L161, V9, keptOf, find, digD]
    · rw [wrap_succ (by omega)]
      simp [viewT, viewP, L161, V9, keptOf, St.ev, find, PVal.toD, subD_refl, disj, PVal.ids]
  · have hd : a[i]? = none := List.getElem?_eq_none h1
    have c1 : decide ((i : Int) < (a.length : Int)) = false := decide_eq_false (by omega)
    obtain ⟨e, he⟩ : ∃ e, b[i]? = some e := ⟨_, List.getElem?_eq_getElem h2⟩
    have he1 := hb e (List.mem_of_getElem? he)
    have hg2 := dig_get he
    have c2 : decide ((i : Int) < (b.length : Int)) = true := decide_eq_true (by omega)
    have s2 : IntKind.i64.wrap ((c : Int) + (e : Int)) = ((c + e : Nat) : Int) := by rw [wrap_of (by omega) (by omega)]; omega
    have q1 := quo10 (m := c + e) (by omega)
    have q2 := rem10 (m := c + e)
    repeat' (first
      | ((first | refine Pwp.step (kit _) rfl fun K hK => ?_ | refine Pwp.last (kit _) rfl fun K hK => ?_ | refine Pwp.stepD (kit _) rfl rfl fun K hK => ?_ | refine Pwp.lastD (kit _) rfl rfl fun K hK => ?_); simp (dsimp := false) only [↓opsP_nil, ↓opsP_cons, ↓opsD_nil, ↓opsD_cons, footOf, ↓opP, ↓stepP, ↓stepG, go_sem, reduceIte, Nat.reduceAdd, Nat.reduceMul, Nat.reduceEqDiff, Nat.reduceLT, Nat.reduceLeDiff, Nat.reduceSub, reduceCtorEq, Int.reduceToNat, Int.reduceAdd, Int.reduceSub, Int.reduceLT, Int.reduceLE, Int.reduceNeg, Int.reduceBEq, Int.reduceBNe, true_or, c1, c2, hg2, hla, hlb, htk, hol, s2, q1, q2])
      | (refine Pwp.seq ?_)
      | (refine Pwp.block ?_)
      | (refine Pwp.exit ?_; simp only [thenS, blockS, if_true, if_false, reduceIte, Nat.reduceEqDiff, Nat.add_one_ne_zero, reduceCtorEq])
      | (refine Pwp.skip ?_; simp only [thenS, blockS])
      | (refine Pwp.cond rfl True.intro (fun h => ?_) (fun h => ?_) <;> (try (cases h; done)) <;> (try simp only [h]))
      | (refine Pwp.ret ?_; try simp only [thenS, blockS])
      | (refine hK _ ?_; clear hK K)
      | (refine hK _ _ rfl ?_; clear hK K)
      | (refine CallG.off ?_)
      | (with_reducible refine Or.inl ?_)
      | (simp only [thenS, blockS])
      | (with_reducible refine And.intro ?_ ?_)
      | (with_reducible exact True.intro)
      | (simp (dsimp := false) only [↓opsP_nil, ↓opsP_cons, ↓opsD_nil, ↓opsD_cons, footOf, ↓opP, ↓stepP, ↓stepG, go_sem, reduceIte, Nat.reduceAdd, Nat.reduceMul, Nat.reduceEqDiff, Nat.reduceLT, Nat.reduceLeDiff, Nat.reduceSub, reduceCtorEq, Int.reduceToNat, Int.reduceAdd, Int.reduceSub, Int.reduceLT, Int.reduceLE, Int.reduceNeg, Int.reduceBEq, Int.reduceBNe, true_or, c1, c2, hg2, hla, hlb, htk, hol, s2, q1, q2]))
    all_goals (try (first | (intro hg; simp_all; done) | (intro hg; simp [hg]; done) | exact of_decide_eq_true rfl | (cases h; done)))
    all_goals (try (first | omega | (simp [maxLen]; omega)))
    refine end161 (m := c + e) hi hc hz ho hadd (.inr (.inl h2)) (by simp [hd, he] <;> omega) (by omega) (Sub.view (V9 1) (by simp [L161]) rfl ?_ ?_) (by intro; omega)
    · simp [viewH, viewP, viewL, viewO, L161, V9, keptOf, find, digD]
    · rw [wrap_succ (by omega)]
      simp [viewT, viewP, L161, V9, keptOf, St.ev, find, PVal.toD, subD_refl, disj, PVal.ids]
  · have hd : a[i]? = none := List.getElem?_eq_none h1
    have c1 : decide ((i : Int) < (a.length : Int)) = false := decide_eq_false (by omega)
    have he : b[i]? = none := List.getElem?_eq_none h2
    have c2 : decide ((i : Int) < (b.length : Int)) = false := decide_eq_false (by omega)
    have q1 := quo10 (m := c) (by omega)
    have q2 := rem10 (m := c)
    rcases Nat.eq_zero_or_pos c with h0 | h3
    · subst h0
      have c3 : decide ((0 : Int) < ((0 : Nat) : Int)) = false := by simp
      have c4 : decide ((0 : Int) < 0) = false := by simp
      repeat' (first
        | ((first | refine Pwp.step (kit _) rfl fun K hK => ?_ | refine Pwp.last (kit _) rfl fun K hK => ?_ | refine Pwp.stepD (kit _) rfl rfl fun K hK => ?_ | refine Pwp.lastD (kit _) rfl rfl fun K hK => ?_); simp (dsimp := false) only [↓opsP_nil, ↓opsP_cons, ↓opsD_nil, ↓opsD_cons, footOf, ↓opP, ↓stepP, ↓stepG, go_sem, reduceIte, Nat.reduceAdd, Nat.reduceMul, Nat.reduceEqDiff, Nat.reduceLT, Nat.reduceLeDiff, Nat.reduceSub, reduceCtorEq, Int.reduceToNat, Int.reduceAdd, Int.reduceSub, Int.reduceLT, Int.reduceLE, Int.reduceNeg, Int.reduceBEq, Int.reduceBNe, true_or, c1, c2, hla, hlb, htk, hol, q1, q2, c3, c4])
        | (refine Pwp.seq ?_)
        | (refine Pwp.block ?_)
        | (refine Pwp.exit ?_; simp only [thenS, blockS, if_true, if_false, reduceIte, Nat.reduceEqDiff, Nat.add_one_ne_zero, reduceCtorEq])
        | (refine Pwp.skip ?_; simp only [thenS, blockS])
        | (refine Pwp.cond rfl True.intro (fun h => ?_) (fun h => ?_) <;> (try (cases h; done)) <;> (try simp only [h]))
        | (refine Pwp.ret ?_; try simp only [thenS, blockS])
        | (refine hK _ ?_; clear hK K)
        | (refine hK _ _ rfl ?_; clear hK K)
        | (refine CallG.off ?_)
        | (with_reducible refine Or.inl ?_)
        | (simp only [thenS, blockS])
        | (with_reducible refine And.intro ?_ ?_)
        | (with_reducible exact True.intro)
        | (simp (dsimp := false) only [↓opsP_nil, ↓opsP_cons, ↓opsD_nil, ↓opsD_cons, footOf, ↓opP, ↓stepP, ↓stepG, go_sem, reduceIte, Nat.reduceAdd, Nat.reduceMul, Nat.reduceEqDiff, Nat.reduceLT, Nat.reduceLeDiff, Nat.reduceSub, reduceCtorEq, Int.reduceToNat, Int.reduceAdd, Int.reduceSub, Int.reduceLT, Int.reduceLE, Int.reduceNeg, Int.reduceBEq, Int.reduceBNe, true_or, c1, c2, hla, hlb, htk, hol, q1, q2, c3, c4]))
      all_goals (try (first | (intro hg; simp_all; done) | (intro hg; simp [hg]; done) | exact of_decide_eq_true rfl | (cases h; done)))
      all_goals (try (first | omega | (simp [maxLen]; omega)))
      rw [List.drop_eq_nil_of_le h1, List.drop_eq_nil_of_le h2] at hadd
      have hadd2 : addL a b 0 = out := by rw [← hadd]; simp [addL]
      (refine Fin.data (.inr rfl) (by simp (dsimp := false) only [↓opsP_nil, ↓opsP_cons, ↓opsD_nil, ↓opsD_cons, footOf, ↓opP, ↓stepP, ↓stepG, go_sem, reduceIte, Nat.reduceAdd, Nat.reduceMul, Nat.reduceEqDiff, Nat.reduceLT, Nat.reduceLeDiff, Nat.reduceSub, reduceCtorEq, Int.reduceToNat, Int.reduceAdd, Int.reduceSub, Int.reduceLT, Int.reduceLE, Int.reduceNeg, Int.reduceBEq, Int.reduceBNe, true_or, resL, htk, hol]; rfl) (by simp only [and_self]) (by simp (dsimp := false) only [↓opsP_nil, ↓opsP_cons, ↓opsD_nil, ↓opsD_cons, footOf, ↓opP, ↓stepP, ↓stepG, go_sem, reduceIte, Nat.reduceAdd, Nat.reduceMul, Nat.reduceEqDiff, Nat.reduceLT, Nat.reduceLeDiff, Nat.reduceSub, reduceCtorEq, Int.reduceToNat, Int.reduceAdd, Int.reduceSub, Int.reduceLT, Int.reduceLE, Int.reduceNeg, Int.reduceBEq, Int.reduceBNe, true_or, resP, Nat.le_refl, List.take_length, htk, hol]; try rfl) ?_)
      rw [hadd2]; exact subD_refl _
    · have c3 : decide ((0 : Int) < (c : Int)) = true := decide_eq_true (by omega)
      repeat' (first
        | ((first | refine Pwp.step (kit _) rfl fun K hK => ?_ | refine Pwp.last (kit _) rfl fun K hK => ?_ | refine Pwp.stepD (kit _) rfl rfl fun K hK => ?_ | refine Pwp.lastD (kit _) rfl rfl fun K hK => ?_); simp (dsimp := false) only [↓opsP_nil, ↓opsP_cons, ↓opsD_nil, ↓opsD_cons, footOf, ↓opP, ↓stepP, ↓stepG, go_sem, reduceIte, Nat.reduceAdd, Nat.reduceMul, Nat.reduceEqDiff, Nat.reduceLT, Nat.reduceLeDiff, Nat.reduceSub, reduceCtorEq, Int.reduceToNat, Int.reduceAdd, Int.reduceSub, Int.reduceLT, Int.reduceLE, Int.reduceNeg, Int.reduceBEq, Int.reduceBNe, true_or, c1, c2, hla, hlb, htk, hol, q1, q2, c3])
        | (refine Pwp.seq ?_)
        | (refine Pwp.block ?_)
        | (refine Pwp.exit ?_; simp only [thenS, blockS, if_true, if_false, reduceIte, Nat.reduceEqDiff, Nat.add_one_ne_zero, reduceCtorEq])
        | (refine Pwp.skip ?_; simp only [thenS, blockS])
        | (refine Pwp.cond rfl True.intro (fun h => ?_) (fun h => ?_) <;> (try (cases h; done)) <;> (try simp only [h]))
        | (refine Pwp.ret ?_; try simp only [thenS, blockS])
        | (refine hK _ ?_; clear hK K)
        | (refine hK _ _ rfl ?_; clear hK K)
        | (refine CallG.off ?_)
        | (with_reducible refine Or.inl ?_)
        | (simp only [thenS, blockS])
        | (with_reducible refine And.intro ?_ ?_)
        | (with_reducible exact True.intro)
        | (simp (dsimp := false) only [↓opsP_nil, ↓opsP_cons, ↓opsD_nil, ↓opsD_cons, footOf, ↓opP, ↓stepP, ↓stepG, go_sem, reduceIte, Nat.reduceAdd, Nat.reduceMul, Nat.reduceEqDiff, Nat.reduceLT, Nat.reduceLeDiff, Nat.reduceSub, reduceCtorEq, Int.reduceToNat, Int.reduceAdd, Int.reduceSub, Int.reduceLT, Int.reduceLE, Int.reduceNeg, Int.reduceBEq, Int.reduceBNe, true_or, c1, c2, hla, hlb, htk, hol, q1, q2, c3]))
      all_goals (try (first | (intro hg; simp_all; done) | (intro hg; simp [hg]; done) | exact of_decide_eq_true rfl | (cases h; done)))
      all_goals (try (first | omega | (simp [maxLen]; omega)))
      refine end161 (m := c) hi hc hz ho hadd (.inr (.inr h3)) (by simp [hd, he] <;> omega) (by omega) (Sub.view (V9 1) (by simp [L161]) rfl ?_ ?_) (by intro; omega)
      · simp [viewH, viewP, viewL, viewO, L161, V9, keptOf, find, digD]
      · rw [wrap_succ (by omega)]
        simp [viewT, viewP, L161, V9, keptOf, St.ev, find, PVal.toD, subD_refl, disj, PVal.ids]

end Go.Proofs.Ytdodgbhodkcckaa.Pv
