/- Walks of an entity's part in cycles: the statement of how many items are offered. -/
import Derived.Test.YtdodgbhodkcckaaPon
set_option linter.unusedVariables false
set_option linter.unusedSimpArgs false
set_option autoImplicit false
set_option maxRecDepth 100000
namespace Go.Proofs.Ytdodgbhodkcckaa.Pv
open Go Go.RowKit

def mkI (k : Nat) : Item := ⟨0, (k : Int) + 1, 1, 0, 5, 0, 3, 0⟩
def mkL (n : Nat) : List Item := (List.range n).map mkI
theorem mk_succ (n : Nat) : mkL (n + 1) = mkL n ++ [mkI n] := by simp [mkL, List.range_succ]
theorem mk_len (n : Nat) : (mkL n).length = n := by simp [mkL]
theorem mk_fine {k : Nat} (h : k < 1000) : Fine (mkI k) := by
  unfold mkI
  exact ⟨by simp only; omega, by simp only; omega, by simp only; omega, by simp only; omega, by simp only; omega, by simp only; omega, by simp only; omega, by simp only; omega, by simp only; omega, fun h => absurd rfl h, fun _ => by simp only; omega⟩
theorem mk_key (k : Nat) : kI (mkI k) = (k : Int) + 1 := by unfold kI keyN mkI; simp only; omega
theorem mk_mem {n : Nat} {x : Item} (h : x ∈ mkL n) : ∃ k, k < n ∧ x = mkI k := by
  unfold mkL at h
  obtain ⟨k, hk, rfl⟩ := List.mem_map.1 h
  exact ⟨k, List.mem_range.1 hk, rfl⟩
theorem enter_end {l : List Item} {x : Item} (h : ∀ y ∈ l, kI y < kI x) : enter kI x l = l ++ [x] := by
  have hb : below kI l (kI x) = l := by
    have key : ∀ m : List Item, (∀ y ∈ m, kI y < kI x) → m.takeWhile (fun y => decide (kI y < kI x)) = m := by
      intro m
      induction m with
      | nil => intro _; rfl
      | cons z m ih => intro hm; rw [List.takeWhile_cons, if_pos (by simpa using hm z (by simp)), ih fun y hy => hm y (by simp [hy])]
    exact key l h
  have ha : above kI l (kI x) = [] := by
    have := split_at (k := kI) l (kI x)
    rw [hb] at this
    have this2 : l ++ above kI l (kI x) = l ++ [] := by simpa using this
    exact List.append_cancel_left this2
  unfold enter rest
  rw [hb, ha]
theorem mk_good : ∀ n : Nat, n ≤ 1000 → Good 0 (mkL n)
  | 0, _ => Good.nil 0
  | n + 1, h => by
    rw [mk_succ]
    have hg := mk_good n (by omega)
    have hl : ∀ y ∈ mkL n, kI y < kI (mkI n) := fun y hy => by
      obtain ⟨k, hk, rfl⟩ := mk_mem hy
      rw [mk_key, mk_key]; omega
    rw [← enter_end hl]
    exact hg.enter (mk_fine (by omega)) (.inl rfl)
theorem mk_puts : ∀ n : Nat, n ≤ 1000 → (fillS (mkL n)).1 = mkL n
  | 0, _ => rfl
  | n + 1, h => by
    have ih := mk_puts n (by omega)
    rw [fill_puts] at ih ⊢
    have hl : ∀ y ∈ mkL n, kI y < kI (mkI n) := fun y hy => by
      obtain ⟨k, hk, rfl⟩ := mk_mem hy
      rw [mk_key, mk_key]; omega
    have e : putsI 0 (mkL (n + 1)) = Pv.putS 0 (putsI 0 (mkL n)) (mkI n) := by
      rw [mk_succ]; unfold putsI; rw [List.foldl_append]; rfl
    rw [e, ih]
    have hg := mk_good n (by omega)
    have h0 : putE 0 (mkL n) (mkI n) = 0 := putE_zero.2 ⟨mk_fine (by omega), .inl rfl, .inr (by rw [mk_len]; omega)⟩
    unfold Pv.putS
    rw [if_pos h0, put_enter hg (mk_fine (k := n) (by omega)).num, enter_end hl, mk_succ]
theorem mk_free (n : Nat) : keepF (notFree 0) (mkL n) = mkL n := by
  unfold keepF
  rw [List.filter_eq_self]
  intro x hx
  obtain ⟨k, _, rfl⟩ := mk_mem hx
  rfl
theorem mk_ask (n : Nat) : askL 0 (mkL n) = (mkL n).take 128 := by unfold askL; rw [mk_free]
theorem mk_drop {n : Nat} {x : Item} (hn : n ≤ 1000) (h : x ∈ (mkL n).drop 128) : x ∉ (mkL n).take 128 := fun h2 => by
  have hr := (mk_good n hn).rise
  rw [← List.take_append_drop 128 (mkL n)] at hr
  have := (Rising.append hr).2.2 x h2 x h
  omega
theorem mk_fold {n : Nat} (hn : n ≤ 1000) : foldB (withC 1) (askL 0 (mkL n)) (mkL n) = ((mkL n).take 128).map (withC 1) ++ (mkL n).drop 128 := by
  rw [(ask_map (mk_good n hn) (c := 0) (n := 1) (by omega)).1, mk_ask]
  conv => lhs; arg 2; rw [← List.take_append_drop 128 (mkL n)]
  rw [List.map_append]
  congr 1
  · refine List.map_congr_left fun x hx => ?_
    rw [if_pos hx]
  · conv => rhs; rw [← List.map_id ((mkL n).drop 128)]
    refine List.map_congr_left fun x hx => ?_
    rw [if_neg (mk_drop hn hx)]; rfl
theorem mk_held {n : Nat} (hn : n ≤ 1000) : (keepF (notHeld 1) (foldB (withC 1) (askL 0 (mkL n)) (mkL n))).length = min n 128 := by
  rw [mk_fold hn]
  unfold keepF
  rw [List.filter_append, List.filter_eq_self.2, List.filter_eq_nil_iff.2]
  · simp [mk_len]; omega
  · intro x hx
    obtain ⟨k, _, rfl⟩ := mk_mem (List.mem_of_mem_drop hx)
    simp [notHeld, mkI]
  · intro x hx
    obtain ⟨y, hy, rfl⟩ := List.mem_map.1 hx
    obtain ⟨k, _, rfl⟩ := mk_mem (List.mem_of_mem_take hy)
    rfl
theorem mk_left {n : Nat} (hn : n ≤ 1000) : (keepF (notFree 0) (foldB (withC 1) (askL 0 (mkL n)) (mkL n))).length = n - 128 := by
  rw [mk_fold hn]
  unfold keepF
  rw [List.filter_append, List.filter_eq_nil_iff.2, List.filter_eq_self.2]
  · simp [mk_len]
  · intro x hx
    obtain ⟨k, _, rfl⟩ := mk_mem (List.mem_of_mem_drop hx)
    rfl
  · intro x hx
    obtain ⟨y, hy, rfl⟩ := List.mem_map.1 hx
    obtain ⟨k, _, rfl⟩ := mk_mem (List.mem_of_mem_take hy)
    simp [notFree, withC, mkI]
theorem mk_vote {n : Nat} : voteR ⟨0, 2, []⟩ (mkL n) vm1 2 = ⟨0, ⟨0, 2, [⟨1, 0, 1, []⟩]⟩, foldB (withC 1) (askL 0 (mkL n)) (mkL n), some (saidD 2 (offerM 1 ((askL 0 (mkL n)).map lineOf)))⟩ := by
  have e : isC [] 1 = false := by kernel_rfl
  have e2 : putC [] ⟨1, 0, 1, []⟩ = [⟨1, 0, 1, []⟩] := by kernel_rfl
  unfold voteR voteK gateV askR askBad vm1 VMsg.msg
  simp only
  rw [e, e2]
  rfl
theorem items_snoc (l : List Item) (x : Item) : itemsD (l ++ [x]) = itemsD l ++ [.agg x.cells] := by simp [itemsD]
def L23 (n i : Nat) : St := ⟨[(21, pint .i64 i), (20, pint .i64 n), (3, .own 9 0 8 0 i), (0, pint .i64 n)], [(9, .arr 70 8 0 none (itemsD (mkL i)))], 56⟩
set_option maxHeartbeats 32000000 in
theorem run23 (n : Int) : Runs Try.prog 23 [pint .i64 n] [] (pbool true) [] := by
  have r67 := run67
  cases hc : (decide (n < 120) || decide (140 < n)) with
  | true =>
    refine Runs.of (kit Try.prog) Try.func23 rfl rfl (by rw [Try.ntmps23]; exact of_decide_eq_true rfl) ?_; rw [Try.ntmps23, Try.results23]
    repeat' (first
      | ((first | refine Pwp.step (kit _) rfl fun K hK => ?_ | refine Pwp.last (kit _) rfl fun K hK => ?_ | refine Pwp.stepD (kit _) rfl rfl fun K hK => ?_ | refine Pwp.lastD (kit _) rfl rfl fun K hK => ?_); simp (dsimp := false) only [↓opsP_nil, ↓opsP_cons, ↓opsD_nil, ↓opsD_cons, ↓opP, ↓stepP, ↓stepG, go_sem, hc, Bool.not_true])
      | (refine Pwp.seq ?_)
      | (refine Pwp.block ?_)
      | (refine Pwp.exit ?_; simp only [thenS, blockS, if_true, if_false, reduceIte, Nat.reduceEqDiff, Nat.add_one_ne_zero, reduceCtorEq])
      | (refine Pwp.skip ?_; simp only [thenS, blockS])
      | (refine Pwp.cond rfl True.intro (fun h => ?_) (fun h => ?_) <;> (try (cases h; done)) <;> (try simp only [h]))
      | (refine Pwp.ret ?_; try simp only [thenS, blockS])
      | (refine hK _ ?_; clear hK K)
      | (refine hK _ _ rfl ?_; clear hK K)
      | (refine CallK.toD (ds := []) rfl (r67) rfl ?_)
      | (refine CallG.off ?_)
      | (with_reducible refine Or.inl ?_)
      | (simp only [thenS, blockS])
      | (with_reducible refine And.intro ?_ ?_)
      | (with_reducible exact True.intro)
      | (simp (dsimp := false) only [↓opsP_nil, ↓opsP_cons, ↓opsD_nil, ↓opsD_cons, ↓opP, ↓stepP, ↓stepG, go_sem, hc, Bool.not_true]))
    all_goals (try (first | (intro hg; simp [hg]; done) | exact of_decide_eq_true rfl | (cases h; done)))
    (refine Fin.data (.inr rfl) (by simp (dsimp := false) only [↓opsP_nil, ↓opsP_cons, ↓opsD_nil, ↓opsD_cons, ↓opP, ↓stepP, ↓stepG, go_sem, resL]; rfl) (by simp only [and_self]) (by simp (dsimp := false) only [↓opsP_nil, ↓opsP_cons, ↓opsD_nil, ↓opsD_cons, ↓opP, ↓stepP, ↓stepG, go_sem, resP, Nat.le_refl, List.take_length]; try rfl) ?_)
    exact subD_refl _
  | false =>
    have hc2 := hc
    simp only [Bool.or_eq_false_iff, decide_eq_false_iff_not] at hc2
    obtain ⟨k, rfl⟩ := Int.eq_ofNat_of_zero_le (show 0 ≤ n by omega)
    have hk : k ≤ 140 := by omega
    have hk2 : 120 ≤ k := by omega
    refine Runs.of (kit Try.prog) Try.func23 rfl rfl (by rw [Try.ntmps23]; exact of_decide_eq_true rfl) ?_; rw [Try.ntmps23, Try.results23]
    repeat' (first
      | ((first | refine Pwp.step (kit _) rfl fun K hK => ?_ | refine Pwp.last (kit _) rfl fun K hK => ?_ | refine Pwp.stepD (kit _) rfl rfl fun K hK => ?_ | refine Pwp.lastD (kit _) rfl rfl fun K hK => ?_); simp (dsimp := false) only [↓opsP_nil, ↓opsP_cons, ↓opsD_nil, ↓opsD_cons, ↓opP, ↓stepP, ↓stepG, go_sem, hc, Bool.not_true])
      | (refine Pwp.seq ?_)
      | (refine Pwp.block ?_)
      | (refine Pwp.exit ?_; simp only [thenS, blockS, if_true, if_false, reduceIte, Nat.reduceEqDiff, Nat.add_one_ne_zero, reduceCtorEq])
      | (refine Pwp.skip ?_; simp only [thenS, blockS])
      | (refine Pwp.cond rfl True.intro (fun h => ?_) (fun h => ?_) <;> (try (cases h; done)) <;> (try simp only [h]))
      | (refine Pwp.ret ?_; try simp only [thenS, blockS])
      | (refine hK _ ?_; clear hK K)
      | (refine hK _ _ rfl ?_; clear hK K)
      | (refine CallK.toD (ds := []) rfl (r67) rfl ?_)
      | (refine CallG.off ?_)
      | (with_reducible refine Or.inl ?_)
      | (simp only [thenS, blockS])
      | (with_reducible refine And.intro ?_ ?_)
      | (with_reducible exact True.intro)
      | (simp (dsimp := false) only [↓opsP_nil, ↓opsP_cons, ↓opsD_nil, ↓opsD_cons, ↓opP, ↓stepP, ↓stepG, go_sem, hc, Bool.not_true]))
    all_goals (try (first | (intro hg; simp [hg]; done) | exact of_decide_eq_true rfl | (cases h; done)))
    refine Pwp.range k (S := L23 k) (Sub.view (VN 9) (by simp [L23]) rfl (by simp [viewH, viewP, viewL, viewO, V0, V9, V9n, VR, VN, keptOf, find, PVal.toD, subD, subL, subV, subD_refl, viewL_ds, disj, PVal.ids, pnil, List.range, List.range.loop, L23, mkL, itemsD]) (by simp [viewT, St.ev, viewH, viewP, viewL, viewO, V0, V9, V9n, VR, VN, keptOf, find, PVal.toD, subD, subL, subV, subD_refl, viewL_ds, disj, PVal.ids, pnil, List.range, List.range.loop, L23, mkL, itemsD])) (fun i hi => ?_) ?_
    · have c1 := dlt hi
      have w1 := wrap_succ (i := i) (by omega)
      have hs : itemsD (mkL (i + 1)) = itemsD (mkL i) ++ [.agg [I64 0, I64 ((i : Int) + 1), I64 1, I64 0, I64 5, I64 0, I64 3, I64 0]] := by rw [mk_succ, items_snoc]; rfl
      have hln : (itemsD (mkL i)).length = i := by rw [items_len, mk_len]
      have htk : (itemsD (mkL i)).take i = itemsD (mkL i) := List.take_of_length_le (by omega)
      unfold L23
      repeat' (first
        | ((first | refine Pwp.step (kit _) rfl fun K hK => ?_ | refine Pwp.last (kit _) rfl fun K hK => ?_ | refine Pwp.stepD (kit _) rfl rfl fun K hK => ?_ | refine Pwp.lastD (kit _) rfl rfl fun K hK => ?_); simp (dsimp := false) only [↓opsP_nil, ↓opsP_cons, ↓opsD_nil, ↓opsD_cons, ↓opP, ↓stepP, ↓stepG, go_sem, c1, w1, hln, htk])
        | (refine Pwp.seq ?_)
        | (refine Pwp.block ?_)
        | (refine Pwp.exit ?_; simp only [thenS, blockS, if_true, if_false, reduceIte, Nat.reduceEqDiff, Nat.add_one_ne_zero, reduceCtorEq])
        | (refine Pwp.skip ?_; simp only [thenS, blockS])
        | (refine Pwp.cond rfl True.intro (fun h => ?_) (fun h => ?_) <;> (try (cases h; done)) <;> (try simp only [h]))
        | (refine Pwp.ret ?_; try simp only [thenS, blockS])
        | (refine hK _ ?_; clear hK K)
        | (refine hK _ _ rfl ?_; clear hK K)
        | (refine CallG.off ?_)
        | (with_reducible refine Or.inl ?_)
        | (simp only [thenS, blockS])
        | (with_reducible refine And.intro ?_ ?_)
        | (with_reducible exact True.intro)
        | (simp (dsimp := false) only [↓opsP_nil, ↓opsP_cons, ↓opsD_nil, ↓opsD_cons, ↓opP, ↓stepP, ↓stepG, go_sem, c1, w1, hln, htk]))
      all_goals (try (first | (intro hg; simp [hg]; done) | exact of_decide_eq_true rfl | (cases h; done)))
      all_goals (try (first | omega | (simp [maxLen]; omega) | (simp [hln]; done)))
      exact Sub.view (VR 9 1) (by simp [L23]) rfl (by simp [viewH, viewP, viewL, viewO, V0, V9, V9n, VR, VN, keptOf, find, PVal.toD, subD, subL, subV, subD_refl, viewL_ds, disj, PVal.ids, pnil, List.range, List.range.loop, L23, hs]) (by simp [viewT, St.ev, viewH, viewP, viewL, viewO, V0, V9, V9n, VR, VN, keptOf, find, PVal.toD, subD, subL, subV, subD_refl, viewL_ds, disj, PVal.ids, pnil, List.range, List.range.loop, L23, hs])
    · have c1 := dge (Nat.le_refl k)
      have hln : (itemsD (mkL k)).length = k := by rw [items_len, mk_len]
      have htk : (itemsD (mkL k)).take k = itemsD (mkL k) := List.take_of_length_le (by omega)
      have r69 := run69 (mkL k) (by rw [mk_len]; omega)
      rw [mk_puts k (by omega)] at r69
      have r70 := run70 ⟨0, 2, []⟩ 0 (mkL k) [] vm1 2 (mk_good k (by omega)) (by rw [mk_len]; omega) (by simp) (by simp) (by simp [vm1]) (by simp [vm1])
      rw [mk_vote] at r70
      have hll : (foldB (withC 1) (askL 0 (mkL k)) (mkL k)).length = k := by rw [foldB_len (mk_good k (by omega)) (askL_sub 0 _) (withC_key 1) (ask_ok (mk_good k (by omega)) (by omega)), mk_len]
      have r77 := run77 0 1 (foldB (withC 1) (askL 0 (mkL k)) (mkL k)) [] (by omega)
      have r78 := run78 0 0 (foldB (withC 1) (askL 0 (mkL k)) (mkL k)) [] (by omega)
      have h77 := mk_held (n := k) (by omega)
      have h78 := mk_left (n := k) (by omega)
      have hal : (linesD ((askL 0 (mkL k)).map lineOf)).length = min k 128 := by rw [lines_len, List.length_map, mk_ask, List.length_take, mk_len]; omega
      have w2 : IntKind.wrap .i64 ((k : Int) - 128) = (k : Int) - 128 := wrap_of (by omega) (by omega)
      have e1 : minI (k : Int) 128 = ((min k 128 : Nat) : Int) := by unfold minI; split <;> omega
      have e2 : maxI 0 ((k : Int) - 128) = ((k - 128 : Nat) : Int) := by unfold maxI; split <;> omega
      have q1 : (itemsD (keepF (notHeld 1) (foldB (withC 1) (askL 0 (mkL k)) (mkL k)))).length = min k 128 := by rw [items_len, h77]
      have q2 : (itemsD (keepF (notFree 0) (foldB (withC 1) (askL 0 (mkL k)) (mkL k)))).length = k - 128 := by rw [items_len, h78]
      generalize itemsD (keepF (notHeld 1) (foldB (withC 1) (askL 0 (mkL k)) (mkL k))) = qa at *
      generalize itemsD (keepF (notFree 0) (foldB (withC 1) (askL 0 (mkL k)) (mkL k))) = qb at *
      generalize foldB (withC 1) (askL 0 (mkL k)) (mkL k) = lb at *
      simp only [vOutD, VP.d, VP.cells, bookD, VMsg.msg, vm1, Msg.d, Msg.cells, saidD, offerM, Option.toList, rdD, RDesk.d, RDesk.cells] at r69 r70 r77 r78
      unfold L23
      repeat' (first
        | ((first | refine Pwp.step (kit _) rfl fun K hK => ?_ | refine Pwp.last (kit _) rfl fun K hK => ?_ | refine Pwp.stepD (kit _) rfl rfl fun K hK => ?_ | refine Pwp.lastD (kit _) rfl rfl fun K hK => ?_); simp (dsimp := false) only [↓opsP_nil, ↓opsP_cons, ↓opsD_nil, ↓opsD_cons, ↓opP, ↓stepP, ↓stepG, go_sem, c1, hln, htk, w2, e1, e2, q1, q2, hal, beq_self_eq_true, Bool.and_self])
        | (refine Pwp.seq ?_)
        | (refine Pwp.block ?_)
        | (refine Pwp.exit ?_; simp only [thenS, blockS, if_true, if_false, reduceIte, Nat.reduceEqDiff, Nat.add_one_ne_zero, reduceCtorEq])
        | (refine Pwp.skip ?_; simp only [thenS, blockS])
        | (refine Pwp.cond rfl True.intro (fun h => ?_) (fun h => ?_) <;> (try (cases h; done)) <;> (try simp only [h]))
        | (refine Pwp.ret ?_; try simp only [thenS, blockS])
        | (refine hK _ ?_; clear hK K)
        | (refine hK _ _ rfl ?_; clear hK K)
        | (refine CallK.giveO rfl hln.symm r69 (by simp) ?_)
        | (refine CallK.giveS (ds := [.agg [I64 0, I64 2, nilD], .agg [I64 0, .slc 8 (itemsD (mkL k)), .slc 3 []], .agg [I64 10, I64 0, I64 0, I64 0, I64 0, I64 0, I64 1, I64 0, .v (.bool false), nilD, nilD], I64 2]) (es := [.agg [I64 0, I64 2, .slc 4 (partsL [])], .agg [I64 0, .slc 8 (itemsD (mkL k)), .slc 3 []], .agg [I64 10, I64 0, I64 0, I64 0, I64 0, I64 0, I64 1, I64 0, .v (.bool false), .slc 4 (linesD []), .slc 1 (List.map I64 [])], I64 2]) rfl (by simp [subL, subD, subV, subD_refl, linesD, partsL]) r70 (by simp) ?_)
        | (refine CallG.toI (ds := [.agg [I64 0, .slc 8 (itemsD lb), .slc 3 []], I64 1]) rfl rfl r77 ?_ ?_)
        | (refine CallG.toI (ds := [.agg [I64 0, .slc 8 (itemsD lb), .slc 3 []], I64 0]) rfl rfl r78 ?_ ?_)
        | (refine CallG.off ?_)
        | (with_reducible refine Or.inl ?_)
        | (simp only [thenS, blockS])
        | (with_reducible refine And.intro ?_ ?_)
        | (with_reducible exact True.intro)
        | (simp (dsimp := false) only [↓opsP_nil, ↓opsP_cons, ↓opsD_nil, ↓opsD_cons, ↓opP, ↓stepP, ↓stepG, go_sem, c1, hln, htk, w2, e1, e2, q1, q2, hal, beq_self_eq_true, Bool.and_self]))
      all_goals (try (first | (intro hg; simp [hg]; done) | exact of_decide_eq_true rfl | (cases h; done)))
      (refine Fin.data (.inr rfl) (by simp (dsimp := false) only [↓opsP_nil, ↓opsP_cons, ↓opsD_nil, ↓opsD_cons, ↓opP, ↓stepP, ↓stepG, go_sem, resL]; rfl) (by simp only [and_self]) (by simp (dsimp := false) only [↓opsP_nil, ↓opsP_cons, ↓opsD_nil, ↓opsD_cons, ↓opP, ↓stepP, ↓stepG, go_sem, resP, Nat.le_refl, List.take_length]; try rfl) ?_)
      exact subD_refl _

end Go.Proofs.Ytdodgbhodkcckaa.Pv
