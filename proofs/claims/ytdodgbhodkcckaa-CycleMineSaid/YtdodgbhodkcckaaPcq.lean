/- Walks of cycles: nets of lines that one has oneself. -/
import Derived.Test.YtdodgbhodkcckaaPcd
import Derived.Test.YtdodgbhodkcckaaPci
set_option linter.unusedVariables false
set_option linter.unusedSimpArgs false
set_option autoImplicit false
set_option maxRecDepth 100000
namespace Go.Proofs.Ytdodgbhodkcckaa.Pv
open Go Go.RowKit

def ob0 (els : List D) : Nat × PObj := (0, .arr 142 4 0 none els)
def L80b (N : Nat) (l : List Line) (els : List D) (v : Nat → Nat) (i : Nat) : St := ⟨[(30, pint .i64 i), (29, pint .i64 l.length), (28, .own 0 0 4 0 l.length), (7, .own 65 0 1 0 N), (0, pint .i64 N)], rowsH v (flowsT l i) N ++ [(65, .box (cellsR v (flowsT l i) N)), (0, .arr 142 4 0 none els)], 88⟩
def L80d (N : Nat) (l : List Line) (els : List D) (i : Nat) : St := ⟨[(68, pint .i64 i), (67, pint .i64 N), (10, .own 93 0 1 0 N), (7, .own 65 0 1 0 N)], [(65, .box (dataR (fun j => flows j l) N)), (93, .arr 2 1 0 none ((outsP N i l).map I64)), (0, .arr 142 4 0 none els)], 264⟩
theorem find_rows0 {v : Nat → Nat} {xs : Nat → List Int} {n : Nat} (l : List (Nat × PObj)) : find 0 (rowsH v xs n ++ l) = find 0 l := find_rowsR l fun j hj => by omega
theorem viewH_80b {s : St} {kept : List Nat} {v : Nat → Nat} {xs : Nat → List Int} {n : Nat} {els : List D} (hn : n ≤ 8) (h : ∃ l, s.heap = rowsH v xs n ++ l ∧ find 65 l = some (.box (cellsR v xs n)) ∧ find 0 l = some (.arr 142 4 0 none els)) : viewH V0 s kept 88 (rowsH v xs n ++ [(65, .box (cellsR v xs n)), (0, .arr 142 4 0 none els)]) := by
  obtain ⟨l, h1, h2, h3⟩ := h
  refine viewH_append (viewH_rows (by decide) fun j hj => ?_) ?_
  · have := List.mem_range.1 hj
    exact ⟨by omega, by rw [h1]; exact find_rowsH this l⟩
  · simp only [viewH, V0, List.contains_nil, Bool.false_eq_true, if_false]
    refine ⟨⟨by decide, ?_⟩, ⟨by decide, ?_⟩, trivial⟩
    · rw [h1, find_rowsN hn (by decide), h2]
      simp only [viewO, true_and]
      exact viewL_cells (by decide) fun j hj => by have := List.mem_range.1 hj; omega
    · rw [h1, find_rows0, h3]
      simp [viewO]
theorem viewL_freezeB {h : List (Nat × PObj)} {kept : List Nat} {N : Nat} {v : Nat → Nat} {xs : Nat → List Int} (hk : ∀ k ∈ kept, 28 ≤ k ∨ k < 20) : ∀ {js : List Nat}, (∀ j ∈ js, j < 8 ∧ find (20 + j) h = some (.arr 2 1 (v j) none ((xs j).map I64))) → viewL V0 h kept N (js.map (cellR v xs)) (js.map fun j => .d (.slc 1 ((xs j).map I64)))
  | [], _ => by simp [viewL]
  | j :: js, hj => by
    obtain ⟨h1, h2⟩ := hj j (by simp)
    simp only [List.map_cons, viewL]
    refine ⟨?_, viewL_freezeB hk fun i hi => hj i (by simp [hi])⟩
    simp only [cellR, viewP, PVal.toD, h2]
    have hd : disj [20 + j] kept = true := by
      simp only [disj, List.all_cons, List.all_nil, Bool.and_true, Bool.not_eq_true', List.contains_eq_mem]
      simp only [decide_eq_false_iff_not]
      intro hm
      have := hk _ hm; omega
    rw [if_pos ⟨trivial, trivial, by simp⟩, show List.take (xs j).length (List.drop 0 (List.map I64 (xs j))) = List.map I64 (xs j) from List.take_of_length_le (by simp)]
    exact ⟨subD_refl _, hd⟩
theorem viewH_80d {s : St} {v : Nat → Nat} {xs : Nat → List Int} {n : Nat} {o o' : PObj} {els : List D} (hn : n ≤ 8) (h : ∃ l, s.heap = rowsH v xs n ++ l ∧ find 65 l = some (.box (cellsR v xs n)) ∧ find 93 l = some o' ∧ find 0 l = some (.arr 142 4 0 none els)) (ho : ∀ kept, viewO V0 s.heap kept 264 93 o' o) :
    viewH V0 s [65, 93, 0] 264 [(65, .box (dataR xs n)), (93, o), (0, .arr 142 4 0 none els)] := by
  obtain ⟨l, h1, h2, h3, h4⟩ := h
  simp only [viewH, V0, List.contains_nil, Bool.false_eq_true, if_false]
  refine ⟨⟨by decide, ?_⟩, ⟨by decide, ?_⟩, ⟨by decide, ?_⟩, trivial⟩
  · rw [h1, find_rowsN hn (by decide), h2]
    simp only [viewO, true_and]
    refine viewL_freezeB (by simp) fun j hj => ?_
    have := List.mem_range.1 hj
    exact ⟨by omega, find_rowsH this l⟩
  · have := ho [65, 93, 0]
    rw [h1, find_rowsN hn (by decide), h3, ← h1]
    exact this
  · rw [h1, find_rows0, h4]
    simp [viewO]
theorem take_get {els ys : List D} {n i : Nat} {d : D} (h : els.take n = ys) (hd : ys[i]? = some d) : els[i]? = some d := by
  rw [← h, List.getElem?_take] at hd
  split at hd
  · exact hd
  · cases hd
set_option maxHeartbeats 16000000 in
theorem run80o (N : Nat) (hN : N ≤ 8) (l : List Line) (els : List D) (hl : l.length ≤ 1000) (he : fitV N none l = 0) (hel : els.take l.length = linesD l) (hell : l.length ≤ els.length) : Runs Try.prog 80 [pint .i64 N, .own 0 0 4 0 l.length] [(0, .arr 142 4 0 none els)] (.d (.tup [.slc 1 ((outs N l).map I64), I64 0])) [(0, .arr 142 4 0 none els)] := by
  have hlen := lines_len l
  have r82 := run82 N l hl
  rw [he] at r82
  have c0 : (decide ((N : Int) < 0) || decide (8 < (N : Int))) = false := by
    rw [Bool.or_eq_false_iff, decide_eq_false_iff_not, decide_eq_false_iff_not]; omega
  have hok := fit_ok he
  refine Runs.of (kit Try.prog) Try.func80 rfl rfl (by rw [Try.ntmps80]; exact of_decide_eq_true rfl) ?_; rw [Try.ntmps80, Try.results80]
  repeat' (first
    | ((first | refine Pwp.step (kit _) rfl fun K hK => ?_ | refine Pwp.last (kit _) rfl fun K hK => ?_ | refine Pwp.stepD (kit _) rfl rfl fun K hK => ?_ | refine Pwp.lastD (kit _) rfl rfl fun K hK => ?_); simp (dsimp := false) only [↓opsP_nil, ↓opsP_cons, ↓opsD_nil, ↓opsD_cons, footOf, ↓opP, ↓stepP, ↓stepG, go_sem, reduceIte, Nat.reduceAdd, Nat.reduceMul, Nat.reduceEqDiff, Nat.reduceLT, Nat.reduceLeDiff, Nat.reduceSub, reduceCtorEq, Int.reduceToNat, Int.reduceAdd, Int.reduceSub, Int.reduceLT, Int.reduceLE, Int.reduceNeg, Int.reduceBEq, Int.reduceBNe, true_or, c0, hlen, bne_self_eq_false])
    | (refine Pwp.seq ?_)
    | (refine Pwp.block ?_)
    | (refine Pwp.exit ?_; simp only [thenS, blockS, if_true, if_false, reduceIte, Nat.reduceEqDiff, Nat.add_one_ne_zero, reduceCtorEq])
    | (refine Pwp.skip ?_; simp only [thenS, blockS])
    | (refine Pwp.cond rfl True.intro (fun h => ?_) (fun h => ?_) <;> (try (cases h; done)) <;> (try simp only [h]))
    | (refine Pwp.ret ?_; try simp only [thenS, blockS])
    | (refine hK _ ?_; clear hK K)
    | (refine hK _ _ rfl ?_; clear hK K)
    | (refine CallK.toD (ds := [I64 N, .slc 4 (linesD l)]) (by simp [toDL, PVal.toD, find, hel, hell]) r82 rfl ?_)
    | (refine Or.inr (hK _ ?_))
    | (refine CallG.off ?_)
    | (with_reducible refine Or.inl ?_)
    | (simp only [thenS, blockS])
    | (with_reducible refine And.intro ?_ ?_)
    | (with_reducible exact True.intro)
    | (simp (dsimp := false) only [↓opsP_nil, ↓opsP_cons, ↓opsD_nil, ↓opsD_cons, footOf, ↓opP, ↓stepP, ↓stepG, go_sem, reduceIte, Nat.reduceAdd, Nat.reduceMul, Nat.reduceEqDiff, Nat.reduceLT, Nat.reduceLeDiff, Nat.reduceSub, reduceCtorEq, Int.reduceToNat, Int.reduceAdd, Int.reduceSub, Int.reduceLT, Int.reduceLE, Int.reduceNeg, Int.reduceBEq, Int.reduceBNe, true_or, c0, hlen, bne_self_eq_false]))
  all_goals (try (first | (intro hg; simp [hg]; done) | exact of_decide_eq_true rfl | (cases h; done)))
  all_goals (try (first | (simp; done) | (simp [maxLen]; omega) | omega))
  have h8 : N = 0 ∨ N = 1 ∨ N = 2 ∨ N = 3 ∨ N = 4 ∨ N = 5 ∨ N = 6 ∨ N = 7 ∨ N = 8 := by omega
  refine Pwp.rangeI l.length (fun i s => ∃ v, s = L80b N l els v i) (s0 := L80b N l els (fun _ => 0) 0) (by
    clear hok he r82 c0
    rcases h8 with rfl | rfl | rfl | rfl | rfl | rfl | rfl | rfl | rfl
    · exact Sub.view (VT 0) (by simp [L80b]) rfl (by simp [viewH, viewP, viewL, viewO, V0, V9, V9n, VR, VN, keptOf, find, PVal.toD, subD, subL, subV, subD_refl, viewL_ds, disj, PVal.ids, pnil, List.range, List.range.loop, L80b, VT, rowsH, rowsF, rowO, cellsR, cellR, flowsT, flows, hlen, List.replicate]) (by simp [viewT, St.ev, viewH, viewP, viewL, viewO, V0, V9, V9n, VR, VN, keptOf, find, PVal.toD, subD, subL, subV, subD_refl, viewL_ds, disj, PVal.ids, pnil, List.range, List.range.loop, L80b, VT, rowsH, rowsF, rowO, cellsR, cellR, flowsT, flows, hlen, List.replicate])
    · exact Sub.view (VT 1) (by simp [L80b]) rfl (by simp [viewH, viewP, viewL, viewO, V0, V9, V9n, VR, VN, keptOf, find, PVal.toD, subD, subL, subV, subD_refl, viewL_ds, disj, PVal.ids, pnil, List.range, List.range.loop, L80b, VT, rowsH, rowsF, rowO, cellsR, cellR, flowsT, flows, hlen, List.replicate]) (by simp [viewT, St.ev, viewH, viewP, viewL, viewO, V0, V9, V9n, VR, VN, keptOf, find, PVal.toD, subD, subL, subV, subD_refl, viewL_ds, disj, PVal.ids, pnil, List.range, List.range.loop, L80b, VT, rowsH, rowsF, rowO, cellsR, cellR, flowsT, flows, hlen, List.replicate])
    · exact Sub.view (VT 2) (by simp [L80b]) rfl (by simp [viewH, viewP, viewL, viewO, V0, V9, V9n, VR, VN, keptOf, find, PVal.toD, subD, subL, subV, subD_refl, viewL_ds, disj, PVal.ids, pnil, List.range, List.range.loop, L80b, VT, rowsH, rowsF, rowO, cellsR, cellR, flowsT, flows, hlen, List.replicate]) (by simp [viewT, St.ev, viewH, viewP, viewL, viewO, V0, V9, V9n, VR, VN, keptOf, find, PVal.toD, subD, subL, subV, subD_refl, viewL_ds, disj, PVal.ids, pnil, List.range, List.range.loop, L80b, VT, rowsH, rowsF, rowO, cellsR, cellR, flowsT, flows, hlen, List.replicate])
    · exact Sub.view (VT 3) (by simp [L80b]) rfl (by simp [viewH, viewP, viewL, viewO, V0, V9, V9n, VR, VN, keptOf, find, PVal.toD, subD, subL, subV, subD_refl, viewL_ds, disj, PVal.ids, pnil, List.range, List.range.loop, L80b, VT, rowsH, rowsF, rowO, cellsR, cellR, flowsT, flows, hlen, List.replicate]) (by simp [viewT, St.ev, viewH, viewP, viewL, viewO, V0, V9, V9n, VR, VN, keptOf, find, PVal.toD, subD, subL, subV, subD_refl, viewL_ds, disj, PVal.ids, pnil, List.range, List.range.loop, L80b, VT, rowsH, rowsF, rowO, cellsR, cellR, flowsT, flows, hlen, List.replicate])
    · exact Sub.view (VT 4) (by simp [L80b]) rfl (by simp [viewH, viewP, viewL, viewO, V0, V9, V9n, VR, VN, keptOf, find, PVal.toD, subD, subL, subV, subD_refl, viewL_ds, disj, PVal.ids, pnil, List.range, List.range.loop, L80b, VT, rowsH, rowsF, rowO, cellsR, cellR, flowsT, flows, hlen, List.replicate]) (by simp [viewT, St.ev, viewH, viewP, viewL, viewO, V0, V9, V9n, VR, VN, keptOf, find, PVal.toD, subD, subL, subV, subD_refl, viewL_ds, disj, PVal.ids, pnil, List.range, List.range.loop, L80b, VT, rowsH, rowsF, rowO, cellsR, cellR, flowsT, flows, hlen, List.replicate])
    · exact Sub.view (VT 5) (by simp [L80b]) rfl (by simp [viewH, viewP, viewL, viewO, V0, V9, V9n, VR, VN, keptOf, find, PVal.toD, subD, subL, subV, subD_refl, viewL_ds, disj, PVal.ids, pnil, List.range, List.range.loop, L80b, VT, rowsH, rowsF, rowO, cellsR, cellR, flowsT, flows, hlen, List.replicate]) (by simp [viewT, St.ev, viewH, viewP, viewL, viewO, V0, V9, V9n, VR, VN, keptOf, find, PVal.toD, subD, subL, subV, subD_refl, viewL_ds, disj, PVal.ids, pnil, List.range, List.range.loop, L80b, VT, rowsH, rowsF, rowO, cellsR, cellR, flowsT, flows, hlen, List.replicate])
    · exact Sub.view (VT 6) (by simp [L80b]) rfl (by simp [viewH, viewP, viewL, viewO, V0, V9, V9n, VR, VN, keptOf, find, PVal.toD, subD, subL, subV, subD_refl, viewL_ds, disj, PVal.ids, pnil, List.range, List.range.loop, L80b, VT, rowsH, rowsF, rowO, cellsR, cellR, flowsT, flows, hlen, List.replicate]) (by simp [viewT, St.ev, viewH, viewP, viewL, viewO, V0, V9, V9n, VR, VN, keptOf, find, PVal.toD, subD, subL, subV, subD_refl, viewL_ds, disj, PVal.ids, pnil, List.range, List.range.loop, L80b, VT, rowsH, rowsF, rowO, cellsR, cellR, flowsT, flows, hlen, List.replicate])
    · exact Sub.view (VT 7) (by simp [L80b]) rfl (by simp [viewH, viewP, viewL, viewO, V0, V9, V9n, VR, VN, keptOf, find, PVal.toD, subD, subL, subV, subD_refl, viewL_ds, disj, PVal.ids, pnil, List.range, List.range.loop, L80b, VT, rowsH, rowsF, rowO, cellsR, cellR, flowsT, flows, hlen, List.replicate]) (by simp [viewT, St.ev, viewH, viewP, viewL, viewO, V0, V9, V9n, VR, VN, keptOf, find, PVal.toD, subD, subL, subV, subD_refl, viewL_ds, disj, PVal.ids, pnil, List.range, List.range.loop, L80b, VT, rowsH, rowsF, rowO, cellsR, cellR, flowsT, flows, hlen, List.replicate])
    · exact Sub.view (VT 8) (by simp [L80b]) rfl (by simp [viewH, viewP, viewL, viewO, V0, V9, V9n, VR, VN, keptOf, find, PVal.toD, subD, subL, subV, subD_refl, viewL_ds, disj, PVal.ids, pnil, List.range, List.range.loop, L80b, VT, rowsH, rowsF, rowO, cellsR, cellR, flowsT, flows, hlen, List.replicate]) (by simp [viewT, St.ev, viewH, viewP, viewL, viewO, V0, V9, V9n, VR, VN, keptOf, find, PVal.toD, subD, subL, subV, subD_refl, viewL_ds, disj, PVal.ids, pnil, List.range, List.range.loop, L80b, VT, rowsH, rowsF, rowO, cellsR, cellR, flowsT, flows, hlen, List.replicate])) ⟨_, rfl⟩ ?_ ?_
  · rintro i st hi ⟨v, rfl⟩
    obtain ⟨x, hx, hm⟩ := at_lt hi
    have hg := take_get hel (lines_get hx)
    have c1 := dlt hi
    have w := wrap_succ (i := i) (by omega)
    have hxo := hok x hm
    obtain ⟨xs, xn, xb, xa⟩ := x
    obtain ⟨q1, q2, q3, q4, q5⟩ := hxo
    simp only at q1 q2 q3 q4 q5 hg
    obtain ⟨s, rfl⟩ : ∃ s : Nat, xs = (s : Int) := ⟨xs.toNat, by omega⟩
    obtain ⟨b, rfl⟩ : ∃ b : Nat, xb = (b : Int) := ⟨xb.toNat, by omega⟩
    have hsb : s ≠ b := fun h => q3 (by rw [h])
    have hs : s < N := by omega
    have hb : b < N := by omega
    have hs8 : s < 8 := by omega
    have hb8 : b < 8 := by omega
    have f0 := fun (v : Nat → Nat) (xs : Nat → List Int) (l : List (Nat × PObj)) => find_rows0 (v := v) (xs := xs) (n := N) l
    have fN := fun (v : Nat → Nat) (xs : Nat → List Int) (k : Nat) (h : 28 ≤ k) (l : List (Nat × PObj)) => find_rowsN (v := v) (xs := xs) hN h l
    have uN := fun (v : Nat → Nat) (xs : Nat → List Int) (k : Nat) (o : PObj) (h : 28 ≤ k) (l : List (Nat × PObj)) => upd_rowsN (v := v) (xs := xs) (o := o) hN h l
    have dN := fun (v : Nat → Nat) (xs : Nat → List Int) (k : Nat) (h : 28 ≤ k) (l : List (Nat × PObj)) => del_rowsN (v := v) (xs := xs) hN h l
    have fs := fun (v : Nat → Nat) (xs : Nat → List Int) (l : List (Nat × PObj)) => find_rowsH (v := v) (xs := xs) hs l
    have fb := fun (v : Nat → Nat) (xs : Nat → List Int) (l : List (Nat × PObj)) => find_rowsH (v := v) (xs := xs) hb l
    have us := fun (v : Nat → Nat) (xs : Nat → List Int) (w : Nat) (ys : List Int) (l : List (Nat × PObj)) => upd_rowsH (v := v) (xs := xs) (w := w) (ys := ys) hs l
    have ub := fun (v : Nat → Nat) (xs : Nat → List Int) (w : Nat) (ys : List Int) (l : List (Nat × PObj)) => upd_rowsH (v := v) (xs := xs) (w := w) (ys := ys) hb l
    have ds := fun (v : Nat → Nat) (xs : Nat → List Int) => cellsR_drop (v := v) (xs := xs) hs
    have db := fun (v : Nat → Nat) (xs : Nat → List Int) => cellsR_drop (v := v) (xs := xs) hb
    have cl := cellsR_len
    have ps := fun (v : Nat → Nat) (xs : Nat → List Int) (a : Int) => cellsR_put (v := v) (xs := xs) hs (v s + 1) (xs s ++ [a])
    have pb := fun (v : Nat → Nat) (xs : Nat → List Int) (a : Int) => cellsR_put (v := v) (xs := xs) hb (v b + 1) (xs b ++ [a])
    simp only [List.length_append, List.length_cons, List.length_nil, Nat.zero_add] at ps pb
    have ps2 : ∀ (v : Nat → Nat) (xs : Nat → List Int) (a : Int), List.take s (cellsR v xs N) ++ [PVal.own (20 + s) (v s + 1) 1 0 ((xs s).length + 1)] ++ List.drop (s + 1) (cellsR v xs N) = cellsR (atF v s (v s + 1)) (atF xs s (xs s ++ [a])) N := fun v xs a => by rw [List.append_assoc]; exact ps v xs a
    have pb2 : ∀ (v : Nat → Nat) (xs : Nat → List Int) (a : Int), List.take b (cellsR v xs N) ++ [PVal.own (20 + b) (v b + 1) 1 0 ((xs b).length + 1)] ++ List.drop (b + 1) (cellsR v xs N) = cellsR (atF v b (v b + 1)) (atF xs b (xs b ++ [a])) N := fun v xs a => by rw [List.append_assoc]; exact pb v xs a
    have psA := fun v xs => ps2 v xs xa
    have pbB : ∀ (v : Nat → Nat) (xs : Nat → List Int) (w : Nat) (ys : List Int), List.take b (cellsR (atF v s w) (atF xs s ys) N) ++ [PVal.own (20 + b) (v b + 1) 1 0 ((xs b).length + 1)] ++ List.drop (b + 1) (cellsR (atF v s w) (atF xs s ys) N) = cellsR (atF (atF v s w) b (v b + 1)) (atF (atF xs s ys) b (xs b ++ [-xa])) N := fun v xs w ys => by
      have := pb2 (atF v s w) (atF xs s ys) (-xa)
      simpa only [atF, if_neg (Ne.symm hsb)] using this
    have pbA := fun v xs => pb2 v xs (-xa)
    have ne1 : ∀ k, 28 ≤ k → (20 + s = k) = False := fun k hk => by simp; omega
    have ne2 : ∀ k, 28 ≤ k → (k = 20 + s) = False := fun k hk => by simp; omega
    have ne3 : ∀ k, 28 ≤ k → (20 + b = k) = False := fun k hk => by simp; omega
    have ne4 : ∀ k, 28 ≤ k → (k = 20 + b) = False := fun k hk => by simp; omega
    have nb1 : ∀ k, 28 ≤ k → (20 + s == k) = false := fun k hk => by simp; omega
    have nb2 : ∀ k, 28 ≤ k → (20 + b == k) = false := fun k hk => by simp; omega
    have htk : ∀ l : List Int, (l.map I64).take l.length = l.map I64 := fun l => List.take_of_length_le (by simp)
    have hms : ∀ (l : List Int) (a : Int), l.map I64 ++ [I64 a] = (l ++ [a]).map I64 := fun l a => (map_snoc l a).symm
    have hlm : ∀ l : List Int, (l.map I64).length = l.length := fun l => List.length_map ..
    have hng : IntKind.wrap .i64 (-xa) = -xa := wrap_of (by omega) (by omega)
    have hng0 : IntKind.wrap .i64 (0 - xa) = -xa := by rw [Int.zero_sub]; exact hng
    have at1 : ∀ (f : Nat → Nat) (x : Nat), atF f s x b = f b := fun f x => by simp [atF, Ne.symm hsb]
    have at2 : ∀ (f : Nat → List Int) (x : List Int), atF f s x b = f b := fun f x => by simp [atF, Ne.symm hsb]
    have hfs := flows_len (s : Int) (l.take i)
    have hfb := flows_len (b : Int) (l.take i)
    rw [List.length_take, Nat.min_eq_left (Nat.le_of_lt hi)] at hfs hfb
    have hlS : (flowsT l i s).length ≤ i := hfs
    have hlB : (flowsT l i b).length ≤ i := hfb
    have ts1 := Int.toNat_natCast s
    have tb1 := Int.toNat_natCast b
    have hnx : atF (atF (flowsT l i) s (flowsT l i s ++ [xa])) b (flowsT l i b ++ [-xa]) = flowsT l (i + 1) := by
      funext j
      have e := flows_take (j := (j : Int)) hx
      unfold flowsT
      rw [e]
      unfold atF flow1
      by_cases h1 : j = b
      · subst h1
        rw [if_pos rfl, if_neg (by simp only; omega), if_pos rfl]
      · rw [if_neg h1]
        by_cases h2 : j = s
        · subst h2
          rw [if_pos rfl, if_pos rfl]
        · rw [if_neg h2, if_neg (by simp only; omega), if_neg (by simp only; omega), List.append_nil]
    unfold L80b
    repeat' (first
      | ((first | refine Pwp.step (kit _) rfl fun K hK => ?_ | refine Pwp.last (kit _) rfl fun K hK => ?_ | refine Pwp.stepD (kit _) rfl rfl fun K hK => ?_ | refine Pwp.lastD (kit _) rfl rfl fun K hK => ?_); simp (dsimp := false) only [↓opsP_nil, ↓opsP_cons, ↓opsD_nil, ↓opsD_cons, footOf, ↓opP, ↓stepP, ↓stepG, go_sem, reduceIte, Nat.reduceAdd, Nat.reduceMul, Nat.reduceEqDiff, Nat.reduceLT, Nat.reduceLeDiff, Nat.reduceSub, reduceCtorEq, Int.reduceToNat, Int.reduceAdd, Int.reduceSub, Int.reduceLT, Int.reduceLE, Int.reduceNeg, Int.reduceBEq, Int.reduceBNe, true_or, hg, c1, w, hlen, f0, fN, uN, dN, fs, fb, us, ub, ds, db, cl, psA, pbA, pbB, ne1, ne2, ne3, ne4, nb1, nb2, htk, hms, hlm, hng, hng0, at1, at2, Nat.mul_one, hs, hb])
      | (refine Pwp.seq ?_)
      | (refine Pwp.block ?_)
      | (refine Pwp.exit ?_; simp only [thenS, blockS, if_true, if_false, reduceIte, Nat.reduceEqDiff, Nat.add_one_ne_zero, reduceCtorEq])
      | (refine Pwp.skip ?_; simp only [thenS, blockS])
      | (refine Pwp.cond rfl True.intro (fun h => ?_) (fun h => ?_) <;> (try (cases h; done)) <;> (try simp only [h]))
      | (refine Pwp.ret ?_; try simp only [thenS, blockS])
      | (refine hK _ ?_; clear hK K)
      | (refine hK _ _ rfl ?_; clear hK K)
      | (refine hK _ _ ?_ ?_)
      | (refine CallG.off ?_)
      | (with_reducible refine Or.inl ?_)
      | (simp only [thenS, blockS])
      | (with_reducible refine And.intro ?_ ?_)
      | (with_reducible exact True.intro)
      | (simp (dsimp := false) only [↓opsP_nil, ↓opsP_cons, ↓opsD_nil, ↓opsD_cons, footOf, ↓opP, ↓stepP, ↓stepG, go_sem, reduceIte, Nat.reduceAdd, Nat.reduceMul, Nat.reduceEqDiff, Nat.reduceLT, Nat.reduceLeDiff, Nat.reduceSub, reduceCtorEq, Int.reduceToNat, Int.reduceAdd, Int.reduceSub, Int.reduceLT, Int.reduceLE, Int.reduceNeg, Int.reduceBEq, Int.reduceBNe, true_or, hg, c1, w, hlen, f0, fN, uN, dN, fs, fb, us, ub, ds, db, cl, psA, pbA, pbB, ne1, ne2, ne3, ne4, nb1, nb2, htk, hms, hlm, hng, hng0, at1, at2, Nat.mul_one, hs, hb]))
    all_goals (try (first | (intro hg; simp [hg]; done) | exact of_decide_eq_true rfl | (cases h; done)))
    all_goals (try (first | (simp; done) | (simp [maxLen]; omega) | omega))
    · obtain h | h | h | h | h | h | h | h : s = 0 ∨ s = 1 ∨ s = 2 ∨ s = 3 ∨ s = 4 ∨ s = 5 ∨ s = 6 ∨ s = 7 := by omega
      · clear hnx psA pbA ps pb ps2 pb2 pbB
        rw [h]
        exact of_decide_eq_true (Eq.refl true)
      · clear hnx psA pbA ps pb ps2 pb2 pbB
        rw [h]
        exact of_decide_eq_true (Eq.refl true)
      · clear hnx psA pbA ps pb ps2 pb2 pbB
        rw [h]
        exact of_decide_eq_true (Eq.refl true)
      · clear hnx psA pbA ps pb ps2 pb2 pbB
        rw [h]
        exact of_decide_eq_true (Eq.refl true)
      · clear hnx psA pbA ps pb ps2 pb2 pbB
        rw [h]
        exact of_decide_eq_true (Eq.refl true)
      · clear hnx psA pbA ps pb ps2 pb2 pbB
        rw [h]
        exact of_decide_eq_true (Eq.refl true)
      · clear hnx psA pbA ps pb ps2 pb2 pbB
        rw [h]
        exact of_decide_eq_true (Eq.refl true)
      · clear hnx psA pbA ps pb ps2 pb2 pbB
        rw [h]
        exact of_decide_eq_true (Eq.refl true)
    · obtain h | h | h | h | h | h | h | h : b = 0 ∨ b = 1 ∨ b = 2 ∨ b = 3 ∨ b = 4 ∨ b = 5 ∨ b = 6 ∨ b = 7 := by omega
      · clear hnx psA pbA ps pb ps2 pb2 pbB
        rw [h]
        exact of_decide_eq_true (Eq.refl true)
      · clear hnx psA pbA ps pb ps2 pb2 pbB
        rw [h]
        exact of_decide_eq_true (Eq.refl true)
      · clear hnx psA pbA ps pb ps2 pb2 pbB
        rw [h]
        exact of_decide_eq_true (Eq.refl true)
      · clear hnx psA pbA ps pb ps2 pb2 pbB
        rw [h]
        exact of_decide_eq_true (Eq.refl true)
      · clear hnx psA pbA ps pb ps2 pb2 pbB
        rw [h]
        exact of_decide_eq_true (Eq.refl true)
      · clear hnx psA pbA ps pb ps2 pb2 pbB
        rw [h]
        exact of_decide_eq_true (Eq.refl true)
      · clear hnx psA pbA ps pb ps2 pb2 pbB
        rw [h]
        exact of_decide_eq_true (Eq.refl true)
      · clear hnx psA pbA ps pb ps2 pb2 pbB
        rw [h]
        exact of_decide_eq_true (Eq.refl true)
    rw [hnx]
    generalize atF (atF v s _) b _ = v2
    exact ⟨L80b N l els v2 (i + 1), Sub.same (by simp [L80b]) (viewH_80b hN ⟨_, rfl, by simp [find], by simp [find]⟩) (by simp [viewT, St.ev, viewP, L80b, V0, find, PVal.toD, subD, subV, subD_refl, disj, PVal.ids]), v2, rfl⟩
  · rintro st ⟨v, rfl⟩
    have c1 := dge (Nat.le_refl l.length)
    have hft : flowsT l l.length = fun j : Nat => flows j l := by funext j; simp [flowsT]
    have uN := fun (v : Nat → Nat) (xs : Nat → List Int) (k : Nat) (o : PObj) (h : 28 ≤ k) (l : List (Nat × PObj)) => upd_rowsN (v := v) (xs := xs) (o := o) hN h l
    unfold L80b
    rw [hft]
    repeat' (first
      | ((first | refine Pwp.step (kit _) rfl fun K hK => ?_ | refine Pwp.last (kit _) rfl fun K hK => ?_ | refine Pwp.stepD (kit _) rfl rfl fun K hK => ?_ | refine Pwp.lastD (kit _) rfl rfl fun K hK => ?_); simp (dsimp := false) only [↓opsP_nil, ↓opsP_cons, ↓opsD_nil, ↓opsD_cons, footOf, ↓opP, ↓stepP, ↓stepG, go_sem, reduceIte, Nat.reduceAdd, Nat.reduceMul, Nat.reduceEqDiff, Nat.reduceLT, Nat.reduceLeDiff, Nat.reduceSub, reduceCtorEq, Int.reduceToNat, Int.reduceAdd, Int.reduceSub, Int.reduceLT, Int.reduceLE, Int.reduceNeg, Int.reduceBEq, Int.reduceBNe, true_or, c1, hlen, uN])
      | (refine Pwp.seq ?_)
      | (refine Pwp.block ?_)
      | (refine Pwp.exit ?_; simp only [thenS, blockS, if_true, if_false, reduceIte, Nat.reduceEqDiff, Nat.add_one_ne_zero, reduceCtorEq])
      | (refine Pwp.skip ?_; simp only [thenS, blockS])
      | (refine Pwp.cond rfl True.intro (fun h => ?_) (fun h => ?_) <;> (try (cases h; done)) <;> (try simp only [h]))
      | (refine Pwp.ret ?_; try simp only [thenS, blockS])
      | (refine hK _ ?_; clear hK K)
      | (refine hK _ _ rfl ?_; clear hK K)
      | (refine CallG.off ?_)
      | (with_reducible refine Or.inl ?_)
      | (simp only [thenS, blockS])
      | (with_reducible refine And.intro ?_ ?_)
      | (with_reducible exact True.intro)
      | (simp (dsimp := false) only [↓opsP_nil, ↓opsP_cons, ↓opsD_nil, ↓opsD_cons, footOf, ↓opP, ↓stepP, ↓stepG, go_sem, reduceIte, Nat.reduceAdd, Nat.reduceMul, Nat.reduceEqDiff, Nat.reduceLT, Nat.reduceLeDiff, Nat.reduceSub, reduceCtorEq, Int.reduceToNat, Int.reduceAdd, Int.reduceSub, Int.reduceLT, Int.reduceLE, Int.reduceNeg, Int.reduceBEq, Int.reduceBNe, true_or, c1, hlen, uN]))
    all_goals (try (first | (intro hg; simp [hg]; done) | exact of_decide_eq_true rfl | (cases h; done)))
    all_goals (try (first | (simp; done) | (simp [maxLen]; omega) | omega))
    refine Pwp.range N (S := L80d N l els) (Sub.same (by simp [L80d]) (viewH_80d hN ⟨_, rfl, by simp [find], by simp [find]; rfl, by simp [find]⟩ (fun kept => by simp [viewO, V0, outsP, outs])) (by simp [viewT, St.ev, viewP, L80d, V0, find, PVal.toD, subD, subV, subD_refl, disj, PVal.ids])) (fun i hi => ?_) ?_
    · have c2 := dlt hi
      have w := wrap_succ (i := i) (by omega)
      have hfl := flows_len (i : Int) l
      have hin := flows_in (j := (i : Int)) hok
      have hni := netL_in (j := (i : Int)) hok hl
      have r105 := run105 (flows i l) (by omega) (fun a ha => by have := hin a ha; simp [In64]; omega)
      rw [if_pos (In64.fits (by unfold netL at hni; simp [In64]; omega))] at r105
      change Runs Try.prog 105 _ _ (.d (.tup [I64 (netL i l), I64 0])) _ at r105
      have dd := dataR_drop (xs := fun j => flows j l) hi
      have dl := dataR_len (fun j => flows j l) N
      have ol := outsP_len (Nat.le_of_lt hi) l
      have olm : ((outsP N i l).map I64).length = N := by rw [List.length_map]; exact ol
      have hset : ((outsP N i l).map I64).set i (I64 (netL i l)) = (outsP N (i + 1) l).map I64 := by rw [← List.map_set, outsP_set hi]
      have hgt : ((outsP N i l).map I64)[i]? = some (.v (.int .i64 0)) := by
        unfold outsP
        rw [List.getElem?_map, List.getElem?_append_right (by rw [outs_len]; exact Nat.le_refl _), outs_len, Nat.sub_self, List.getElem?_replicate, if_pos (by omega)]
        rfl
      change ((outsP N i l).map I64).set i (.v (.int .i64 (netL i l))) = _ at hset
      unfold L80d
      repeat' (first
        | ((first | refine Pwp.step (kit _) rfl fun K hK => ?_ | refine Pwp.last (kit _) rfl fun K hK => ?_ | refine Pwp.stepD (kit _) rfl rfl fun K hK => ?_ | refine Pwp.lastD (kit _) rfl rfl fun K hK => ?_); simp (dsimp := false) only [↓opsP_nil, ↓opsP_cons, ↓opsD_nil, ↓opsD_cons, footOf, ↓opP, ↓stepP, ↓stepG, go_sem, reduceIte, Nat.reduceAdd, Nat.reduceMul, Nat.reduceEqDiff, Nat.reduceLT, Nat.reduceLeDiff, Nat.reduceSub, reduceCtorEq, Int.reduceToNat, Int.reduceAdd, Int.reduceSub, Int.reduceLT, Int.reduceLE, Int.reduceNeg, Int.reduceBEq, Int.reduceBNe, true_or, c2, w, dd, dl, olm, hset, hgt, Nat.mul_one, bne_self_eq_false])
        | (refine Pwp.seq ?_)
        | (refine Pwp.block ?_)
        | (refine Pwp.exit ?_; simp only [thenS, blockS, if_true, if_false, reduceIte, Nat.reduceEqDiff, Nat.add_one_ne_zero, reduceCtorEq])
        | (refine Pwp.skip ?_; simp only [thenS, blockS])
        | (refine Pwp.cond rfl True.intro (fun h => ?_) (fun h => ?_) <;> (try (cases h; done)) <;> (try simp only [h]))
        | (refine Pwp.ret ?_; try simp only [thenS, blockS])
        | (refine hK _ ?_; clear hK K)
        | (refine hK _ _ rfl ?_; clear hK K)
        | (refine CallK.give (ds := [.slc 1 ((flows i l).map I64)]) rfl (r105) (by simp) ?_)
        | (refine CallG.off ?_)
        | (with_reducible refine Or.inl ?_)
        | (simp only [thenS, blockS])
        | (with_reducible refine And.intro ?_ ?_)
        | (with_reducible exact True.intro)
        | (simp (dsimp := false) only [↓opsP_nil, ↓opsP_cons, ↓opsD_nil, ↓opsD_cons, footOf, ↓opP, ↓stepP, ↓stepG, go_sem, reduceIte, Nat.reduceAdd, Nat.reduceMul, Nat.reduceEqDiff, Nat.reduceLT, Nat.reduceLeDiff, Nat.reduceSub, reduceCtorEq, Int.reduceToNat, Int.reduceAdd, Int.reduceSub, Int.reduceLT, Int.reduceLE, Int.reduceNeg, Int.reduceBEq, Int.reduceBNe, true_or, c2, w, dd, dl, olm, hset, hgt, Nat.mul_one, bne_self_eq_false]))
      all_goals (try (first | (intro hg; simp [hg]; done) | exact of_decide_eq_true rfl | (cases h; done)))
      all_goals (try (first | (simp; done) | (simp [maxLen]; omega) | omega))
      exact Sub.view V0 (by simp [L80d]) rfl (by simp [viewH, viewP, viewL, viewO, V0, V9, V9n, VR, VN, keptOf, find, PVal.toD, subD, subL, subV, subD_refl, viewL_ds, disj, PVal.ids, pnil, List.range, List.range.loop, L80d, dataR_view, hset]) (by simp [viewT, St.ev, viewH, viewP, viewL, viewO, V0, V9, V9n, VR, VN, keptOf, find, PVal.toD, subD, subL, subV, subD_refl, viewL_ds, disj, PVal.ids, pnil, List.range, List.range.loop, L80d, dataR_view, hset])
    · have c2 := dge (Nat.le_refl N)
      have ol := outsP_len (Nat.le_refl N) l
      have htk : ((outsP N N l).map I64).take N = (outsP N N l).map I64 := List.take_of_length_le (by simp [ol])
      have hlm : ((outsP N N l).map I64).length = N := by rw [List.length_map]; exact ol
      have hol2 := outs_len N l
      have htk2 : ((outs N l).map I64).take N = (outs N l).map I64 := List.take_of_length_le (by simp [hol2])
      unfold L80d
      repeat' (first
        | ((first | refine Pwp.step (kit _) rfl fun K hK => ?_ | refine Pwp.last (kit _) rfl fun K hK => ?_ | refine Pwp.stepD (kit _) rfl rfl fun K hK => ?_ | refine Pwp.lastD (kit _) rfl rfl fun K hK => ?_); simp (dsimp := false) only [↓opsP_nil, ↓opsP_cons, ↓opsD_nil, ↓opsD_cons, footOf, ↓opP, ↓stepP, ↓stepG, go_sem, reduceIte, Nat.reduceAdd, Nat.reduceMul, Nat.reduceEqDiff, Nat.reduceLT, Nat.reduceLeDiff, Nat.reduceSub, reduceCtorEq, Int.reduceToNat, Int.reduceAdd, Int.reduceSub, Int.reduceLT, Int.reduceLE, Int.reduceNeg, Int.reduceBEq, Int.reduceBNe, true_or, c2])
        | (refine Pwp.seq ?_)
        | (refine Pwp.block ?_)
        | (refine Pwp.exit ?_; simp only [thenS, blockS, if_true, if_false, reduceIte, Nat.reduceEqDiff, Nat.add_one_ne_zero, reduceCtorEq])
        | (refine Pwp.skip ?_; simp only [thenS, blockS])
        | (refine Pwp.cond rfl True.intro (fun h => ?_) (fun h => ?_) <;> (try (cases h; done)) <;> (try simp only [h]))
        | (refine Pwp.ret ?_; try simp only [thenS, blockS])
        | (refine hK _ ?_; clear hK K)
        | (refine hK _ _ rfl ?_; clear hK K)
        | (refine CallG.off ?_)
        | (with_reducible refine Or.inl ?_)
        | (simp only [thenS, blockS])
        | (with_reducible refine And.intro ?_ ?_)
        | (with_reducible exact True.intro)
        | (simp (dsimp := false) only [↓opsP_nil, ↓opsP_cons, ↓opsD_nil, ↓opsD_cons, footOf, ↓opP, ↓stepP, ↓stepG, go_sem, reduceIte, Nat.reduceAdd, Nat.reduceMul, Nat.reduceEqDiff, Nat.reduceLT, Nat.reduceLeDiff, Nat.reduceSub, reduceCtorEq, Int.reduceToNat, Int.reduceAdd, Int.reduceSub, Int.reduceLT, Int.reduceLE, Int.reduceNeg, Int.reduceBEq, Int.reduceBNe, true_or, c2]))
      all_goals (try (first | (intro hg; simp [hg]; done) | exact of_decide_eq_true rfl | (cases h; done)))
      refine Fin.dataV V0 (.inr rfl) (by simp (dsimp := false) only [↓opsP_nil, ↓opsP_cons, ↓opsD_nil, ↓opsD_cons, footOf, ↓opP, ↓stepP, ↓stepG, go_sem, reduceIte, Nat.reduceAdd, Nat.reduceMul, Nat.reduceEqDiff, Nat.reduceLT, Nat.reduceLeDiff, Nat.reduceSub, reduceCtorEq, Int.reduceToNat, Int.reduceAdd, Int.reduceSub, Int.reduceLT, Int.reduceLE, Int.reduceNeg, Int.reduceBEq, Int.reduceBNe, true_or, resL]; rfl) (by simp only [and_self]) rfl (by simp [viewH, viewP, viewL, viewO, V0, keptOf, find, PVal.toD, subD_refl, disj, PVal.ids]) (by simp [resP, viewP, V0, keptOf, find, PVal.toD, toDL, outsP_all, hol2, htk2, subD, subD_refl, subL, subV, disj, PVal.ids, idsL])

end Go.Proofs.Ytdodgbhodkcckaa.Pv
