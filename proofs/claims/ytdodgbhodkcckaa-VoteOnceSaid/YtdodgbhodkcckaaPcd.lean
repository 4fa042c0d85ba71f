/- Walks of cycles: nets, by rows of rows. -/
import Derived.Test.YtdodgbhodkcckaaPcb
set_option linter.unusedVariables false
set_option linter.unusedSimpArgs false
set_option autoImplicit false
set_option maxRecDepth 100000
namespace Go.Proofs.Ytdodgbhodkcckaa.Pv
open Go Go.RowKit

def flowsT (l : List Line) (i : Nat) : Nat → List Int := fun j => flows j (l.take i)
def L80a (N : Nat) (l : List Line) (v : Nat → Nat) (i : Nat) : St := ⟨[(30, pint .i64 i), (29, pint .i64 l.length), (28, .d (.slc 4 (linesD l))), (7, .own 65 0 1 0 N), (0, pint .i64 N)], rowsH v (flowsT l i) N ++ [(65, .box (cellsR v (flowsT l i) N))], 88⟩
def L80c (N : Nat) (l : List Line) (i : Nat) : St := ⟨[(68, pint .i64 i), (67, pint .i64 N), (10, .own 93 0 1 0 N), (7, .own 65 0 1 0 N)], [(65, .box (dataR (fun j => flows j l) N)), (93, .arr 2 1 0 none ((outsP N i l).map I64))], 264⟩
set_option maxHeartbeats 16000000 in
theorem run80 (n : Int) (l : List Line) (hl : l.length ≤ 1000) : Runs Try.prog 80 [pint .i64 n, .d (.slc 4 (linesD l))] [] (.d (netsD n l)) [] := by
  have hlen := lines_len l
  have r82 := run82 n l hl
  by_cases hr : 0 ≤ n ∧ n ≤ 8
  · have c0 : (decide (n < 0) || decide (8 < n)) = false := by
      rw [Bool.or_eq_false_iff, decide_eq_false_iff_not, decide_eq_false_iff_not]; omega
    by_cases he : fitV n none l = 0
    · obtain ⟨N, rfl⟩ : ∃ N : Nat, n = (N : Int) := ⟨n.toNat, by omega⟩
      have hN : N ≤ 8 := by omega
      rw [he] at r82
      rw [netsV_ok hN he]
      have hok := fit_ok he
      refine Runs.of (kit Try.prog) Try.func80 rfl rfl (by rw [Try.ntmps80]; exact of_decide_eq_true rfl) ?_; rw [Try.ntmps80, Try.results80]
      repeat' (first
        | ((first | refine Pwp.step (kit _) rfl fun K hK => ?_ | refine Pwp.last (kit _) rfl fun K hK => ?_ | refine Pwp.stepD (kit _) rfl rfl fun K hK => ?_ | refine Pwp.lastD (kit _) rfl rfl fun K hK => ?_); simp (dsimp := false) only [↓opsP_nil, ↓opsP_cons, ↓opsD_nil, ↓opsD_cons, ↓opP, ↓stepP, ↓stepG, go_sem, c0, hlen, bne_self_eq_false])
        | (refine Pwp.seq ?_)
        | (refine Pwp.block ?_)
        | (refine Pwp.exit ?_; simp only [thenS, blockS, if_true, if_false, reduceIte, Nat.reduceEqDiff, Nat.add_one_ne_zero, reduceCtorEq])
        | (refine Pwp.skip ?_; simp only [thenS, blockS])
        | (refine Pwp.cond rfl True.intro (fun h => ?_) (fun h => ?_) <;> (try (cases h; done)) <;> (try simp only [h]))
        | (refine Pwp.ret ?_; try simp only [thenS, blockS])
        | (refine hK _ ?_; clear hK K)
        | (refine hK _ _ rfl ?_; clear hK K)
        | (refine Or.inr (hK _ ?_))
        | (refine CallK.give (ds := [I64 N, .slc 4 (linesD l)]) rfl (r82) (by simp) ?_)
        | (refine CallG.off ?_)
        | (with_reducible refine Or.inl ?_)
        | (simp only [thenS, blockS])
        | (with_reducible refine And.intro ?_ ?_)
        | (with_reducible exact True.intro)
        | (simp (dsimp := false) only [↓opsP_nil, ↓opsP_cons, ↓opsD_nil, ↓opsD_cons, ↓opP, ↓stepP, ↓stepG, go_sem, c0, hlen, bne_self_eq_false]))
      all_goals (try (first | (intro hg; simp [hg]; done) | exact of_decide_eq_true rfl | (cases h; done)))
      all_goals (try (first | (simp; done) | (simp [maxLen]; omega) | omega))
      have h8 : N = 0 ∨ N = 1 ∨ N = 2 ∨ N = 3 ∨ N = 4 ∨ N = 5 ∨ N = 6 ∨ N = 7 ∨ N = 8 := by omega
      refine Pwp.rangeI l.length (fun i s => ∃ v, s = L80a N l v i) (s0 := L80a N l (fun _ => 0) 0) (by
        clear hok he r82 c0 hr
        rcases h8 with rfl | rfl | rfl | rfl | rfl | rfl | rfl | rfl | rfl
        · exact Sub.view (VT 0) (by simp [L80a]) rfl (by simp [viewH, viewP, viewL, viewO, V0, V9, V9n, VR, VN, keptOf, find, PVal.toD, subD, subL, subV, subD_refl, viewL_ds, disj, PVal.ids, pnil, List.range, List.range.loop, L80a, VT, rowsH, rowsF, rowO, cellsR, cellR, flowsT, flows, hlen, List.replicate]) (by simp [viewT, St.ev, viewH, viewP, viewL, viewO, V0, V9, V9n, VR, VN, keptOf, find, PVal.toD, subD, subL, subV, subD_refl, viewL_ds, disj, PVal.ids, pnil, List.range, List.range.loop, L80a, VT, rowsH, rowsF, rowO, cellsR, cellR, flowsT, flows, hlen, List.replicate])
        · exact Sub.view (VT 1) (by simp [L80a]) rfl (by simp [viewH, viewP, viewL, viewO, V0, V9, V9n, VR, VN, keptOf, find, PVal.toD, subD, subL, subV, subD_refl, viewL_ds, disj, PVal.ids, pnil, List.range, List.range.loop, L80a, VT, rowsH, rowsF, rowO, cellsR, cellR, flowsT, flows, hlen, List.replicate]) (by simp [viewT, St.ev, viewH, viewP, viewL, viewO, V0, V9, V9n, VR, VN, keptOf, find, PVal.toD, subD, subL, subV, subD_refl, viewL_ds, disj, PVal.ids, pnil, List.range, List.range.loop, L80a, VT, rowsH, rowsF, rowO, cellsR, cellR, flowsT, flows, hlen, List.replicate])
        · exact Sub.view (VT 2) (by simp [L80a]) rfl (by simp [viewH, viewP, viewL, viewO, V0, V9, V9n, VR, VN, keptOf, find, PVal.toD, subD, subL, subV, subD_refl, viewL_ds, disj, PVal.ids, pnil, List.range, List.range.loop, L80a, VT, rowsH, rowsF, rowO, cellsR, cellR, flowsT, flows, hlen, List.replicate]) (by simp [viewT, St.ev, viewH, viewP, viewL, viewO, V0, V9, V9n, VR, VN, keptOf, find, PVal.toD, subD, subL, subV, subD_refl, viewL_ds, disj, PVal.ids, pnil, List.range, List.range.loop, L80a, VT, rowsH, rowsF, rowO, cellsR, cellR, flowsT, flows, hlen, List.replicate])
        · exact Sub.view (VT 3) (by simp [L80a]) rfl (by simp [viewH, viewP, viewL, viewO, V0, V9, V9n, VR, VN, keptOf, find, PVal.toD, subD, subL, subV, subD_refl, viewL_ds, disj, PVal.ids, pnil, List.range, List.range.loop, L80a, VT, rowsH, rowsF, rowO, cellsR, cellR, flowsT, flows, hlen, List.replicate]) (by simp [viewT, St.ev, viewH, viewP, viewL, viewO, V0, V9, V9n, VR, VN, keptOf, find, PVal.toD, subD, subL, subV, subD_refl, viewL_ds, disj, PVal.ids, pnil, List.range, List.range.loop, L80a, VT, rowsH, rowsF, rowO, cellsR, cellR, flowsT, flows, hlen, List.replicate])
        · exact Sub.view (VT 4) (by simp [L80a]) rfl (by simp [viewH, viewP, viewL, viewO, V0, V9, V9n, VR, VN, keptOf, find, PVal.toD, subD, subL, subV, subD_refl, viewL_ds, disj, PVal.ids, pnil, List.range, List.range.loop, L80a, VT, rowsH, rowsF, rowO, cellsR, cellR, flowsT, flows, hlen, List.replicate]) (by simp [viewT, St.ev, viewH, viewP, viewL, viewO, V0, V9, V9n, VR, VN, keptOf, find, PVal.toD, subD, subL, subV, subD_refl, viewL_ds, disj, PVal.ids, pnil, List.range, List.range.loop, L80a, VT, rowsH, rowsF, rowO, cellsR, cellR, flowsT, flows, hlen, List.replicate])
        · exact Sub.view (VT 5) (by simp [L80a]) rfl (by simp [viewH, viewP, viewL, viewO, V0, V9, V9n, VR, VN, keptOf, find, PVal.toD, subD, subL, subV, subD_refl, viewL_ds, disj, PVal.ids, pnil, List.range, List.range.loop, L80a, VT, rowsH, rowsF, rowO, cellsR, cellR, flowsT, flows, hlen, List.replicate]) (by simp [viewT, St.ev, viewH, viewP, viewL, viewO, V0, V9, V9n, VR, VN, keptOf, find, PVal.toD, subD, subL, subV, subD_refl, viewL_ds, disj, PVal.ids, pnil, List.range, List.range.loop, L80a, VT, rowsH, rowsF, rowO, cellsR, cellR, flowsT, flows, hlen, List.replicate])
        · exact Sub.view (VT 6) (by simp [L80a]) rfl (by simp [viewH, viewP, viewL, viewO, V0, V9, V9n, VR, VN, keptOf, find, PVal.toD, subD, subL, subV, subD_refl, viewL_ds, disj, PVal.ids, pnil, List.range, List.range.loop, L80a, VT, rowsH, rowsF, rowO, cellsR, cellR, flowsT, flows, hlen, List.replicate]) (by simp [viewT, St.ev, viewH, viewP, viewL, viewO, V0, V9, V9n, VR, VN, keptOf, find, PVal.toD, subD, subL, subV, subD_refl, viewL_ds, disj, PVal.ids, pnil, List.range, List.range.loop, L80a, VT, rowsH, rowsF, rowO, cellsR, cellR, flowsT, flows, hlen, List.replicate])
        · exact Sub.view (VT 7) (by simp [L80a]) rfl (by simp [viewH, viewP, viewL, viewO, V0, V9, V9n, VR, VN, keptOf, find, PVal.toD, subD, subL, subV, subD_refl, viewL_ds, disj, PVal.ids, pnil, List.range, List.range.loop, L80a, VT, rowsH, rowsF, rowO, cellsR, cellR, flowsT, flows, hlen, List.replicate]) (by simp [viewT, St.ev, viewH, viewP, viewL, viewO, V0, V9, V9n, VR, VN, keptOf, find, PVal.toD, subD, subL, subV, subD_refl, viewL_ds, disj, PVal.ids, pnil, List.range, List.range.loop, L80a, VT, rowsH, rowsF, rowO, cellsR, cellR, flowsT, flows, hlen, List.replicate])
        · exact Sub.view (VT 8) (by simp [L80a]) rfl (by simp [viewH, viewP, viewL, viewO, V0, V9, V9n, VR, VN, keptOf, find, PVal.toD, subD, subL, subV, subD_refl, viewL_ds, disj, PVal.ids, pnil, List.range, List.range.loop, L80a, VT, rowsH, rowsF, rowO, cellsR, cellR, flowsT, flows, hlen, List.replicate]) (by simp [viewT, St.ev, viewH, viewP, viewL, viewO, V0, V9, V9n, VR, VN, keptOf, find, PVal.toD, subD, subL, subV, subD_refl, viewL_ds, disj, PVal.ids, pnil, List.range, List.range.loop, L80a, VT, rowsH, rowsF, rowO, cellsR, cellR, flowsT, flows, hlen, List.replicate])) ⟨_, rfl⟩ ?_ ?_
      · rintro i st hi ⟨v, rfl⟩
        obtain ⟨x, hx, hm⟩ := at_lt hi
        have hg := lines_get hx
        have c1 := dlt hi
        have w := wrap_succ (i := i) (by omega)
        have hxo := hok x hm
        obtain ⟨xs, xn, xb, xa⟩ := x
        obtain ⟨q1, q2, q3, q4, q5⟩ := hxo
        simp only at q1 q2 q3 q4 q5 hg
        obtain ⟨s, rfl⟩ : ∃ s : Nat, xs = (s : Int) := ⟨xs.toNat, by omega⟩
        obtain ⟨b, rfl⟩ : ∃ b : Nat, xb = (b : Int) := ⟨xb.toNat, by omega⟩
        have hsb : s ≠ b := fun h => q3 (by rw [h])
        have hs : s < N := by omega
        have hb : b < N := by omega
        have hs8 : s < 8 := by omega
        have hb8 : b < 8 := by omega
        have fN := fun (v : Nat → Nat) (xs : Nat → List Int) (k : Nat) (h : 28 ≤ k) (l : List (Nat × PObj)) => find_rowsN (v := v) (xs := xs) hN h l
        have uN := fun (v : Nat → Nat) (xs : Nat → List Int) (k : Nat) (o : PObj) (h : 28 ≤ k) (l : List (Nat × PObj)) => upd_rowsN (v := v) (xs := xs) (o := o) hN h l
        have dN := fun (v : Nat → Nat) (xs : Nat → List Int) (k : Nat) (h : 28 ≤ k) (l : List (Nat × PObj)) => del_rowsN (v := v) (xs := xs) hN h l
        have fs := fun (v : Nat → Nat) (xs : Nat → List Int) (l : List (Nat × PObj)) => find_rowsH (v := v) (xs := xs) hs l
        have fb := fun (v : Nat → Nat) (xs : Nat → List Int) (l : List (Nat × PObj)) => find_rowsH (v := v) (xs := xs) hb l
        have us := fun (v : Nat → Nat) (xs : Nat → List Int) (w : Nat) (ys : List Int) (l : List (Nat × PObj)) => upd_rowsH (v := v) (xs := xs) (w := w) (ys := ys) hs l
        have ub := fun (v : Nat → Nat) (xs : Nat → List Int) (w : Nat) (ys : List Int) (l : List (Nat × PObj)) => upd_rowsH (v := v) (xs := xs) (w := w) (ys := ys) hb l
        have ds := fun (v : Nat → Nat) (xs : Nat → List Int) => cellsR_drop (v := v) (xs := xs) hs
        have db := fun (v : Nat → Nat) (xs : Nat → List Int) => cellsR_drop (v := v) (xs := xs) hb
        have cl := cellsR_len
        have ps := fun (v : Nat → Nat) (xs : Nat → List Int) (a : Int) => cellsR_put (v := v) (xs := xs) hs (v s + 1) (xs s ++ [a])
        have pb := fun (v : Nat → Nat) (xs : Nat → List Int) (a : Int) => cellsR_put (v := v) (xs := xs) hb (v b + 1) (xs b ++ [a])
        simp only [List.length_append, List.length_cons, List.length_nil, Nat.zero_add] at ps pb
        have ps2 : ∀ (v : Nat → Nat) (xs : Nat → List Int) (a : Int), List.take s (cellsR v xs N) ++ [PVal.own (20 + s) (v s + 1) 1 0 ((xs s).length + 1)] ++ List.drop (s + 1) (cellsR v xs N) = cellsR (atF v s (v s + 1)) (atF xs s (xs s ++ [a])) N := fun v xs a => by rw [List.append_assoc]; exact ps v xs a
        have pb2 : ∀ (v : Nat → Nat) (xs : Nat → List Int) (a : Int), List.take b (cellsR v xs N) ++ [PVal.own (20 + b) (v b + 1) 1 0 ((xs b).length + 1)] ++ List.drop (b + 1) (cellsR v xs N) = cellsR (atF v b (v b + 1)) (atF xs b (xs b ++ [a])) N := fun v xs a => by rw [List.append_assoc]; exact pb v xs a
        have psA := fun v xs => ps2 v xs xa
        have pbB : ∀ (v : Nat → Nat) (xs : Nat → List Int) (w : Nat) (ys : List Int), List.take b (cellsR (atF v s w) (atF xs s ys) N) ++ [PVal.own (20 + b) (v b + 1) 1 0 ((xs b).length + 1)] ++ List.drop (b + 1) (cellsR (atF v s w) (atF xs s ys) N) = cellsR (atF (atF v s w) b (v b + 1)) (atF (atF xs s ys) b (xs b ++ [-xa])) N := fun v xs w ys => by
          have := pb2 (atF v s w) (atF xs s ys) (-xa)
          simpa only [atF, if_neg (Ne.symm hsb)] using this
        have pbA := fun v xs => pb2 v xs (-xa)
        have ne1 : ∀ k, 28 ≤ k → (20 + s = k) = False := fun k hk => by simp; omega
        have ne2 : ∀ k, 28 ≤ k → (k = 20 + s) = False := fun k hk => by simp; omega
        have ne3 : ∀ k, 28 ≤ k → (20 + b = k) = False := fun k hk => by simp; omega
        have ne4 : ∀ k, 28 ≤ k → (k = 20 + b) = False := fun k hk => by simp; omega
        have nb1 : ∀ k, 28 ≤ k → (20 + s == k) = false := fun k hk => by simp; omega
        have nb2 : ∀ k, 28 ≤ k → (20 + b == k) = false := fun k hk => by simp; omega
        have htk : ∀ l : List Int, (l.map I64).take l.length = l.map I64 := fun l => List.take_of_length_le (by simp)
        have hms : ∀ (l : List Int) (a : Int), l.map I64 ++ [I64 a] = (l ++ [a]).map I64 := fun l a => (map_snoc l a).symm
        have hlm : ∀ l : List Int, (l.map I64).length = l.length := fun l => List.length_map ..
        have hng : IntKind.wrap .i64 (-xa) = -xa := wrap_of (by omega) (by omega)
        have hng0 : IntKind.wrap .i64 (0 - xa) = -xa := by rw [Int.zero_sub]; exact hng
        have at1 : ∀ (f : Nat → Nat) (x : Nat), atF f s x b = f b := fun f x => by simp [atF, Ne.symm hsb]
        have at2 : ∀ (f : Nat → List Int) (x : List Int), atF f s x b = f b := fun f x => by simp [atF, Ne.symm hsb]
        have hfs := flows_len (s : Int) (l.take i)
        have hfb := flows_len (b : Int) (l.take i)
        rw [List.length_take, Nat.min_eq_left (Nat.le_of_lt hi)] at hfs hfb
        have hlS : (flowsT l i s).length ≤ i := hfs
        have hlB : (flowsT l i b).length ≤ i := hfb
        have ts1 := Int.toNat_natCast s
        have tb1 := Int.toNat_natCast b
        have hnx : atF (atF (flowsT l i) s (flowsT l i s ++ [xa])) b (flowsT l i b ++ [-xa]) = flowsT l (i + 1) := by
          funext j
          have e := flows_take (j := (j : Int)) hx
          unfold flowsT
          rw [e]
          unfold atF flow1
          by_cases h1 : j = b
          · subst h1
            rw [if_pos rfl, if_neg (by simp only; omega), if_pos rfl]
          · rw [if_neg h1]
            by_cases h2 : j = s
            · subst h2
              rw [if_pos rfl, if_pos rfl]
            · rw [if_neg h2, if_neg (by simp only; omega), if_neg (by simp only; omega), List.append_nil]
        unfold L80a
        repeat' (first
          | ((first | refine Pwp.step (kit _) rfl fun K hK => ?_ | refine Pwp.last (kit _) rfl fun K hK => ?_ | refine Pwp.stepD (kit _) rfl rfl fun K hK => ?_ | refine Pwp.lastD (kit _) rfl rfl fun K hK => ?_); simp (dsimp := false) only [↓opsP_nil, ↓opsP_cons, ↓opsD_nil, ↓opsD_cons, ↓opP, ↓stepP, ↓stepG, go_sem, hg, c1, w, hlen, fN, uN, dN, fs, fb, us, ub, ds, db, cl, psA, pbA, pbB, ne1, ne2, ne3, ne4, nb1, nb2, htk, hms, hlm, hng, hng0, at1, at2, Nat.mul_one, hs, hb])
          | (refine Pwp.seq ?_)
          | (refine Pwp.block ?_)
          | (refine Pwp.exit ?_; simp only [thenS, blockS, if_true, if_false, reduceIte, Nat.reduceEqDiff, Nat.add_one_ne_zero, reduceCtorEq])
          | (refine Pwp.skip ?_; simp only [thenS, blockS])
          | (refine Pwp.cond rfl True.intro (fun h => ?_) (fun h => ?_) <;> (try (cases h; done)) <;> (try simp only [h]))
          | (refine Pwp.ret ?_; try simp only [thenS, blockS])
          | (refine hK _ ?_; clear hK K)
          | (refine hK _ _ rfl ?_; clear hK K)
          | (refine hK _ _ ?_ ?_)
          | (refine CallG.off ?_)
          | (with_reducible refine Or.inl ?_)
          | (simp only [thenS, blockS])
          | (with_reducible refine And.intro ?_ ?_)
          | (with_reducible exact True.intro)
          | (simp (dsimp := false) only [↓opsP_nil, ↓opsP_cons, ↓opsD_nil, ↓opsD_cons, ↓opP, ↓stepP, ↓stepG, go_sem, hg, c1, w, hlen, fN, uN, dN, fs, fb, us, ub, ds, db, cl, psA, pbA, pbB, ne1, ne2, ne3, ne4, nb1, nb2, htk, hms, hlm, hng, hng0, at1, at2, Nat.mul_one, hs, hb]))
        all_goals (try (first | (intro hg; simp [hg]; done) | exact of_decide_eq_true rfl | (cases h; done)))
        all_goals (try (first | (simp; done) | (simp [maxLen]; omega) | omega))
        · obtain h | h | h | h | h | h | h | h : s = 0 ∨ s = 1 ∨ s = 2 ∨ s = 3 ∨ s = 4 ∨ s = 5 ∨ s = 6 ∨ s = 7 := by omega
          · clear hnx psA pbA ps pb ps2 pb2 pbB
            rw [h]
            exact of_decide_eq_true (Eq.refl true)
          · clear hnx psA pbA ps pb ps2 pb2 pbB
            rw [h]
            exact of_decide_eq_true (Eq.refl true)
          · clear hnx psA pbA ps pb ps2 pb2 pbB
            rw [h]
            exact of_decide_eq_true (Eq.refl true)
          · clear hnx psA pbA ps pb ps2 pb2 pbB
            rw [h]
            exact of_decide_eq_true (Eq.refl true)
          · clear hnx psA pbA ps pb ps2 pb2 pbB
            rw [h]
            exact of_decide_eq_true (Eq.refl true)
          · clear hnx psA pbA ps pb ps2 pb2 pbB
            rw [h]
            exact of_decide_eq_true (Eq.refl true)
          · clear hnx psA pbA ps pb ps2 pb2 pbB
            rw [h]
            exact of_decide_eq_true (Eq.refl true)
          · clear hnx psA pbA ps pb ps2 pb2 pbB
            rw [h]
            exact of_decide_eq_true (Eq.refl true)
        · obtain h | h | h | h | h | h | h | h : b = 0 ∨ b = 1 ∨ b = 2 ∨ b = 3 ∨ b = 4 ∨ b = 5 ∨ b = 6 ∨ b = 7 := by omega
          · clear hnx psA pbA ps pb ps2 pb2 pbB
            rw [h]
            exact of_decide_eq_true (Eq.refl true)
          · clear hnx psA pbA ps pb ps2 pb2 pbB
            rw [h]
            exact of_decide_eq_true (Eq.refl true)
          · clear hnx psA pbA ps pb ps2 pb2 pbB
            rw [h]
            exact of_decide_eq_true (Eq.refl true)
          · clear hnx psA pbA ps pb ps2 pb2 pbB
            rw [h]
            exact of_decide_eq_true (Eq.refl true)
          · clear hnx psA pbA ps pb ps2 pb2 pbB
            rw [h]
            exact of_decide_eq_true (Eq.refl true)
          · clear hnx psA pbA ps pb ps2 pb2 pbB
            rw [h]
            exact of_decide_eq_true (Eq.refl true)
          · clear hnx psA pbA ps pb ps2 pb2 pbB
            rw [h]
            exact of_decide_eq_true (Eq.refl true)
          · clear hnx psA pbA ps pb ps2 pb2 pbB
            rw [h]
            exact of_decide_eq_true (Eq.refl true)
        rw [hnx]
        generalize atF (atF v s _) b _ = v2
        exact ⟨L80a N l v2 (i + 1), Sub.same (by simp [L80a]) (viewH_80 hN ⟨_, rfl, by simp [find]⟩) (by simp [viewT, St.ev, viewP, L80a, V0, find, PVal.toD, subD, subV, subD_refl, disj, PVal.ids]), v2, rfl⟩
      · rintro st ⟨v, rfl⟩
        have c1 := dge (Nat.le_refl l.length)
        have hft : flowsT l l.length = fun j : Nat => flows j l := by funext j; simp [flowsT]
        have uN := fun (v : Nat → Nat) (xs : Nat → List Int) (k : Nat) (o : PObj) (h : 28 ≤ k) (l : List (Nat × PObj)) => upd_rowsN (v := v) (xs := xs) (o := o) hN h l
        unfold L80a
        rw [hft]
        repeat' (first
          | ((first | refine Pwp.step (kit _) rfl fun K hK => ?_ | refine Pwp.last (kit _) rfl fun K hK => ?_ | refine Pwp.stepD (kit _) rfl rfl fun K hK => ?_ | refine Pwp.lastD (kit _) rfl rfl fun K hK => ?_); simp (dsimp := false) only [↓opsP_nil, ↓opsP_cons, ↓opsD_nil, ↓opsD_cons, ↓opP, ↓stepP, ↓stepG, go_sem, c1, hlen, uN])
          | (refine Pwp.seq ?_)
          | (refine Pwp.block ?_)
          | (refine Pwp.exit ?_; simp only [thenS, blockS, if_true, if_false, reduceIte, Nat.reduceEqDiff, Nat.add_one_ne_zero, reduceCtorEq])
          | (refine Pwp.skip ?_; simp only [thenS, blockS])
          | (refine Pwp.cond rfl True.intro (fun h => ?_) (fun h => ?_) <;> (try (cases h; done)) <;> (try simp only [h]))
          | (refine Pwp.ret ?_; try simp only [thenS, blockS])
          | (refine hK _ ?_; clear hK K)
          | (refine hK _ _ rfl ?_; clear hK K)
          | (refine CallG.off ?_)
          | (with_reducible refine Or.inl ?_)
          | (simp only [thenS, blockS])
          | (with_reducible refine And.intro ?_ ?_)
          | (with_reducible exact True.intro)
          | (simp (dsimp := false) only [↓opsP_nil, ↓opsP_cons, ↓opsD_nil, ↓opsD_cons, ↓opP, ↓stepP, ↓stepG, go_sem, c1, hlen, uN]))
        all_goals (try (first | (intro hg; simp [hg]; done) | exact of_decide_eq_true rfl | (cases h; done)))
        all_goals (try (first | (simp; done) | (simp [maxLen]; omega) | omega))
        refine Pwp.range N (S := L80c N l) (Sub.same (by simp [L80c]) (viewH_80c hN ⟨_, rfl, by simp [find], by simp [find]; rfl⟩ (fun kept => by simp [viewO, V0, outsP, outs])) (by simp [viewT, St.ev, viewP, L80c, V0, find, PVal.toD, subD, subV, subD_refl, disj, PVal.ids])) (fun i hi => ?_) ?_
        · have c2 := dlt hi
          have w := wrap_succ (i := i) (by omega)
          have hfl := flows_len (i : Int) l
          have hin := flows_in (j := (i : Int)) hok
          have hni := netL_in (j := (i : Int)) hok hl
          have r105 := run105 (flows i l) (by omega) (fun a ha => by have := hin a ha; simp [In64]; omega)
          rw [if_pos (In64.fits (by unfold netL at hni; simp [In64]; omega))] at r105
          change Runs Try.prog 105 _ _ (.d (.tup [I64 (netL i l), I64 0])) _ at r105
          have dd := dataR_drop (xs := fun j => flows j l) hi
          have dl := dataR_len (fun j => flows j l) N
          have ol := outsP_len (Nat.le_of_lt hi) l
          have olm : ((outsP N i l).map I64).length = N := by rw [List.length_map]; exact ol
          have hset : ((outsP N i l).map I64).set i (I64 (netL i l)) = (outsP N (i + 1) l).map I64 := by rw [← List.map_set, outsP_set hi]
          have hgt : ((outsP N i l).map I64)[i]? = some (.v (.int .i64 0)) := by
            unfold outsP
            rw [List.getElem?_map, List.getElem?_append_right (by rw [outs_len]; exact Nat.le_refl _), outs_len, Nat.sub_self, List.getElem?_replicate, if_pos (by omega)]
            rfl
          change ((outsP N i l).map I64).set i (.v (.int .i64 (netL i l))) = _ at hset
          unfold L80c
          repeat' (first
            | ((first | refine Pwp.step (kit _) rfl fun K hK => ?_ | refine Pwp.last (kit _) rfl fun K hK => ?_ | refine Pwp.stepD (kit _) rfl rfl fun K hK => ?_ | refine Pwp.lastD (kit _) rfl rfl fun K hK => ?_); simp (dsimp := false) only [↓opsP_nil, ↓opsP_cons, ↓opsD_nil, ↓opsD_cons, ↓opP, ↓stepP, ↓stepG, go_sem, c2, w, dd, dl, olm, hset, hgt, Nat.mul_one, bne_self_eq_false])
            | (refine Pwp.seq ?_)
            | (refine Pwp.block ?_)
            | (refine Pwp.exit ?_; simp only [thenS, blockS, if_true, if_false, reduceIte, Nat.reduceEqDiff, Nat.add_one_ne_zero, reduceCtorEq])
            | (refine Pwp.skip ?_; simp only [thenS, blockS])
            | (refine Pwp.cond rfl True.intro (fun h => ?_) (fun h => ?_) <;> (try (cases h; done)) <;> (try simp only [h]))
            | (refine Pwp.ret ?_; try simp only [thenS, blockS])
            | (refine hK _ ?_; clear hK K)
            | (refine hK _ _ rfl ?_; clear hK K)
            | (refine CallK.give (ds := [.slc 1 ((flows i l).map I64)]) rfl (r105) (by simp) ?_)
            | (refine CallG.off ?_)
            | (with_reducible refine Or.inl ?_)
            | (simp only [thenS, blockS])
            | (with_reducible refine And.intro ?_ ?_)
            | (with_reducible exact True.intro)
            | (simp (dsimp := false) only [↓opsP_nil, ↓opsP_cons, ↓opsD_nil, ↓opsD_cons, ↓opP, ↓stepP, ↓stepG, go_sem, c2, w, dd, dl, olm, hset, hgt, Nat.mul_one, bne_self_eq_false]))
          all_goals (try (first | (intro hg; simp [hg]; done) | exact of_decide_eq_true rfl | (cases h; done)))
          all_goals (try (first | (simp; done) | (simp [maxLen]; omega) | omega))
          exact Sub.view V0 (by simp [L80c]) rfl (by simp [viewH, viewP, viewL, viewO, V0, V9, V9n, VR, VN, keptOf, find, PVal.toD, subD, subL, subV, subD_refl, viewL_ds, disj, PVal.ids, pnil, List.range, List.range.loop, L80c, dataR_view, hset]) (by simp [viewT, St.ev, viewH, viewP, viewL, viewO, V0, V9, V9n, VR, VN, keptOf, find, PVal.toD, subD, subL, subV, subD_refl, viewL_ds, disj, PVal.ids, pnil, List.range, List.range.loop, L80c, dataR_view, hset])
        · have c2 := dge (Nat.le_refl N)
          have ol := outsP_len (Nat.le_refl N) l
          have htk : ((outsP N N l).map I64).take N = (outsP N N l).map I64 := List.take_of_length_le (by simp [ol])
          have hlm : ((outsP N N l).map I64).length = N := by rw [List.length_map]; exact ol
          unfold L80c
          repeat' (first
            | ((first | refine Pwp.step (kit _) rfl fun K hK => ?_ | refine Pwp.last (kit _) rfl fun K hK => ?_ | refine Pwp.stepD (kit _) rfl rfl fun K hK => ?_ | refine Pwp.lastD (kit _) rfl rfl fun K hK => ?_); simp (dsimp := false) only [↓opsP_nil, ↓opsP_cons, ↓opsD_nil, ↓opsD_cons, ↓opP, ↓stepP, ↓stepG, go_sem, c2])
            | (refine Pwp.seq ?_)
            | (refine Pwp.block ?_)
            | (refine Pwp.exit ?_; simp only [thenS, blockS, if_true, if_false, reduceIte, Nat.reduceEqDiff, Nat.add_one_ne_zero, reduceCtorEq])
            | (refine Pwp.skip ?_; simp only [thenS, blockS])
            | (refine Pwp.cond rfl True.intro (fun h => ?_) (fun h => ?_) <;> (try (cases h; done)) <;> (try simp only [h]))
            | (refine Pwp.ret ?_; try simp only [thenS, blockS])
            | (refine hK _ ?_; clear hK K)
            | (refine hK _ _ rfl ?_; clear hK K)
            | (refine CallG.off ?_)
            | (with_reducible refine Or.inl ?_)
            | (simp only [thenS, blockS])
            | (with_reducible refine And.intro ?_ ?_)
            | (with_reducible exact True.intro)
            | (simp (dsimp := false) only [↓opsP_nil, ↓opsP_cons, ↓opsD_nil, ↓opsD_cons, ↓opP, ↓stepP, ↓stepG, go_sem, c2]))
          all_goals (try (first | (intro hg; simp [hg]; done) | exact of_decide_eq_true rfl | (cases h; done)))
          (refine Fin.data (.inr rfl) (by simp (dsimp := false) only [↓opsP_nil, ↓opsP_cons, ↓opsD_nil, ↓opsD_cons, ↓opP, ↓stepP, ↓stepG, go_sem, resL, htk, hlm]; rfl) (by simp only [and_self]) (by simp (dsimp := false) only [↓opsP_nil, ↓opsP_cons, ↓opsD_nil, ↓opsD_cons, ↓opP, ↓stepP, ↓stepG, go_sem, resP, Nat.le_refl, List.take_length, htk, hlm]; try rfl) ?_)
          rw [outsP_all]
          exact subD_refl _
    · have hE : netsE n l = fitV n none l := by unfold netsE; rw [c0]; simp
      rw [netsV_bad (by rw [hE]; exact he), hE]
      have n1 : (fitV n none l != 0) = true := by simpa using he
      refine Runs.of (kit Try.prog) Try.func80 rfl rfl (by rw [Try.ntmps80]; exact of_decide_eq_true rfl) ?_; rw [Try.ntmps80, Try.results80]
      repeat' (first
        | ((first | refine Pwp.step (kit _) rfl fun K hK => ?_ | refine Pwp.last (kit _) rfl fun K hK => ?_ | refine Pwp.stepD (kit _) rfl rfl fun K hK => ?_ | refine Pwp.lastD (kit _) rfl rfl fun K hK => ?_); simp (dsimp := false) only [↓opsP_nil, ↓opsP_cons, ↓opsD_nil, ↓opsD_cons, ↓opP, ↓stepP, ↓stepG, go_sem, c0, n1])
        | (refine Pwp.seq ?_)
        | (refine Pwp.block ?_)
        | (refine Pwp.exit ?_; simp only [thenS, blockS, if_true, if_false, reduceIte, Nat.reduceEqDiff, Nat.add_one_ne_zero, reduceCtorEq])
        | (refine Pwp.skip ?_; simp only [thenS, blockS])
        | (refine Pwp.cond rfl True.intro (fun h => ?_) (fun h => ?_) <;> (try (cases h; done)) <;> (try simp only [h]))
        | (refine Pwp.ret ?_; try simp only [thenS, blockS])
        | (refine hK _ ?_; clear hK K)
        | (refine hK _ _ rfl ?_; clear hK K)
        | (refine CallK.give (ds := [I64 n, .slc 4 (linesD l)]) rfl (r82) (by simp) ?_)
        | (refine CallG.off ?_)
        | (with_reducible refine Or.inl ?_)
        | (simp only [thenS, blockS])
        | (with_reducible refine And.intro ?_ ?_)
        | (with_reducible exact True.intro)
        | (simp (dsimp := false) only [↓opsP_nil, ↓opsP_cons, ↓opsD_nil, ↓opsD_cons, ↓opP, ↓stepP, ↓stepG, go_sem, c0, n1]))
      all_goals (try (first | (intro hg; simp [hg]; done) | exact of_decide_eq_true rfl | (cases h; done)))
      (refine Fin.data (.inr rfl) (by simp (dsimp := false) only [↓opsP_nil, ↓opsP_cons, ↓opsD_nil, ↓opsD_cons, ↓opP, ↓stepP, ↓stepG, go_sem, resL]; rfl) (by simp only [and_self]) (by simp (dsimp := false) only [↓opsP_nil, ↓opsP_cons, ↓opsD_nil, ↓opsD_cons, ↓opP, ↓stepP, ↓stepG, go_sem, resP, Nat.le_refl, List.take_length]; try rfl) ?_)
      simp [subD, subL, subV]
  · have c0 : (decide (n < 0) || decide (8 < n)) = true := by
      rw [Bool.or_eq_true, decide_eq_true_eq, decide_eq_true_eq]; omega
    have hE : netsE n l = 1 := by unfold netsE; rw [c0]; simp
    rw [netsV_bad (by rw [hE]; simp), hE]
    refine Runs.of (kit Try.prog) Try.func80 rfl rfl (by rw [Try.ntmps80]; exact of_decide_eq_true rfl) ?_; rw [Try.ntmps80, Try.results80]
    repeat' (first
      | ((first | refine Pwp.step (kit _) rfl fun K hK => ?_ | refine Pwp.last (kit _) rfl fun K hK => ?_ | refine Pwp.stepD (kit _) rfl rfl fun K hK => ?_ | refine Pwp.lastD (kit _) rfl rfl fun K hK => ?_); simp (dsimp := false) only [↓opsP_nil, ↓opsP_cons, ↓opsD_nil, ↓opsD_cons, ↓opP, ↓stepP, ↓stepG, go_sem, c0])
      | (refine Pwp.seq ?_)
      | (refine Pwp.block ?_)
      | (refine Pwp.exit ?_; simp only [thenS, blockS, if_true, if_false, reduceIte, Nat.reduceEqDiff, Nat.add_one_ne_zero, reduceCtorEq])
      | (refine Pwp.skip ?_; simp only [thenS, blockS])
      | (refine Pwp.cond rfl True.intro (fun h => ?_) (fun h => ?_) <;> (try (cases h; done)) <;> (try simp only [h]))
      | (refine Pwp.ret ?_; try simp only [thenS, blockS])
      | (refine hK _ ?_; clear hK K)
      | (refine hK _ _ rfl ?_; clear hK K)
      | (refine CallG.off ?_)
      | (with_reducible refine Or.inl ?_)
      | (simp only [thenS, blockS])
      | (with_reducible refine And.intro ?_ ?_)
      | (with_reducible exact True.intro)
      | (simp (dsimp := false) only [↓opsP_nil, ↓opsP_cons, ↓opsD_nil, ↓opsD_cons, ↓opP, ↓stepP, ↓stepG, go_sem, c0]))
    all_goals (try (first | (intro hg; simp [hg]; done) | exact of_decide_eq_true rfl | (cases h; done)))
    (refine Fin.data (.inr rfl) (by simp (dsimp := false) only [↓opsP_nil, ↓opsP_cons, ↓opsD_nil, ↓opsD_cons, ↓opP, ↓stepP, ↓stepG, go_sem, resL]; rfl) (by simp only [and_self]) (by simp (dsimp := false) only [↓opsP_nil, ↓opsP_cons, ↓opsD_nil, ↓opsD_cons, ↓opP, ↓stepP, ↓stepG, go_sem, resP, Nat.le_refl, List.take_length]; try rfl) ?_)
    simp [subD, subL, subV]

end Go.Proofs.Ytdodgbhodkcckaa.Pv
