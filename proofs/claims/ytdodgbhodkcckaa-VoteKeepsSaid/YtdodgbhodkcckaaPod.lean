/- Walks of books: items taken out. Printed by a program. -/
import Derived.Test.YtdodgbhodkcckaaPmb
import Derived.Test.YtdodgbhodkcckaaPoc
set_option linter.unusedVariables false
set_option linter.unusedSimpArgs false
set_option autoImplicit false
set_option maxRecDepth 100000
namespace Go.Proofs.Ytdodgbhodkcckaa.Pv
open Go Go.RowKit

/-- A call that is handed a row of one's own, and a closure with one variable. -/
theorem CallK.rowClo135 {P : Program} {fid : Nat} {nid : Nat → Nat} {st : St} {K : Eff → Prop} {i1 i2 v1 s1 l1 e1 : Nat} {f : Fn} {r1 : Option Nat} {els1 cs : List D} {r : PVal} {h' : List (Nat × PObj)}
    (hr : Runs P fid [.own 0 v1 s1 0 l1, .clo f [] [.ref 1 0]] [(0, .arr e1 s1 v1 r1 els1), (1, .box (cs.map .d))] r h') (h1 : find i1 st.heap = some (.arr e1 s1 v1 r1 els1)) (h2 : find i2 st.heap = some (.box (cs.map .d))) (hne : i1 ≠ i2) (hn : (h'.map (·.1)).Nodup)
    (hK : K ⟨r.shift (rename [i1, i2] nid), [i1, i2], shiftH (rename [i1, i2] nid) h'⟩) : CallK P fid nid st [.own i1 v1 s1 0 l1, .clo f [] [.ref i2 0]] K := by
  have sh : ∀ (ρ : Nat → Nat) (l : List D), shiftL ρ (l.map .d) = l.map .d := by
    intro ρ l
    induction l with
    | nil => rfl
    | cons a l ih => simp only [List.map_cons, shiftL, PVal.shift, ih]
  refine ⟨[i1, i2], _, _, r, h', false, ?_, hr, ⟨by simp [hne], by simp, rfl, ?_⟩, ⟨hn, by simp [frozen, PVal.ids]⟩, .inr (.inl (by simp [frozen, PVal.ids])), by simpa using hK⟩
  · simp [argsP, argP, PVal.shift, shiftL, rename]
  · simp [PObj.shift, h1, h2, sh]
theorem idsD135 : ∀ y : List D, (PVal.agg (List.map PVal.d y)).ids = []
  | [] => rfl
  | a :: y => by
    have h := idsD135 y
    simp only [PVal.ids] at h ⊢
    simp only [List.map_cons, idsL, PVal.ids, List.nil_append, h]
def L196 (xs : List (List D)) (g : Nat) (c : Int) (i : Nat) : St := ⟨[(8, pint .i64 i), (7, pint .i64 xs.length), (1, .clo (.func g) [] [.ref 1 0]), (0, .own 0 0 8 0 xs.length)], [(0, .arr 70 8 0 none (xs.map .agg)), (1, .box [.d (I64 c)])], 24⟩
set_option maxHeartbeats 8000000 in
theorem run196 (xs : List (List D)) (pr : List D → Bool) (g : Nat) (c : Int) (hx : ∀ x ∈ xs, x.length = 8) (hl : xs.length ≤ 1000000) (hg : ∀ x ∈ xs, Runs Try.prog g [.d (.agg x), .ref 0 0] [(0, .box [.d (I64 c)])] (pbool (pr x)) [(0, .box [.d (I64 c)])]) : Runs Try.prog 196 [.own 0 0 8 0 xs.length, .clo (.func g) [] [.ref 1 0]] [(0, .arr 70 8 0 none (xs.map .agg)), (1, .box [.d (I64 c)])] (pint .i64 (idxF pr 0 xs)) [(0, .arr 70 8 0 none (xs.map .agg)), (1, .box [.d (I64 c)])] := by
  have hlen : (xs.map D.agg).length = xs.length := by simp
  refine Runs.of (kit Try.prog) Try.func196 rfl rfl (by rw [Try.ntmps196]; exact of_decide_eq_true rfl) ?_; rw [Try.ntmps196, Try.results196]
  repeat' (first
    | ((first | refine Pwp.step (kit _) rfl fun K hK => ?_ | refine Pwp.last (kit _) rfl fun K hK => ?_ | refine Pwp.stepD (kit _) rfl rfl fun K hK => ?_ | refine Pwp.lastD (kit _) rfl rfl fun K hK => ?_); simp (dsimp := false) only [↓opsP_nil, ↓opsP_cons, ↓opsD_nil, ↓opsD_cons, ↓opP, ↓stepP, ↓stepG, go_sem, hlen])
    | (refine Pwp.seq ?_)
    | (refine Pwp.block ?_)
    | (refine Pwp.exit ?_; simp only [thenS, blockS, if_true, if_false, reduceIte, Nat.reduceEqDiff, Nat.add_one_ne_zero, reduceCtorEq])
    | (refine Pwp.skip ?_; simp only [thenS, blockS])
    | (refine Pwp.cond rfl True.intro (fun h => ?_) (fun h => ?_) <;> (try (cases h; done)) <;> (try simp only [h]))
    | (refine Pwp.ret ?_; try simp only [thenS, blockS])
    | (refine hK _ ?_; clear hK K)
    | (refine hK _ _ rfl ?_; clear hK K)
    | (refine CallG.off ?_)
    | (with_reducible refine Or.inl ?_)
    | (simp only [thenS, blockS])
    | (with_reducible refine And.intro ?_ ?_)
    | (with_reducible exact True.intro)
    | (simp (dsimp := false) only [↓opsP_nil, ↓opsP_cons, ↓opsD_nil, ↓opsD_cons, ↓opP, ↓stepP, ↓stepG, go_sem, hlen]))
  all_goals (try (first | (intro hg; simp [hg]; done) | exact of_decide_eq_true rfl | (cases h; done)))
  refine Pwp.rangeI xs.length (fun i s => idxF pr i (xs.drop i) = idxF pr 0 xs ∧ s = L196 xs g c i) (s0 := L196 xs g c 0) (Sub.view V0 (by simp [L196]) rfl (by simp [viewH, viewP, viewL, viewO, V0, V9, V9n, VR, VN, keptOf, find, PVal.toD, subD, subL, subV, subD_refl, viewL_ds, disj, PVal.ids, pnil, List.range, List.range.loop, L196, hlen]) (by simp [viewT, St.ev, viewH, viewP, viewL, viewO, V0, V9, V9n, VR, VN, keptOf, find, PVal.toD, subD, subL, subV, subD_refl, viewL_ds, disj, PVal.ids, pnil, List.range, List.range.loop, L196, hlen])) ⟨rfl, rfl⟩ ?_ ?_
  · rintro i s hi ⟨hp, rfl⟩
    obtain ⟨y, hy, hm⟩ := at_lt hi
    have hgy : (xs.map D.agg)[i]? = some (.agg y) := by simp [hy]
    have hx1 : (y.map PVal.d).length = 8 := by simp [hx y hm]
    have hx3 : (y.map PVal.d).take 8 = y.map PVal.d := List.take_of_length_le (by omega)
    have c1 := dlt hi
    have w := wrap_succ (i := i) (by omega)
    have r1 := hg y hm
    have hd : xs.drop i = y :: xs.drop (i + 1) := by obtain ⟨h1, h2⟩ := List.getElem?_eq_some_iff.1 hy; rw [List.drop_eq_getElem_cons h1, h2]
    rw [hd, idxF] at hp
    unfold L196
    cases hc : pr y with
    | true =>
      rw [hc, if_pos rfl] at hp
      rw [hc] at r1
      repeat' (first
        | ((first | refine Pwp.step (kit _) rfl fun K hK => ?_ | refine Pwp.last (kit _) rfl fun K hK => ?_ | refine Pwp.stepD (kit _) rfl rfl fun K hK => ?_ | refine Pwp.lastD (kit _) rfl rfl fun K hK => ?_); simp (dsimp := false) only [↓opsP_nil, ↓opsP_cons, ↓opsD_nil, ↓opsD_cons, ↓opP, ↓stepP, ↓stepG, go_sem, hgy, c1, w, hlen, hi, hx1, hx3, toDL_ds])
        | (refine Pwp.seq ?_)
        | (refine Pwp.block ?_)
        | (refine Pwp.exit ?_; simp only [thenS, blockS, if_true, if_false, reduceIte, Nat.reduceEqDiff, Nat.add_one_ne_zero, reduceCtorEq])
        | (refine Pwp.skip ?_; simp only [thenS, blockS])
        | (refine Pwp.cond rfl True.intro (fun h => ?_) (fun h => ?_) <;> (try (cases h; done)) <;> (try simp only [h]))
        | (refine Pwp.ret ?_; try simp only [thenS, blockS])
        | (refine hK _ ?_; clear hK K)
        | (refine hK _ _ rfl ?_; clear hK K)
        | (refine CallK.capt (cs := [I64 c]) (q := .agg (List.map PVal.d y)) r1 (by simp only [PVal.toD, toDL_ds, Option.map]) (subD_refl _) (idsD135 y) rfl ?_)
        | (refine CallG.off ?_)
        | (with_reducible refine Or.inl ?_)
        | (simp only [thenS, blockS])
        | (with_reducible refine And.intro ?_ ?_)
        | (with_reducible exact True.intro)
        | (simp (dsimp := false) only [↓opsP_nil, ↓opsP_cons, ↓opsD_nil, ↓opsD_cons, ↓opP, ↓stepP, ↓stepG, go_sem, hgy, c1, w, hlen, hi, hx1, hx3, toDL_ds]))
      all_goals (try (first | (intro hg; simp [hg]; done) | exact of_decide_eq_true rfl | (cases h; done)))
      refine Fin.dataV V0 (.inr rfl) (by simp (dsimp := false) only [↓opsP_nil, ↓opsP_cons, ↓opsD_nil, ↓opsD_cons, ↓opP, ↓stepP, ↓stepG, go_sem, resL]; rfl) (by simp only [and_self]) rfl (by simp [viewH, viewP, viewL, viewO, V0, keptOf, find, PVal.toD, subD_refl, disj, PVal.ids]) (by simp [resP, viewP, V0, keptOf, find, PVal.toD, subD_refl, disj, PVal.ids, ← hp])
    | false =>
      rw [hc, if_neg (by simp)] at hp
      rw [hc] at r1
      repeat' (first
        | ((first | refine Pwp.step (kit _) rfl fun K hK => ?_ | refine Pwp.last (kit _) rfl fun K hK => ?_ | refine Pwp.stepD (kit _) rfl rfl fun K hK => ?_ | refine Pwp.lastD (kit _) rfl rfl fun K hK => ?_); simp (dsimp := false) only [↓opsP_nil, ↓opsP_cons, ↓opsD_nil, ↓opsD_cons, ↓opP, ↓stepP, ↓stepG, go_sem, hgy, c1, w, hlen, hi, hx1, hx3, toDL_ds])
        | (refine Pwp.seq ?_)
        | (refine Pwp.block ?_)
        | (refine Pwp.exit ?_; simp only [thenS, blockS, if_true, if_false, reduceIte, Nat.reduceEqDiff, Nat.add_one_ne_zero, reduceCtorEq])
        | (refine Pwp.skip ?_; simp only [thenS, blockS])
        | (refine Pwp.cond rfl True.intro (fun h => ?_) (fun h => ?_) <;> (try (cases h; done)) <;> (try simp only [h]))
        | (refine Pwp.ret ?_; try simp only [thenS, blockS])
        | (refine hK _ ?_; clear hK K)
        | (refine hK _ _ rfl ?_; clear hK K)
        | (refine CallK.capt (cs := [I64 c]) (q := .agg (List.map PVal.d y)) r1 (by simp only [PVal.toD, toDL_ds, Option.map]) (subD_refl _) (idsD135 y) rfl ?_)
        | (refine CallG.off ?_)
        | (with_reducible refine Or.inl ?_)
        | (simp only [thenS, blockS])
        | (with_reducible refine And.intro ?_ ?_)
        | (with_reducible exact True.intro)
        | (simp (dsimp := false) only [↓opsP_nil, ↓opsP_cons, ↓opsD_nil, ↓opsD_cons, ↓opP, ↓stepP, ↓stepG, go_sem, hgy, c1, w, hlen, hi, hx1, hx3, toDL_ds]))
      all_goals (try (first | (intro hg; simp [hg]; done) | exact of_decide_eq_true rfl | (cases h; done)))
      exact ⟨_, Sub.view V0 (by simp [L196]) rfl (by simp [viewH, viewP, viewL, viewO, V0, V9, V9n, VR, VN, keptOf, find, PVal.toD, subD, subL, subV, subD_refl, viewL_ds, disj, PVal.ids, pnil, List.range, List.range.loop, L196]) (by simp [viewT, St.ev, viewH, viewP, viewL, viewO, V0, V9, V9n, VR, VN, keptOf, find, PVal.toD, subD, subL, subV, subD_refl, viewL_ds, disj, PVal.ids, pnil, List.range, List.range.loop, L196]), hp, rfl⟩
  · rintro s ⟨hp, rfl⟩
    have c1 := dge (Nat.le_refl xs.length)
    rw [List.drop_length, idxF] at hp
    unfold L196
    repeat' (first
      | ((first | refine Pwp.step (kit _) rfl fun K hK => ?_ | refine Pwp.last (kit _) rfl fun K hK => ?_ | refine Pwp.stepD (kit _) rfl rfl fun K hK => ?_ | refine Pwp.lastD (kit _) rfl rfl fun K hK => ?_); simp (dsimp := false) only [↓opsP_nil, ↓opsP_cons, ↓opsD_nil, ↓opsD_cons, ↓opP, ↓stepP, ↓stepG, go_sem, c1, hlen])
      | (refine Pwp.seq ?_)
      | (refine Pwp.block ?_)
      | (refine Pwp.exit ?_; simp only [thenS, blockS, if_true, if_false, reduceIte, Nat.reduceEqDiff, Nat.add_one_ne_zero, reduceCtorEq])
      | (refine Pwp.skip ?_; simp only [thenS, blockS])
      | (refine Pwp.cond rfl True.intro (fun h => ?_) (fun h => ?_) <;> (try (cases h; done)) <;> (try simp only [h]))
      | (refine Pwp.ret ?_; try simp only [thenS, blockS])
      | (refine hK _ ?_; clear hK K)
      | (refine hK _ _ rfl ?_; clear hK K)
      | (refine CallG.off ?_)
      | (with_reducible refine Or.inl ?_)
      | (simp only [thenS, blockS])
      | (with_reducible refine And.intro ?_ ?_)
      | (with_reducible exact True.intro)
      | (simp (dsimp := false) only [↓opsP_nil, ↓opsP_cons, ↓opsD_nil, ↓opsD_cons, ↓opP, ↓stepP, ↓stepG, go_sem, c1, hlen]))
    all_goals (try (first | (intro hg; simp [hg]; done) | exact of_decide_eq_true rfl | (cases h; done)))
    refine Fin.dataV V0 (.inr rfl) (by simp (dsimp := false) only [↓opsP_nil, ↓opsP_cons, ↓opsD_nil, ↓opsD_cons, ↓opP, ↓stepP, ↓stepG, go_sem, resL]; rfl) (by simp only [and_self]) rfl (by simp [viewH, viewP, viewL, viewO, V0, keptOf, find, PVal.toD, subD_refl, disj, PVal.ids]) (by simp [resP, viewP, V0, keptOf, find, PVal.toD, subD_refl, disj, PVal.ids, ← hp])
def L135 (xs : List (List D)) (pr : List D → Bool) (g : Nat) (c : Int) (j : Nat) : St := ⟨[(6, pint .i64 j), (5, pint .i64 (kF pr xs j)), (1, .clo (.func g) [] [.ref 1 0]), (0, .own 0 0 8 0 xs.length)], [(0, .arr 70 8 0 none ((delF pr xs j).map .agg)), (1, .box [.d (I64 c)])], 48⟩
set_option maxHeartbeats 16000000 in
theorem run135 (xs : List (List D)) (pr : List D → Bool) (g : Nat) (c : Int) (hx : ∀ x ∈ xs, x.length = 8) (ho : ∀ x ∈ xs, x.all D.one = true) (hl : xs.length ≤ 1000000) (hg : ∀ x ∈ xs, Runs Try.prog g [.d (.agg x), .ref 0 0] [(0, .box [.d (I64 c)])] (pbool (pr x)) [(0, .box [.d (I64 c)])]) : Runs Try.prog 135 [.own 0 0 8 0 xs.length, .clo (.func g) [] [.ref 1 0]] [(0, .arr 70 8 0 none (xs.map .agg)), (1, .box [.d (I64 c)])] (.own 0 0 8 0 (keepF pr xs).length) [(0, .arr 70 8 0 none ((doneF pr [D.v (Value.int IntKind.i64 0), D.v (Value.int IntKind.i64 0), D.v (Value.int IntKind.i64 0), D.v (Value.int IntKind.i64 0), D.v (Value.int IntKind.i64 0), D.v (Value.int IntKind.i64 0), D.v (Value.int IntKind.i64 0), D.v (Value.int IntKind.i64 0)] xs).map .agg)), (1, .box [.d (I64 c)])] := by
  have hlen : (xs.map D.agg).length = xs.length := by simp
  have r200 := run196 xs pr g c hx hl hg
  rcases idxF_split pr xs 0 with ⟨h1, h2⟩ | ⟨i0, y, h1, h2, h3, h4⟩
  · rw [h1] at r200
    have hd : doneF pr [D.v (Value.int IntKind.i64 0), D.v (Value.int IntKind.i64 0), D.v (Value.int IntKind.i64 0), D.v (Value.int IntKind.i64 0), D.v (Value.int IntKind.i64 0), D.v (Value.int IntKind.i64 0), D.v (Value.int IntKind.i64 0), D.v (Value.int IntKind.i64 0)] xs = xs := by unfold doneF; rw [h2]; simp
    rw [hd, h2]
    refine Runs.of (kit Try.prog) Try.func135 rfl rfl (by rw [Try.ntmps135]; exact of_decide_eq_true rfl) ?_; rw [Try.ntmps135, Try.results135]
    repeat' (first
      | ((first | refine Pwp.step (kit _) rfl fun K hK => ?_ | refine Pwp.last (kit _) rfl fun K hK => ?_ | refine Pwp.stepD (kit _) rfl rfl fun K hK => ?_ | refine Pwp.lastD (kit _) rfl rfl fun K hK => ?_); simp (dsimp := false) only [↓opsP_nil, ↓opsP_cons, ↓opsD_nil, ↓opsD_cons, ↓opP, ↓stepP, ↓stepG, go_sem])
      | (refine Pwp.seq ?_)
      | (refine Pwp.block ?_)
      | (refine Pwp.exit ?_; simp only [thenS, blockS, if_true, if_false, reduceIte, Nat.reduceEqDiff, Nat.add_one_ne_zero, reduceCtorEq])
      | (refine Pwp.skip ?_; simp only [thenS, blockS])
      | (refine Pwp.cond rfl True.intro (fun h => ?_) (fun h => ?_) <;> (try (cases h; done)) <;> (try simp only [h]))
      | (refine Pwp.ret ?_; try simp only [thenS, blockS])
      | (refine hK _ ?_; clear hK K)
      | (refine hK _ _ rfl ?_; clear hK K)
      | (refine CallK.rowClo135 (cs := [I64 c]) r200 rfl rfl (of_decide_eq_true rfl) (by simp) ?_)
      | (refine CallG.off ?_)
      | (with_reducible refine Or.inl ?_)
      | (simp only [thenS, blockS])
      | (with_reducible refine And.intro ?_ ?_)
      | (with_reducible exact True.intro)
      | (simp (dsimp := false) only [↓opsP_nil, ↓opsP_cons, ↓opsD_nil, ↓opsD_cons, ↓opP, ↓stepP, ↓stepG, go_sem]))
    all_goals (try (first | (intro hg; simp [hg]; done) | exact of_decide_eq_true rfl | (cases h; done)))
    (refine Fin.valV V0 (by first | exact .inr rfl | exact .inl rfl) (by simp (dsimp := false) only [↓opsP_nil, ↓opsP_cons, ↓opsD_nil, ↓opsD_cons, ↓opP, ↓stepP, ↓stepG, go_sem, resL]; rfl) (by simp only [and_self]) rfl (by simp [viewH, viewP, viewL, viewO, V0, V9, V9n, VR, VN, keptOf, find, PVal.toD, subD, subL, subV, subD_refl, viewL_ds, disj, PVal.ids, pnil, List.range, List.range.loop, V8]) (by simp [resP, toDL, idsL, viewH, viewP, viewL, viewO, V0, V9, V9n, VR, VN, keptOf, find, PVal.toD, subD, subL, subV, subD_refl, viewL_ds, disj, PVal.ids, pnil, List.range, List.range.loop, V8]))
  · rw [Nat.zero_add] at h1
    rw [h1] at r200
    have hi0 : i0 < xs.length := (List.getElem?_eq_some_iff.1 h2).1
    have n1 : (((i0 : Nat) : Int) == -1) = false := by rw [beq_eq_false_iff_ne]; omega
    have w0 := wrap_succ (i := i0) (by omega)
    have hk0 : kF pr xs (i0 + 1) = i0 := by
      have := (delF_out h2 h3).2
      rw [this]; unfold kF; rw [h4, List.length_take]; omega
    have hd0 : delF pr xs (i0 + 1) = xs := by
      rw [(delF_out h2 h3).1]; unfold delF; rw [h4, List.length_take, Nat.min_eq_left (by omega), List.take_append_drop]
    refine Runs.of (kit Try.prog) Try.func135 rfl rfl (by rw [Try.ntmps135]; exact of_decide_eq_true rfl) ?_; rw [Try.ntmps135, Try.results135]
    repeat' (first
      | ((first | refine Pwp.step (kit _) rfl fun K hK => ?_ | refine Pwp.last (kit _) rfl fun K hK => ?_ | refine Pwp.stepD (kit _) rfl rfl fun K hK => ?_ | refine Pwp.lastD (kit _) rfl rfl fun K hK => ?_); simp (dsimp := false) only [↓opsP_nil, ↓opsP_cons, ↓opsD_nil, ↓opsD_cons, ↓opP, ↓stepP, ↓stepG, go_sem, n1, w0])
      | (refine Pwp.seq ?_)
      | (refine Pwp.block ?_)
      | (refine Pwp.exit ?_; simp only [thenS, blockS, if_true, if_false, reduceIte, Nat.reduceEqDiff, Nat.add_one_ne_zero, reduceCtorEq])
      | (refine Pwp.skip ?_; simp only [thenS, blockS])
      | (refine Pwp.cond rfl True.intro (fun h => ?_) (fun h => ?_) <;> (try (cases h; done)) <;> (try simp only [h]))
      | (refine Pwp.ret ?_; try simp only [thenS, blockS])
      | (refine hK _ ?_; clear hK K)
      | (refine hK _ _ rfl ?_; clear hK K)
      | (refine CallK.rowClo135 (cs := [I64 c]) r200 rfl rfl (of_decide_eq_true rfl) (by simp) ?_)
      | (refine CallG.off ?_)
      | (with_reducible refine Or.inl ?_)
      | (simp only [thenS, blockS])
      | (with_reducible refine And.intro ?_ ?_)
      | (with_reducible exact True.intro)
      | (simp (dsimp := false) only [↓opsP_nil, ↓opsP_cons, ↓opsD_nil, ↓opsD_cons, ↓opP, ↓stepP, ↓stepG, go_sem, n1, w0]))
    all_goals (try (first | (intro hg; simp [hg]; done) | exact of_decide_eq_true rfl | (cases h; done)))
    refine Pwp.range (xs.length - (i0 + 1)) (S := fun i => L135 xs pr g c (i0 + 1 + i)) (Sub.view V0 (by simp [L135]) rfl (by simp [viewH, viewP, viewL, viewO, V0, V9, V9n, VR, VN, keptOf, find, PVal.toD, subD, subL, subV, subD_refl, viewL_ds, disj, PVal.ids, pnil, List.range, List.range.loop, L135, hk0, hd0]) (by simp [viewT, St.ev, viewH, viewP, viewL, viewO, V0, V9, V9n, VR, VN, keptOf, find, PVal.toD, subD, subL, subV, subD_refl, viewL_ds, disj, PVal.ids, pnil, List.range, List.range.loop, L135, hk0, hd0])) (fun i hi => ?_) ?_
    · obtain ⟨x, hxx, hm⟩ := at_lt (l := xs) (i := i0 + 1 + i) (by omega)
      have hji : i0 + 1 + (i + 1) = i0 + 1 + i + 1 := by omega
      rw [hji]
      have hjl : i0 + 1 + i < xs.length := by omega
      have hj0 : i0 < i0 + 1 + i := by omega
      generalize i0 + 1 + i = j at *
      have hkj := kF_le pr xs j
      have hkl : kF pr xs j < xs.length := by omega
      obtain ⟨z, hz⟩ := delF_at hkl
      have hgj : ((delF pr xs j).map D.agg)[j]? = some (.agg x) := by simp [delF_get (pr := pr) hxx]
      have hgz : ((delF pr xs j).map D.agg)[kF pr xs j]? = some (.agg z) := by simp [hz]
      have hzl : z.length = 8 := hx z (delF_mem (List.mem_of_getElem? hz))
      have hx1 : (x.map PVal.d).length = 8 := by simp [hx x hm]
      have hx3 : (x.map PVal.d).take 8 = x.map PVal.d := List.take_of_length_le (by omega)
      have hx4 : x.length = 8 := hx x hm
      have hx5 : x.all D.one = true := ho x hm
      have hx8 : (x.map PVal.d).all PVal.one = true := by rw [List.all_map]; exact hx5
      have hx6 : ∀ q : List D, q.length = 8 → splice q 0 x = x := fun q hq => by unfold splice; rw [List.take_zero, List.nil_append, List.drop_of_length_le (by omega), List.append_nil]
      have hx7 := hx6 z hzl
      have hx9 : idsL (x.map PVal.d) = [] := idsD135 x
      have hx10 : z.drop 8 = [] := List.drop_of_length_le (by omega)
      have c1 := dlt hjl
      have w := wrap_succ (i := j) (by omega)
      have wk := wrap_succ (i := kF pr xs j) (by omega)
      have r1 := hg x hm
      have hdl := delF_len pr xs j
      have hll : ((delF pr xs j).map D.agg).length = xs.length := by simp [hdl]
      unfold L135
      cases hc : pr x with
      | true =>
        rw [hc] at r1
        obtain ⟨e1, e2⟩ := delF_out (pr := pr) hxx hc
        repeat' (first
          | ((first | refine Pwp.step (kit _) rfl fun K hK => ?_ | refine Pwp.last (kit _) rfl fun K hK => ?_ | refine Pwp.stepD (kit _) rfl rfl fun K hK => ?_ | refine Pwp.lastD (kit _) rfl rfl fun K hK => ?_); simp (dsimp := false) only [↓opsP_nil, ↓opsP_cons, ↓opsD_nil, ↓opsD_cons, ↓opP, ↓stepP, ↓stepG, go_sem, hgj, c1, w, hjl, hx1, hx3, hx8, toDL_ds])
          | (refine Pwp.seq ?_)
          | (refine Pwp.block ?_)
          | (refine Pwp.exit ?_; simp only [thenS, blockS, if_true, if_false, reduceIte, Nat.reduceEqDiff, Nat.add_one_ne_zero, reduceCtorEq])
          | (refine Pwp.skip ?_; simp only [thenS, blockS])
          | (refine Pwp.cond rfl True.intro (fun h => ?_) (fun h => ?_) <;> (try (cases h; done)) <;> (try simp only [h]))
          | (refine Pwp.ret ?_; try simp only [thenS, blockS])
          | (refine hK _ ?_; clear hK K)
          | (refine hK _ _ rfl ?_; clear hK K)
          | (refine CallK.capt (cs := [I64 c]) (q := .agg (List.map PVal.d x)) r1 (by simp only [PVal.toD, toDL_ds, Option.map]) (subD_refl _) (idsD135 x) rfl ?_)
          | (refine CallG.off ?_)
          | (with_reducible refine Or.inl ?_)
          | (simp only [thenS, blockS])
          | (with_reducible refine And.intro ?_ ?_)
          | (with_reducible exact True.intro)
          | (simp (dsimp := false) only [↓opsP_nil, ↓opsP_cons, ↓opsD_nil, ↓opsD_cons, ↓opP, ↓stepP, ↓stepG, go_sem, hgj, c1, w, hjl, hx1, hx3, hx8, toDL_ds]))
        all_goals (try (first | (intro hg; simp [hg]; done) | exact of_decide_eq_true rfl | (cases h; done)))
        exact Sub.view V0 (by simp [L135]) rfl (by simp [viewH, viewP, viewL, viewO, V0, V9, V9n, VR, VN, keptOf, find, PVal.toD, subD, subL, subV, subD_refl, viewL_ds, disj, PVal.ids, pnil, List.range, List.range.loop, L135, e1, e2]) (by simp [viewT, St.ev, viewH, viewP, viewL, viewO, V0, V9, V9n, VR, VN, keptOf, find, PVal.toD, subD, subL, subV, subD_refl, viewL_ds, disj, PVal.ids, pnil, List.range, List.range.loop, L135, e1, e2])
      | false =>
        rw [hc] at r1
        have e1 := delF_in (pr := pr) hxx hc hkl
        have e2 := kF_in (pr := pr) hxx hc
        have e3 : ((delF pr xs j).map D.agg).set (kF pr xs j) (D.agg x) = (delF pr xs (j + 1)).map D.agg := by
          rw [← e1, List.map_set]
        repeat' (first
          | ((first | refine Pwp.step (kit _) rfl fun K hK => ?_ | refine Pwp.last (kit _) rfl fun K hK => ?_ | refine Pwp.stepD (kit _) rfl rfl fun K hK => ?_ | refine Pwp.lastD (kit _) rfl rfl fun K hK => ?_); simp (dsimp := false) only [↓opsP_nil, ↓opsP_cons, ↓opsD_nil, ↓opsD_cons, ↓opP, ↓stepP, ↓stepG, go_sem, hgj, hgz, c1, w, wk, hjl, hkl, hx1, hx3, hx4, hx5, hx7, hx8, hx9, hx10, hzl, toDL_ds])
          | (refine Pwp.seq ?_)
          | (refine Pwp.block ?_)
          | (refine Pwp.exit ?_; simp only [thenS, blockS, if_true, if_false, reduceIte, Nat.reduceEqDiff, Nat.add_one_ne_zero, reduceCtorEq])
          | (refine Pwp.skip ?_; simp only [thenS, blockS])
          | (refine Pwp.cond rfl True.intro (fun h => ?_) (fun h => ?_) <;> (try (cases h; done)) <;> (try simp only [h]))
          | (refine Pwp.ret ?_; try simp only [thenS, blockS])
          | (refine hK _ ?_; clear hK K)
          | (refine hK _ _ rfl ?_; clear hK K)
          | (refine CallK.capt (cs := [I64 c]) (q := .agg (List.map PVal.d x)) r1 (by simp only [PVal.toD, toDL_ds, Option.map]) (subD_refl _) (idsD135 x) rfl ?_)
          | (refine CallG.off ?_)
          | (with_reducible refine Or.inl ?_)
          | (simp only [thenS, blockS])
          | (with_reducible refine And.intro ?_ ?_)
          | (with_reducible exact True.intro)
          | (simp (dsimp := false) only [↓opsP_nil, ↓opsP_cons, ↓opsD_nil, ↓opsD_cons, ↓opP, ↓stepP, ↓stepG, go_sem, hgj, hgz, c1, w, wk, hjl, hkl, hx1, hx3, hx4, hx5, hx7, hx8, hx9, hx10, hzl, toDL_ds]))
        all_goals (try (first | (intro hg; simp [hg]; done) | exact of_decide_eq_true rfl | (cases h; done)))
        exact Sub.view V0 (by simp [L135]) rfl (by simp [viewH, viewP, viewL, viewO, V0, V9, V9n, VR, VN, keptOf, find, PVal.toD, subD, subL, subV, subD_refl, viewL_ds, disj, PVal.ids, pnil, List.range, List.range.loop, L135, e2, e3]) (by simp [viewT, St.ev, viewH, viewP, viewL, viewO, V0, V9, V9n, VR, VN, keptOf, find, PVal.toD, subD, subL, subV, subD_refl, viewL_ds, disj, PVal.ids, pnil, List.range, List.range.loop, L135, e2, e3])
    · rw [show i0 + 1 + (xs.length - (i0 + 1)) = xs.length by omega]
      have c1 := dge (Nat.le_refl xs.length)
      unfold L135
      repeat' (first
        | ((first | refine Pwp.step (kit _) rfl fun K hK => ?_ | refine Pwp.last (kit _) rfl fun K hK => ?_ | refine Pwp.stepD (kit _) rfl rfl fun K hK => ?_ | refine Pwp.lastD (kit _) rfl rfl fun K hK => ?_); simp (dsimp := false) only [↓opsP_nil, ↓opsP_cons, ↓opsD_nil, ↓opsD_cons, ↓opP, ↓stepP, ↓stepG, go_sem, c1])
        | (refine Pwp.seq ?_)
        | (refine Pwp.block ?_)
        | (refine Pwp.exit ?_; simp only [thenS, blockS, if_true, if_false, reduceIte, Nat.reduceEqDiff, Nat.add_one_ne_zero, reduceCtorEq])
        | (refine Pwp.skip ?_; simp only [thenS, blockS])
        | (refine Pwp.cond rfl True.intro (fun h => ?_) (fun h => ?_) <;> (try (cases h; done)) <;> (try simp only [h]))
        | (refine Pwp.ret ?_; try simp only [thenS, blockS])
        | (refine hK _ ?_; clear hK K)
        | (refine hK _ _ rfl ?_; clear hK K)
        | (refine CallG.off ?_)
        | (with_reducible refine Or.inl ?_)
        | (simp only [thenS, blockS])
        | (with_reducible refine And.intro ?_ ?_)
        | (with_reducible exact True.intro)
        | (simp (dsimp := false) only [↓opsP_nil, ↓opsP_cons, ↓opsD_nil, ↓opsD_cons, ↓opP, ↓stepP, ↓stepG, go_sem, c1]))
      all_goals (try (first | (intro hg; simp [hg]; done) | exact of_decide_eq_true rfl | (cases h; done)))
      all_goals (try (first | exact Int.ofNat_le.2 (kF_len pr xs xs.length) | exact Int.le_refl _ | (simp only [List.length_map, delF_len]; exact kF_len pr xs xs.length)))
      have hdr := doneF_row pr D.agg [D.v (Value.int IntKind.i64 0), D.v (Value.int IntKind.i64 0), D.v (Value.int IntKind.i64 0), D.v (Value.int IntKind.i64 0), D.v (Value.int IntKind.i64 0), D.v (Value.int IntKind.i64 0), D.v (Value.int IntKind.i64 0), D.v (Value.int IntKind.i64 0)] xs
      rw [hdr, show kF pr xs xs.length = (keepF pr xs).length by unfold kF; rw [List.take_length]]
      (refine Fin.valV V0 (by first | exact .inr rfl | exact .inl rfl) (by simp (dsimp := false) only [↓opsP_nil, ↓opsP_cons, ↓opsD_nil, ↓opsD_cons, ↓opP, ↓stepP, ↓stepG, go_sem, resL]; rfl) (by simp only [and_self]) rfl (by simp [viewH, viewP, viewL, viewO, V0, V9, V9n, VR, VN, keptOf, find, PVal.toD, subD, subL, subV, subD_refl, viewL_ds, disj, PVal.ids, pnil, List.range, List.range.loop, V8]) (by simp [resP, toDL, idsL, viewH, viewP, viewL, viewO, V0, V9, V9n, VR, VN, keptOf, find, PVal.toD, subD, subL, subV, subD_refl, viewL_ds, disj, PVal.ids, pnil, List.range, List.range.loop, V8]))

end Go.Proofs.Ytdodgbhodkcckaa.Pv
