/- Walks of cycles: what pdqsort does to many lines that are in order: nothing. -/
import Derived.Test.YtdodgbhodkcckaaPch
import Derived.Test.YtdodgbhodkcckaaPci
set_option linter.unusedVariables false
set_option linter.unusedSimpArgs false
set_option autoImplicit false
set_option maxRecDepth 100000
namespace Go.Proofs.Ytdodgbhodkcckaa.Pv
open Go Go.RowKit

theorem shiftL_ds (ρ : Nat → Nat) : ∀ l : List D, shiftL ρ (l.map .d) = l.map .d
  | [] => rfl
  | a :: l => by simp only [List.map_cons, shiftL, PVal.shift, shiftL_ds ρ l]
theorem argsP_ds {h : List (Nat × PObj)} {ρ : Nat → Nat} {qs ps : List PVal} (hq : argsP h ρ qs ps) : ∀ l : List D, argsP h ρ (l.map .d ++ qs) (l.map .d ++ ps)
  | [] => hq
  | a :: l => by
    simp only [List.map_cons, List.cons_append, argsP]
    exact ⟨by simp [argP, PVal.toD, subD_refl], argsP_ds hq l⟩
theorem frozen_ds {qs ps : List PVal} (hq : frozen qs ps = []) : ∀ l : List D, frozen (l.map .d ++ qs) (l.map .d ++ ps) = []
  | [] => hq
  | a :: l => by
    simp only [List.map_cons, List.cons_append, frozen, PVal.ids, List.nil_append]
    exact frozen_ds hq l
/-- A call that is handed data, and among these a pointer to a variable, which is handed back as it was. -/
theorem CallK.captL {P : Program} {fid : Nat} {nid : Nat → Nat} {st : St} {K : Eff → Prop} {pre post : List D} {r : D} {id : Nat} {cs : List D} (hr : Runs P fid (pre.map .d ++ .ref 0 0 :: post.map .d) [(0, .box (cs.map .d))] (.d r) [(0, .box (cs.map .d))]) (hf : find id st.heap = some (.box (cs.map .d)))
    (hK : K ⟨.d r, [id], [(id, .box (cs.map .d))]⟩) : CallK P fid nid st (pre.map .d ++ .ref id 0 :: post.map .d) K := by
  have e1 : ∀ ρ : Nat → Nat, argsP st.heap ρ (post.map .d) (post.map .d) := fun ρ => by
    have := argsP_ds (h := st.heap) (ρ := ρ) (qs := []) (ps := []) (by simp [argsP]) post
    simpa using this
  have e2 : frozen (post.map .d) (post.map .d) = [] := by
    have := frozen_ds (qs := []) (ps := []) rfl post
    simpa using this
  have e3 : frozen (pre.map .d ++ .ref id 0 :: post.map .d) (pre.map .d ++ .ref 0 0 :: post.map .d) = [] := frozen_ds (by simp only [frozen]; exact e2) pre
  refine ⟨[id], _, _, _, _, false, ?_, hr, ⟨by simp, by simp, rfl, ?_⟩, ⟨by simp, by simp [e3]⟩, .inr (.inl (by simp [e3])), ?_⟩
  · refine argsP_ds ?_ pre
    simp only [argsP]
    exact ⟨by simp [argP, PVal.shift, rename], e1 _⟩
  · simp [PObj.shift, shiftL_ds, hf]
  · simpa [PVal.shift, shiftH, PObj.shift, shiftL_ds, rename] using hK

theorem ahead_trans {x y z : Line} (h1 : ahead x y = true) (h2 : ahead y z = true) : ahead x z = true := by
  unfold ahead at *
  simp only [Bool.or_eq_true, decide_eq_true_eq, Bool.and_eq_true, beq_iff_eq] at *
  omega
theorem ord_far {l : List Line} (ho : InOrd l) {i : Nat} {x : Line} (hx : l[i]? = some x) : ∀ (d : Nat) {y : Line}, l[i + 1 + d]? = some y → ahead x y = true
  | 0, y, hy => ho i x y hx hy
  | d + 1, y, hy => by
    have hlt : i + 1 + d < l.length := by have := (List.getElem?_eq_some_iff.1 hy).1; omega
    have hz : l[i + 1 + d]? = some l[i + 1 + d] := List.getElem?_eq_getElem hlt
    exact ahead_trans (ord_far ho hx d hz) (ho (i + 1 + d) _ y hz hy)
theorem ord_lt {l : List Line} (ho : InOrd l) {i j : Nat} (hij : i < j) {x y : Line} (hx : l[i]? = some x) (hy : l[j]? = some y) : ahead x y = true :=
  ord_far ho hx (j - i - 1) (by rw [show i + 1 + (j - i - 1) = j by omega]; exact hy)

set_option maxHeartbeats 8000000 in
theorem run260 (l : List Line) (ho : InOrd l) (a b : Nat) (hab : a < b) (hb : b < l.length) : Runs Try.prog 260 [.d (.slc 4 (linesD l)), pint .i64 a, pint .i64 b, .ref 0 0, .d cmpD] [(0, .box [.d (I64 0)])] (.d (.tup [I64 a, I64 b])) [(0, .box [.d (I64 0)])] := by
  obtain ⟨x, hx, _⟩ := at_lt (l := l) (i := a) (by omega)
  obtain ⟨y, hy, _⟩ := at_lt hb
  have hgx := lines_get hx
  have hgy := lines_get hy
  have hnb := not_back (ord_lt ho hab hx hy)
  have r139 := run139 y x
  have ta := Int.toNat_natCast a
  have tb := Int.toNat_natCast b
  have pa : (0 : Int) ≤ (a : Int) := by omega
  have pb : (0 : Int) ≤ (b : Int) := by omega
  refine Runs.of (kit Try.prog) Try.func260 rfl rfl (by rw [Try.ntmps260]; exact of_decide_eq_true rfl) ?_; rw [Try.ntmps260, Try.results260]
  repeat' (first
    | ((first | refine Pwp.step (kit _) rfl fun K hK => ?_ | refine Pwp.last (kit _) rfl fun K hK => ?_ | refine Pwp.stepD (kit _) rfl rfl fun K hK => ?_ | refine Pwp.lastD (kit _) rfl rfl fun K hK => ?_); simp (dsimp := false) only [↓opsP_nil, ↓opsP_cons, ↓opsD_nil, ↓opsD_cons, footOf, ↓opP, ↓stepP, ↓stepG, go_sem, reduceIte, Nat.reduceAdd, Nat.reduceMul, Nat.reduceEqDiff, Nat.reduceLT, Nat.reduceLeDiff, Nat.reduceSub, reduceCtorEq, Int.reduceToNat, Int.reduceAdd, Int.reduceSub, Int.reduceLT, Int.reduceLE, Int.reduceNeg, Int.reduceBEq, Int.reduceBNe, true_or, hgx, hgy, hnb, ta, tb, pa, pb])
    | (refine Pwp.seq ?_)
    | (refine Pwp.block ?_)
    | (refine Pwp.exit ?_; simp only [thenS, blockS, if_true, if_false, reduceIte, Nat.reduceEqDiff, Nat.add_one_ne_zero, reduceCtorEq])
    | (refine Pwp.skip ?_; simp only [thenS, blockS])
    | (refine Pwp.cond rfl True.intro (fun h => ?_) (fun h => ?_) <;> (try (cases h; done)) <;> (try simp only [h]))
    | (refine Pwp.ret ?_; try simp only [thenS, blockS])
    | (refine hK _ ?_; clear hK K)
    | (refine hK _ _ rfl ?_; clear hK K)
    | (refine CallK.toD (ds := [y.d, x.d]) rfl (r139) rfl ?_)
    | (refine CallG.off ?_)
    | (with_reducible refine Or.inl ?_)
    | (simp only [thenS, blockS])
    | (with_reducible refine And.intro ?_ ?_)
    | (with_reducible exact True.intro)
    | (simp (dsimp := false) only [↓opsP_nil, ↓opsP_cons, ↓opsD_nil, ↓opsD_cons, footOf, ↓opP, ↓stepP, ↓stepG, go_sem, reduceIte, Nat.reduceAdd, Nat.reduceMul, Nat.reduceEqDiff, Nat.reduceLT, Nat.reduceLeDiff, Nat.reduceSub, reduceCtorEq, Int.reduceToNat, Int.reduceAdd, Int.reduceSub, Int.reduceLT, Int.reduceLE, Int.reduceNeg, Int.reduceBEq, Int.reduceBNe, true_or, hgx, hgy, hnb, ta, tb, pa, pb]))
  all_goals (try (first | (intro hg; simp [hg]; done) | exact of_decide_eq_true rfl | (cases h; done)))
  refine Fin.dataV V0 (.inr rfl) (by simp (dsimp := false) only [↓opsP_nil, ↓opsP_cons, ↓opsD_nil, ↓opsD_cons, footOf, ↓opP, ↓stepP, ↓stepG, go_sem, reduceIte, Nat.reduceAdd, Nat.reduceMul, Nat.reduceEqDiff, Nat.reduceLT, Nat.reduceLeDiff, Nat.reduceSub, reduceCtorEq, Int.reduceToNat, Int.reduceAdd, Int.reduceSub, Int.reduceLT, Int.reduceLE, Int.reduceNeg, Int.reduceBEq, Int.reduceBNe, true_or, resL]; rfl) (by simp only [and_self]) rfl (by simp [viewH, viewP, viewL, viewO, V0, keptOf, find, PVal.toD, subD_refl, disj, PVal.ids]) (by simp [resP, viewP, V0, keptOf, find, PVal.toD, toDL, subD, subD_refl, subL, subV, disj, PVal.ids, idsL])
set_option maxHeartbeats 8000000 in
theorem run257 (l : List Line) (ho : InOrd l) (a b c : Nat) (hab : a < b) (hbc : b < c) (hc : c < l.length) : Runs Try.prog 257 [.d (.slc 4 (linesD l)), pint .i64 a, pint .i64 b, pint .i64 c, .ref 0 0, .d cmpD] [(0, .box [.d (I64 0)])] (pint .i64 b) [(0, .box [.d (I64 0)])] := by
  have r1 := run260 l ho a b hab (by omega)
  have r2 := run260 l ho b c hbc hc
  refine Runs.of (kit Try.prog) Try.func257 rfl rfl (by rw [Try.ntmps257]; exact of_decide_eq_true rfl) ?_; rw [Try.ntmps257, Try.results257]
  repeat' (first
    | ((first | refine Pwp.step (kit _) rfl fun K hK => ?_ | refine Pwp.last (kit _) rfl fun K hK => ?_ | refine Pwp.stepD (kit _) rfl rfl fun K hK => ?_ | refine Pwp.lastD (kit _) rfl rfl fun K hK => ?_); simp (dsimp := false) only [↓opsP_nil, ↓opsP_cons, ↓opsD_nil, ↓opsD_cons, footOf, ↓opP, ↓stepP, ↓stepG, go_sem, reduceIte, Nat.reduceAdd, Nat.reduceMul, Nat.reduceEqDiff, Nat.reduceLT, Nat.reduceLeDiff, Nat.reduceSub, reduceCtorEq, Int.reduceToNat, Int.reduceAdd, Int.reduceSub, Int.reduceLT, Int.reduceLE, Int.reduceNeg, Int.reduceBEq, Int.reduceBNe, true_or])
    | (refine Pwp.seq ?_)
    | (refine Pwp.block ?_)
    | (refine Pwp.exit ?_; simp only [thenS, blockS, if_true, if_false, reduceIte, Nat.reduceEqDiff, Nat.add_one_ne_zero, reduceCtorEq])
    | (refine Pwp.skip ?_; simp only [thenS, blockS])
    | (refine Pwp.cond rfl True.intro (fun h => ?_) (fun h => ?_) <;> (try (cases h; done)) <;> (try simp only [h]))
    | (refine Pwp.ret ?_; try simp only [thenS, blockS])
    | (refine hK _ ?_; clear hK K)
    | (refine hK _ _ rfl ?_; clear hK K)
    | (refine CallK.captL (pre := [.slc 4 (linesD l), I64 a, I64 b]) (post := [cmpD]) (cs := [I64 0]) r1 rfl ?_)
    | (refine CallK.captL (pre := [.slc 4 (linesD l), I64 b, I64 c]) (post := [cmpD]) (cs := [I64 0]) r2 rfl ?_)
    | (refine CallG.off ?_)
    | (with_reducible refine Or.inl ?_)
    | (simp only [thenS, blockS])
    | (with_reducible refine And.intro ?_ ?_)
    | (with_reducible exact True.intro)
    | (simp (dsimp := false) only [↓opsP_nil, ↓opsP_cons, ↓opsD_nil, ↓opsD_cons, footOf, ↓opP, ↓stepP, ↓stepG, go_sem, reduceIte, Nat.reduceAdd, Nat.reduceMul, Nat.reduceEqDiff, Nat.reduceLT, Nat.reduceLeDiff, Nat.reduceSub, reduceCtorEq, Int.reduceToNat, Int.reduceAdd, Int.reduceSub, Int.reduceLT, Int.reduceLE, Int.reduceNeg, Int.reduceBEq, Int.reduceBNe, true_or]))
  all_goals (try (first | (intro hg; simp [hg]; done) | exact of_decide_eq_true rfl | (cases h; done)))
  refine Fin.dataV V0 (.inr rfl) (by simp (dsimp := false) only [↓opsP_nil, ↓opsP_cons, ↓opsD_nil, ↓opsD_cons, footOf, ↓opP, ↓stepP, ↓stepG, go_sem, reduceIte, Nat.reduceAdd, Nat.reduceMul, Nat.reduceEqDiff, Nat.reduceLT, Nat.reduceLeDiff, Nat.reduceSub, reduceCtorEq, Int.reduceToNat, Int.reduceAdd, Int.reduceSub, Int.reduceLT, Int.reduceLE, Int.reduceNeg, Int.reduceBEq, Int.reduceBNe, true_or, resL]; rfl) (by simp only [and_self]) rfl (by simp [viewH, viewP, viewL, viewO, V0, keptOf, find, PVal.toD, subD_refl, disj, PVal.ids]) (by simp [resP, viewP, V0, keptOf, find, PVal.toD, subD_refl, disj, PVal.ids])
set_option maxHeartbeats 8000000 in
theorem run256 (l : List Line) (ho : InOrd l) (a : Nat) (h1 : 1 ≤ a) (h2 : a + 1 < l.length) (hl : l.length ≤ 1000) : Runs Try.prog 256 [.d (.slc 4 (linesD l)), pint .i64 a, .ref 0 0, .d cmpD] [(0, .box [.d (I64 0)])] (pint .i64 a) [(0, .box [.d (I64 0)])] := by
  have r1 := run257 l ho (a - 1) a (a + 1) (by omega) (by omega) h2
  have w1 : IntKind.wrap .i64 ((a : Int) - 1) = ((a - 1 : Nat) : Int) := by rw [wrap_of (by omega) (by omega)]; omega
  have w2 := wrap_succ (i := a) (by omega)
  refine Runs.of (kit Try.prog) Try.func256 rfl rfl (by rw [Try.ntmps256]; exact of_decide_eq_true rfl) ?_; rw [Try.ntmps256, Try.results256]
  repeat' (first
    | ((first | refine Pwp.step (kit _) rfl fun K hK => ?_ | refine Pwp.last (kit _) rfl fun K hK => ?_ | refine Pwp.stepD (kit _) rfl rfl fun K hK => ?_ | refine Pwp.lastD (kit _) rfl rfl fun K hK => ?_); simp (dsimp := false) only [↓opsP_nil, ↓opsP_cons, ↓opsD_nil, ↓opsD_cons, footOf, ↓opP, ↓stepP, ↓stepG, go_sem, reduceIte, Nat.reduceAdd, Nat.reduceMul, Nat.reduceEqDiff, Nat.reduceLT, Nat.reduceLeDiff, Nat.reduceSub, reduceCtorEq, Int.reduceToNat, Int.reduceAdd, Int.reduceSub, Int.reduceLT, Int.reduceLE, Int.reduceNeg, Int.reduceBEq, Int.reduceBNe, true_or, w1, w2])
    | (refine Pwp.seq ?_)
    | (refine Pwp.block ?_)
    | (refine Pwp.exit ?_; simp only [thenS, blockS, if_true, if_false, reduceIte, Nat.reduceEqDiff, Nat.add_one_ne_zero, reduceCtorEq])
    | (refine Pwp.skip ?_; simp only [thenS, blockS])
    | (refine Pwp.cond rfl True.intro (fun h => ?_) (fun h => ?_) <;> (try (cases h; done)) <;> (try simp only [h]))
    | (refine Pwp.ret ?_; try simp only [thenS, blockS])
    | (refine hK _ ?_; clear hK K)
    | (refine hK _ _ rfl ?_; clear hK K)
    | (refine CallK.captL (pre := [.slc 4 (linesD l), I64 (a - 1 : Nat), I64 a, I64 (a + 1 : Nat)]) (post := [cmpD]) (cs := [I64 0]) r1 rfl ?_)
    | (refine CallG.off ?_)
    | (with_reducible refine Or.inl ?_)
    | (simp only [thenS, blockS])
    | (with_reducible refine And.intro ?_ ?_)
    | (with_reducible exact True.intro)
    | (simp (dsimp := false) only [↓opsP_nil, ↓opsP_cons, ↓opsD_nil, ↓opsD_cons, footOf, ↓opP, ↓stepP, ↓stepG, go_sem, reduceIte, Nat.reduceAdd, Nat.reduceMul, Nat.reduceEqDiff, Nat.reduceLT, Nat.reduceLeDiff, Nat.reduceSub, reduceCtorEq, Int.reduceToNat, Int.reduceAdd, Int.reduceSub, Int.reduceLT, Int.reduceLE, Int.reduceNeg, Int.reduceBEq, Int.reduceBNe, true_or, w1, w2]))
  all_goals (try (first | (intro hg; simp [hg]; done) | exact of_decide_eq_true rfl | (cases h; done)))
  refine Fin.dataV V0 (.inr rfl) (by simp (dsimp := false) only [↓opsP_nil, ↓opsP_cons, ↓opsD_nil, ↓opsD_cons, footOf, ↓opP, ↓stepP, ↓stepG, go_sem, reduceIte, Nat.reduceAdd, Nat.reduceMul, Nat.reduceEqDiff, Nat.reduceLT, Nat.reduceLeDiff, Nat.reduceSub, reduceCtorEq, Int.reduceToNat, Int.reduceAdd, Int.reduceSub, Int.reduceLT, Int.reduceLE, Int.reduceNeg, Int.reduceBEq, Int.reduceBNe, true_or, resL]; rfl) (by simp only [and_self]) rfl (by simp [viewH, viewP, viewL, viewO, V0, keptOf, find, PVal.toD, subD_refl, disj, PVal.ids]) (by simp [resP, viewP, V0, keptOf, find, PVal.toD, subD_refl, disj, PVal.ids])
set_option maxHeartbeats 8000000 in
theorem run238 (l : List Line) (ho : InOrd l) (h13 : 13 ≤ l.length) (hl : l.length ≤ 1000) : Runs Try.prog 238 [.d (.slc 4 (linesD l)), pint .i64 0, pint .i64 l.length, .d cmpD] [] (.d (.tup [I64 (2 * (l.length / 4) : Nat), I64 1])) [] := by
  obtain ⟨q, hq⟩ : ∃ q, l.length / 4 = q := ⟨_, rfl⟩
  have hq4 : 4 * q ≤ l.length := by omega
  have hq3 : 3 ≤ q := by omega
  rw [hq]
  have r257 := run257 l ho q (2 * q) (3 * q) (by omega) (by omega) (by omega)
  have ri := run256 l ho q (by omega) (by omega) hl
  have rj := run256 l ho (2 * q) (by omega) (by omega) hl
  have rk := run256 l ho (3 * q) (by omega) (by omega) hl
  have w0 : IntKind.wrap .i64 ((l.length : Int) - 0) = (l.length : Int) := by rw [wrap_of (by omega) (by omega)]; omega
  have wq : IntKind.wrap .i64 ((l.length : Int).tdiv 4) = (q : Int) := by
    rw [Int.tdiv_eq_ediv_of_nonneg (by omega), wrap_of (by omega) (by omega)]; omega
  have wi : IntKind.wrap .i64 ((q : Int) * 1) = (q : Int) := by rw [Int.mul_one, wrap_of (by omega) (by omega)]
  have wj : IntKind.wrap .i64 ((q : Int) * 2) = ((2 * q : Nat) : Int) := by rw [wrap_of (by omega) (by omega)]; omega
  have wk : IntKind.wrap .i64 ((q : Int) * 3) = ((3 * q : Nat) : Int) := by rw [wrap_of (by omega) (by omega)]; omega
  have zi : ∀ m : Nat, m ≤ 1000 → IntKind.wrap .i64 (0 + (m : Int)) = (m : Int) := fun m hm => by rw [wrap_of (by omega) (by omega)]; omega
  have z1 := zi q (by omega)
  have z2 := zi (2 * q) (by omega)
  have z3 := zi (3 * q) (by omega)
  have c8 : decide ((8 : Int) ≤ (l.length : Int)) = true := decide_eq_true (by omega)
  by_cases h50 : 50 ≤ l.length
  · have c50 : decide ((50 : Int) ≤ (l.length : Int)) = true := decide_eq_true (by omega)
    refine Runs.of (kit Try.prog) Try.func238 rfl rfl (by rw [Try.ntmps238]; exact of_decide_eq_true rfl) ?_; rw [Try.ntmps238, Try.results238]
    repeat' (first
      | ((first | refine Pwp.step (kit _) rfl fun K hK => ?_ | refine Pwp.last (kit _) rfl fun K hK => ?_ | refine Pwp.stepD (kit _) rfl rfl fun K hK => ?_ | refine Pwp.lastD (kit _) rfl rfl fun K hK => ?_); simp (dsimp := false) only [↓opsP_nil, ↓opsP_cons, ↓opsD_nil, ↓opsD_cons, footOf, ↓opP, ↓stepP, ↓stepG, go_sem, reduceIte, Nat.reduceAdd, Nat.reduceMul, Nat.reduceEqDiff, Nat.reduceLT, Nat.reduceLeDiff, Nat.reduceSub, reduceCtorEq, Int.reduceToNat, Int.reduceAdd, Int.reduceSub, Int.reduceLT, Int.reduceLE, Int.reduceNeg, Int.reduceBEq, Int.reduceBNe, true_or, w0, wq, wi, wj, wk, z1, z2, z3, c8, c50])
      | (refine Pwp.seq ?_)
      | (refine Pwp.block ?_)
      | (refine Pwp.exit ?_; simp only [thenS, blockS, if_true, if_false, reduceIte, Nat.reduceEqDiff, Nat.add_one_ne_zero, reduceCtorEq])
      | (refine Pwp.skip ?_; simp only [thenS, blockS])
      | (refine Pwp.cond rfl True.intro (fun h => ?_) (fun h => ?_) <;> (try (cases h; done)) <;> (try simp only [h]))
      | (refine Pwp.ret ?_; try simp only [thenS, blockS])
      | (refine hK _ ?_; clear hK K)
      | (refine hK _ _ rfl ?_; clear hK K)
      | (refine CallK.captL (pre := [.slc 4 (linesD l), I64 q]) (post := [cmpD]) (cs := [I64 0]) ri rfl ?_)
      | (refine CallK.captL (pre := [.slc 4 (linesD l), I64 (2 * q : Nat)]) (post := [cmpD]) (cs := [I64 0]) rj rfl ?_)
      | (refine CallK.captL (pre := [.slc 4 (linesD l), I64 (3 * q : Nat)]) (post := [cmpD]) (cs := [I64 0]) rk rfl ?_)
      | (refine CallK.captL (pre := [.slc 4 (linesD l), I64 q, I64 (2 * q : Nat), I64 (3 * q : Nat)]) (post := [cmpD]) (cs := [I64 0]) r257 rfl ?_)
      | (refine CallG.off ?_)
      | (with_reducible refine Or.inl ?_)
      | (simp only [thenS, blockS])
      | (with_reducible refine And.intro ?_ ?_)
      | (with_reducible exact True.intro)
      | (simp (dsimp := false) only [↓opsP_nil, ↓opsP_cons, ↓opsD_nil, ↓opsD_cons, footOf, ↓opP, ↓stepP, ↓stepG, go_sem, reduceIte, Nat.reduceAdd, Nat.reduceMul, Nat.reduceEqDiff, Nat.reduceLT, Nat.reduceLeDiff, Nat.reduceSub, reduceCtorEq, Int.reduceToNat, Int.reduceAdd, Int.reduceSub, Int.reduceLT, Int.reduceLE, Int.reduceNeg, Int.reduceBEq, Int.reduceBNe, true_or, w0, wq, wi, wj, wk, z1, z2, z3, c8, c50]))
    all_goals (try (first | (intro hg; simp [hg]; done) | exact of_decide_eq_true rfl | (cases h; done)))
    (refine Fin.data (.inr rfl) (by simp (dsimp := false) only [↓opsP_nil, ↓opsP_cons, ↓opsD_nil, ↓opsD_cons, footOf, ↓opP, ↓stepP, ↓stepG, go_sem, reduceIte, Nat.reduceAdd, Nat.reduceMul, Nat.reduceEqDiff, Nat.reduceLT, Nat.reduceLeDiff, Nat.reduceSub, reduceCtorEq, Int.reduceToNat, Int.reduceAdd, Int.reduceSub, Int.reduceLT, Int.reduceLE, Int.reduceNeg, Int.reduceBEq, Int.reduceBNe, true_or, resL]; rfl) (by simp only [and_self]) (by simp (dsimp := false) only [↓opsP_nil, ↓opsP_cons, ↓opsD_nil, ↓opsD_cons, footOf, ↓opP, ↓stepP, ↓stepG, go_sem, reduceIte, Nat.reduceAdd, Nat.reduceMul, Nat.reduceEqDiff, Nat.reduceLT, Nat.reduceLeDiff, Nat.reduceSub, reduceCtorEq, Int.reduceToNat, Int.reduceAdd, Int.reduceSub, Int.reduceLT, Int.reduceLE, Int.reduceNeg, Int.reduceBEq, Int.reduceBNe, true_or, resP, Nat.le_refl, List.take_length]; try rfl) ?_)
    exact subD_refl _
  · have c50 : decide ((50 : Int) ≤ (l.length : Int)) = false := decide_eq_false (by omega)
    refine Runs.of (kit Try.prog) Try.func238 rfl rfl (by rw [Try.ntmps238]; exact of_decide_eq_true rfl) ?_; rw [Try.ntmps238, Try.results238]
    repeat' (first
      | ((first | refine Pwp.step (kit _) rfl fun K hK => ?_ | refine Pwp.last (kit _) rfl fun K hK => ?_ | refine Pwp.stepD (kit _) rfl rfl fun K hK => ?_ | refine Pwp.lastD (kit _) rfl rfl fun K hK => ?_); simp (dsimp := false) only [↓opsP_nil, ↓opsP_cons, ↓opsD_nil, ↓opsD_cons, footOf, ↓opP, ↓stepP, ↓stepG, go_sem, reduceIte, Nat.reduceAdd, Nat.reduceMul, Nat.reduceEqDiff, Nat.reduceLT, Nat.reduceLeDiff, Nat.reduceSub, reduceCtorEq, Int.reduceToNat, Int.reduceAdd, Int.reduceSub, Int.reduceLT, Int.reduceLE, Int.reduceNeg, Int.reduceBEq, Int.reduceBNe, true_or, w0, wq, wi, wj, wk, z1, z2, z3, c8, c50])
      | (refine Pwp.seq ?_)
      | (refine Pwp.block ?_)
      | (refine Pwp.exit ?_; simp only [thenS, blockS, if_true, if_false, reduceIte, Nat.reduceEqDiff, Nat.add_one_ne_zero, reduceCtorEq])
      | (refine Pwp.skip ?_; simp only [thenS, blockS])
      | (refine Pwp.cond rfl True.intro (fun h => ?_) (fun h => ?_) <;> (try (cases h; done)) <;> (try simp only [h]))
      | (refine Pwp.ret ?_; try simp only [thenS, blockS])
      | (refine hK _ ?_; clear hK K)
      | (refine hK _ _ rfl ?_; clear hK K)
      | (refine CallK.captL (pre := [.slc 4 (linesD l), I64 q, I64 (2 * q : Nat), I64 (3 * q : Nat)]) (post := [cmpD]) (cs := [I64 0]) r257 rfl ?_)
      | (refine CallG.off ?_)
      | (with_reducible refine Or.inl ?_)
      | (simp only [thenS, blockS])
      | (with_reducible refine And.intro ?_ ?_)
      | (with_reducible exact True.intro)
      | (simp (dsimp := false) only [↓opsP_nil, ↓opsP_cons, ↓opsD_nil, ↓opsD_cons, footOf, ↓opP, ↓stepP, ↓stepG, go_sem, reduceIte, Nat.reduceAdd, Nat.reduceMul, Nat.reduceEqDiff, Nat.reduceLT, Nat.reduceLeDiff, Nat.reduceSub, reduceCtorEq, Int.reduceToNat, Int.reduceAdd, Int.reduceSub, Int.reduceLT, Int.reduceLE, Int.reduceNeg, Int.reduceBEq, Int.reduceBNe, true_or, w0, wq, wi, wj, wk, z1, z2, z3, c8, c50]))
    all_goals (try (first | (intro hg; simp [hg]; done) | exact of_decide_eq_true rfl | (cases h; done)))
    (refine Fin.data (.inr rfl) (by simp (dsimp := false) only [↓opsP_nil, ↓opsP_cons, ↓opsD_nil, ↓opsD_cons, footOf, ↓opP, ↓stepP, ↓stepG, go_sem, reduceIte, Nat.reduceAdd, Nat.reduceMul, Nat.reduceEqDiff, Nat.reduceLT, Nat.reduceLeDiff, Nat.reduceSub, reduceCtorEq, Int.reduceToNat, Int.reduceAdd, Int.reduceSub, Int.reduceLT, Int.reduceLE, Int.reduceNeg, Int.reduceBEq, Int.reduceBNe, true_or, resL]; rfl) (by simp only [and_self]) (by simp (dsimp := false) only [↓opsP_nil, ↓opsP_cons, ↓opsD_nil, ↓opsD_cons, footOf, ↓opP, ↓stepP, ↓stepG, go_sem, reduceIte, Nat.reduceAdd, Nat.reduceMul, Nat.reduceEqDiff, Nat.reduceLT, Nat.reduceLeDiff, Nat.reduceSub, reduceCtorEq, Int.reduceToNat, Int.reduceAdd, Int.reduceSub, Int.reduceLT, Int.reduceLE, Int.reduceNeg, Int.reduceBEq, Int.reduceBNe, true_or, resP, Nat.le_refl, List.take_length]; try rfl) ?_)
    exact subD_refl _
def L240a (l : List Line) : St := ⟨[(10, pint .i64 0), (9, pint .i64 1), (3, .d cmpD), (2, pint .i64 l.length), (1, pint .i64 0), (0, .d (.slc 4 (linesD l)))], [], 28⟩
def L240b (l : List Line) (i : Nat) : St := ⟨[(10, pint .i64 0), (9, pint .i64 (i + 1 : Nat)), (3, .d cmpD), (2, pint .i64 l.length), (1, pint .i64 0), (0, .d (.slc 4 (linesD l)))], [], 36⟩
set_option maxHeartbeats 8000000 in
theorem run240 (l : List Line) (ho : InOrd l) (h1 : 1 ≤ l.length) (hl : l.length ≤ 1000) : Runs Try.prog 240 [.d (.slc 4 (linesD l)), pint .i64 0, pint .i64 l.length, .d cmpD] [] (pbool true) [] := by
  have hlen := lines_len l
  have w1 := w11
  have w01 : IntKind.wrap .i64 (0 + 1) = 1 := wrap_of (by omega) (by omega)
  refine Runs.of (kit Try.prog) Try.func240 rfl rfl (by rw [Try.ntmps240]; exact of_decide_eq_true rfl) ?_; rw [Try.ntmps240, Try.results240]
  repeat' (first
    | ((first | refine Pwp.step (kit _) rfl fun K hK => ?_ | refine Pwp.last (kit _) rfl fun K hK => ?_ | refine Pwp.stepD (kit _) rfl rfl fun K hK => ?_ | refine Pwp.lastD (kit _) rfl rfl fun K hK => ?_); simp (dsimp := false) only [↓opsP_nil, ↓opsP_cons, ↓opsD_nil, ↓opsD_cons, footOf, ↓opP, ↓stepP, ↓stepG, go_sem, reduceIte, Nat.reduceAdd, Nat.reduceMul, Nat.reduceEqDiff, Nat.reduceLT, Nat.reduceLeDiff, Nat.reduceSub, reduceCtorEq, Int.reduceToNat, Int.reduceAdd, Int.reduceSub, Int.reduceLT, Int.reduceLE, Int.reduceNeg, Int.reduceBEq, Int.reduceBNe, true_or, w1, w01])
    | (refine Pwp.seq ?_)
    | (refine Pwp.block ?_)
    | (refine Pwp.exit ?_; simp only [thenS, blockS, if_true, if_false, reduceIte, Nat.reduceEqDiff, Nat.add_one_ne_zero, reduceCtorEq])
    | (refine Pwp.skip ?_; simp only [thenS, blockS])
    | (refine Pwp.cond rfl True.intro (fun h => ?_) (fun h => ?_) <;> (try (cases h; done)) <;> (try simp only [h]))
    | (refine Pwp.ret ?_; try simp only [thenS, blockS])
    | (refine hK _ ?_; clear hK K)
    | (refine hK _ _ rfl ?_; clear hK K)
    | (refine CallG.off ?_)
    | (with_reducible refine Or.inl ?_)
    | (simp only [thenS, blockS])
    | (with_reducible refine And.intro ?_ ?_)
    | (with_reducible exact True.intro)
    | (simp (dsimp := false) only [↓opsP_nil, ↓opsP_cons, ↓opsD_nil, ↓opsD_cons, footOf, ↓opP, ↓stepP, ↓stepG, go_sem, reduceIte, Nat.reduceAdd, Nat.reduceMul, Nat.reduceEqDiff, Nat.reduceLT, Nat.reduceLeDiff, Nat.reduceSub, reduceCtorEq, Int.reduceToNat, Int.reduceAdd, Int.reduceSub, Int.reduceLT, Int.reduceLE, Int.reduceNeg, Int.reduceBEq, Int.reduceBNe, true_or, w1, w01]))
  all_goals (try (first | (intro hg; simp [hg]; done) | exact of_decide_eq_true rfl | (cases h; done)))
  refine Pwp.range 0 (S := fun _ => L240a l) (Sub.view V0 (by simp [L240a]) rfl (by simp [viewH, viewP, viewL, viewO, V0, V9, V9n, VR, VN, keptOf, find, PVal.toD, subD, subL, subV, subD_refl, viewL_ds, disj, PVal.ids, pnil, List.range, List.range.loop, L240a]) (by simp [viewT, St.ev, viewH, viewP, viewL, viewO, V0, V9, V9n, VR, VN, keptOf, find, PVal.toD, subD, subL, subV, subD_refl, viewL_ds, disj, PVal.ids, pnil, List.range, List.range.loop, L240a])) (fun j hj => absurd hj (by omega)) ?_
  unfold L240a
  repeat' (first
    | ((first | refine Pwp.step (kit _) rfl fun K hK => ?_ | refine Pwp.last (kit _) rfl fun K hK => ?_ | refine Pwp.stepD (kit _) rfl rfl fun K hK => ?_ | refine Pwp.lastD (kit _) rfl rfl fun K hK => ?_); simp (dsimp := false) only [↓opsP_nil, ↓opsP_cons, ↓opsD_nil, ↓opsD_cons, footOf, ↓opP, ↓stepP, ↓stepG, go_sem, reduceIte, Nat.reduceAdd, Nat.reduceMul, Nat.reduceEqDiff, Nat.reduceLT, Nat.reduceLeDiff, Nat.reduceSub, reduceCtorEq, Int.reduceToNat, Int.reduceAdd, Int.reduceSub, Int.reduceLT, Int.reduceLE, Int.reduceNeg, Int.reduceBEq, Int.reduceBNe, true_or])
    | (refine Pwp.seq ?_)
    | (refine Pwp.block ?_)
    | (refine Pwp.exit ?_; simp only [thenS, blockS, if_true, if_false, reduceIte, Nat.reduceEqDiff, Nat.add_one_ne_zero, reduceCtorEq])
    | (refine Pwp.skip ?_; simp only [thenS, blockS])
    | (refine Pwp.cond rfl True.intro (fun h => ?_) (fun h => ?_) <;> (try (cases h; done)) <;> (try simp only [h]))
    | (refine Pwp.ret ?_; try simp only [thenS, blockS])
    | (refine hK _ ?_; clear hK K)
    | (refine hK _ _ rfl ?_; clear hK K)
    | (refine CallG.off ?_)
    | (with_reducible refine Or.inl ?_)
    | (simp only [thenS, blockS])
    | (with_reducible refine And.intro ?_ ?_)
    | (with_reducible exact True.intro)
    | (simp (dsimp := false) only [↓opsP_nil, ↓opsP_cons, ↓opsD_nil, ↓opsD_cons, footOf, ↓opP, ↓stepP, ↓stepG, go_sem, reduceIte, Nat.reduceAdd, Nat.reduceMul, Nat.reduceEqDiff, Nat.reduceLT, Nat.reduceLeDiff, Nat.reduceSub, reduceCtorEq, Int.reduceToNat, Int.reduceAdd, Int.reduceSub, Int.reduceLT, Int.reduceLE, Int.reduceNeg, Int.reduceBEq, Int.reduceBNe, true_or]))
  all_goals (try (first | (intro hg; simp [hg]; done) | exact of_decide_eq_true rfl | (cases h; done)))
  refine Pwp.range (l.length - 1) (S := L240b l) (Sub.view V0 (by simp [L240b]) rfl (by simp [viewH, viewP, viewL, viewO, V0, V9, V9n, VR, VN, keptOf, find, PVal.toD, subD, subL, subV, subD_refl, viewL_ds, disj, PVal.ids, pnil, List.range, List.range.loop, L240b]) (by simp [viewT, St.ev, viewH, viewP, viewL, viewO, V0, V9, V9n, VR, VN, keptOf, find, PVal.toD, subD, subL, subV, subD_refl, viewL_ds, disj, PVal.ids, pnil, List.range, List.range.loop, L240b])) (fun i hi => ?_) ?_
  · obtain ⟨x, hx, _⟩ := at_lt (l := l) (i := i) (by omega)
    obtain ⟨y, hy, _⟩ := at_lt (l := l) (i := i + 1) (by omega)
    have hgx := lines_get hx
    have hgy := lines_get hy
    have c1 := dlt2 (i := i) (n := l.length) (by omega)
    have w2 := wpred2 (i := i) (by omega)
    have w3 := wsucc2 (i := i) (by omega)
    have r139 := run139 y x
    have hnb := not_back (ho i x y hx hy)
    unfold L240b
    repeat' (first
      | ((first | refine Pwp.step (kit _) rfl fun K hK => ?_ | refine Pwp.last (kit _) rfl fun K hK => ?_ | refine Pwp.stepD (kit _) rfl rfl fun K hK => ?_ | refine Pwp.lastD (kit _) rfl rfl fun K hK => ?_); simp (dsimp := false) only [↓opsP_nil, ↓opsP_cons, ↓opsD_nil, ↓opsD_cons, footOf, ↓opP, ↓stepP, ↓stepG, go_sem, reduceIte, Nat.reduceAdd, Nat.reduceMul, Nat.reduceEqDiff, Nat.reduceLT, Nat.reduceLeDiff, Nat.reduceSub, reduceCtorEq, Int.reduceToNat, Int.reduceAdd, Int.reduceSub, Int.reduceLT, Int.reduceLE, Int.reduceNeg, Int.reduceBEq, Int.reduceBNe, true_or, c1, w2, w3, hgx, hgy, hlen, hnb])
      | (refine Pwp.seq ?_)
      | (refine Pwp.block ?_)
      | (refine Pwp.exit ?_; simp only [thenS, blockS, if_true, if_false, reduceIte, Nat.reduceEqDiff, Nat.add_one_ne_zero, reduceCtorEq])
      | (refine Pwp.skip ?_; simp only [thenS, blockS])
      | (refine Pwp.cond rfl True.intro (fun h => ?_) (fun h => ?_) <;> (try (cases h; done)) <;> (try simp only [h]))
      | (refine Pwp.ret ?_; try simp only [thenS, blockS])
      | (refine hK _ ?_; clear hK K)
      | (refine hK _ _ rfl ?_; clear hK K)
      | (refine CallG.toD (ds := [y.d, x.d]) rfl (r139) rfl ?_ ?_)
      | (refine CallG.off ?_)
      | (with_reducible refine Or.inl ?_)
      | (simp only [thenS, blockS])
      | (with_reducible refine And.intro ?_ ?_)
      | (with_reducible exact True.intro)
      | (simp (dsimp := false) only [↓opsP_nil, ↓opsP_cons, ↓opsD_nil, ↓opsD_cons, footOf, ↓opP, ↓stepP, ↓stepG, go_sem, reduceIte, Nat.reduceAdd, Nat.reduceMul, Nat.reduceEqDiff, Nat.reduceLT, Nat.reduceLeDiff, Nat.reduceSub, reduceCtorEq, Int.reduceToNat, Int.reduceAdd, Int.reduceSub, Int.reduceLT, Int.reduceLE, Int.reduceNeg, Int.reduceBEq, Int.reduceBNe, true_or, c1, w2, w3, hgx, hgy, hlen, hnb]))
    all_goals (try (first | (intro hg; simp [hg]; done) | exact of_decide_eq_true rfl | (cases h; done)))
    exact Sub.view V0 (by simp [L240b]) rfl (by simp [viewH, viewP, viewL, viewO, V0, V9, V9n, VR, VN, keptOf, find, PVal.toD, subD, subL, subV, subD_refl, viewL_ds, disj, PVal.ids, pnil, List.range, List.range.loop, L240b]) (by simp [viewT, St.ev, viewH, viewP, viewL, viewO, V0, V9, V9n, VR, VN, keptOf, find, PVal.toD, subD, subL, subV, subD_refl, viewL_ds, disj, PVal.ids, pnil, List.range, List.range.loop, L240b])
  · have e : l.length - 1 + 1 = l.length := by omega
    obtain ⟨x, hx, _⟩ := at_lt (l := l) (i := l.length - 1) (by omega)
    have hgx := lines_get hx
    have c1 := dge (Nat.le_refl l.length)
    have hn : (linesD l)[l.length]? = none := List.getElem?_eq_none (by omega)
    have w2 : IntKind.wrap .i64 ((l.length : Int) - 1) = ((l.length - 1 : Nat) : Int) := by rw [wrap_of (by omega) (by omega)]; omega
    unfold L240b
    rw [e]
    repeat' (first
      | ((first | refine Pwp.step (kit _) rfl fun K hK => ?_ | refine Pwp.last (kit _) rfl fun K hK => ?_ | refine Pwp.stepD (kit _) rfl rfl fun K hK => ?_ | refine Pwp.lastD (kit _) rfl rfl fun K hK => ?_); simp (dsimp := false) only [↓opsP_nil, ↓opsP_cons, ↓opsD_nil, ↓opsD_cons, footOf, ↓opP, ↓stepP, ↓stepG, go_sem, reduceIte, Nat.reduceAdd, Nat.reduceMul, Nat.reduceEqDiff, Nat.reduceLT, Nat.reduceLeDiff, Nat.reduceSub, reduceCtorEq, Int.reduceToNat, Int.reduceAdd, Int.reduceSub, Int.reduceLT, Int.reduceLE, Int.reduceNeg, Int.reduceBEq, Int.reduceBNe, true_or, c1, w2, hn, hgx, hlen, beq_self_eq_true])
      | (refine Pwp.seq ?_)
      | (refine Pwp.block ?_)
      | (refine Pwp.exit ?_; simp only [thenS, blockS, if_true, if_false, reduceIte, Nat.reduceEqDiff, Nat.add_one_ne_zero, reduceCtorEq])
      | (refine Pwp.skip ?_; simp only [thenS, blockS])
      | (refine Pwp.cond rfl True.intro (fun h => ?_) (fun h => ?_) <;> (try (cases h; done)) <;> (try simp only [h]))
      | (refine Pwp.ret ?_; try simp only [thenS, blockS])
      | (refine hK _ ?_; clear hK K)
      | (refine hK _ _ rfl ?_; clear hK K)
      | (refine CallG.off ?_)
      | (with_reducible refine Or.inl ?_)
      | (simp only [thenS, blockS])
      | (with_reducible refine And.intro ?_ ?_)
      | (with_reducible exact True.intro)
      | (simp (dsimp := false) only [↓opsP_nil, ↓opsP_cons, ↓opsD_nil, ↓opsD_cons, footOf, ↓opP, ↓stepP, ↓stepG, go_sem, reduceIte, Nat.reduceAdd, Nat.reduceMul, Nat.reduceEqDiff, Nat.reduceLT, Nat.reduceLeDiff, Nat.reduceSub, reduceCtorEq, Int.reduceToNat, Int.reduceAdd, Int.reduceSub, Int.reduceLT, Int.reduceLE, Int.reduceNeg, Int.reduceBEq, Int.reduceBNe, true_or, c1, w2, hn, hgx, hlen, beq_self_eq_true]))
    all_goals (try (first | (intro hg; simp [hg]; done) | exact of_decide_eq_true rfl | (cases h; done)))
    (refine Fin.data (.inr rfl) (by simp (dsimp := false) only [↓opsP_nil, ↓opsP_cons, ↓opsD_nil, ↓opsD_cons, footOf, ↓opP, ↓stepP, ↓stepG, go_sem, reduceIte, Nat.reduceAdd, Nat.reduceMul, Nat.reduceEqDiff, Nat.reduceLT, Nat.reduceLeDiff, Nat.reduceSub, reduceCtorEq, Int.reduceToNat, Int.reduceAdd, Int.reduceSub, Int.reduceLT, Int.reduceLE, Int.reduceNeg, Int.reduceBEq, Int.reduceBNe, true_or, resL]; rfl) (by simp only [and_self]) (by simp (dsimp := false) only [↓opsP_nil, ↓opsP_cons, ↓opsD_nil, ↓opsD_cons, footOf, ↓opP, ↓stepP, ↓stepG, go_sem, reduceIte, Nat.reduceAdd, Nat.reduceMul, Nat.reduceEqDiff, Nat.reduceLT, Nat.reduceLeDiff, Nat.reduceSub, reduceCtorEq, Int.reduceToNat, Int.reduceAdd, Int.reduceSub, Int.reduceLT, Int.reduceLE, Int.reduceNeg, Int.reduceBEq, Int.reduceBNe, true_or, resP, Nat.le_refl, List.take_length]; try rfl) ?_)
    exact subD_refl _
set_option maxHeartbeats 8000000 in
theorem sorts (l : List Line) (ho : InOrd l) (hl : l.length ≤ 1000) : Sorts l := by
  intro k hk
  by_cases h12 : l.length ≤ 12
  · exact run198s l h12 ho k
  · have hk0 := hk (by omega)
    have k1 : (k == 0) = false := by rw [beq_eq_false_iff_ne]; exact hk0
    have r238 := run238 l ho (by omega) hl
    have r240 := run240 l ho (by omega) hl
    refine Runs.of (kit Try.prog) Try.func198 rfl rfl (by rw [Try.ntmps198]; exact of_decide_eq_true rfl) ?_; rw [Try.ntmps198, Try.results198]
    repeat' (first
      | ((first | refine Pwp.step (kit _) rfl fun K hK => ?_ | refine Pwp.last (kit _) rfl fun K hK => ?_ | refine Pwp.stepD (kit _) rfl rfl fun K hK => ?_ | refine Pwp.lastD (kit _) rfl rfl fun K hK => ?_); simp (dsimp := false) only [↓opsP_nil, ↓opsP_cons, ↓opsD_nil, ↓opsD_cons, footOf, ↓opP, ↓stepP, ↓stepG, go_sem, reduceIte, Nat.reduceAdd, Nat.reduceMul, Nat.reduceEqDiff, Nat.reduceLT, Nat.reduceLeDiff, Nat.reduceSub, reduceCtorEq, Int.reduceToNat, Int.reduceAdd, Int.reduceSub, Int.reduceLT, Int.reduceLE, Int.reduceNeg, Int.reduceBEq, Int.reduceBNe, true_or])
      | (refine Pwp.seq ?_)
      | (refine Pwp.block ?_)
      | (refine Pwp.exit ?_; simp only [thenS, blockS, if_true, if_false, reduceIte, Nat.reduceEqDiff, Nat.add_one_ne_zero, reduceCtorEq])
      | (refine Pwp.skip ?_; simp only [thenS, blockS])
      | (refine Pwp.cond rfl True.intro (fun h => ?_) (fun h => ?_) <;> (try (cases h; done)) <;> (try simp only [h]))
      | (refine Pwp.ret ?_; try simp only [thenS, blockS])
      | (refine hK _ ?_; clear hK K)
      | (refine hK _ _ rfl ?_; clear hK K)
      | (refine CallG.off ?_)
      | (with_reducible refine Or.inl ?_)
      | (simp only [thenS, blockS])
      | (with_reducible refine And.intro ?_ ?_)
      | (with_reducible exact True.intro)
      | (simp (dsimp := false) only [↓opsP_nil, ↓opsP_cons, ↓opsD_nil, ↓opsD_cons, footOf, ↓opP, ↓stepP, ↓stepG, go_sem, reduceIte, Nat.reduceAdd, Nat.reduceMul, Nat.reduceEqDiff, Nat.reduceLT, Nat.reduceLeDiff, Nat.reduceSub, reduceCtorEq, Int.reduceToNat, Int.reduceAdd, Int.reduceSub, Int.reduceLT, Int.reduceLE, Int.reduceNeg, Int.reduceBEq, Int.reduceBNe, true_or]))
    all_goals (try (first | (intro hg; simp [hg]; done) | exact of_decide_eq_true rfl | (cases h; done)))
    refine Pwp.range 0 (S := fun _ => L198 l k) (Sub.view V0 (by simp [L198]) rfl (by simp [viewH, viewP, viewL, viewO, V0, V9, V9n, VR, VN, keptOf, find, PVal.toD, subD, subL, subV, subD_refl, viewL_ds, disj, PVal.ids, pnil, List.range, List.range.loop, L198]) (by simp [viewT, St.ev, viewH, viewP, viewL, viewO, V0, V9, V9n, VR, VN, keptOf, find, PVal.toD, subD, subL, subV, subD_refl, viewL_ds, disj, PVal.ids, pnil, List.range, List.range.loop, L198])) (fun j hj => absurd hj (by omega)) ?_
    have w : IntKind.wrap .i64 ((l.length : Int) - 0) = (l.length : Int) := by rw [Int.sub_zero]; exact wrap_of (by omega) (by omega)
    have w2 : IntKind.wrap .i64 (l.length : Int) = (l.length : Int) := wrap_of (by omega) (by omega)
    have c : decide ((l.length : Int) ≤ 12) = false := decide_eq_false (by omega)
    unfold L198
    repeat' (first
      | ((first | refine Pwp.step (kit _) rfl fun K hK => ?_ | refine Pwp.last (kit _) rfl fun K hK => ?_ | refine Pwp.stepD (kit _) rfl rfl fun K hK => ?_ | refine Pwp.lastD (kit _) rfl rfl fun K hK => ?_); simp (dsimp := false) only [↓opsP_nil, ↓opsP_cons, ↓opsD_nil, ↓opsD_cons, footOf, ↓opP, ↓stepP, ↓stepG, go_sem, reduceIte, Nat.reduceAdd, Nat.reduceMul, Nat.reduceEqDiff, Nat.reduceLT, Nat.reduceLeDiff, Nat.reduceSub, reduceCtorEq, Int.reduceToNat, Int.reduceAdd, Int.reduceSub, Int.reduceLT, Int.reduceLE, Int.reduceNeg, Int.reduceBEq, Int.reduceBNe, true_or, w, w2, c, k1])
      | (refine Pwp.seq ?_)
      | (refine Pwp.block ?_)
      | (refine Pwp.exit ?_; simp only [thenS, blockS, if_true, if_false, reduceIte, Nat.reduceEqDiff, Nat.add_one_ne_zero, reduceCtorEq])
      | (refine Pwp.skip ?_; simp only [thenS, blockS])
      | (refine Pwp.cond rfl True.intro (fun h => ?_) (fun h => ?_) <;> (try (cases h; done)) <;> (try simp only [h]))
      | (refine Pwp.ret ?_; try simp only [thenS, blockS])
      | (refine hK _ ?_; clear hK K)
      | (refine hK _ _ rfl ?_; clear hK K)
      | (refine CallK.toD (ds := [.slc 4 (linesD l), I64 0, I64 l.length, cmpD]) rfl (r238) rfl ?_)
      | (refine CallK.toD (ds := [.slc 4 (linesD l), I64 0, I64 l.length, cmpD]) rfl (r240) rfl ?_)
      | (refine CallG.off ?_)
      | (with_reducible refine Or.inl ?_)
      | (simp only [thenS, blockS])
      | (with_reducible refine And.intro ?_ ?_)
      | (with_reducible exact True.intro)
      | (simp (dsimp := false) only [↓opsP_nil, ↓opsP_cons, ↓opsD_nil, ↓opsD_cons, footOf, ↓opP, ↓stepP, ↓stepG, go_sem, reduceIte, Nat.reduceAdd, Nat.reduceMul, Nat.reduceEqDiff, Nat.reduceLT, Nat.reduceLeDiff, Nat.reduceSub, reduceCtorEq, Int.reduceToNat, Int.reduceAdd, Int.reduceSub, Int.reduceLT, Int.reduceLE, Int.reduceNeg, Int.reduceBEq, Int.reduceBNe, true_or, w, w2, c, k1]))
    all_goals (try (first | (intro hg; simp [hg]; done) | exact of_decide_eq_true rfl | (cases h; done)))
    (refine Fin.data (.inr rfl) (by simp (dsimp := false) only [↓opsP_nil, ↓opsP_cons, ↓opsD_nil, ↓opsD_cons, footOf, ↓opP, ↓stepP, ↓stepG, go_sem, reduceIte, Nat.reduceAdd, Nat.reduceMul, Nat.reduceEqDiff, Nat.reduceLT, Nat.reduceLeDiff, Nat.reduceSub, reduceCtorEq, Int.reduceToNat, Int.reduceAdd, Int.reduceSub, Int.reduceLT, Int.reduceLE, Int.reduceNeg, Int.reduceBEq, Int.reduceBNe, true_or, resL]; rfl) (by simp only [and_self]) (by simp (dsimp := false) only [↓opsP_nil, ↓opsP_cons, ↓opsD_nil, ↓opsD_cons, footOf, ↓opP, ↓stepP, ↓stepG, go_sem, reduceIte, Nat.reduceAdd, Nat.reduceMul, Nat.reduceEqDiff, Nat.reduceLT, Nat.reduceLeDiff, Nat.reduceSub, reduceCtorEq, Int.reduceToNat, Int.reduceAdd, Int.reduceSub, Int.reduceLT, Int.reduceLE, Int.reduceNeg, Int.reduceBEq, Int.reduceBNe, true_or, resP, Nat.le_refl, List.take_length]; try rfl) ?_)
    exact subD_refl _

end Go.Proofs.Ytdodgbhodkcckaa.Pv
