/- Walks of cycles: the lines that an entity is part of. -/
import Derived.Test.YtdodgbhodkcckaaPce
import Derived.Test.YtdodgbhodkcckaaPq0
import Derived.Test.YtdodgbhodkcckaaPwb
set_option linter.unusedVariables false
set_option linter.unusedSimpArgs false
set_option autoImplicit false
set_option maxRecDepth 100000
namespace Go.Proofs.Ytdodgbhodkcckaa.Pv
open Go Go.RowKit

/-- A call that is handed a row of one's own, and a closure with one variable. -/
theorem CallK.rowClo {P : Program} {fid : Nat} {nid : Nat → Nat} {st : St} {K : Eff → Prop} {i1 i2 v1 s1 l1 e1 : Nat} {f : Fn} {r1 : Option Nat} {els1 cs : List D} {r : PVal} {h' : List (Nat × PObj)}
    (hr : Runs P fid [.own 0 v1 s1 0 l1, .clo f [] [.ref 1 0]] [(0, .arr e1 s1 v1 r1 els1), (1, .box (cs.map .d))] r h') (h1 : find i1 st.heap = some (.arr e1 s1 v1 r1 els1)) (h2 : find i2 st.heap = some (.box (cs.map .d))) (hne : i1 ≠ i2) (hn : (h'.map (·.1)).Nodup)
    (hK : K ⟨r.shift (rename [i1, i2] nid), [i1, i2], shiftH (rename [i1, i2] nid) h'⟩) : CallK P fid nid st [.own i1 v1 s1 0 l1, .clo f [] [.ref i2 0]] K := by
  have sh : ∀ (ρ : Nat → Nat) (l : List D), shiftL ρ (l.map .d) = l.map .d := by
    intro ρ l
    induction l with
    | nil => rfl
    | cons a l ih => simp only [List.map_cons, shiftL, PVal.shift, ih]
  refine ⟨[i1, i2], _, _, r, h', false, ?_, hr, ⟨by simp [hne], by simp, rfl, ?_⟩, ⟨hn, by simp [frozen, PVal.ids]⟩, .inr (.inl (by simp [frozen, PVal.ids])), by simpa using hK⟩
  · simp [argsP, argP, PVal.shift, shiftL, rename]
  · simp [PObj.shift, h1, h2, sh]

/-- What is handed back is a value, and objects that were handed in. -/
theorem Fin.valV {T : Nat → Option TI} {rs : List ResultVar} {e : Exit} {st : St} {ps : List PVal} {g : Prop} {r : PVal} {h' : List (Nat × PObj)} (V : Turn) (he : e = .normal ∨ e = .ret) (hr : resL T st rs = some (ps, g)) (hg : g) (hV : turnOK V (h'.map (·.1)) = true)
    (hh : viewH V { st with tmps := [(0, resP ps)] } (keptOf V ⟨[(0, r)], h', 12⟩) 12 h') (hp : viewP V st.heap (keptOf V ⟨[(0, r)], h', 12⟩) 12 (resP ps) r) : Fin T rs r h' e st := by
  refine ⟨he, ?_⟩
  rw [hr]
  exact ⟨hg, V, hV, hh, hp⟩

def notMine (me : Int) (x : Line) : Bool := x.seller != me && x.buyer != me
def mineL (me : Int) (l : List Line) : List Line := l.filter fun x => !notMine me x
set_option maxHeartbeats 8000000 in
theorem run147 (me : Int) (x : Line) : Runs Try.prog 147 [.d x.d, .ref 0 0] [(0, .box [.d (I64 me)])] (pbool (notMine me x)) [(0, .box [.d (I64 me)])] := by
  unfold Line.d Line.cells notMine
  refine Runs.of (kit Try.prog) Try.func147 rfl rfl (by rw [Try.ntmps147]; exact of_decide_eq_true rfl) ?_; rw [Try.ntmps147, Try.results147]
  repeat' (first
    | ((first | refine Pwp.step (kit _) rfl fun K hK => ?_ | refine Pwp.last (kit _) rfl fun K hK => ?_ | refine Pwp.stepD (kit _) rfl rfl fun K hK => ?_ | refine Pwp.lastD (kit _) rfl rfl fun K hK => ?_); simp (dsimp := false) only [↓opsP_nil, ↓opsP_cons, ↓opsD_nil, ↓opsD_cons, ↓opP, ↓stepP, ↓stepG, go_sem])
    | (refine Pwp.seq ?_)
    | (refine Pwp.block ?_)
    | (refine Pwp.exit ?_; simp only [thenS, blockS, if_true, if_false, reduceIte, Nat.reduceEqDiff, Nat.add_one_ne_zero, reduceCtorEq])
    | (refine Pwp.skip ?_; simp only [thenS, blockS])
    | (refine Pwp.cond rfl True.intro (fun h => ?_) (fun h => ?_) <;> (try (cases h; done)) <;> (try simp only [h]))
    | (refine Pwp.ret ?_; try simp only [thenS, blockS])
    | (refine hK _ ?_; clear hK K)
    | (refine hK _ _ rfl ?_; clear hK K)
    | (refine CallG.off ?_)
    | (with_reducible refine Or.inl ?_)
    | (simp only [thenS, blockS])
    | (with_reducible refine And.intro ?_ ?_)
    | (with_reducible exact True.intro)
    | (simp (dsimp := false) only [↓opsP_nil, ↓opsP_cons, ↓opsD_nil, ↓opsD_cons, ↓opP, ↓stepP, ↓stepG, go_sem]))
  all_goals (try (first | (intro hg; simp [hg]; done) | exact of_decide_eq_true rfl | (cases h; done)))
  refine Fin.dataV V0 (.inr rfl) (by simp (dsimp := false) only [↓opsP_nil, ↓opsP_cons, ↓opsD_nil, ↓opsD_cons, ↓opP, ↓stepP, ↓stepG, go_sem, resL]; rfl) (by simp only [and_self]) rfl (by simp [viewH, viewP, viewL, viewO, V0, keptOf, find, PVal.toD, subD_refl, disj, PVal.ids]) (by simp [resP, viewP, V0, keptOf, find, PVal.toD, subD_refl, disj, PVal.ids])
/-- Where the first one stands that is not one's own. -/
def idxM (me : Int) : Nat → List Line → Int
  | _, [] => -1
  | i, y :: l => if notMine me y = true then i else idxM me (i + 1) l
def L200 (me : Int) (l : List Line) (i : Nat) : St := ⟨[(8, pint .i64 i), (7, pint .i64 l.length), (1, .clo (.func 147) [] [.ref 1 0]), (0, .own 0 0 4 0 l.length)], [(0, .arr 142 4 0 none (linesD l)), (1, .box [.d (I64 me)])], 24⟩
set_option maxHeartbeats 8000000 in
theorem run200 (me : Int) (l : List Line) (hl : l.length ≤ 1000) : Runs Try.prog 200 [.own 0 0 4 0 l.length, .clo (.func 147) [] [.ref 1 0]] [(0, .arr 142 4 0 none (linesD l)), (1, .box [.d (I64 me)])] (pint .i64 (idxM me 0 l)) [(0, .arr 142 4 0 none (linesD l)), (1, .box [.d (I64 me)])] := by
  have hlen := lines_len l
  refine Runs.of (kit Try.prog) Try.func200 rfl rfl (by rw [Try.ntmps200]; exact of_decide_eq_true rfl) ?_; rw [Try.ntmps200, Try.results200]
  repeat' (first
    | ((first | refine Pwp.step (kit _) rfl fun K hK => ?_ | refine Pwp.last (kit _) rfl fun K hK => ?_ | refine Pwp.stepD (kit _) rfl rfl fun K hK => ?_ | refine Pwp.lastD (kit _) rfl rfl fun K hK => ?_); simp (dsimp := false) only [↓opsP_nil, ↓opsP_cons, ↓opsD_nil, ↓opsD_cons, ↓opP, ↓stepP, ↓stepG, go_sem, hlen])
    | (refine Pwp.seq ?_)
    | (refine Pwp.block ?_)
    | (refine Pwp.exit ?_; simp only [thenS, blockS, if_true, if_false, reduceIte, Nat.reduceEqDiff, Nat.add_one_ne_zero, reduceCtorEq])
    | (refine Pwp.skip ?_; simp only [thenS, blockS])
    | (refine Pwp.cond rfl True.intro (fun h => ?_) (fun h => ?_) <;> (try (cases h; done)) <;> (try simp only [h]))
    | (refine Pwp.ret ?_; try simp only [thenS, blockS])
    | (refine hK _ ?_; clear hK K)
    | (refine hK _ _ rfl ?_; clear hK K)
    | (refine CallG.off ?_)
    | (with_reducible refine Or.inl ?_)
    | (simp only [thenS, blockS])
    | (with_reducible refine And.intro ?_ ?_)
    | (with_reducible exact True.intro)
    | (simp (dsimp := false) only [↓opsP_nil, ↓opsP_cons, ↓opsD_nil, ↓opsD_cons, ↓opP, ↓stepP, ↓stepG, go_sem, hlen]))
  all_goals (try (first | (intro hg; simp [hg]; done) | exact of_decide_eq_true rfl | (cases h; done)))
  refine Pwp.rangeI l.length (fun i s => idxM me i (l.drop i) = idxM me 0 l ∧ s = L200 me l i) (s0 := L200 me l 0) (Sub.view V0 (by simp [L200]) rfl (by simp [viewH, viewP, viewL, viewO, V0, V9, V9n, VR, VN, keptOf, find, PVal.toD, subD, subL, subV, subD_refl, viewL_ds, disj, PVal.ids, pnil, List.range, List.range.loop, L200, hlen]) (by simp [viewT, St.ev, viewH, viewP, viewL, viewO, V0, V9, V9n, VR, VN, keptOf, find, PVal.toD, subD, subL, subV, subD_refl, viewL_ds, disj, PVal.ids, pnil, List.range, List.range.loop, L200, hlen])) ⟨rfl, rfl⟩ ?_ ?_
  · rintro i s hi ⟨hp, rfl⟩
    obtain ⟨y, hy, hm⟩ := at_lt hi
    have hg := lines_get hy
    have c1 := dlt hi
    have w := wrap_succ (i := i) (by omega)
    have r147 := run147 me y
    rw [drop_cons hy, idxM] at hp
    unfold L200
    cases hc : notMine me y with
    | true =>
      rw [hc, if_pos rfl] at hp
      rw [hc] at r147
      repeat' (first
        | ((first | refine Pwp.step (kit _) rfl fun K hK => ?_ | refine Pwp.last (kit _) rfl fun K hK => ?_ | refine Pwp.stepD (kit _) rfl rfl fun K hK => ?_ | refine Pwp.lastD (kit _) rfl rfl fun K hK => ?_); simp (dsimp := false) only [↓opsP_nil, ↓opsP_cons, ↓opsD_nil, ↓opsD_cons, ↓opP, ↓stepP, ↓stepG, go_sem, hg, c1, w, hlen, hi])
        | (refine Pwp.seq ?_)
        | (refine Pwp.block ?_)
        | (refine Pwp.exit ?_; simp only [thenS, blockS, if_true, if_false, reduceIte, Nat.reduceEqDiff, Nat.add_one_ne_zero, reduceCtorEq])
        | (refine Pwp.skip ?_; simp only [thenS, blockS])
        | (refine Pwp.cond rfl True.intro (fun h => ?_) (fun h => ?_) <;> (try (cases h; done)) <;> (try simp only [h]))
        | (refine Pwp.ret ?_; try simp only [thenS, blockS])
        | (refine hK _ ?_; clear hK K)
        | (refine hK _ _ rfl ?_; clear hK K)
        | (refine CallK.capt (cs := [I64 me]) r147 rfl (subD_refl _) rfl rfl ?_)
        | (refine CallG.off ?_)
        | (with_reducible refine Or.inl ?_)
        | (simp only [thenS, blockS])
        | (with_reducible refine And.intro ?_ ?_)
        | (with_reducible exact True.intro)
        | (simp (dsimp := false) only [↓opsP_nil, ↓opsP_cons, ↓opsD_nil, ↓opsD_cons, ↓opP, ↓stepP, ↓stepG, go_sem, hg, c1, w, hlen, hi]))
      all_goals (try (first | (intro hg; simp [hg]; done) | exact of_decide_eq_true rfl | (cases h; done)))
      refine Fin.dataV V0 (.inr rfl) (by simp (dsimp := false) only [↓opsP_nil, ↓opsP_cons, ↓opsD_nil, ↓opsD_cons, ↓opP, ↓stepP, ↓stepG, go_sem, resL]; rfl) (by simp only [and_self]) rfl (by simp [viewH, viewP, viewL, viewO, V0, keptOf, find, PVal.toD, subD_refl, disj, PVal.ids]) (by simp [resP, viewP, V0, keptOf, find, PVal.toD, subD_refl, disj, PVal.ids, ← hp])
    | false =>
      rw [hc, if_neg (by simp)] at hp
      rw [hc] at r147
      repeat' (first
        | ((first | refine Pwp.step (kit _) rfl fun K hK => ?_ | refine Pwp.last (kit _) rfl fun K hK => ?_ | refine Pwp.stepD (kit _) rfl rfl fun K hK => ?_ | refine Pwp.lastD (kit _) rfl rfl fun K hK => ?_); simp (dsimp := false) only [↓opsP_nil, ↓opsP_cons, ↓opsD_nil, ↓opsD_cons, ↓opP, ↓stepP, ↓stepG, go_sem, hg, c1, w, hlen, hi])
        | (refine Pwp.seq ?_)
        | (refine Pwp.block ?_)
        | (refine Pwp.exit ?_; simp only [thenS, blockS, if_true, if_false, reduceIte, Nat.reduceEqDiff, Nat.add_one_ne_zero, reduceCtorEq])
        | (refine Pwp.skip ?_; simp only [thenS, blockS])
        | (refine Pwp.cond rfl True.intro (fun h => ?_) (fun h => ?_) <;> (try (cases h; done)) <;> (try simp only [h]))
        | (refine Pwp.ret ?_; try simp only [thenS, blockS])
        | (refine hK _ ?_; clear hK K)
        | (refine hK _ _ rfl ?_; clear hK K)
        | (refine CallK.capt (cs := [I64 me]) r147 rfl (subD_refl _) rfl rfl ?_)
        | (refine CallG.off ?_)
        | (with_reducible refine Or.inl ?_)
        | (simp only [thenS, blockS])
        | (with_reducible refine And.intro ?_ ?_)
        | (with_reducible exact True.intro)
        | (simp (dsimp := false) only [↓opsP_nil, ↓opsP_cons, ↓opsD_nil, ↓opsD_cons, ↓opP, ↓stepP, ↓stepG, go_sem, hg, c1, w, hlen, hi]))
      all_goals (try (first | (intro hg; simp [hg]; done) | exact of_decide_eq_true rfl | (cases h; done)))
      exact ⟨_, Sub.view V0 (by simp [L200]) rfl (by simp [viewH, viewP, viewL, viewO, V0, V9, V9n, VR, VN, keptOf, find, PVal.toD, subD, subL, subV, subD_refl, viewL_ds, disj, PVal.ids, pnil, List.range, List.range.loop, L200]) (by simp [viewT, St.ev, viewH, viewP, viewL, viewO, V0, V9, V9n, VR, VN, keptOf, find, PVal.toD, subD, subL, subV, subD_refl, viewL_ds, disj, PVal.ids, pnil, List.range, List.range.loop, L200]), hp, rfl⟩
  · rintro s ⟨hp, rfl⟩
    have c1 := dge (Nat.le_refl l.length)
    rw [List.drop_length, idxM] at hp
    unfold L200
    repeat' (first
      | ((first | refine Pwp.step (kit _) rfl fun K hK => ?_ | refine Pwp.last (kit _) rfl fun K hK => ?_ | refine Pwp.stepD (kit _) rfl rfl fun K hK => ?_ | refine Pwp.lastD (kit _) rfl rfl fun K hK => ?_); simp (dsimp := false) only [↓opsP_nil, ↓opsP_cons, ↓opsD_nil, ↓opsD_cons, ↓opP, ↓stepP, ↓stepG, go_sem, c1, hlen])
      | (refine Pwp.seq ?_)
      | (refine Pwp.block ?_)
      | (refine Pwp.exit ?_; simp only [thenS, blockS, if_true, if_false, reduceIte, Nat.reduceEqDiff, Nat.add_one_ne_zero, reduceCtorEq])
      | (refine Pwp.skip ?_; simp only [thenS, blockS])
      | (refine Pwp.cond rfl True.intro (fun h => ?_) (fun h => ?_) <;> (try (cases h; done)) <;> (try simp only [h]))
      | (refine Pwp.ret ?_; try simp only [thenS, blockS])
      | (refine hK _ ?_; clear hK K)
      | (refine hK _ _ rfl ?_; clear hK K)
      | (refine CallG.off ?_)
      | (with_reducible refine Or.inl ?_)
      | (simp only [thenS, blockS])
      | (with_reducible refine And.intro ?_ ?_)
      | (with_reducible exact True.intro)
      | (simp (dsimp := false) only [↓opsP_nil, ↓opsP_cons, ↓opsD_nil, ↓opsD_cons, ↓opP, ↓stepP, ↓stepG, go_sem, c1, hlen]))
    all_goals (try (first | (intro hg; simp [hg]; done) | exact of_decide_eq_true rfl | (cases h; done)))
    refine Fin.dataV V0 (.inr rfl) (by simp (dsimp := false) only [↓opsP_nil, ↓opsP_cons, ↓opsD_nil, ↓opsD_cons, ↓opP, ↓stepP, ↓stepG, go_sem, resL]; rfl) (by simp only [and_self]) rfl (by simp [viewH, viewP, viewL, viewO, V0, keptOf, find, PVal.toD, subD_refl, disj, PVal.ids]) (by simp [resP, viewP, V0, keptOf, find, PVal.toD, subD_refl, disj, PVal.ids, ← hp])

theorem idx_split (me : Int) : ∀ (l : List Line) (i : Nat), (idxM me i l = -1 ∧ mineL me l = l) ∨ ∃ (k : Nat) (y : Line), idxM me i l = ((i + k : Nat) : Int) ∧ l[k]? = some y ∧ notMine me y = true ∧ mineL me (l.take k) = l.take k
  | [], i => .inl ⟨rfl, rfl⟩
  | x :: l, i => by
    rw [idxM]
    cases hx : notMine me x with
    | true => exact .inr ⟨0, x, by simp, by simp, hx, by simp [mineL]⟩
    | false =>
      rw [if_neg (by simp)]
      rcases idx_split me l (i + 1) with ⟨h1, h2⟩ | ⟨k, y, h1, h2, h3, h4⟩
      · refine .inl ⟨h1, ?_⟩
        unfold mineL at h2 ⊢
        rw [List.filter_cons, hx, h2]; rfl
      · refine .inr ⟨k + 1, y, by rw [h1]; congr 1; omega, by simpa using h2, h3, ?_⟩
        unfold mineL at h4 ⊢
        rw [List.take_succ_cons, List.filter_cons, hx, h4]; rfl
theorem mine_take {me : Int} {l : List Line} {j : Nat} {x : Line} (h : l[j]? = some x) : mineL me (l.take (j + 1)) = mineL me (l.take j) ++ if notMine me x = true then [] else [x] := by
  unfold mineL
  rw [List.take_add_one, h]
  simp only [Option.toList, List.filter_append, List.filter_cons, List.filter_nil]
  cases notMine me x <;> simp
/-- The row behind j steps. -/
def delL (me : Int) (l : List Line) (j : Nat) : List Line := mineL me (l.take j) ++ l.drop (mineL me (l.take j)).length
def kN (me : Int) (l : List Line) (j : Nat) : Nat := (mineL me (l.take j)).length
theorem kN_le (me : Int) (l : List Line) (j : Nat) : kN me l j ≤ j := by
  have := List.length_filter_le (fun x => !notMine me x) (l.take j)
  rw [List.length_take] at this
  unfold kN mineL; omega
theorem kN_len (me : Int) (l : List Line) (j : Nat) : kN me l j ≤ l.length := by
  have := List.length_filter_le (fun x => !notMine me x) (l.take j)
  rw [List.length_take] at this
  unfold kN mineL; omega
theorem delL_len (me : Int) (l : List Line) (j : Nat) : (delL me l j).length = l.length := by
  have := kN_len me l j
  unfold kN at this
  unfold delL; simp; omega
theorem delL_get {me : Int} {l : List Line} {j : Nat} {x : Line} (h : l[j]? = some x) : (delL me l j)[j]? = some x := by
  have := kN_le me l j
  unfold kN at this
  unfold delL
  rw [List.getElem?_append_right this, List.getElem?_drop, show (mineL me (l.take j)).length + (j - (mineL me (l.take j)).length) = j by omega]
  exact h
theorem delL_at {me : Int} {l : List Line} {j : Nat} (h : kN me l j < l.length) : ∃ y, (delL me l j)[kN me l j]? = some y := by
  have := delL_len me l j
  exact ⟨_, List.getElem?_eq_getElem (by omega)⟩
theorem delL_in {me : Int} {l : List Line} {j : Nat} {x : Line} (h : l[j]? = some x) (hx : notMine me x = false) (hk : kN me l j < l.length) : (delL me l j).set (kN me l j) x = delL me l (j + 1) := by
  have e := mine_take (me := me) h
  rw [hx, if_neg (by simp)] at e
  unfold delL
  rw [e]
  unfold kN at hk ⊢
  rw [List.set_append_right _ _ (Nat.le_refl _), Nat.sub_self, List.drop_eq_getElem_cons hk, List.set_cons_zero]
  simp
theorem kN_in {me : Int} {l : List Line} {j : Nat} {x : Line} (h : l[j]? = some x) (hx : notMine me x = false) : kN me l (j + 1) = kN me l j + 1 := by
  have e := mine_take (me := me) h
  rw [hx, if_neg (by simp)] at e
  unfold kN; rw [e]; simp
theorem delL_out {me : Int} {l : List Line} {j : Nat} {x : Line} (h : l[j]? = some x) (hx : notMine me x = true) : delL me l (j + 1) = delL me l j ∧ kN me l (j + 1) = kN me l j := by
  have e := mine_take (me := me) h
  rw [hx, if_pos rfl, List.append_nil] at e
  unfold delL kN
  rw [e]; exact ⟨rfl, rfl⟩
def L146 (me : Int) (l : List Line) (j : Nat) : St := ⟨[(6, pint .i64 j), (5, pint .i64 (kN me l j)), (1, .clo (.func 147) [] [.ref 1 0]), (0, .own 0 0 4 0 l.length)], [(0, .arr 142 4 0 none (linesD (delL me l j))), (1, .box [.d (I64 me)])], 48⟩
def zeroLine : Line := ⟨0, 0, 0, 0⟩
def doneL (me : Int) (l : List Line) : List Line := mineL me l ++ List.replicate (l.length - (mineL me l).length) zeroLine
theorem done_row (me : Int) (l : List Line) : List.take (kN me l l.length) (linesD (delL me l l.length)) ++ List.replicate (l.length - kN me l l.length) (D.agg [D.v (Value.int IntKind.i64 0), D.v (Value.int IntKind.i64 0), D.v (Value.int IntKind.i64 0), D.v (Value.int IntKind.i64 0)]) ++ List.drop (kN me l l.length + (l.length - kN me l l.length)) (linesD (delL me l l.length)) = linesD (doneL me l) := by
  have h1 := kN_len me l l.length
  have h2 := lines_len (delL me l l.length)
  have h3 := delL_len me l l.length
  rw [List.drop_of_length_le (by omega), List.append_nil]
  unfold doneL linesD kN delL
  rw [List.take_length, List.map_append, List.map_append, List.take_left' (by simp), List.map_replicate]
  rfl
set_option maxHeartbeats 16000000 in
theorem run146 (me : Int) (l : List Line) (hl : l.length ≤ 1000) : Runs Try.prog 146 [.own 0 0 4 0 l.length, .clo (.func 147) [] [.ref 1 0]] [(0, .arr 142 4 0 none (linesD l)), (1, .box [.d (I64 me)])] (.own 0 0 4 0 (mineL me l).length) [(0, .arr 142 4 0 none (linesD (doneL me l))), (1, .box [.d (I64 me)])] := by
  have hlen := lines_len l
  have r200 := run200 me l hl
  rcases idx_split me l 0 with ⟨h1, h2⟩ | ⟨i0, y, h1, h2, h3, h4⟩
  · rw [h1] at r200
    have hd : doneL me l = l := by unfold doneL; rw [h2]; simp
    rw [hd, h2]
    refine Runs.of (kit Try.prog) Try.func146 rfl rfl (by rw [Try.ntmps146]; exact of_decide_eq_true rfl) ?_; rw [Try.ntmps146, Try.results146]
    repeat' (first
      | ((first | refine Pwp.step (kit _) rfl fun K hK => ?_ | refine Pwp.last (kit _) rfl fun K hK => ?_ | refine Pwp.stepD (kit _) rfl rfl fun K hK => ?_ | refine Pwp.lastD (kit _) rfl rfl fun K hK => ?_); simp (dsimp := false) only [↓opsP_nil, ↓opsP_cons, ↓opsD_nil, ↓opsD_cons, ↓opP, ↓stepP, ↓stepG, go_sem])
      | (refine Pwp.seq ?_)
      | (refine Pwp.block ?_)
      | (refine Pwp.exit ?_; simp only [thenS, blockS, if_true, if_false, reduceIte, Nat.reduceEqDiff, Nat.add_one_ne_zero, reduceCtorEq])
      | (refine Pwp.skip ?_; simp only [thenS, blockS])
      | (refine Pwp.cond rfl True.intro (fun h => ?_) (fun h => ?_) <;> (try (cases h; done)) <;> (try simp only [h]))
      | (refine Pwp.ret ?_; try simp only [thenS, blockS])
      | (refine hK _ ?_; clear hK K)
      | (refine hK _ _ rfl ?_; clear hK K)
      | (refine CallK.rowClo (cs := [I64 me]) r200 rfl rfl (of_decide_eq_true rfl) (by simp) ?_)
      | (refine CallG.off ?_)
      | (with_reducible refine Or.inl ?_)
      | (simp only [thenS, blockS])
      | (with_reducible refine And.intro ?_ ?_)
      | (with_reducible exact True.intro)
      | (simp (dsimp := false) only [↓opsP_nil, ↓opsP_cons, ↓opsD_nil, ↓opsD_cons, ↓opP, ↓stepP, ↓stepG, go_sem]))
    all_goals (try (first | (intro hg; simp [hg]; done) | exact of_decide_eq_true rfl | (cases h; done)))
    refine Fin.valV V0 (.inr rfl) (by simp (dsimp := false) only [↓opsP_nil, ↓opsP_cons, ↓opsD_nil, ↓opsD_cons, ↓opP, ↓stepP, ↓stepG, go_sem, resL]; rfl) (by simp only [and_self]) rfl (by simp [viewH, viewP, viewL, viewO, V0, keptOf, find, PVal.toD, subD_refl, disj, PVal.ids]) (by simp [resP, viewP, V0, keptOf, find, PVal.toD, subD_refl, disj, PVal.ids])
  · rw [Nat.zero_add] at h1
    rw [h1] at r200
    have hi0 : i0 < l.length := (List.getElem?_eq_some_iff.1 h2).1
    have n1 : (((i0 : Nat) : Int) == -1) = false := by rw [beq_eq_false_iff_ne]; omega
    have w0 := wrap_succ (i := i0) (by omega)
    have hk0 : kN me l (i0 + 1) = i0 := by
      have := (delL_out h2 h3).2
      rw [this]; unfold kN; rw [h4, List.length_take]; omega
    have hd0 : delL me l (i0 + 1) = l := by
      rw [(delL_out h2 h3).1]; unfold delL; rw [h4, List.length_take, Nat.min_eq_left (by omega), List.take_append_drop]
    refine Runs.of (kit Try.prog) Try.func146 rfl rfl (by rw [Try.ntmps146]; exact of_decide_eq_true rfl) ?_; rw [Try.ntmps146, Try.results146]
    repeat' (first
      | ((first | refine Pwp.step (kit _) rfl fun K hK => ?_ | refine Pwp.last (kit _) rfl fun K hK => ?_ | refine Pwp.stepD (kit _) rfl rfl fun K hK => ?_ | refine Pwp.lastD (kit _) rfl rfl fun K hK => ?_); simp (dsimp := false) only [↓opsP_nil, ↓opsP_cons, ↓opsD_nil, ↓opsD_cons, ↓opP, ↓stepP, ↓stepG, go_sem, n1, w0])
      | (refine Pwp.seq ?_)
      | (refine Pwp.block ?_)
      | (refine Pwp.exit ?_; simp only [thenS, blockS, if_true, if_false, reduceIte, Nat.reduceEqDiff, Nat.add_one_ne_zero, reduceCtorEq])
      | (refine Pwp.skip ?_; simp only [thenS, blockS])
      | (refine Pwp.cond rfl True.intro (fun h => ?_) (fun h => ?_) <;> (try (cases h; done)) <;> (try simp only [h]))
      | (refine Pwp.ret ?_; try simp only [thenS, blockS])
      | (refine hK _ ?_; clear hK K)
      | (refine hK _ _ rfl ?_; clear hK K)
      | (refine CallK.rowClo (cs := [I64 me]) r200 rfl rfl (of_decide_eq_true rfl) (by simp) ?_)
      | (refine CallG.off ?_)
      | (with_reducible refine Or.inl ?_)
      | (simp only [thenS, blockS])
      | (with_reducible refine And.intro ?_ ?_)
      | (with_reducible exact True.intro)
      | (simp (dsimp := false) only [↓opsP_nil, ↓opsP_cons, ↓opsD_nil, ↓opsD_cons, ↓opP, ↓stepP, ↓stepG, go_sem, n1, w0]))
    all_goals (try (first | (intro hg; simp [hg]; done) | exact of_decide_eq_true rfl | (cases h; done)))
    refine Pwp.range (l.length - (i0 + 1)) (S := fun i => L146 me l (i0 + 1 + i)) (Sub.view V0 (by simp [L146]) rfl (by simp [viewH, viewP, viewL, viewO, V0, V9, V9n, VR, VN, keptOf, find, PVal.toD, subD, subL, subV, subD_refl, viewL_ds, disj, PVal.ids, pnil, List.range, List.range.loop, L146, hk0, hd0]) (by simp [viewT, St.ev, viewH, viewP, viewL, viewO, V0, V9, V9n, VR, VN, keptOf, find, PVal.toD, subD, subL, subV, subD_refl, viewL_ds, disj, PVal.ids, pnil, List.range, List.range.loop, L146, hk0, hd0])) (fun i hi => ?_) ?_
    · obtain ⟨x, hx, hm⟩ := at_lt (l := l) (i := i0 + 1 + i) (by omega)
      have hji : i0 + 1 + (i + 1) = i0 + 1 + i + 1 := by omega
      rw [hji]
      have hjl : i0 + 1 + i < l.length := by omega
      have hj0 : i0 < i0 + 1 + i := by omega
      generalize i0 + 1 + i = j at *
      have hkj := kN_le me l j
      have hkl : kN me l j < l.length := by omega
      obtain ⟨z, hz⟩ := delL_at hkl
      have hgj := lines_get (delL_get (me := me) hx)
      have hgz := lines_get hz
      have c1 := dlt hjl
      have w := wrap_succ (i := j) (by omega)
      have wk := wrap_succ (i := kN me l j) (by omega)
      have r147 := run147 me x
      have hll := lines_len (delL me l j)
      have hdl := delL_len me l j
      unfold L146
      cases hc : notMine me x with
      | true =>
        rw [hc] at r147
        obtain ⟨e1, e2⟩ := delL_out (me := me) hx hc
        repeat' (first
          | ((first | refine Pwp.step (kit _) rfl fun K hK => ?_ | refine Pwp.last (kit _) rfl fun K hK => ?_ | refine Pwp.stepD (kit _) rfl rfl fun K hK => ?_ | refine Pwp.lastD (kit _) rfl rfl fun K hK => ?_); simp (dsimp := false) only [↓opsP_nil, ↓opsP_cons, ↓opsD_nil, ↓opsD_cons, ↓opP, ↓stepP, ↓stepG, go_sem, hgj, c1, w, hjl])
          | (refine Pwp.seq ?_)
          | (refine Pwp.block ?_)
          | (refine Pwp.exit ?_; simp only [thenS, blockS, if_true, if_false, reduceIte, Nat.reduceEqDiff, Nat.add_one_ne_zero, reduceCtorEq])
          | (refine Pwp.skip ?_; simp only [thenS, blockS])
          | (refine Pwp.cond rfl True.intro (fun h => ?_) (fun h => ?_) <;> (try (cases h; done)) <;> (try simp only [h]))
          | (refine Pwp.ret ?_; try simp only [thenS, blockS])
          | (refine hK _ ?_; clear hK K)
          | (refine hK _ _ rfl ?_; clear hK K)
          | (refine CallK.capt (cs := [I64 me]) r147 rfl (subD_refl _) rfl rfl ?_)
          | (refine CallG.off ?_)
          | (with_reducible refine Or.inl ?_)
          | (simp only [thenS, blockS])
          | (with_reducible refine And.intro ?_ ?_)
          | (with_reducible exact True.intro)
          | (simp (dsimp := false) only [↓opsP_nil, ↓opsP_cons, ↓opsD_nil, ↓opsD_cons, ↓opP, ↓stepP, ↓stepG, go_sem, hgj, c1, w, hjl]))
        all_goals (try (first | (intro hg; simp [hg]; done) | exact of_decide_eq_true rfl | (cases h; done)))
        exact Sub.view V0 (by simp [L146]) rfl (by simp [viewH, viewP, viewL, viewO, V0, V9, V9n, VR, VN, keptOf, find, PVal.toD, subD, subL, subV, subD_refl, viewL_ds, disj, PVal.ids, pnil, List.range, List.range.loop, L146, e1, e2]) (by simp [viewT, St.ev, viewH, viewP, viewL, viewO, V0, V9, V9n, VR, VN, keptOf, find, PVal.toD, subD, subL, subV, subD_refl, viewL_ds, disj, PVal.ids, pnil, List.range, List.range.loop, L146, e1, e2])
      | false =>
        rw [hc] at r147
        have e1 := delL_in (me := me) hx hc hkl
        have e2 := kN_in (me := me) hx hc
        have e3 : (linesD (delL me l j)).set (kN me l j) (D.agg [I64 x.seller, I64 x.number, I64 x.buyer, I64 x.amount]) = linesD (delL me l (j + 1)) := by
          rw [← e1]; unfold linesD; rw [List.map_set]; rfl
        repeat' (first
          | ((first | refine Pwp.step (kit _) rfl fun K hK => ?_ | refine Pwp.last (kit _) rfl fun K hK => ?_ | refine Pwp.stepD (kit _) rfl rfl fun K hK => ?_ | refine Pwp.lastD (kit _) rfl rfl fun K hK => ?_); simp (dsimp := false) only [↓opsP_nil, ↓opsP_cons, ↓opsD_nil, ↓opsD_cons, ↓opP, ↓stepP, ↓stepG, go_sem, hgj, hgz, c1, w, wk, hjl, hkl])
          | (refine Pwp.seq ?_)
          | (refine Pwp.block ?_)
          | (refine Pwp.exit ?_; simp only [thenS, blockS, if_true, if_false, reduceIte, Nat.reduceEqDiff, Nat.add_one_ne_zero, reduceCtorEq])
          | (refine Pwp.skip ?_; simp only [thenS, blockS])
          | (refine Pwp.cond rfl True.intro (fun h => ?_) (fun h => ?_) <;> (try (cases h; done)) <;> (try simp only [h]))
          | (refine Pwp.ret ?_; try simp only [thenS, blockS])
          | (refine hK _ ?_; clear hK K)
          | (refine hK _ _ rfl ?_; clear hK K)
          | (refine CallK.capt (cs := [I64 me]) r147 rfl (subD_refl _) rfl rfl ?_)
          | (refine CallG.off ?_)
          | (with_reducible refine Or.inl ?_)
          | (simp only [thenS, blockS])
          | (with_reducible refine And.intro ?_ ?_)
          | (with_reducible exact True.intro)
          | (simp (dsimp := false) only [↓opsP_nil, ↓opsP_cons, ↓opsD_nil, ↓opsD_cons, ↓opP, ↓stepP, ↓stepG, go_sem, hgj, hgz, c1, w, wk, hjl, hkl]))
        all_goals (try (first | (intro hg; simp [hg]; done) | exact of_decide_eq_true rfl | (cases h; done)))
        exact Sub.view V0 (by simp [L146]) rfl (by simp [viewH, viewP, viewL, viewO, V0, V9, V9n, VR, VN, keptOf, find, PVal.toD, subD, subL, subV, subD_refl, viewL_ds, disj, PVal.ids, pnil, List.range, List.range.loop, L146, e2, e3]) (by simp [viewT, St.ev, viewH, viewP, viewL, viewO, V0, V9, V9n, VR, VN, keptOf, find, PVal.toD, subD, subL, subV, subD_refl, viewL_ds, disj, PVal.ids, pnil, List.range, List.range.loop, L146, e2, e3])
    · rw [show i0 + 1 + (l.length - (i0 + 1)) = l.length by omega]
      have c1 := dge (Nat.le_refl l.length)
      unfold L146
      repeat' (first
        | ((first | refine Pwp.step (kit _) rfl fun K hK => ?_ | refine Pwp.last (kit _) rfl fun K hK => ?_ | refine Pwp.stepD (kit _) rfl rfl fun K hK => ?_ | refine Pwp.lastD (kit _) rfl rfl fun K hK => ?_); simp (dsimp := false) only [↓opsP_nil, ↓opsP_cons, ↓opsD_nil, ↓opsD_cons, ↓opP, ↓stepP, ↓stepG, go_sem, c1])
        | (refine Pwp.seq ?_)
        | (refine Pwp.block ?_)
        | (refine Pwp.exit ?_; simp only [thenS, blockS, if_true, if_false, reduceIte, Nat.reduceEqDiff, Nat.add_one_ne_zero, reduceCtorEq])
        | (refine Pwp.skip ?_; simp only [thenS, blockS])
        | (refine Pwp.cond rfl True.intro (fun h => ?_) (fun h => ?_) <;> (try (cases h; done)) <;> (try simp only [h]))
        | (refine Pwp.ret ?_; try simp only [thenS, blockS])
        | (refine hK _ ?_; clear hK K)
        | (refine hK _ _ rfl ?_; clear hK K)
        | (refine CallG.off ?_)
        | (with_reducible refine Or.inl ?_)
        | (simp only [thenS, blockS])
        | (with_reducible refine And.intro ?_ ?_)
        | (with_reducible exact True.intro)
        | (simp (dsimp := false) only [↓opsP_nil, ↓opsP_cons, ↓opsD_nil, ↓opsD_cons, ↓opP, ↓stepP, ↓stepG, go_sem, c1]))
      all_goals (try (first | (intro hg; simp [hg]; done) | exact of_decide_eq_true rfl | (cases h; done)))
      all_goals (try (first | exact Int.ofNat_le.2 (kN_len me l l.length) | exact Int.le_refl _ | (rw [lines_len, delL_len]; exact kN_len me l l.length)))
      rw [done_row, show kN me l l.length = (mineL me l).length by unfold kN; rw [List.take_length]]
      refine Fin.valV V0 (.inr rfl) (by simp (dsimp := false) only [↓opsP_nil, ↓opsP_cons, ↓opsD_nil, ↓opsD_cons, ↓opP, ↓stepP, ↓stepG, go_sem, resL]; rfl) (by simp only [and_self]) rfl (by simp [viewH, viewP, viewL, viewO, V0, keptOf, find, PVal.toD, subD_refl, disj, PVal.ids]) (by simp [resP, viewP, V0, keptOf, find, PVal.toD, subD_refl, disj, PVal.ids])

theorem lines_one (l : List Line) : ∀ d ∈ linesD l, d.cells.all D.one = true := by
  intro d hd
  obtain ⟨x, _, rfl⟩ := List.mem_map.1 hd
  rfl
theorem done_take (me : Int) (l : List Line) : (linesD (doneL me l)).take (mineL me l).length = linesD (mineL me l) := by
  unfold doneL linesD; rw [List.map_append, List.take_left' (by simp)]
set_option maxHeartbeats 8000000 in
theorem run88 (me : Int) (l : List Line) (hl : l.length ≤ 1000) : Runs Try.prog 88 [pint .i64 me, .d (.slc 4 (linesD l))] [] (.own 8 0 4 0 (mineL me l).length) [(8, .arr 142 4 0 none (linesD (doneL me l)))] := by
  have hlen := lines_len l
  have r133 := run133 (linesD l) (lines_one l) (by omega)
  rw [hlen] at r133
  have r146 := run146 me l hl
  refine Runs.of (kit Try.prog) Try.func88 rfl rfl (by rw [Try.ntmps88]; exact of_decide_eq_true rfl) ?_; rw [Try.ntmps88, Try.results88]
  repeat' (first
    | ((first | refine Pwp.step (kit _) rfl fun K hK => ?_ | refine Pwp.last (kit _) rfl fun K hK => ?_ | refine Pwp.stepD (kit _) rfl rfl fun K hK => ?_ | refine Pwp.lastD (kit _) rfl rfl fun K hK => ?_); simp (dsimp := false) only [↓opsP_nil, ↓opsP_cons, ↓opsD_nil, ↓opsD_cons, ↓opP, ↓stepP, ↓stepG, go_sem])
    | (refine Pwp.seq ?_)
    | (refine Pwp.block ?_)
    | (refine Pwp.exit ?_; simp only [thenS, blockS, if_true, if_false, reduceIte, Nat.reduceEqDiff, Nat.add_one_ne_zero, reduceCtorEq])
    | (refine Pwp.skip ?_; simp only [thenS, blockS])
    | (refine Pwp.cond rfl True.intro (fun h => ?_) (fun h => ?_) <;> (try (cases h; done)) <;> (try simp only [h]))
    | (refine Pwp.ret ?_; try simp only [thenS, blockS])
    | (refine hK _ ?_; clear hK K)
    | (refine hK _ _ rfl ?_; clear hK K)
    | (refine CallK.rowClo (cs := [I64 me]) r146 rfl rfl (of_decide_eq_true rfl) (by simp) ?_)
    | (refine CallK.give (ds := [.slc 4 (linesD l)]) rfl (r133) (by simp) ?_)
    | (refine CallG.off ?_)
    | (with_reducible refine Or.inl ?_)
    | (simp only [thenS, blockS])
    | (with_reducible refine And.intro ?_ ?_)
    | (with_reducible exact True.intro)
    | (simp (dsimp := false) only [↓opsP_nil, ↓opsP_cons, ↓opsD_nil, ↓opsD_cons, ↓opP, ↓stepP, ↓stepG, go_sem]))
  all_goals (try (first | (intro hg; simp [hg]; done) | exact of_decide_eq_true rfl | (cases h; done)))
  exact Fin.rowL (.inr rfl) rfl ⟨True.intro, True.intro⟩ rfl
set_option maxHeartbeats 8000000 in
theorem run88d (me : Int) (l : List Line) (hl : l.length ≤ 1000) : Runs Try.prog 88 [pint .i64 me, .d (.slc 4 (linesD l))] [] (.d (.slc 4 (linesD (mineL me l)))) [] := by
  have htk := done_take me l
  have hle : (mineL me l).length ≤ (linesD (doneL me l)).length := by rw [lines_len]; unfold doneL; simp
  have hlen := lines_len l
  have r133 := run133 (linesD l) (lines_one l) (by omega)
  rw [hlen] at r133
  have r146 := run146 me l hl
  refine Runs.of (kit Try.prog) Try.func88 rfl rfl (by rw [Try.ntmps88]; exact of_decide_eq_true rfl) ?_; rw [Try.ntmps88, Try.results88]
  repeat' (first
    | ((first | refine Pwp.step (kit _) rfl fun K hK => ?_ | refine Pwp.last (kit _) rfl fun K hK => ?_ | refine Pwp.stepD (kit _) rfl rfl fun K hK => ?_ | refine Pwp.lastD (kit _) rfl rfl fun K hK => ?_); simp (dsimp := false) only [↓opsP_nil, ↓opsP_cons, ↓opsD_nil, ↓opsD_cons, ↓opP, ↓stepP, ↓stepG, go_sem])
    | (refine Pwp.seq ?_)
    | (refine Pwp.block ?_)
    | (refine Pwp.exit ?_; simp only [thenS, blockS, if_true, if_false, reduceIte, Nat.reduceEqDiff, Nat.add_one_ne_zero, reduceCtorEq])
    | (refine Pwp.skip ?_; simp only [thenS, blockS])
    | (refine Pwp.cond rfl True.intro (fun h => ?_) (fun h => ?_) <;> (try (cases h; done)) <;> (try simp only [h]))
    | (refine Pwp.ret ?_; try simp only [thenS, blockS])
    | (refine hK _ ?_; clear hK K)
    | (refine hK _ _ rfl ?_; clear hK K)
    | (refine CallK.rowClo (cs := [I64 me]) r146 rfl rfl (of_decide_eq_true rfl) (by simp) ?_)
    | (refine CallK.give (ds := [.slc 4 (linesD l)]) rfl (r133) (by simp) ?_)
    | (refine CallG.off ?_)
    | (with_reducible refine Or.inl ?_)
    | (simp only [thenS, blockS])
    | (with_reducible refine And.intro ?_ ?_)
    | (with_reducible exact True.intro)
    | (simp (dsimp := false) only [↓opsP_nil, ↓opsP_cons, ↓opsD_nil, ↓opsD_cons, ↓opP, ↓stepP, ↓stepG, go_sem]))
  all_goals (try (first | (intro hg; simp [hg]; done) | exact of_decide_eq_true rfl | (cases h; done)))
  (refine Fin.data (.inr rfl) (by simp (dsimp := false) only [↓opsP_nil, ↓opsP_cons, ↓opsD_nil, ↓opsD_cons, ↓opP, ↓stepP, ↓stepG, go_sem, resL, htk, hle]; rfl) (by simp only [and_self]) (by simp (dsimp := false) only [↓opsP_nil, ↓opsP_cons, ↓opsD_nil, ↓opsD_cons, ↓opP, ↓stepP, ↓stepG, go_sem, resP, Nat.le_refl, List.take_length, htk, hle]; try rfl) ?_)
  exact subD_refl _

end Go.Proofs.Ytdodgbhodkcckaa.Pv
