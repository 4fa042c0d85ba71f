/- Walks of an entity's part in cycles: what waits; the statements' heads. -/
import Derived.Test.YtdodgbhodkcckaaPok
import Derived.Test.YtdodgbhodkcckaaPmr
set_option linter.unusedVariables false
set_option linter.unusedSimpArgs false
set_option autoImplicit false
set_option maxRecDepth 100000
namespace Go.Proofs.Ytdodgbhodkcckaa.Pv
open Go Go.RowKit

def waitsL (l : List Part) : List Int := (l.filter openC).map Part.cycle
theorem waits_take {l : List Part} {i : Nat} {x : Part} (h : l[i]? = some x) : waitsL (l.take (i + 1)) = waitsL (l.take i) ++ if openC x = true then [x.cycle] else [] := by
  unfold waitsL
  rw [List.take_add_one, h]
  simp only [Option.toList, List.filter_append, List.filter_cons, List.filter_nil, List.map_append]
  cases openC x <;> simp
theorem waits_len (l : List Part) : (waitsL l).length ≤ l.length := by unfold waitsL; rw [List.length_map]; exact List.length_filter_le _ _
def L76 (l : List Part) (i : Nat) : St := ⟨[(9, pint .i64 i), (8, pint .i64 l.length), (7, .d (.slc 4 (partsL l))), (3, .own 9 0 1 0 (waitsL (l.take i)).length)], [(9, .arr 3 1 0 none ((waitsL (l.take i)).map I64))], 36⟩
set_option maxHeartbeats 16000000 in
theorem run76 (p : VP) (hp : p.list.length ≤ 100000) : Runs Try.prog 76 [.d p.d] [] (.d (.slc 1 ((waitsL p.list).map I64))) [] := by
  have hlen := parts_len p.list
  unfold VP.d VP.cells
  refine Runs.of (kit Try.prog) Try.func76 rfl rfl (by rw [Try.ntmps76]; exact of_decide_eq_true rfl) ?_; rw [Try.ntmps76, Try.results76]
  repeat' (first
    | ((first | refine Pwp.step (kit _) rfl fun K hK => ?_ | refine Pwp.last (kit _) rfl fun K hK => ?_ | refine Pwp.stepD (kit _) rfl rfl fun K hK => ?_ | refine Pwp.lastD (kit _) rfl rfl fun K hK => ?_); simp (dsimp := false) only [↓opsP_nil, ↓opsP_cons, ↓opsD_nil, ↓opsD_cons, ↓opP, ↓stepP, ↓stepG, go_sem, hlen])
    | (refine Pwp.seq ?_)
    | (refine Pwp.block ?_)
    | (refine Pwp.exit ?_; simp only [thenS, blockS, if_true, if_false, reduceIte, Nat.reduceEqDiff, Nat.add_one_ne_zero, reduceCtorEq])
    | (refine Pwp.skip ?_; simp only [thenS, blockS])
    | (refine Pwp.cond rfl True.intro (fun h => ?_) (fun h => ?_) <;> (try (cases h; done)) <;> (try simp only [h]))
    | (refine Pwp.ret ?_; try simp only [thenS, blockS])
    | (refine hK _ ?_; clear hK K)
    | (refine hK _ _ rfl ?_; clear hK K)
    | (refine CallG.off ?_)
    | (with_reducible refine Or.inl ?_)
    | (simp only [thenS, blockS])
    | (with_reducible refine And.intro ?_ ?_)
    | (with_reducible exact True.intro)
    | (simp (dsimp := false) only [↓opsP_nil, ↓opsP_cons, ↓opsD_nil, ↓opsD_cons, ↓opP, ↓stepP, ↓stepG, go_sem, hlen]))
  all_goals (try (first | (intro hg; simp [hg]; done) | exact of_decide_eq_true rfl | (cases h; done)))
  refine Pwp.range p.list.length (S := L76 p.list) (Sub.view (VN 9) (by simp [L76]) rfl (by simp [viewH, viewP, viewL, viewO, V0, V9, V9n, VR, VN, keptOf, find, PVal.toD, subD, subL, subV, subD_refl, viewL_ds, disj, PVal.ids, pnil, List.range, List.range.loop, L76, waitsL, hlen]) (by simp [viewT, St.ev, viewH, viewP, viewL, viewO, V0, V9, V9n, VR, VN, keptOf, find, PVal.toD, subD, subL, subV, subD_refl, viewL_ds, disj, PVal.ids, pnil, List.range, List.range.loop, L76, waitsL, hlen])) (fun i hi => ?_) ?_
  · obtain ⟨x, hx, hm⟩ := at_lt hi
    have hg := parts_get hx
    have c1 := dlt hi
    have w1 := wrap_succ (i := i) (by omega)
    have r134 := run134 x
    have ht := waits_take hx
    have hwl := waits_len (p.list.take i)
    rw [List.length_take] at hwl
    have hln : ((waitsL (p.list.take i)).map I64).length = (waitsL (p.list.take i)).length := by simp
    have htk : ((waitsL (p.list.take i)).map I64).take (waitsL (p.list.take i)).length = (waitsL (p.list.take i)).map I64 := List.take_of_length_le (by omega)
    cases hc : openC x with
    | true =>
      rw [hc] at r134
      rw [hc, if_pos rfl] at ht
      unfold Part.d Part.cells at r134
      unfold L76
      repeat' (first
        | ((first | refine Pwp.step (kit _) rfl fun K hK => ?_ | refine Pwp.last (kit _) rfl fun K hK => ?_ | refine Pwp.stepD (kit _) rfl rfl fun K hK => ?_ | refine Pwp.lastD (kit _) rfl rfl fun K hK => ?_); simp (dsimp := false) only [↓opsP_nil, ↓opsP_cons, ↓opsD_nil, ↓opsD_cons, ↓opP, ↓stepP, ↓stepG, go_sem, hg, c1, w1, hln, htk])
        | (refine Pwp.seq ?_)
        | (refine Pwp.block ?_)
        | (refine Pwp.exit ?_; simp only [thenS, blockS, if_true, if_false, reduceIte, Nat.reduceEqDiff, Nat.add_one_ne_zero, reduceCtorEq])
        | (refine Pwp.skip ?_; simp only [thenS, blockS])
        | (refine Pwp.cond rfl True.intro (fun h => ?_) (fun h => ?_) <;> (try (cases h; done)) <;> (try simp only [h]))
        | (refine Pwp.ret ?_; try simp only [thenS, blockS])
        | (refine hK _ ?_; clear hK K)
        | (refine hK _ _ rfl ?_; clear hK K)
        | (refine CallK.toD (ds := [.agg [I64 x.cycle, I64 x.currency, I64 x.state, .slc 4 (linesD x.lines)]]) rfl (r134) rfl ?_)
        | (refine CallG.off ?_)
        | (with_reducible refine Or.inl ?_)
        | (simp only [thenS, blockS])
        | (with_reducible refine And.intro ?_ ?_)
        | (with_reducible exact True.intro)
        | (simp (dsimp := false) only [↓opsP_nil, ↓opsP_cons, ↓opsD_nil, ↓opsD_cons, ↓opP, ↓stepP, ↓stepG, go_sem, hg, c1, w1, hln, htk]))
      all_goals (try (first | (intro hg; simp [hg]; done) | exact of_decide_eq_true rfl | (cases h; done)))
      all_goals (try (first | omega | (simp [maxLen]; omega) | (simp [hln]; done)))
      exact Sub.view (VR 9 1) (by simp [L76]) rfl (by simp [viewH, viewP, viewL, viewO, V0, V9, V9n, VR, VN, keptOf, find, PVal.toD, subD, subL, subV, subD_refl, viewL_ds, disj, PVal.ids, pnil, List.range, List.range.loop, L76, ht]) (by simp [viewT, St.ev, viewH, viewP, viewL, viewO, V0, V9, V9n, VR, VN, keptOf, find, PVal.toD, subD, subL, subV, subD_refl, viewL_ds, disj, PVal.ids, pnil, List.range, List.range.loop, L76, ht])
    | false =>
      rw [hc] at r134
      rw [hc, if_neg (by simp), List.append_nil] at ht
      unfold Part.d Part.cells at r134
      unfold L76
      repeat' (first
        | ((first | refine Pwp.step (kit _) rfl fun K hK => ?_ | refine Pwp.last (kit _) rfl fun K hK => ?_ | refine Pwp.stepD (kit _) rfl rfl fun K hK => ?_ | refine Pwp.lastD (kit _) rfl rfl fun K hK => ?_); simp (dsimp := false) only [↓opsP_nil, ↓opsP_cons, ↓opsD_nil, ↓opsD_cons, ↓opP, ↓stepP, ↓stepG, go_sem, hg, c1, w1, hln, htk])
        | (refine Pwp.seq ?_)
        | (refine Pwp.block ?_)
        | (refine Pwp.exit ?_; simp only [thenS, blockS, if_true, if_false, reduceIte, Nat.reduceEqDiff, Nat.add_one_ne_zero, reduceCtorEq])
        | (refine Pwp.skip ?_; simp only [thenS, blockS])
        | (refine Pwp.cond rfl True.intro (fun h => ?_) (fun h => ?_) <;> (try (cases h; done)) <;> (try simp only [h]))
        | (refine Pwp.ret ?_; try simp only [thenS, blockS])
        | (refine hK _ ?_; clear hK K)
        | (refine hK _ _ rfl ?_; clear hK K)
        | (refine CallK.toD (ds := [.agg [I64 x.cycle, I64 x.currency, I64 x.state, .slc 4 (linesD x.lines)]]) rfl (r134) rfl ?_)
        | (refine CallG.off ?_)
        | (with_reducible refine Or.inl ?_)
        | (simp only [thenS, blockS])
        | (with_reducible refine And.intro ?_ ?_)
        | (with_reducible exact True.intro)
        | (simp (dsimp := false) only [↓opsP_nil, ↓opsP_cons, ↓opsD_nil, ↓opsD_cons, ↓opP, ↓stepP, ↓stepG, go_sem, hg, c1, w1, hln, htk]))
      all_goals (try (first | (intro hg; simp [hg]; done) | exact of_decide_eq_true rfl | (cases h; done)))
      exact Sub.view V0 (by simp [L76]) rfl (by simp [viewH, viewP, viewL, viewO, V0, V9, V9n, VR, VN, keptOf, find, PVal.toD, subD, subL, subV, subD_refl, viewL_ds, disj, PVal.ids, pnil, List.range, List.range.loop, L76, ht]) (by simp [viewT, St.ev, viewH, viewP, viewL, viewO, V0, V9, V9n, VR, VN, keptOf, find, PVal.toD, subD, subL, subV, subD_refl, viewL_ds, disj, PVal.ids, pnil, List.range, List.range.loop, L76, ht])
  · have c1 := dge (Nat.le_refl p.list.length)
    have htk : ((waitsL p.list).map I64).take (waitsL p.list).length = (waitsL p.list).map I64 := List.take_of_length_le (by simp)
    have hln : ((waitsL p.list).map I64).length = (waitsL p.list).length := by simp
    unfold L76
    rw [List.take_length]
    repeat' (first
      | ((first | refine Pwp.step (kit _) rfl fun K hK => ?_ | refine Pwp.last (kit _) rfl fun K hK => ?_ | refine Pwp.stepD (kit _) rfl rfl fun K hK => ?_ | refine Pwp.lastD (kit _) rfl rfl fun K hK => ?_); simp (dsimp := false) only [↓opsP_nil, ↓opsP_cons, ↓opsD_nil, ↓opsD_cons, ↓opP, ↓stepP, ↓stepG, go_sem, c1, htk, hln])
      | (refine Pwp.seq ?_)
      | (refine Pwp.block ?_)
      | (refine Pwp.exit ?_; simp only [thenS, blockS, if_true, if_false, reduceIte, Nat.reduceEqDiff, Nat.add_one_ne_zero, reduceCtorEq])
      | (refine Pwp.skip ?_; simp only [thenS, blockS])
      | (refine Pwp.cond rfl True.intro (fun h => ?_) (fun h => ?_) <;> (try (cases h; done)) <;> (try simp only [h]))
      | (refine Pwp.ret ?_; try simp only [thenS, blockS])
      | (refine hK _ ?_; clear hK K)
      | (refine hK _ _ rfl ?_; clear hK K)
      | (refine CallG.off ?_)
      | (with_reducible refine Or.inl ?_)
      | (simp only [thenS, blockS])
      | (with_reducible refine And.intro ?_ ?_)
      | (with_reducible exact True.intro)
      | (simp (dsimp := false) only [↓opsP_nil, ↓opsP_cons, ↓opsD_nil, ↓opsD_cons, ↓opP, ↓stepP, ↓stepG, go_sem, c1, htk, hln]))
    all_goals (try (first | (intro hg; simp [hg]; done) | exact of_decide_eq_true rfl | (cases h; done)))
    (refine Fin.data (.inr rfl) (by simp (dsimp := false) only [↓opsP_nil, ↓opsP_cons, ↓opsD_nil, ↓opsD_cons, ↓opP, ↓stepP, ↓stepG, go_sem, resL, htk, hln]; rfl) (by simp only [and_self]) (by simp (dsimp := false) only [↓opsP_nil, ↓opsP_cons, ↓opsD_nil, ↓opsD_cons, ↓opP, ↓stepP, ↓stepG, go_sem, resP, Nat.le_refl, List.take_length, htk, hln]; try rfl) ?_)
    exact subD_refl _

/-- What is said of cycles, with its lines and nets. -/
structure VMsg where
  kind : Int
  seller : Int
  number : Int
  buyer : Int
  currency : Int
  round : Int
  cycle : Int
  amount : Int
  yes : Bool
  ls : List Line
  ns : List Int
def VMsg.msg (m : VMsg) : Msg := ⟨m.kind, m.seller, m.number, m.buyer, m.currency, m.round, m.cycle, m.amount, m.yes, .slc 4 (linesD m.ls), .slc 1 (m.ns.map I64)⟩
structure VW where
  from' : Int
  m : VMsg
def VW.d (w : VW) : D := .agg (I64 w.from' :: w.m.msg.cells)
def vwsD (ws : List VW) : List D := ws.map VW.d
theorem vws_len (ws : List VW) : (vwsD ws).length = ws.length := by simp [vwsD]
theorem vws_get {ws : List VW} {i : Nat} {w : VW} (h : ws[i]? = some w) : (vwsD ws)[i]? = some (.agg [I64 w.from', I64 w.m.kind, I64 w.m.seller, I64 w.m.number, I64 w.m.buyer, I64 w.m.currency, I64 w.m.round, I64 w.m.cycle, I64 w.m.amount, .v (.bool w.m.yes), .slc 4 (linesD w.m.ls), .slc 1 (w.m.ns.map I64)]) := by
  simp [vwsD, h, VW.d, Msg.cells, VMsg.msg]
def voteR (p : VP) (l : List Item) (m : VMsg) (f : Int) : VOut := voteK p l m.msg f (askR p l m.msg) (prepR p l m.msg m.ls m.ns) (decR p l m.msg) (dueC p l m.msg)
theorem run70 (p : VP) (me : Int) (l : List Item) (os : List D) (m : VMsg) (f : Int) (hG : Good me l) (hl : l.length ≤ 100000) (hp : p.list.length ≤ 100000) (hll : ∀ x ∈ p.list, x.lines.length ≤ 100000) (hls : m.ls.length ≤ 1000) (hns : m.ns.length ≤ 1000) :
    Runs Try.prog 70 [.d p.d, .d (bookD me l os), .d m.msg.d, pint .i64 f] [] (.d (vOutD me os (voteR p l m f))) [] :=
  run70g p me l os m.msg f _ _ _ _ (run123 p me l os m.msg hG hl hp hll) (run124 p me l os m.msg m.ls m.ns rfl rfl hl hp hll hls hns) (run125 p me l os m.msg hG hl hp hll) (run122 p me l os m.msg hp hll)

/-- The items of a book, and of the document's desk, as far as they can be put. -/
def fillS (a : List Item) : List Item × List Item := a.foldl (fun s x => if putE 0 s.1 x = 0 then (putIn s.1 x, keepL2 s.2 x) else s) ([], [])
theorem fill_take {a : List Item} {i : Nat} {x : Item} (h : a[i]? = some x) : fillS (a.take (i + 1)) = if putE 0 (fillS (a.take i)).1 x = 0 then (putIn (fillS (a.take i)).1 x, keepL2 (fillS (a.take i)).2 x) else fillS (a.take i) := by
  unfold fillS; rw [List.take_add_one, h, List.foldl_append]; rfl
theorem keep_len (l : List Item) (x : Item) : (keepL2 l x).length ≤ l.length + 1 := by
  unfold keepL2; split
  · simp
  · rw [List.length_set]; omega
theorem fill_len : ∀ (a : List Item), (fillS a).1.length ≤ a.length ∧ (fillS a).2.length ≤ a.length := by
  have key : ∀ (a : List Item) (s : List Item × List Item), (a.foldl (fun s x => if putE 0 s.1 x = 0 then (putIn s.1 x, keepL2 s.2 x) else s) s).1.length ≤ s.1.length + a.length ∧ (a.foldl (fun s x => if putE 0 s.1 x = 0 then (putIn s.1 x, keepL2 s.2 x) else s) s).2.length ≤ s.2.length + a.length := by
    intro a
    induction a with
    | nil => intro s; simp
    | cons x a ih =>
      intro s
      simp only [List.foldl_cons, List.length_cons]
      have h := ih (if putE 0 s.1 x = 0 then (putIn s.1 x, keepL2 s.2 x) else s)
      split at h
      · have h1 := len_putIn s.1 x
        have h2 := keep_len s.2 x
        simp only at h
        rw [if_pos (by assumption)]
        omega
      · rw [if_neg (by assumption)]
        omega
  intro a
  have := key a ([], [])
  simpa [fillS] using this
def rdD (l : List Item) : RDesk := ⟨0, 0, l, []⟩
def L69 (a : List Item) (i : Nat) : St := ⟨[(19, pint .i64 i), (18, pint .i64 a.length), (17, .d (.slc 8 (itemsD a))), (7, .ref 49 0), (6, pint .i64 0), (5, .ref 24 0), (3, .ref 9 0), (2, .ref 8 0)],
  [(8, .box [.d (I64 0), .d nilD, .d nilD]), (9, .box [.d (I64 0), .d (I64 0), .d nilD, .d nilD]), (24, .box [.d (I64 0), .d (.slc 8 (itemsD (fillS (a.take i)).1)), .d (.slc 3 [])]), (49, .box [.d (I64 0), .d (I64 0), .d (.slc 8 (itemsD (fillS (a.take i)).2)), .d (.slc 3 (ordersD []))])], 72⟩
set_option maxHeartbeats 16000000 in
theorem run69 (a : List Item) (ha : a.length ≤ 100000) : Runs Try.prog 69 [.d (.slc 8 (itemsD a))] [] (.d (.tup [bookD 0 (fillS a).1 [], (rdD (fillS a).2).d, .v (.bool true)])) [] := by
  have hlen := items_len a
  have r49 := run49 0
  have e0 : (decide ((0 : Int) < 0) || decide ((8 : Int) ≤ 0)) = false := rfl
  rw [e0, if_neg (by simp)] at r49
  refine Runs.of (kit Try.prog) Try.func69 rfl rfl (by rw [Try.ntmps69]; exact of_decide_eq_true rfl) ?_; rw [Try.ntmps69, Try.results69]
  repeat' (first
    | ((first | refine Pwp.step (kit _) rfl fun K hK => ?_ | refine Pwp.last (kit _) rfl fun K hK => ?_ | refine Pwp.stepD (kit _) rfl rfl fun K hK => ?_ | refine Pwp.lastD (kit _) rfl rfl fun K hK => ?_); simp (dsimp := false) only [↓opsP_nil, ↓opsP_cons, ↓opsD_nil, ↓opsD_cons, ↓opP, ↓stepP, ↓stepG, go_sem, hlen])
    | (refine Pwp.seq ?_)
    | (refine Pwp.block ?_)
    | (refine Pwp.exit ?_; simp only [thenS, blockS, if_true, if_false, reduceIte, Nat.reduceEqDiff, Nat.add_one_ne_zero, reduceCtorEq])
    | (refine Pwp.skip ?_; simp only [thenS, blockS])
    | (refine Pwp.cond rfl True.intro (fun h => ?_) (fun h => ?_) <;> (try (cases h; done)) <;> (try simp only [h]))
    | (refine Pwp.ret ?_; try simp only [thenS, blockS])
    | (refine hK _ ?_; clear hK K)
    | (refine hK _ _ rfl ?_; clear hK K)
    | (refine CallK.give (ds := [I64 0]) rfl (r49) (by simp) ?_)
    | (refine CallG.off ?_)
    | (with_reducible refine Or.inl ?_)
    | (simp only [thenS, blockS])
    | (with_reducible refine And.intro ?_ ?_)
    | (with_reducible exact True.intro)
    | (simp (dsimp := false) only [↓opsP_nil, ↓opsP_cons, ↓opsD_nil, ↓opsD_cons, ↓opP, ↓stepP, ↓stepG, go_sem, hlen]))
  all_goals (try (first | (intro hg; simp [hg]; done) | exact of_decide_eq_true rfl | (cases h; done)))
  refine Pwp.range a.length (S := L69 a) (Sub.view V0 (by simp [L69]) rfl (by simp [viewH, viewP, viewL, viewO, V0, V9, V9n, VR, VN, keptOf, find, PVal.toD, subD, subL, subV, subD_refl, viewL_ds, disj, PVal.ids, pnil, List.range, List.range.loop, L69, fillS, hlen, itemsD, ordersD, subV]) (by simp [viewT, St.ev, viewH, viewP, viewL, viewO, V0, V9, V9n, VR, VN, keptOf, find, PVal.toD, subD, subL, subV, subD_refl, viewL_ds, disj, PVal.ids, pnil, List.range, List.range.loop, L69, fillS, hlen, itemsD, ordersD, subV])) (fun i hi => ?_) ?_
  · obtain ⟨x, hx, hm⟩ := at_lt hi
    have hg := items_get8 hx
    have c1 := dlt hi
    have w1 := wrap_succ (i := i) (by omega)
    have ht := fill_take hx
    have hfl := fill_len (a.take i)
    rw [List.length_take] at hfl
    have r50 := run50 0 (fillS (a.take i)).1 [] x (by omega)
    have r121 := run121 (rdD (fillS (a.take i)).2) x (by simp only [rdD]; omega)
    by_cases he : putE 0 (fillS (a.take i)).1 x = 0
    · rw [he, if_pos rfl] at r50
      rw [if_pos he] at ht
      unfold RDesk.keep at r121
      unfold bookD Item.d Item.cells at r50
      unfold RDesk.d RDesk.cells rdD Item.d Item.cells at r121
      unfold L69
      repeat' (first
        | ((first | refine Pwp.step (kit _) rfl fun K hK => ?_ | refine Pwp.last (kit _) rfl fun K hK => ?_ | refine Pwp.stepD (kit _) rfl rfl fun K hK => ?_ | refine Pwp.lastD (kit _) rfl rfl fun K hK => ?_); simp (dsimp := false) only [↓opsP_nil, ↓opsP_cons, ↓opsD_nil, ↓opsD_cons, ↓opP, ↓stepP, ↓stepG, go_sem, hg, c1, w1, beq_self_eq_true])
        | (refine Pwp.seq ?_)
        | (refine Pwp.block ?_)
        | (refine Pwp.exit ?_; simp only [thenS, blockS, if_true, if_false, reduceIte, Nat.reduceEqDiff, Nat.add_one_ne_zero, reduceCtorEq])
        | (refine Pwp.skip ?_; simp only [thenS, blockS])
        | (refine Pwp.cond rfl True.intro (fun h => ?_) (fun h => ?_) <;> (try (cases h; done)) <;> (try simp only [h]))
        | (refine Pwp.ret ?_; try simp only [thenS, blockS])
        | (refine hK _ ?_; clear hK K)
        | (refine hK _ _ rfl ?_; clear hK K)
        | (refine CallK.give (ds := [.agg [I64 0, .slc 8 (itemsD (fillS (a.take i)).1), .slc 3 []], .agg [I64 x.seller, I64 x.number, I64 x.buyer, I64 x.currency, I64 x.amount, I64 x.round, I64 x.state, I64 x.cycle]]) rfl (r50) (by simp) ?_)
        | (refine CallK.give (ds := [.agg [I64 0, I64 0, .slc 8 (itemsD (fillS (a.take i)).2), .slc 3 (ordersD [])], .agg [I64 x.seller, I64 x.number, I64 x.buyer, I64 x.currency, I64 x.amount, I64 x.round, I64 x.state, I64 x.cycle]]) rfl (r121) (by simp) ?_)
        | (refine CallG.off ?_)
        | (with_reducible refine Or.inl ?_)
        | (simp only [thenS, blockS])
        | (with_reducible refine And.intro ?_ ?_)
        | (with_reducible exact True.intro)
        | (simp (dsimp := false) only [↓opsP_nil, ↓opsP_cons, ↓opsD_nil, ↓opsD_cons, ↓opP, ↓stepP, ↓stepG, go_sem, hg, c1, w1, beq_self_eq_true]))
      all_goals (try (first | (intro hg; simp [hg]; done) | exact of_decide_eq_true rfl | (cases h; done)))
      exact Sub.view V0 (by simp [L69]) rfl (by simp [viewH, viewP, viewL, viewO, V0, V9, V9n, VR, VN, keptOf, find, PVal.toD, subD, subL, subV, subD_refl, viewL_ds, disj, PVal.ids, pnil, List.range, List.range.loop, L69, ht]) (by simp [viewT, St.ev, viewH, viewP, viewL, viewO, V0, V9, V9n, VR, VN, keptOf, find, PVal.toD, subD, subL, subV, subD_refl, viewL_ds, disj, PVal.ids, pnil, List.range, List.range.loop, L69, ht])
    · have n0 : (putE 0 (fillS (a.take i)).1 x == 0) = false := by rw [beq_eq_false_iff_ne]; exact he
      rw [if_neg he] at r50 ht
      unfold bookD Item.d Item.cells at r50
      unfold L69
      repeat' (first
        | ((first | refine Pwp.step (kit _) rfl fun K hK => ?_ | refine Pwp.last (kit _) rfl fun K hK => ?_ | refine Pwp.stepD (kit _) rfl rfl fun K hK => ?_ | refine Pwp.lastD (kit _) rfl rfl fun K hK => ?_); simp (dsimp := false) only [↓opsP_nil, ↓opsP_cons, ↓opsD_nil, ↓opsD_cons, ↓opP, ↓stepP, ↓stepG, go_sem, hg, c1, w1, n0])
        | (refine Pwp.seq ?_)
        | (refine Pwp.block ?_)
        | (refine Pwp.exit ?_; simp only [thenS, blockS, if_true, if_false, reduceIte, Nat.reduceEqDiff, Nat.add_one_ne_zero, reduceCtorEq])
        | (refine Pwp.skip ?_; simp only [thenS, blockS])
        | (refine Pwp.cond rfl True.intro (fun h => ?_) (fun h => ?_) <;> (try (cases h; done)) <;> (try simp only [h]))
        | (refine Pwp.ret ?_; try simp only [thenS, blockS])
        | (refine hK _ ?_; clear hK K)
        | (refine hK _ _ rfl ?_; clear hK K)
        | (refine CallK.give (ds := [.agg [I64 0, .slc 8 (itemsD (fillS (a.take i)).1), .slc 3 []], .agg [I64 x.seller, I64 x.number, I64 x.buyer, I64 x.currency, I64 x.amount, I64 x.round, I64 x.state, I64 x.cycle]]) rfl (r50) (by simp) ?_)
        | (refine CallG.off ?_)
        | (with_reducible refine Or.inl ?_)
        | (simp only [thenS, blockS])
        | (with_reducible refine And.intro ?_ ?_)
        | (with_reducible exact True.intro)
        | (simp (dsimp := false) only [↓opsP_nil, ↓opsP_cons, ↓opsD_nil, ↓opsD_cons, ↓opP, ↓stepP, ↓stepG, go_sem, hg, c1, w1, n0]))
      all_goals (try (first | (intro hg; simp [hg]; done) | exact of_decide_eq_true rfl | (cases h; done)))
      exact Sub.view V0 (by simp [L69]) rfl (by simp [viewH, viewP, viewL, viewO, V0, V9, V9n, VR, VN, keptOf, find, PVal.toD, subD, subL, subV, subD_refl, viewL_ds, disj, PVal.ids, pnil, List.range, List.range.loop, L69, ht]) (by simp [viewT, St.ev, viewH, viewP, viewL, viewO, V0, V9, V9n, VR, VN, keptOf, find, PVal.toD, subD, subL, subV, subD_refl, viewL_ds, disj, PVal.ids, pnil, List.range, List.range.loop, L69, ht])
  · have c1 := dge (Nat.le_refl a.length)
    unfold L69 bookD rdD RDesk.d RDesk.cells
    rw [List.take_length]
    repeat' (first
      | ((first | refine Pwp.step (kit _) rfl fun K hK => ?_ | refine Pwp.last (kit _) rfl fun K hK => ?_ | refine Pwp.stepD (kit _) rfl rfl fun K hK => ?_ | refine Pwp.lastD (kit _) rfl rfl fun K hK => ?_); simp (dsimp := false) only [↓opsP_nil, ↓opsP_cons, ↓opsD_nil, ↓opsD_cons, ↓opP, ↓stepP, ↓stepG, go_sem, c1, beq_self_eq_true])
      | (refine Pwp.seq ?_)
      | (refine Pwp.block ?_)
      | (refine Pwp.exit ?_; simp only [thenS, blockS, if_true, if_false, reduceIte, Nat.reduceEqDiff, Nat.add_one_ne_zero, reduceCtorEq])
      | (refine Pwp.skip ?_; simp only [thenS, blockS])
      | (refine Pwp.cond rfl True.intro (fun h => ?_) (fun h => ?_) <;> (try (cases h; done)) <;> (try simp only [h]))
      | (refine Pwp.ret ?_; try simp only [thenS, blockS])
      | (refine hK _ ?_; clear hK K)
      | (refine hK _ _ rfl ?_; clear hK K)
      | (refine CallG.off ?_)
      | (with_reducible refine Or.inl ?_)
      | (simp only [thenS, blockS])
      | (with_reducible refine And.intro ?_ ?_)
      | (with_reducible exact True.intro)
      | (simp (dsimp := false) only [↓opsP_nil, ↓opsP_cons, ↓opsD_nil, ↓opsD_cons, ↓opP, ↓stepP, ↓stepG, go_sem, c1, beq_self_eq_true]))
    all_goals (try (first | (intro hg; simp [hg]; done) | exact of_decide_eq_true rfl | (cases h; done)))
    (refine Fin.data (.inr rfl) (by simp (dsimp := false) only [↓opsP_nil, ↓opsP_cons, ↓opsD_nil, ↓opsD_cons, ↓opP, ↓stepP, ↓stepG, go_sem, resL]; rfl) (by simp only [and_self]) (by simp (dsimp := false) only [↓opsP_nil, ↓opsP_cons, ↓opsD_nil, ↓opsD_cons, ↓opP, ↓stepP, ↓stepG, go_sem, resP, Nat.le_refl, List.take_length]; try rfl) ?_)
    exact subD_refl _

end Go.Proofs.Ytdodgbhodkcckaa.Pv
