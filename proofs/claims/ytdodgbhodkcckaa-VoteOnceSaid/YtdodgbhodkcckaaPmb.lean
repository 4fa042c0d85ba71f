/- Walks of matching: a desk, and what all its acts use. -/
import Derived.Test.YtdodgbhodkcckaaPma
import Derived.Test.YtdodgbhodkcckaaPwh
set_option linter.unusedVariables false
set_option linter.unusedSimpArgs false
set_option autoImplicit false
set_option maxRecDepth 100000
namespace Go.Proofs.Ytdodgbhodkcckaa.Pv
open Go Go.RowKit

theorem shiftL_dd (ρ : Nat → Nat) : ∀ l : List D, shiftL ρ (l.map .d) = l.map .d
  | [] => rfl
  | a :: l => by simp only [List.map_cons, shiftL, PVal.shift, shiftL_dd ρ l]
/-- A call that is handed a pointer to a variable of data, and data. -/
theorem CallK.desk {P : Program} {fid : Nat} {nid : Nat → Nat} {st : St} {K : Eff → Prop} {qs : List PVal} {ds cs : List D} {r : PVal} {id : Nat} {h' : List (Nat × PObj)} (hd : toDL st.heap qs = some ds) (hi : idsL qs = []) (hf : find id st.heap = some (.box (cs.map .d)))
    (hr : Runs P fid (.ref 0 0 :: ds.map .d) [(0, .box (cs.map .d))] r h') (hn : (h'.map (·.1)).Nodup)
    (hK : K ⟨r.shift (rename [id] nid), [id], shiftH (rename [id] nid) h'⟩) : CallK P fid nid st (.ref id 0 :: qs) K := by
  have e1 := args_toDL (h := st.heap) (ρ := rename [id] nid) hd
  have e3 : frozen (.ref id 0 :: qs) (.ref 0 0 :: ds.map .d) = [] := by simp only [frozen]; rw [e1.2, hi]
  refine ⟨[id], _, _, _, _, false, ?_, hr, ⟨by simp, by simp, rfl, ?_⟩, ⟨hn, by simp [e3]⟩, .inr (.inl (by simp [e3])), by simpa using hK⟩
  · simp only [argsP]
    exact ⟨by simp [argP, PVal.shift, rename], e1.1⟩
  · simp [PObj.shift, shiftL_dd, hf]
/-- .. a variable that has a row of one's own behind data. -/
theorem CallK.desk2 {P : Program} {fid : Nat} {nid : Nat → Nat} {st : St} {K : Eff → Prop} {qs : List PVal} {ds cs els : List D} {r : PVal} {id i2 v e s n : Nat} {room : Option Nat} {h' : List (Nat × PObj)} (hd : toDL st.heap qs = some ds) (hi : idsL qs = []) (hf : find id st.heap = some (.box (cs.map .d ++ [.own i2 v s 0 n]))) (hf2 : find i2 st.heap = some (.arr e s v room els)) (hne : id ≠ i2)
    (hr : Runs P fid (.ref 0 0 :: ds.map .d) [(0, .box (cs.map .d ++ [.own 1 v s 0 n])), (1, .arr e s v room els)] r h') (hn : (h'.map (·.1)).Nodup)
    (hK : K ⟨r.shift (rename [id, i2] nid), [id, i2], shiftH (rename [id, i2] nid) h'⟩) : CallK P fid nid st (.ref id 0 :: qs) K := by
  have e1 := args_toDL (h := st.heap) (ρ := rename [id, i2] nid) hd
  have e3 : frozen (.ref id 0 :: qs) (.ref 0 0 :: ds.map .d) = [] := by simp only [frozen]; rw [e1.2, hi]
  have sa : ∀ (ρ : Nat → Nat) (l : List D) (q : PVal), shiftL ρ (l.map .d ++ [q]) = l.map .d ++ [q.shift ρ] := by
    intro ρ l q
    induction l with
    | nil => rfl
    | cons a l ih => simp only [List.map_cons, List.cons_append, shiftL, PVal.shift, ih]
  refine ⟨[id, i2], _, _, _, _, false, ?_, hr, ⟨by simp [hne], by simp, rfl, ?_⟩, ⟨hn, by simp [e3]⟩, .inr (.inl (by simp [e3])), by simpa using hK⟩
  · simp only [argsP]
    exact ⟨by simp [argP, PVal.shift, rename], e1.1⟩
  · simp [PObj.shift, sa, PVal.shift, rename, hf, hf2]

/-- What is handed back is a value, and objects that were handed in, or are new. -/
theorem Fin.valV {T : Nat → Option TI} {rs : List ResultVar} {e : Exit} {st : St} {ps : List PVal} {g : Prop} {r : PVal} {h' : List (Nat × PObj)} (V : Turn) (he : e = .normal ∨ e = .ret) (hr : resL T st rs = some (ps, g)) (hg : g) (hV : turnOK V (h'.map (·.1)) = true)
    (hh : viewH V { st with tmps := [(0, resP ps)] } (keptOf V ⟨[(0, r)], h', 12⟩) 12 h') (hp : viewP V st.heap (keptOf V ⟨[(0, r)], h', 12⟩) 12 (resP ps) r) : Fin T rs r h' e st := by
  refine ⟨he, ?_⟩
  rw [hr]
  exact ⟨hg, V, hV, hh, hp⟩

def nearV (a b far : Int) : Bool := decide (0 ≤ far) && (decide (a - b ≤ far) && decide (b - a ≤ far))
set_option maxHeartbeats 8000000 in
theorem run223 (a b far : Int) (ha : In64 a) (hb : In64 b) (hf : In64 far) : Runs Try.prog 223 [pint .i64 a, pint .i64 b, pint .i64 far] [] (pbool (nearV a b far)) [] := by
  obtain ⟨a1, a2⟩ := ha
  obtain ⟨b1, b2⟩ := hb
  obtain ⟨f1, f2⟩ := hf
  by_cases h0 : far < 0
  · have c0 : decide (far < 0) = true := decide_eq_true h0
    have e : nearV a b far = false := by unfold nearV; rw [decide_eq_false (by omega), Bool.false_and]
    rw [e]
    refine Runs.of (kit Try.prog) Try.func223 rfl rfl (by rw [Try.ntmps223]; exact of_decide_eq_true rfl) ?_; rw [Try.ntmps223, Try.results223]
    repeat' (first
      | ((first | refine Pwp.step (kit _) rfl fun K hK => ?_ | refine Pwp.last (kit _) rfl fun K hK => ?_ | refine Pwp.stepD (kit _) rfl rfl fun K hK => ?_ | refine Pwp.lastD (kit _) rfl rfl fun K hK => ?_); simp (dsimp := false) only [↓opsP_nil, ↓opsP_cons, ↓opsD_nil, ↓opsD_cons, ↓opP, ↓stepP, ↓stepG, go_sem, c0])
      | (refine Pwp.seq ?_)
      | (refine Pwp.block ?_)
      | (refine Pwp.exit ?_; simp only [thenS, blockS, if_true, if_false, reduceIte, Nat.reduceEqDiff, Nat.add_one_ne_zero, reduceCtorEq])
      | (refine Pwp.skip ?_; simp only [thenS, blockS])
      | (refine Pwp.cond rfl True.intro (fun h => ?_) (fun h => ?_) <;> (try (cases h; done)) <;> (try simp only [h]))
      | (refine Pwp.ret ?_; try simp only [thenS, blockS])
      | (refine hK _ ?_; clear hK K)
      | (refine hK _ _ rfl ?_; clear hK K)
      | (refine CallG.off ?_)
      | (with_reducible refine Or.inl ?_)
      | (simp only [thenS, blockS])
      | (with_reducible refine And.intro ?_ ?_)
      | (with_reducible exact True.intro)
      | (simp (dsimp := false) only [↓opsP_nil, ↓opsP_cons, ↓opsD_nil, ↓opsD_cons, ↓opP, ↓stepP, ↓stepG, go_sem, c0]))
    all_goals (try (first | (intro hg; simp [hg]; done) | exact of_decide_eq_true rfl | (cases h; done)))
    (refine Fin.data (.inr rfl) (by simp (dsimp := false) only [↓opsP_nil, ↓opsP_cons, ↓opsD_nil, ↓opsD_cons, ↓opP, ↓stepP, ↓stepG, go_sem, resL]; rfl) (by simp only [and_self]) (by simp (dsimp := false) only [↓opsP_nil, ↓opsP_cons, ↓opsD_nil, ↓opsD_cons, ↓opP, ↓stepP, ↓stepG, go_sem, resP, Nat.le_refl, List.take_length]; try rfl) ?_)
    exact subD_refl _
  · have c0 : decide (far < 0) = false := decide_eq_false h0
    by_cases h1 : a < b
    · have c1 : decide (a < b) = true := decide_eq_true h1
      have e : decide (IntKind.wrap .u64 (IntKind.wrap .u64 b - IntKind.wrap .u64 a) ≤ IntKind.wrap .u64 far) = nearV a b far := by
        unfold nearV
        rw [decide_eq_true (show 0 ≤ far by omega), decide_eq_true (show a - b ≤ far by omega), Bool.true_and, Bool.true_and]
        simp only [wrap_u]
        exact decide_eq_decide.2 (by omega)
      refine Runs.of (kit Try.prog) Try.func223 rfl rfl (by rw [Try.ntmps223]; exact of_decide_eq_true rfl) ?_; rw [Try.ntmps223, Try.results223]
      repeat' (first
        | ((first | refine Pwp.step (kit _) rfl fun K hK => ?_ | refine Pwp.last (kit _) rfl fun K hK => ?_ | refine Pwp.stepD (kit _) rfl rfl fun K hK => ?_ | refine Pwp.lastD (kit _) rfl rfl fun K hK => ?_); simp (dsimp := false) only [↓opsP_nil, ↓opsP_cons, ↓opsD_nil, ↓opsD_cons, ↓opP, ↓stepP, ↓stepG, go_sem, c0, c1, e])
        | (refine Pwp.seq ?_)
        | (refine Pwp.block ?_)
        | (refine Pwp.exit ?_; simp only [thenS, blockS, if_true, if_false, reduceIte, Nat.reduceEqDiff, Nat.add_one_ne_zero, reduceCtorEq])
        | (refine Pwp.skip ?_; simp only [thenS, blockS])
        | (refine Pwp.cond rfl True.intro (fun h => ?_) (fun h => ?_) <;> (try (cases h; done)) <;> (try simp only [h]))
        | (refine Pwp.ret ?_; try simp only [thenS, blockS])
        | (refine hK _ ?_; clear hK K)
        | (refine hK _ _ rfl ?_; clear hK K)
        | (refine CallG.off ?_)
        | (with_reducible refine Or.inl ?_)
        | (simp only [thenS, blockS])
        | (with_reducible refine And.intro ?_ ?_)
        | (with_reducible exact True.intro)
        | (simp (dsimp := false) only [↓opsP_nil, ↓opsP_cons, ↓opsD_nil, ↓opsD_cons, ↓opP, ↓stepP, ↓stepG, go_sem, c0, c1, e]))
      all_goals (try (first | (intro hg; simp [hg]; done) | exact of_decide_eq_true rfl | (cases h; done)))
      (refine Fin.data (.inr rfl) (by simp (dsimp := false) only [↓opsP_nil, ↓opsP_cons, ↓opsD_nil, ↓opsD_cons, ↓opP, ↓stepP, ↓stepG, go_sem, resL]; rfl) (by simp only [and_self]) (by simp (dsimp := false) only [↓opsP_nil, ↓opsP_cons, ↓opsD_nil, ↓opsD_cons, ↓opP, ↓stepP, ↓stepG, go_sem, resP, Nat.le_refl, List.take_length]; try rfl) ?_)
      exact subD_refl _
    · have c1 : decide (a < b) = false := decide_eq_false h1
      have e : decide (IntKind.wrap .u64 (IntKind.wrap .u64 a - IntKind.wrap .u64 b) ≤ IntKind.wrap .u64 far) = nearV a b far := by
        unfold nearV
        rw [decide_eq_true (show 0 ≤ far by omega), decide_eq_true (show b - a ≤ far by omega), Bool.true_and, Bool.and_true]
        simp only [wrap_u]
        exact decide_eq_decide.2 (by omega)
      refine Runs.of (kit Try.prog) Try.func223 rfl rfl (by rw [Try.ntmps223]; exact of_decide_eq_true rfl) ?_; rw [Try.ntmps223, Try.results223]
      repeat' (first
        | ((first | refine Pwp.step (kit _) rfl fun K hK => ?_ | refine Pwp.last (kit _) rfl fun K hK => ?_ | refine Pwp.stepD (kit _) rfl rfl fun K hK => ?_ | refine Pwp.lastD (kit _) rfl rfl fun K hK => ?_); simp (dsimp := false) only [↓opsP_nil, ↓opsP_cons, ↓opsD_nil, ↓opsD_cons, ↓opP, ↓stepP, ↓stepG, go_sem, c0, c1, e])
        | (refine Pwp.seq ?_)
        | (refine Pwp.block ?_)
        | (refine Pwp.exit ?_; simp only [thenS, blockS, if_true, if_false, reduceIte, Nat.reduceEqDiff, Nat.add_one_ne_zero, reduceCtorEq])
        | (refine Pwp.skip ?_; simp only [thenS, blockS])
        | (refine Pwp.cond rfl True.intro (fun h => ?_) (fun h => ?_) <;> (try (cases h; done)) <;> (try simp only [h]))
        | (refine Pwp.ret ?_; try simp only [thenS, blockS])
        | (refine hK _ ?_; clear hK K)
        | (refine hK _ _ rfl ?_; clear hK K)
        | (refine CallG.off ?_)
        | (with_reducible refine Or.inl ?_)
        | (simp only [thenS, blockS])
        | (with_reducible refine And.intro ?_ ?_)
        | (with_reducible exact True.intro)
        | (simp (dsimp := false) only [↓opsP_nil, ↓opsP_cons, ↓opsD_nil, ↓opsD_cons, ↓opP, ↓stepP, ↓stepG, go_sem, c0, c1, e]))
      all_goals (try (first | (intro hg; simp [hg]; done) | exact of_decide_eq_true rfl | (cases h; done)))
      (refine Fin.data (.inr rfl) (by simp (dsimp := false) only [↓opsP_nil, ↓opsP_cons, ↓opsD_nil, ↓opsD_cons, ↓opP, ↓stepP, ↓stepG, go_sem, resL]; rfl) (by simp only [and_self]) (by simp (dsimp := false) only [↓opsP_nil, ↓opsP_cons, ↓opsD_nil, ↓opsD_cons, ↓opP, ↓stepP, ↓stepG, go_sem, resP, Nat.le_refl, List.take_length]; try rfl) ?_)
      exact subD_refl _

/-- An entity's desk. -/
structure Desk where
  me : Int
  items : List Item
  orders : List Order
  far : Int
def Desk.book (d : Desk) : List D := [I64 d.me, .slc 8 (itemsD d.items), .slc 3 (ordersD d.orders)]
def Desk.cells (d : Desk) : List D := d.book ++ [I64 d.far]
/-- The desk as a variable, nothing said. -/
def deskB (d : Desk) : PObj := .box ((d.cells ++ [nilD]).map .d)
/-- .. with what is said, in the row with that number. -/
def deskB2 (d : Desk) (k v n : Nat) : PObj := .box (d.cells.map .d ++ [.own k v 12 0 n])
def saidD (to : Int) (m : Msg) : D := .agg (I64 to :: m.cells)
def Desk.put (d : Desk) (x : Item) : Desk := if putE d.me d.items x = 0 then { d with items := putIn d.items x } else d
set_option maxHeartbeats 8000000 in
theorem run217 (d : Desk) (x : Item) (hl : d.items.length ≤ 100000) : Runs Try.prog 217 [.ref 0 0, .d x.d] [(0, deskB d)] (pint .i64 (putE d.me d.items x)) [(0, deskB (d.put x))] := by
  have r50 := run50 d.me d.items (ordersD d.orders) x (by omega)
  unfold bookD at r50
  by_cases he : putE d.me d.items x = 0
  · have e : d.put x = ⟨d.me, putIn d.items x, d.orders, d.far⟩ := by unfold Desk.put; rw [if_pos he]
    rw [he, if_pos rfl] at r50
    rw [he, e]
    unfold deskB Desk.cells Desk.book
    simp only [List.cons_append, List.nil_append, List.map_cons, List.map_nil]
    unfold Item.d Item.cells at *
    refine Runs.of (kit Try.prog) Try.func217 rfl rfl (by rw [Try.ntmps217]; exact of_decide_eq_true rfl) ?_; rw [Try.ntmps217, Try.results217]
    repeat' (first
      | ((first | refine Pwp.step (kit _) rfl fun K hK => ?_ | refine Pwp.last (kit _) rfl fun K hK => ?_ | refine Pwp.stepD (kit _) rfl rfl fun K hK => ?_ | refine Pwp.lastD (kit _) rfl rfl fun K hK => ?_); simp (dsimp := false) only [↓opsP_nil, ↓opsP_cons, ↓opsD_nil, ↓opsD_cons, ↓opP, ↓stepP, ↓stepG, go_sem, beq_self_eq_true])
      | (refine Pwp.seq ?_)
      | (refine Pwp.block ?_)
      | (refine Pwp.exit ?_; simp only [thenS, blockS, if_true, if_false, reduceIte, Nat.reduceEqDiff, Nat.add_one_ne_zero, reduceCtorEq])
      | (refine Pwp.skip ?_; simp only [thenS, blockS])
      | (refine Pwp.cond rfl True.intro (fun h => ?_) (fun h => ?_) <;> (try (cases h; done)) <;> (try simp only [h]))
      | (refine Pwp.ret ?_; try simp only [thenS, blockS])
      | (refine hK _ ?_; clear hK K)
      | (refine hK _ _ rfl ?_; clear hK K)
      | (refine CallK.give (ds := [.agg [I64 d.me, .slc 8 (itemsD d.items), .slc 3 (ordersD d.orders)], .agg [I64 x.seller, I64 x.number, I64 x.buyer, I64 x.currency, I64 x.amount, I64 x.round, I64 x.state, I64 x.cycle]]) rfl (r50) (by simp) ?_)
      | (refine CallG.off ?_)
      | (with_reducible refine Or.inl ?_)
      | (simp only [thenS, blockS])
      | (with_reducible refine And.intro ?_ ?_)
      | (with_reducible exact True.intro)
      | (simp (dsimp := false) only [↓opsP_nil, ↓opsP_cons, ↓opsD_nil, ↓opsD_cons, ↓opP, ↓stepP, ↓stepG, go_sem, beq_self_eq_true]))
    all_goals (try (first | (intro hg; simp [hg]; done) | exact of_decide_eq_true rfl | (cases h; done)))
    (refine Fin.valV V0 (by first | exact .inr rfl | exact .inl rfl) (by simp (dsimp := false) only [↓opsP_nil, ↓opsP_cons, ↓opsD_nil, ↓opsD_cons, ↓opP, ↓stepP, ↓stepG, go_sem, resL]; rfl) (by simp only [and_self]) rfl (by simp [viewH, viewP, viewL, viewO, V0, V9, V9n, VR, VN, keptOf, find, PVal.toD, subD, subL, subV, subD_refl, viewL_ds, disj, PVal.ids, pnil, List.range, List.range.loop, V8]) (by simp [resP, toDL, idsL, viewH, viewP, viewL, viewO, V0, V9, V9n, VR, VN, keptOf, find, PVal.toD, subD, subL, subV, subD_refl, viewL_ds, disj, PVal.ids, pnil, List.range, List.range.loop, V8]))
  · have e : d.put x = d := by unfold Desk.put; rw [if_neg he]
    rw [if_neg he] at r50
    rw [e]
    have c : (putE d.me d.items x == 0) = false := by rw [beq_eq_false_iff_ne]; exact he
    unfold deskB Desk.cells Desk.book
    simp only [List.cons_append, List.nil_append, List.map_cons, List.map_nil]
    unfold Item.d Item.cells at *
    refine Runs.of (kit Try.prog) Try.func217 rfl rfl (by rw [Try.ntmps217]; exact of_decide_eq_true rfl) ?_; rw [Try.ntmps217, Try.results217]
    repeat' (first
      | ((first | refine Pwp.step (kit _) rfl fun K hK => ?_ | refine Pwp.last (kit _) rfl fun K hK => ?_ | refine Pwp.stepD (kit _) rfl rfl fun K hK => ?_ | refine Pwp.lastD (kit _) rfl rfl fun K hK => ?_); simp (dsimp := false) only [↓opsP_nil, ↓opsP_cons, ↓opsD_nil, ↓opsD_cons, ↓opP, ↓stepP, ↓stepG, go_sem, c])
      | (refine Pwp.seq ?_)
      | (refine Pwp.block ?_)
      | (refine Pwp.exit ?_; simp only [thenS, blockS, if_true, if_false, reduceIte, Nat.reduceEqDiff, Nat.add_one_ne_zero, reduceCtorEq])
      | (refine Pwp.skip ?_; simp only [thenS, blockS])
      | (refine Pwp.cond rfl True.intro (fun h => ?_) (fun h => ?_) <;> (try (cases h; done)) <;> (try simp only [h]))
      | (refine Pwp.ret ?_; try simp only [thenS, blockS])
      | (refine hK _ ?_; clear hK K)
      | (refine hK _ _ rfl ?_; clear hK K)
      | (refine CallK.give (ds := [.agg [I64 d.me, .slc 8 (itemsD d.items), .slc 3 (ordersD d.orders)], .agg [I64 x.seller, I64 x.number, I64 x.buyer, I64 x.currency, I64 x.amount, I64 x.round, I64 x.state, I64 x.cycle]]) rfl (r50) (by simp) ?_)
      | (refine CallG.off ?_)
      | (with_reducible refine Or.inl ?_)
      | (simp only [thenS, blockS])
      | (with_reducible refine And.intro ?_ ?_)
      | (with_reducible exact True.intro)
      | (simp (dsimp := false) only [↓opsP_nil, ↓opsP_cons, ↓opsD_nil, ↓opsD_cons, ↓opP, ↓stepP, ↓stepG, go_sem, c]))
    all_goals (try (first | (intro hg; simp [hg]; done) | exact of_decide_eq_true rfl | (cases h; done)))
    (refine Fin.valV V0 (by first | exact .inr rfl | exact .inl rfl) (by simp (dsimp := false) only [↓opsP_nil, ↓opsP_cons, ↓opsD_nil, ↓opsD_cons, ↓opP, ↓stepP, ↓stepG, go_sem, resL]; rfl) (by simp only [and_self]) rfl (by simp [viewH, viewP, viewL, viewO, V0, V9, V9n, VR, VN, keptOf, find, PVal.toD, subD, subL, subV, subD_refl, viewL_ds, disj, PVal.ids, pnil, List.range, List.range.loop, V8]) (by simp [resP, toDL, idsL, viewH, viewP, viewL, viewO, V0, V9, V9n, VR, VN, keptOf, find, PVal.toD, subD, subL, subV, subD_refl, viewL_ds, disj, PVal.ids, pnil, List.range, List.range.loop, V8]))

set_option maxHeartbeats 8000000 in
theorem run219 (d : Desk) (s n : Int) (hl : d.items.length ≤ 100000) : Runs Try.prog 219 [.ref 0 0, .d (.agg [I64 s, I64 n])] [(0, deskB d)] (.d (.tup [(getI d.items s n).d, I64 (if isIn d.items s n = true then (if (getI d.items s n).seller = d.me then 0 else 140) else 4)])) [(0, deskB d)] := by
  have r65 := run65 d.me d.items (ordersD d.orders) s n (by omega)
  unfold bookD at r65
  generalize getI d.items s n = x at *
  unfold deskB Desk.cells Desk.book Item.d Item.cells at *
  simp only [List.cons_append, List.nil_append, List.map_cons, List.map_nil]
  cases hin : isIn d.items s n with
  | false =>
    rw [hin] at r65
    rw [if_neg (by simp)]
    refine Runs.of (kit Try.prog) Try.func219 rfl rfl (by rw [Try.ntmps219]; exact of_decide_eq_true rfl) ?_; rw [Try.ntmps219, Try.results219]
    repeat' (first
      | ((first | refine Pwp.step (kit _) rfl fun K hK => ?_ | refine Pwp.last (kit _) rfl fun K hK => ?_ | refine Pwp.stepD (kit _) rfl rfl fun K hK => ?_ | refine Pwp.lastD (kit _) rfl rfl fun K hK => ?_); simp (dsimp := false) only [↓opsP_nil, ↓opsP_cons, ↓opsD_nil, ↓opsD_cons, ↓opP, ↓stepP, ↓stepG, go_sem])
      | (refine Pwp.seq ?_)
      | (refine Pwp.block ?_)
      | (refine Pwp.exit ?_; simp only [thenS, blockS, if_true, if_false, reduceIte, Nat.reduceEqDiff, Nat.add_one_ne_zero, reduceCtorEq])
      | (refine Pwp.skip ?_; simp only [thenS, blockS])
      | (refine Pwp.cond rfl True.intro (fun h => ?_) (fun h => ?_) <;> (try (cases h; done)) <;> (try simp only [h]))
      | (refine Pwp.ret ?_; try simp only [thenS, blockS])
      | (refine hK _ ?_; clear hK K)
      | (refine hK _ _ rfl ?_; clear hK K)
      | (refine CallK.toD (ds := [.agg [I64 d.me, .slc 8 (itemsD d.items), .slc 3 (ordersD d.orders)], .agg [I64 s, I64 n]]) rfl (r65) rfl ?_)
      | (refine CallG.off ?_)
      | (with_reducible refine Or.inl ?_)
      | (simp only [thenS, blockS])
      | (with_reducible refine And.intro ?_ ?_)
      | (with_reducible exact True.intro)
      | (simp (dsimp := false) only [↓opsP_nil, ↓opsP_cons, ↓opsD_nil, ↓opsD_cons, ↓opP, ↓stepP, ↓stepG, go_sem]))
    all_goals (try (first | (intro hg; simp [hg]; done) | exact of_decide_eq_true rfl | (cases h; done)))
    (refine Fin.valV V0 (by first | exact .inr rfl | exact .inl rfl) (by simp (dsimp := false) only [↓opsP_nil, ↓opsP_cons, ↓opsD_nil, ↓opsD_cons, ↓opP, ↓stepP, ↓stepG, go_sem, resL]; rfl) (by simp only [and_self]) rfl (by simp [viewH, viewP, viewL, viewO, V0, V9, V9n, VR, VN, keptOf, find, PVal.toD, subD, subL, subV, subD_refl, viewL_ds, disj, PVal.ids, pnil, List.range, List.range.loop, V8]) (by simp [resP, toDL, idsL, viewH, viewP, viewL, viewO, V0, V9, V9n, VR, VN, keptOf, find, PVal.toD, subD, subL, subV, subD_refl, viewL_ds, disj, PVal.ids, pnil, List.range, List.range.loop, V8]))
  | true =>
    rw [hin] at r65
    rw [if_pos rfl]
    by_cases h : x.seller = d.me
    · have c : (x.seller != d.me) = false := by simp [h]
      rw [if_pos h]
      refine Runs.of (kit Try.prog) Try.func219 rfl rfl (by rw [Try.ntmps219]; exact of_decide_eq_true rfl) ?_; rw [Try.ntmps219, Try.results219]
      repeat' (first
        | ((first | refine Pwp.step (kit _) rfl fun K hK => ?_ | refine Pwp.last (kit _) rfl fun K hK => ?_ | refine Pwp.stepD (kit _) rfl rfl fun K hK => ?_ | refine Pwp.lastD (kit _) rfl rfl fun K hK => ?_); simp (dsimp := false) only [↓opsP_nil, ↓opsP_cons, ↓opsD_nil, ↓opsD_cons, ↓opP, ↓stepP, ↓stepG, go_sem, c])
        | (refine Pwp.seq ?_)
        | (refine Pwp.block ?_)
        | (refine Pwp.exit ?_; simp only [thenS, blockS, if_true, if_false, reduceIte, Nat.reduceEqDiff, Nat.add_one_ne_zero, reduceCtorEq])
        | (refine Pwp.skip ?_; simp only [thenS, blockS])
        | (refine Pwp.cond rfl True.intro (fun h => ?_) (fun h => ?_) <;> (try (cases h; done)) <;> (try simp only [h]))
        | (refine Pwp.ret ?_; try simp only [thenS, blockS])
        | (refine hK _ ?_; clear hK K)
        | (refine hK _ _ rfl ?_; clear hK K)
        | (refine CallK.toD (ds := [.agg [I64 d.me, .slc 8 (itemsD d.items), .slc 3 (ordersD d.orders)], .agg [I64 s, I64 n]]) rfl (r65) rfl ?_)
        | (refine CallG.off ?_)
        | (with_reducible refine Or.inl ?_)
        | (simp only [thenS, blockS])
        | (with_reducible refine And.intro ?_ ?_)
        | (with_reducible exact True.intro)
        | (simp (dsimp := false) only [↓opsP_nil, ↓opsP_cons, ↓opsD_nil, ↓opsD_cons, ↓opP, ↓stepP, ↓stepG, go_sem, c]))
      all_goals (try (first | (intro hg; simp [hg]; done) | exact of_decide_eq_true rfl | (cases h; done)))
      (refine Fin.valV V0 (by first | exact .inr rfl | exact .inl rfl) (by simp (dsimp := false) only [↓opsP_nil, ↓opsP_cons, ↓opsD_nil, ↓opsD_cons, ↓opP, ↓stepP, ↓stepG, go_sem, resL]; rfl) (by simp only [and_self]) rfl (by simp [viewH, viewP, viewL, viewO, V0, V9, V9n, VR, VN, keptOf, find, PVal.toD, subD, subL, subV, subD_refl, viewL_ds, disj, PVal.ids, pnil, List.range, List.range.loop, V8]) (by simp [resP, toDL, idsL, viewH, viewP, viewL, viewO, V0, V9, V9n, VR, VN, keptOf, find, PVal.toD, subD, subL, subV, subD_refl, viewL_ds, disj, PVal.ids, pnil, List.range, List.range.loop, V8]))
    · have c : (x.seller != d.me) = true := by simpa using h
      rw [if_neg h]
      refine Runs.of (kit Try.prog) Try.func219 rfl rfl (by rw [Try.ntmps219]; exact of_decide_eq_true rfl) ?_; rw [Try.ntmps219, Try.results219]
      repeat' (first
        | ((first | refine Pwp.step (kit _) rfl fun K hK => ?_ | refine Pwp.last (kit _) rfl fun K hK => ?_ | refine Pwp.stepD (kit _) rfl rfl fun K hK => ?_ | refine Pwp.lastD (kit _) rfl rfl fun K hK => ?_); simp (dsimp := false) only [↓opsP_nil, ↓opsP_cons, ↓opsD_nil, ↓opsD_cons, ↓opP, ↓stepP, ↓stepG, go_sem, c])
        | (refine Pwp.seq ?_)
        | (refine Pwp.block ?_)
        | (refine Pwp.exit ?_; simp only [thenS, blockS, if_true, if_false, reduceIte, Nat.reduceEqDiff, Nat.add_one_ne_zero, reduceCtorEq])
        | (refine Pwp.skip ?_; simp only [thenS, blockS])
        | (refine Pwp.cond rfl True.intro (fun h => ?_) (fun h => ?_) <;> (try (cases h; done)) <;> (try simp only [h]))
        | (refine Pwp.ret ?_; try simp only [thenS, blockS])
        | (refine hK _ ?_; clear hK K)
        | (refine hK _ _ rfl ?_; clear hK K)
        | (refine CallK.toD (ds := [.agg [I64 d.me, .slc 8 (itemsD d.items), .slc 3 (ordersD d.orders)], .agg [I64 s, I64 n]]) rfl (r65) rfl ?_)
        | (refine CallG.off ?_)
        | (with_reducible refine Or.inl ?_)
        | (simp only [thenS, blockS])
        | (with_reducible refine And.intro ?_ ?_)
        | (with_reducible exact True.intro)
        | (simp (dsimp := false) only [↓opsP_nil, ↓opsP_cons, ↓opsD_nil, ↓opsD_cons, ↓opP, ↓stepP, ↓stepG, go_sem, c]))
      all_goals (try (first | (intro hg; simp [hg]; done) | exact of_decide_eq_true rfl | (cases h; done)))
      (refine Fin.valV V0 (by first | exact .inr rfl | exact .inl rfl) (by simp (dsimp := false) only [↓opsP_nil, ↓opsP_cons, ↓opsD_nil, ↓opsD_cons, ↓opP, ↓stepP, ↓stepG, go_sem, resL]; rfl) (by simp only [and_self]) rfl (by simp [viewH, viewP, viewL, viewO, V0, V9, V9n, VR, VN, keptOf, find, PVal.toD, subD, subL, subV, subD_refl, viewL_ds, disj, PVal.ids, pnil, List.range, List.range.loop, V8]) (by simp [resP, toDL, idsL, viewH, viewP, viewL, viewO, V0, V9, V9n, VR, VN, keptOf, find, PVal.toD, subD, subL, subV, subD_refl, viewL_ds, disj, PVal.ids, pnil, List.range, List.range.loop, V8]))
def L218 (d : Desk) (to k : Int) (x : Item) : St := ⟨[(7, .ref 8 0), (2, pint .i64 k), (1, pint .i64 to), (0, .ref 0 0)], [(0, .box [.d (I64 d.me), .d (.slc 8 (itemsD d.items)), .d (.slc 3 (ordersD d.orders)), .d (I64 d.far), .own 9 0 12 0 0]), (9, .arr 110 12 0 none []), (8, .box (x.cells.map .d))], 12⟩
set_option maxHeartbeats 8000000 in
theorem run218 (d : Desk) (to k : Int) (x : Item) : Runs Try.prog 218 [.ref 0 0, pint .i64 to, pint .i64 k, .d x.d] [(0, deskB d)] (.d (.tup [])) [(0, deskB2 d 8 0 1), (8, .arr 110 12 0 none [saidD to (about k x)])] := by
  have r250 := run250 k x
  unfold deskB deskB2 Desk.cells Desk.book saidD Msg.d Msg.cells about Item.d Item.cells at *
  simp only [List.cons_append, List.nil_append, List.map_cons, List.map_nil]
  refine Runs.of (kit Try.prog) Try.func218 rfl rfl (by rw [Try.ntmps218]; exact of_decide_eq_true rfl) ?_; rw [Try.ntmps218, Try.results218]
  refine Pwp.step (kit _) rfl fun K hK => ?_
  simp (dsimp := false) only [↓opsP_nil, ↓opsP_cons, ↓opsD_nil, ↓opsD_cons, ↓opP, ↓stepP, ↓stepG, go_sem]
  refine hK _ ?_
  clear hK K
  refine Pwp.sub (Sub.view (t := L218 d to k x) (VN 9) (by simp [L218]) rfl (by simp [viewH, viewP, viewL, viewO, V0, V9, V9n, VR, VN, keptOf, find, PVal.toD, subD, subL, subV, subD_refl, viewL_ds, disj, PVal.ids, pnil, List.range, List.range.loop, L218, Item.cells]) (by simp [viewT, St.ev, viewH, viewP, viewL, viewO, V0, V9, V9n, VR, VN, keptOf, find, PVal.toD, subD, subL, subV, subD_refl, viewL_ds, disj, PVal.ids, pnil, List.range, List.range.loop, L218, Item.cells])) ?_
  unfold L218 Item.cells
  repeat' (first
    | ((first | refine Pwp.step (kit _) rfl fun K hK => ?_ | refine Pwp.last (kit _) rfl fun K hK => ?_ | refine Pwp.stepD (kit _) rfl rfl fun K hK => ?_ | refine Pwp.lastD (kit _) rfl rfl fun K hK => ?_); simp (dsimp := false) only [↓opsP_nil, ↓opsP_cons, ↓opsD_nil, ↓opsD_cons, ↓opP, ↓stepP, ↓stepG, go_sem])
    | (refine Pwp.seq ?_)
    | (refine Pwp.block ?_)
    | (refine Pwp.exit ?_; simp only [thenS, blockS, if_true, if_false, reduceIte, Nat.reduceEqDiff, Nat.add_one_ne_zero, reduceCtorEq])
    | (refine Pwp.skip ?_; simp only [thenS, blockS])
    | (refine Pwp.cond rfl True.intro (fun h => ?_) (fun h => ?_) <;> (try (cases h; done)) <;> (try simp only [h]))
    | (refine Pwp.ret ?_; try simp only [thenS, blockS])
    | (refine hK _ ?_; clear hK K)
    | (refine hK _ _ rfl ?_; clear hK K)
    | (refine CallK.toD (ds := [I64 k, .agg [I64 x.seller, I64 x.number, I64 x.buyer, I64 x.currency, I64 x.amount, I64 x.round, I64 x.state, I64 x.cycle]]) rfl (r250) rfl ?_)
    | (refine CallG.off ?_)
    | (with_reducible refine Or.inl ?_)
    | (simp only [thenS, blockS])
    | (with_reducible refine And.intro ?_ ?_)
    | (with_reducible exact True.intro)
    | (simp (dsimp := false) only [↓opsP_nil, ↓opsP_cons, ↓opsD_nil, ↓opsD_cons, ↓opP, ↓stepP, ↓stepG, go_sem]))
  all_goals (try (first | (intro hg; simp [hg]; done) | exact of_decide_eq_true rfl | (cases h; done)))
  (refine Fin.valV (V8 9 1) (by first | exact .inr rfl | exact .inl rfl) (by simp (dsimp := false) only [↓opsP_nil, ↓opsP_cons, ↓opsD_nil, ↓opsD_cons, ↓opP, ↓stepP, ↓stepG, go_sem, resL]; rfl) (by simp only [and_self]) rfl (by simp [viewH, viewP, viewL, viewO, V0, V9, V9n, VR, VN, keptOf, find, PVal.toD, subD, subL, subV, subD_refl, viewL_ds, disj, PVal.ids, pnil, List.range, List.range.loop, V8]) (by simp [resP, toDL, idsL, viewH, viewP, viewL, viewO, V0, V9, V9n, VR, VN, keptOf, find, PVal.toD, subD, subL, subV, subD_refl, viewL_ds, disj, PVal.ids, pnil, List.range, List.range.loop, V8]))

set_option maxHeartbeats 8000000 in
theorem run217b (d : Desk) (x : Item) (s : D) (hl : d.items.length ≤ 100000) : Runs Try.prog 217 [.ref 0 0, .d x.d] [(0, deskB2 d 1 0 1), (1, .arr 110 12 0 none [s])] (pint .i64 (putE d.me d.items x)) [(0, deskB2 (d.put x) 1 0 1), (1, .arr 110 12 0 none [s])] := by
  have r50 := run50 d.me d.items (ordersD d.orders) x (by omega)
  unfold bookD at r50
  by_cases he : putE d.me d.items x = 0
  · have e : d.put x = ⟨d.me, putIn d.items x, d.orders, d.far⟩ := by unfold Desk.put; rw [if_pos he]
    rw [he, if_pos rfl] at r50
    rw [he, e]
    unfold deskB2 Desk.cells Desk.book
    simp only [List.cons_append, List.nil_append, List.map_cons, List.map_nil]
    unfold Item.d Item.cells at *
    refine Runs.of (kit Try.prog) Try.func217 rfl rfl (by rw [Try.ntmps217]; exact of_decide_eq_true rfl) ?_; rw [Try.ntmps217, Try.results217]
    repeat' (first
      | ((first | refine Pwp.step (kit _) rfl fun K hK => ?_ | refine Pwp.last (kit _) rfl fun K hK => ?_ | refine Pwp.stepD (kit _) rfl rfl fun K hK => ?_ | refine Pwp.lastD (kit _) rfl rfl fun K hK => ?_); simp (dsimp := false) only [↓opsP_nil, ↓opsP_cons, ↓opsD_nil, ↓opsD_cons, ↓opP, ↓stepP, ↓stepG, go_sem, beq_self_eq_true])
      | (refine Pwp.seq ?_)
      | (refine Pwp.block ?_)
      | (refine Pwp.exit ?_; simp only [thenS, blockS, if_true, if_false, reduceIte, Nat.reduceEqDiff, Nat.add_one_ne_zero, reduceCtorEq])
      | (refine Pwp.skip ?_; simp only [thenS, blockS])
      | (refine Pwp.cond rfl True.intro (fun h => ?_) (fun h => ?_) <;> (try (cases h; done)) <;> (try simp only [h]))
      | (refine Pwp.ret ?_; try simp only [thenS, blockS])
      | (refine hK _ ?_; clear hK K)
      | (refine hK _ _ rfl ?_; clear hK K)
      | (refine CallK.give (ds := [.agg [I64 d.me, .slc 8 (itemsD d.items), .slc 3 (ordersD d.orders)], .agg [I64 x.seller, I64 x.number, I64 x.buyer, I64 x.currency, I64 x.amount, I64 x.round, I64 x.state, I64 x.cycle]]) rfl (r50) (by simp) ?_)
      | (refine CallG.off ?_)
      | (with_reducible refine Or.inl ?_)
      | (simp only [thenS, blockS])
      | (with_reducible refine And.intro ?_ ?_)
      | (with_reducible exact True.intro)
      | (simp (dsimp := false) only [↓opsP_nil, ↓opsP_cons, ↓opsD_nil, ↓opsD_cons, ↓opP, ↓stepP, ↓stepG, go_sem, beq_self_eq_true]))
    all_goals (try (first | (intro hg; simp [hg]; done) | exact of_decide_eq_true rfl | (cases h; done)))
    (refine Fin.valV V0 (by first | exact .inr rfl | exact .inl rfl) (by simp (dsimp := false) only [↓opsP_nil, ↓opsP_cons, ↓opsD_nil, ↓opsD_cons, ↓opP, ↓stepP, ↓stepG, go_sem, resL]; rfl) (by simp only [and_self]) rfl (by simp [viewH, viewP, viewL, viewO, V0, V9, V9n, VR, VN, keptOf, find, PVal.toD, subD, subL, subV, subD_refl, viewL_ds, disj, PVal.ids, pnil, List.range, List.range.loop, V8]) (by simp [resP, toDL, idsL, viewH, viewP, viewL, viewO, V0, V9, V9n, VR, VN, keptOf, find, PVal.toD, subD, subL, subV, subD_refl, viewL_ds, disj, PVal.ids, pnil, List.range, List.range.loop, V8]))
  · have e : d.put x = d := by unfold Desk.put; rw [if_neg he]
    rw [if_neg he] at r50
    rw [e]
    have c : (putE d.me d.items x == 0) = false := by rw [beq_eq_false_iff_ne]; exact he
    unfold deskB2 Desk.cells Desk.book
    simp only [List.cons_append, List.nil_append, List.map_cons, List.map_nil]
    unfold Item.d Item.cells at *
    refine Runs.of (kit Try.prog) Try.func217 rfl rfl (by rw [Try.ntmps217]; exact of_decide_eq_true rfl) ?_; rw [Try.ntmps217, Try.results217]
    repeat' (first
      | ((first | refine Pwp.step (kit _) rfl fun K hK => ?_ | refine Pwp.last (kit _) rfl fun K hK => ?_ | refine Pwp.stepD (kit _) rfl rfl fun K hK => ?_ | refine Pwp.lastD (kit _) rfl rfl fun K hK => ?_); simp (dsimp := false) only [↓opsP_nil, ↓opsP_cons, ↓opsD_nil, ↓opsD_cons, ↓opP, ↓stepP, ↓stepG, go_sem, c])
      | (refine Pwp.seq ?_)
      | (refine Pwp.block ?_)
      | (refine Pwp.exit ?_; simp only [thenS, blockS, if_true, if_false, reduceIte, Nat.reduceEqDiff, Nat.add_one_ne_zero, reduceCtorEq])
      | (refine Pwp.skip ?_; simp only [thenS, blockS])
      | (refine Pwp.cond rfl True.intro (fun h => ?_) (fun h => ?_) <;> (try (cases h; done)) <;> (try simp only [h]))
      | (refine Pwp.ret ?_; try simp only [thenS, blockS])
      | (refine hK _ ?_; clear hK K)
      | (refine hK _ _ rfl ?_; clear hK K)
      | (refine CallK.give (ds := [.agg [I64 d.me, .slc 8 (itemsD d.items), .slc 3 (ordersD d.orders)], .agg [I64 x.seller, I64 x.number, I64 x.buyer, I64 x.currency, I64 x.amount, I64 x.round, I64 x.state, I64 x.cycle]]) rfl (r50) (by simp) ?_)
      | (refine CallG.off ?_)
      | (with_reducible refine Or.inl ?_)
      | (simp only [thenS, blockS])
      | (with_reducible refine And.intro ?_ ?_)
      | (with_reducible exact True.intro)
      | (simp (dsimp := false) only [↓opsP_nil, ↓opsP_cons, ↓opsD_nil, ↓opsD_cons, ↓opP, ↓stepP, ↓stepG, go_sem, c]))
    all_goals (try (first | (intro hg; simp [hg]; done) | exact of_decide_eq_true rfl | (cases h; done)))
    (refine Fin.valV V0 (by first | exact .inr rfl | exact .inl rfl) (by simp (dsimp := false) only [↓opsP_nil, ↓opsP_cons, ↓opsD_nil, ↓opsD_cons, ↓opP, ↓stepP, ↓stepG, go_sem, resL]; rfl) (by simp only [and_self]) rfl (by simp [viewH, viewP, viewL, viewO, V0, V9, V9n, VR, VN, keptOf, find, PVal.toD, subD, subL, subV, subD_refl, viewL_ds, disj, PVal.ids, pnil, List.range, List.range.loop, V8]) (by simp [resP, toDL, idsL, viewH, viewP, viewL, viewO, V0, V9, V9n, VR, VN, keptOf, find, PVal.toD, subD, subL, subV, subD_refl, viewL_ds, disj, PVal.ids, pnil, List.range, List.range.loop, V8]))


theorem put_ok {d : Desk} {x : Item} (h : putE d.me d.items x = 0) : d.put x = ⟨d.me, putIn d.items x, d.orders, d.far⟩ := by unfold Desk.put; rw [if_pos h]
theorem put_no {d : Desk} {x : Item} (h : putE d.me d.items x ≠ 0) : d.put x = d := by unfold Desk.put; rw [if_neg h]
/-- What an act on a desk comes to: an error, or the desk behind it and what is said. -/
structure Out where
  e : Int
  d : Desk
  o : Option D
def deskH (d : Desk) (o : Option D) : List (Nat × PObj) := match o with
  | none => [(0, deskB d)]
  | some s => [(0, deskB2 d 8 0 1), (8, .arr 110 12 0 none [s])]
def mineE (d : Desk) (s n : Int) : Int := if isIn d.items s n = true then (if (getI d.items s n).seller = d.me then 0 else 140) else 4
def ansE (d : Desk) (m : Msg) (from' : Int) : Int := if mineE d m.seller m.number ≠ 0 then mineE d m.seller m.number else if from' ≠ (getI d.items m.seller m.number).buyer then 140 else if (getI d.items m.seller m.number).round ≠ m.round then 90 else 0
set_option maxHeartbeats 8000000 in
theorem run226 (d : Desk) (m : Msg) (from' : Int) (hl : d.items.length ≤ 100000) : Runs Try.prog 226 [.ref 0 0, .d m.d, pint .i64 from'] [(0, deskB d)] (.d (.tup [(getI d.items m.seller m.number).d, I64 (ansE d m from')])) [(0, deskB d)] := by
  have r219 := run219 d m.seller m.number hl
  change Runs Try.prog 219 _ _ (.d (.tup [_, I64 (mineE d m.seller m.number)])) _ at r219
  unfold ansE
  generalize mineE d m.seller m.number = e at *
  generalize getI d.items m.seller m.number = x at *
  unfold deskB Desk.cells Desk.book Msg.d Msg.cells Item.d Item.cells at *
  simp only [List.cons_append, List.nil_append, List.map_cons, List.map_nil] at *
  by_cases he : e = 0
  · subst he
    rw [if_neg (by simp)]
    by_cases h1 : from' = x.buyer
    · have c1 : (from' != x.buyer) = false := by simp [h1]
      rw [if_neg (by simpa using h1)]
      by_cases h2 : x.round = m.round
      · have c2 : (x.round != m.round) = false := by simp [h2]
        rw [if_neg (by simpa using h2)]
        refine Runs.of (kit Try.prog) Try.func226 rfl rfl (by rw [Try.ntmps226]; exact of_decide_eq_true rfl) ?_; rw [Try.ntmps226, Try.results226]
        repeat' (first
          | ((first | refine Pwp.step (kit _) rfl fun K hK => ?_ | refine Pwp.last (kit _) rfl fun K hK => ?_ | refine Pwp.stepD (kit _) rfl rfl fun K hK => ?_ | refine Pwp.lastD (kit _) rfl rfl fun K hK => ?_); simp (dsimp := false) only [↓opsP_nil, ↓opsP_cons, ↓opsD_nil, ↓opsD_cons, ↓opP, ↓stepP, ↓stepG, go_sem, c1, c2, bne_self_eq_false])
          | (refine Pwp.seq ?_)
          | (refine Pwp.block ?_)
          | (refine Pwp.exit ?_; simp only [thenS, blockS, if_true, if_false, reduceIte, Nat.reduceEqDiff, Nat.add_one_ne_zero, reduceCtorEq])
          | (refine Pwp.skip ?_; simp only [thenS, blockS])
          | (refine Pwp.cond rfl True.intro (fun h => ?_) (fun h => ?_) <;> (try (cases h; done)) <;> (try simp only [h]))
          | (refine Pwp.ret ?_; try simp only [thenS, blockS])
          | (refine hK _ ?_; clear hK K)
          | (refine hK _ _ rfl ?_; clear hK K)
          | (refine CallK.desk (cs := [I64 d.me, .slc 8 (itemsD d.items), .slc 3 (ordersD d.orders), I64 d.far, nilD]) rfl rfl rfl r219 (by simp) ?_)
          | (refine CallG.off ?_)
          | (with_reducible refine Or.inl ?_)
          | (simp only [thenS, blockS])
          | (with_reducible refine And.intro ?_ ?_)
          | (with_reducible exact True.intro)
          | (simp (dsimp := false) only [↓opsP_nil, ↓opsP_cons, ↓opsD_nil, ↓opsD_cons, ↓opP, ↓stepP, ↓stepG, go_sem, c1, c2, bne_self_eq_false]))
        all_goals (try (first | (intro hg; simp [hg]; done) | exact of_decide_eq_true rfl | (cases h; done)))
        (refine Fin.valV V0 (by first | exact .inr rfl | exact .inl rfl) (by simp (dsimp := false) only [↓opsP_nil, ↓opsP_cons, ↓opsD_nil, ↓opsD_cons, ↓opP, ↓stepP, ↓stepG, go_sem, resL]; rfl) (by simp only [and_self]) rfl (by simp [viewH, viewP, viewL, viewO, V0, V9, V9n, VR, VN, keptOf, find, PVal.toD, subD, subL, subV, subD_refl, viewL_ds, disj, PVal.ids, pnil, List.range, List.range.loop, V8]) (by simp [resP, toDL, idsL, viewH, viewP, viewL, viewO, V0, V9, V9n, VR, VN, keptOf, find, PVal.toD, subD, subL, subV, subD_refl, viewL_ds, disj, PVal.ids, pnil, List.range, List.range.loop, V8]))
      · have c2 : (x.round != m.round) = true := by simpa using h2
        rw [if_pos (by simpa using h2)]
        refine Runs.of (kit Try.prog) Try.func226 rfl rfl (by rw [Try.ntmps226]; exact of_decide_eq_true rfl) ?_; rw [Try.ntmps226, Try.results226]
        repeat' (first
          | ((first | refine Pwp.step (kit _) rfl fun K hK => ?_ | refine Pwp.last (kit _) rfl fun K hK => ?_ | refine Pwp.stepD (kit _) rfl rfl fun K hK => ?_ | refine Pwp.lastD (kit _) rfl rfl fun K hK => ?_); simp (dsimp := false) only [↓opsP_nil, ↓opsP_cons, ↓opsD_nil, ↓opsD_cons, ↓opP, ↓stepP, ↓stepG, go_sem, c1, c2, bne_self_eq_false])
          | (refine Pwp.seq ?_)
          | (refine Pwp.block ?_)
          | (refine Pwp.exit ?_; simp only [thenS, blockS, if_true, if_false, reduceIte, Nat.reduceEqDiff, Nat.add_one_ne_zero, reduceCtorEq])
          | (refine Pwp.skip ?_; simp only [thenS, blockS])
          | (refine Pwp.cond rfl True.intro (fun h => ?_) (fun h => ?_) <;> (try (cases h; done)) <;> (try simp only [h]))
          | (refine Pwp.ret ?_; try simp only [thenS, blockS])
          | (refine hK _ ?_; clear hK K)
          | (refine hK _ _ rfl ?_; clear hK K)
          | (refine CallK.desk (cs := [I64 d.me, .slc 8 (itemsD d.items), .slc 3 (ordersD d.orders), I64 d.far, nilD]) rfl rfl rfl r219 (by simp) ?_)
          | (refine CallG.off ?_)
          | (with_reducible refine Or.inl ?_)
          | (simp only [thenS, blockS])
          | (with_reducible refine And.intro ?_ ?_)
          | (with_reducible exact True.intro)
          | (simp (dsimp := false) only [↓opsP_nil, ↓opsP_cons, ↓opsD_nil, ↓opsD_cons, ↓opP, ↓stepP, ↓stepG, go_sem, c1, c2, bne_self_eq_false]))
        all_goals (try (first | (intro hg; simp [hg]; done) | exact of_decide_eq_true rfl | (cases h; done)))
        (refine Fin.valV V0 (by first | exact .inr rfl | exact .inl rfl) (by simp (dsimp := false) only [↓opsP_nil, ↓opsP_cons, ↓opsD_nil, ↓opsD_cons, ↓opP, ↓stepP, ↓stepG, go_sem, resL]; rfl) (by simp only [and_self]) rfl (by simp [viewH, viewP, viewL, viewO, V0, V9, V9n, VR, VN, keptOf, find, PVal.toD, subD, subL, subV, subD_refl, viewL_ds, disj, PVal.ids, pnil, List.range, List.range.loop, V8]) (by simp [resP, toDL, idsL, viewH, viewP, viewL, viewO, V0, V9, V9n, VR, VN, keptOf, find, PVal.toD, subD, subL, subV, subD_refl, viewL_ds, disj, PVal.ids, pnil, List.range, List.range.loop, V8]))
    · have c1 : (from' != x.buyer) = true := by simpa using h1
      rw [if_pos (by simpa using h1)]
      refine Runs.of (kit Try.prog) Try.func226 rfl rfl (by rw [Try.ntmps226]; exact of_decide_eq_true rfl) ?_; rw [Try.ntmps226, Try.results226]
      repeat' (first
        | ((first | refine Pwp.step (kit _) rfl fun K hK => ?_ | refine Pwp.last (kit _) rfl fun K hK => ?_ | refine Pwp.stepD (kit _) rfl rfl fun K hK => ?_ | refine Pwp.lastD (kit _) rfl rfl fun K hK => ?_); simp (dsimp := false) only [↓opsP_nil, ↓opsP_cons, ↓opsD_nil, ↓opsD_cons, ↓opP, ↓stepP, ↓stepG, go_sem, c1, bne_self_eq_false])
        | (refine Pwp.seq ?_)
        | (refine Pwp.block ?_)
        | (refine Pwp.exit ?_; simp only [thenS, blockS, if_true, if_false, reduceIte, Nat.reduceEqDiff, Nat.add_one_ne_zero, reduceCtorEq])
        | (refine Pwp.skip ?_; simp only [thenS, blockS])
        | (refine Pwp.cond rfl True.intro (fun h => ?_) (fun h => ?_) <;> (try (cases h; done)) <;> (try simp only [h]))
        | (refine Pwp.ret ?_; try simp only [thenS, blockS])
        | (refine hK _ ?_; clear hK K)
        | (refine hK _ _ rfl ?_; clear hK K)
        | (refine CallK.desk (cs := [I64 d.me, .slc 8 (itemsD d.items), .slc 3 (ordersD d.orders), I64 d.far, nilD]) rfl rfl rfl r219 (by simp) ?_)
        | (refine CallG.off ?_)
        | (with_reducible refine Or.inl ?_)
        | (simp only [thenS, blockS])
        | (with_reducible refine And.intro ?_ ?_)
        | (with_reducible exact True.intro)
        | (simp (dsimp := false) only [↓opsP_nil, ↓opsP_cons, ↓opsD_nil, ↓opsD_cons, ↓opP, ↓stepP, ↓stepG, go_sem, c1, bne_self_eq_false]))
      all_goals (try (first | (intro hg; simp [hg]; done) | exact of_decide_eq_true rfl | (cases h; done)))
      (refine Fin.valV V0 (by first | exact .inr rfl | exact .inl rfl) (by simp (dsimp := false) only [↓opsP_nil, ↓opsP_cons, ↓opsD_nil, ↓opsD_cons, ↓opP, ↓stepP, ↓stepG, go_sem, resL]; rfl) (by simp only [and_self]) rfl (by simp [viewH, viewP, viewL, viewO, V0, V9, V9n, VR, VN, keptOf, find, PVal.toD, subD, subL, subV, subD_refl, viewL_ds, disj, PVal.ids, pnil, List.range, List.range.loop, V8]) (by simp [resP, toDL, idsL, viewH, viewP, viewL, viewO, V0, V9, V9n, VR, VN, keptOf, find, PVal.toD, subD, subL, subV, subD_refl, viewL_ds, disj, PVal.ids, pnil, List.range, List.range.loop, V8]))
  · have c0 : (e != 0) = true := by simpa using he
    rw [if_pos he]
    refine Runs.of (kit Try.prog) Try.func226 rfl rfl (by rw [Try.ntmps226]; exact of_decide_eq_true rfl) ?_; rw [Try.ntmps226, Try.results226]
    repeat' (first
      | ((first | refine Pwp.step (kit _) rfl fun K hK => ?_ | refine Pwp.last (kit _) rfl fun K hK => ?_ | refine Pwp.stepD (kit _) rfl rfl fun K hK => ?_ | refine Pwp.lastD (kit _) rfl rfl fun K hK => ?_); simp (dsimp := false) only [↓opsP_nil, ↓opsP_cons, ↓opsD_nil, ↓opsD_cons, ↓opP, ↓stepP, ↓stepG, go_sem, c0])
      | (refine Pwp.seq ?_)
      | (refine Pwp.block ?_)
      | (refine Pwp.exit ?_; simp only [thenS, blockS, if_true, if_false, reduceIte, Nat.reduceEqDiff, Nat.add_one_ne_zero, reduceCtorEq])
      | (refine Pwp.skip ?_; simp only [thenS, blockS])
      | (refine Pwp.cond rfl True.intro (fun h => ?_) (fun h => ?_) <;> (try (cases h; done)) <;> (try simp only [h]))
      | (refine Pwp.ret ?_; try simp only [thenS, blockS])
      | (refine hK _ ?_; clear hK K)
      | (refine hK _ _ rfl ?_; clear hK K)
      | (refine CallK.desk (cs := [I64 d.me, .slc 8 (itemsD d.items), .slc 3 (ordersD d.orders), I64 d.far, nilD]) rfl rfl rfl r219 (by simp) ?_)
      | (refine CallG.off ?_)
      | (with_reducible refine Or.inl ?_)
      | (simp only [thenS, blockS])
      | (with_reducible refine And.intro ?_ ?_)
      | (with_reducible exact True.intro)
      | (simp (dsimp := false) only [↓opsP_nil, ↓opsP_cons, ↓opsD_nil, ↓opsD_cons, ↓opP, ↓stepP, ↓stepG, go_sem, c0]))
    all_goals (try (first | (intro hg; simp [hg]; done) | exact of_decide_eq_true rfl | (cases h; done)))
    (refine Fin.valV V0 (by first | exact .inr rfl | exact .inl rfl) (by simp (dsimp := false) only [↓opsP_nil, ↓opsP_cons, ↓opsD_nil, ↓opsD_cons, ↓opP, ↓stepP, ↓stepG, go_sem, resL]; rfl) (by simp only [and_self]) rfl (by simp [viewH, viewP, viewL, viewO, V0, V9, V9n, VR, VN, keptOf, find, PVal.toD, subD, subL, subV, subD_refl, viewL_ds, disj, PVal.ids, pnil, List.range, List.range.loop, V8]) (by simp [resP, toDL, idsL, viewH, viewP, viewL, viewO, V0, V9, V9n, VR, VN, keptOf, find, PVal.toD, subD, subL, subV, subD_refl, viewL_ds, disj, PVal.ids, pnil, List.range, List.range.loop, V8]))

end Go.Proofs.Ytdodgbhodkcckaa.Pv
