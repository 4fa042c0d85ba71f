/- A part of the proof: the machine of plain values and walks of functions. -/
import Derived.Test.YtdodgbhodkcckaaMe3
section
set_option linter.unusedVariables false
set_option linter.unusedSimpArgs false
set_option autoImplicit false
set_option maxRecDepth 100000
namespace Go.Proofs.Ytdodgbhodkcckaa.Pv
open Go Go.RowKit
theorem shiftL_dd (ρ : Nat → Nat) : ∀ l : List D, shiftL ρ (l.map .d) = l.map .d
  | [] => rfl
  | a :: l => by simp only [List.map_cons, shiftL, PVal.shift, shiftL_dd ρ l]
theorem CallK.desk {P : Program} {fid : Nat} {nid : Nat → Nat} {st : St} {K : Eff → Prop} {qs : List PVal} {ds cs : List D} {r : PVal} {id : Nat} {h' : List (Nat × PObj)} (hd : toDL st.heap qs = some ds) (hi : idsL qs = []) (hf : find id st.heap = some (.box (cs.map .d)))
    (hr : Runs P fid (.ref 0 0 :: ds.map .d) [(0, .box (cs.map .d))] r h') (hn : (h'.map (·.1)).Nodup)
    (hK : K ⟨r.shift (rename [id] nid), [id], shiftH (rename [id] nid) h'⟩) : CallK P fid nid st (.ref id 0 :: qs) K := by
  have e1 := args_toDL (h := st.heap) (ρ := rename [id] nid) hd
  have e3 : frozen (.ref id 0 :: qs) (.ref 0 0 :: ds.map .d) = [] := by simp only [frozen]; rw [e1.2, hi]
  refine ⟨[id], _, _, _, _, false, ?_, hr, ⟨by simp, by simp, rfl, ?_⟩, ⟨hn, by simp [e3]⟩, .inr (.inl (by simp [e3])), by simpa using hK⟩
  · simp only [argsP]
    exact ⟨by simp [argP, PVal.shift, rename], e1.1⟩
  · simp [PObj.shift, shiftL_dd, hf]
theorem CallK.desk2 {P : Program} {fid : Nat} {nid : Nat → Nat} {st : St} {K : Eff → Prop} {qs : List PVal} {ds cs els : List D} {r : PVal} {id i2 v e s n : Nat} {room : Option Nat} {h' : List (Nat × PObj)} (hd : toDL st.heap qs = some ds) (hi : idsL qs = []) (hf : find id st.heap = some (.box (cs.map .d ++ [.own i2 v s 0 n]))) (hf2 : find i2 st.heap = some (.arr e s v room els)) (hne : id ≠ i2)
    (hr : Runs P fid (.ref 0 0 :: ds.map .d) [(0, .box (cs.map .d ++ [.own 1 v s 0 n])), (1, .arr e s v room els)] r h') (hn : (h'.map (·.1)).Nodup)
    (hK : K ⟨r.shift (rename [id, i2] nid), [id, i2], shiftH (rename [id, i2] nid) h'⟩) : CallK P fid nid st (.ref id 0 :: qs) K := by
  have e1 := args_toDL (h := st.heap) (ρ := rename [id, i2] nid) hd
  have e3 : frozen (.ref id 0 :: qs) (.ref 0 0 :: ds.map .d) = [] := by simp only [frozen]; rw [e1.2, hi]
  have sa : ∀ (ρ : Nat → Nat) (l : List D) (q : PVal), shiftL ρ (l.map .d ++ [q]) = l.map .d ++ [q.shift ρ] := by
    intro ρ l q
    induction l with
    | nil => rfl
    | cons a l ih => simp only [List.map_cons, List.cons_append, shiftL, PVal.shift, ih]
  refine ⟨[id, i2], _, _, _, _, false, ?_, hr, ⟨by simp [hne], by simp, rfl, ?_⟩, ⟨hn, by simp [e3]⟩, .inr (.inl (by simp [e3])), by simpa using hK⟩
  · simp only [argsP]
    exact ⟨by simp [argP, PVal.shift, rename], e1.1⟩
  · simp [PObj.shift, sa, PVal.shift, rename, hf, hf2]
theorem Fin.valV {T : Nat → Option TI} {rs : List ResultVar} {e : Exit} {st : St} {ps : List PVal} {g : Prop} {r : PVal} {h' : List (Nat × PObj)} (V : Turn) (he : e = .normal ∨ e = .ret) (hr : resL T st rs = some (ps, g)) (hg : g) (hV : turnOK V (h'.map (·.1)) = true)
    (hh : viewH V { st with tmps := [(0, resP ps)] } (keptOf V ⟨[(0, r)], h', 12⟩) 12 h') (hp : viewP V st.heap (keptOf V ⟨[(0, r)], h', 12⟩) 12 (resP ps) r) : Fin T rs r h' e st := by
  refine ⟨he, ?_⟩
  rw [hr]
  exact ⟨hg, V, hV, hh, hp⟩
def nearV (a b far : Int) : Bool := decide (0 ≤ far) && (decide (a - b ≤ far) && decide (b - a ≤ far))
set_option maxHeartbeats 8000000 in
theorem run223 (a b far : Int) (ha : In64 a) (hb : In64 b) (hf : In64 far) : Runs Try.prog 223 [pint .i64 a, pint .i64 b, pint .i64 far] [] (pbool (nearV a b far)) [] := by
  obtain ⟨a1, a2⟩ := ha
  obtain ⟨b1, b2⟩ := hb
  obtain ⟨f1, f2⟩ := hf
  by_cases h0 : far < 0
  · have c0 : decide (far < 0) = true := decide_eq_true h0
    have e : nearV a b far = false := by unfold nearV; rw [decide_eq_false (by omega), Bool.false_and]
    rw [e]
    refine Runs.of (kit Try.prog) Try.func223 rfl rfl (by rw [Try.ntmps223]; exact of_decide_eq_true rfl) ?_; rw [Try.ntmps223, Try.results223]
    repeat' (first|((first|refine goA rfl fun K hK=>?_|refine goB rfl fun K hK=>?_|refine goC rfl rfl fun K hK=>?_|refine goD rfl rfl fun K hK=>?_);simp (dsimp:=false) only [↓gq,↓stepP,↓stepG,go_sem,c0])|refine Pwp.seq ?_|refine Pwp.block ?_|(refine Pwp.exit ?_;simp only [thenS,blockS,if_true,if_false,reduceIte,Nat.reduceEqDiff,Nat.add_one_ne_zero,reduceCtorEq])|(refine Pwp.skip ?_;simp only [thenS,blockS])|(refine Pwp.cond rfl True.intro (fun h=>?_) (fun h=>?_)<;>(try (cases h;done))<;>(try simp only [h]))|refine Pwp.ret ?_|(refine hK _ ?_;clear hK K)|(refine hK _ _ rfl ?_;clear hK K)|refine CallG.off ?_|with_reducible refine Or.inl ?_|simp only [thenS,blockS]|with_reducible refine And.intro ?_ ?_|with_reducible exact True.intro|simp (dsimp:=false) only [↓gq,↓stepP,↓stepG,go_sem,c0])
    all_goals (try (first|(intro hg;simp [hg];done)|exact of_decide_eq_true rfl|(cases h;done)))
    (refine Fin.data (.inr rfl) (by simp (dsimp:=false) only [↓gq,↓stepP,↓stepG,go_sem,resL]; rfl) (by simp only [and_self]) (by simp (dsimp:=false) only [↓gq,↓stepP,↓stepG,go_sem,resP,Nat.le_refl,List.take_length]; try rfl) ?_)
    exact subD_refl _
  · have c0 : decide (far < 0) = false := decide_eq_false h0
    by_cases h1 : a < b
    · have c1 : decide (a < b) = true := decide_eq_true h1
      have e : decide (IntKind.wrap .u64 (IntKind.wrap .u64 b - IntKind.wrap .u64 a) ≤ IntKind.wrap .u64 far) = nearV a b far := by
        unfold nearV
        rw [decide_eq_true (show 0 ≤ far by omega), decide_eq_true (show a - b ≤ far by omega), Bool.true_and, Bool.true_and]
        simp only [wrap_u]
        exact decide_eq_decide.2 (by omega)
      refine Runs.of (kit Try.prog) Try.func223 rfl rfl (by rw [Try.ntmps223]; exact of_decide_eq_true rfl) ?_; rw [Try.ntmps223, Try.results223]
      repeat' (first|((first|refine goA rfl fun K hK=>?_|refine goB rfl fun K hK=>?_|refine goC rfl rfl fun K hK=>?_|refine goD rfl rfl fun K hK=>?_);simp (dsimp:=false) only [↓gq,↓stepP,↓stepG,go_sem,c0,c1,e])|refine Pwp.seq ?_|refine Pwp.block ?_|(refine Pwp.exit ?_;simp only [thenS,blockS,if_true,if_false,reduceIte,Nat.reduceEqDiff,Nat.add_one_ne_zero,reduceCtorEq])|(refine Pwp.skip ?_;simp only [thenS,blockS])|(refine Pwp.cond rfl True.intro (fun h=>?_) (fun h=>?_)<;>(try (cases h;done))<;>(try simp only [h]))|refine Pwp.ret ?_|(refine hK _ ?_;clear hK K)|(refine hK _ _ rfl ?_;clear hK K)|refine CallG.off ?_|with_reducible refine Or.inl ?_|simp only [thenS,blockS]|with_reducible refine And.intro ?_ ?_|with_reducible exact True.intro|simp (dsimp:=false) only [↓gq,↓stepP,↓stepG,go_sem,c0,c1,e])
      all_goals (try (first|(intro hg;simp [hg];done)|exact of_decide_eq_true rfl|(cases h;done)))
      (refine Fin.data (.inr rfl) (by simp (dsimp:=false) only [↓gq,↓stepP,↓stepG,go_sem,resL]; rfl) (by simp only [and_self]) (by simp (dsimp:=false) only [↓gq,↓stepP,↓stepG,go_sem,resP,Nat.le_refl,List.take_length]; try rfl) ?_)
      exact subD_refl _
    · have c1 : decide (a < b) = false := decide_eq_false h1
      have e : decide (IntKind.wrap .u64 (IntKind.wrap .u64 a - IntKind.wrap .u64 b) ≤ IntKind.wrap .u64 far) = nearV a b far := by
        unfold nearV
        rw [decide_eq_true (show 0 ≤ far by omega), decide_eq_true (show b - a ≤ far by omega), Bool.true_and, Bool.and_true]
        simp only [wrap_u]
        exact decide_eq_decide.2 (by omega)
      refine Runs.of (kit Try.prog) Try.func223 rfl rfl (by rw [Try.ntmps223]; exact of_decide_eq_true rfl) ?_; rw [Try.ntmps223, Try.results223]
      repeat' (first|((first|refine goA rfl fun K hK=>?_|refine goB rfl fun K hK=>?_|refine goC rfl rfl fun K hK=>?_|refine goD rfl rfl fun K hK=>?_);simp (dsimp:=false) only [↓gq,↓stepP,↓stepG,go_sem,c0,c1,e])|refine Pwp.seq ?_|refine Pwp.block ?_|(refine Pwp.exit ?_;simp only [thenS,blockS,if_true,if_false,reduceIte,Nat.reduceEqDiff,Nat.add_one_ne_zero,reduceCtorEq])|(refine Pwp.skip ?_;simp only [thenS,blockS])|(refine Pwp.cond rfl True.intro (fun h=>?_) (fun h=>?_)<;>(try (cases h;done))<;>(try simp only [h]))|refine Pwp.ret ?_|(refine hK _ ?_;clear hK K)|(refine hK _ _ rfl ?_;clear hK K)|refine CallG.off ?_|with_reducible refine Or.inl ?_|simp only [thenS,blockS]|with_reducible refine And.intro ?_ ?_|with_reducible exact True.intro|simp (dsimp:=false) only [↓gq,↓stepP,↓stepG,go_sem,c0,c1,e])
      all_goals (try (first|(intro hg;simp [hg];done)|exact of_decide_eq_true rfl|(cases h;done)))
      (refine Fin.data (.inr rfl) (by simp (dsimp:=false) only [↓gq,↓stepP,↓stepG,go_sem,resL]; rfl) (by simp only [and_self]) (by simp (dsimp:=false) only [↓gq,↓stepP,↓stepG,go_sem,resP,Nat.le_refl,List.take_length]; try rfl) ?_)
      exact subD_refl _
structure Desk where
  me : Int
  items : List Item
  orders : List Order
  far : Int
def Desk.book (d : Desk) : List D := [I64 d.me, .slc 8 (itemsD d.items), .slc 3 (ordersD d.orders)]
def Desk.cells (d : Desk) : List D := d.book ++ [I64 d.far]
def deskB (d : Desk) : PObj := .box ((d.cells ++ [nilD]).map .d)
def deskB2 (d : Desk) (k v n : Nat) : PObj := .box (d.cells.map .d ++ [.own k v 12 0 n])
def saidD (to : Int) (m : Msg) : D := .agg (I64 to :: m.cells)
def Desk.put (d : Desk) (x : Item) : Desk := if putE d.me d.items x = 0 then { d with items := putIn d.items x } else d
set_option maxHeartbeats 8000000 in
theorem run217 (d : Desk) (x : Item) (hl : d.items.length ≤ 100000) : Runs Try.prog 217 [.ref 0 0, .d x.d] [(0, deskB d)] (pint .i64 (putE d.me d.items x)) [(0, deskB (d.put x))] := by
  have r50 := run50 d.me d.items (ordersD d.orders) x (by omega)
  unfold bookD at r50
  by_cases he : putE d.me d.items x = 0
  · have e : d.put x = ⟨d.me, putIn d.items x, d.orders, d.far⟩ := by unfold Desk.put; rw [if_pos he]
    rw [he, if_pos rfl] at r50
    rw [he, e]
    unfold deskB Desk.cells Desk.book
    simp only [List.cons_append, List.nil_append, List.map_cons, List.map_nil]
    unfold Item.d Item.cells at *
    refine Runs.of (kit Try.prog) Try.func217 rfl rfl (by rw [Try.ntmps217]; exact of_decide_eq_true rfl) ?_; rw [Try.ntmps217, Try.results217]
    repeat' (first|((first|refine goA rfl fun K hK=>?_|refine goB rfl fun K hK=>?_|refine goC rfl rfl fun K hK=>?_|refine goD rfl rfl fun K hK=>?_);simp (dsimp:=false) only [↓gq,↓stepP,↓stepG,go_sem,beq_self_eq_true])|refine Pwp.seq ?_|refine Pwp.block ?_|(refine Pwp.exit ?_;simp only [thenS,blockS,if_true,if_false,reduceIte,Nat.reduceEqDiff,Nat.add_one_ne_zero,reduceCtorEq])|(refine Pwp.skip ?_;simp only [thenS,blockS])|(refine Pwp.cond rfl True.intro (fun h=>?_) (fun h=>?_)<;>(try (cases h;done))<;>(try simp only [h]))|refine Pwp.ret ?_|(refine hK _ ?_;clear hK K)|(refine hK _ _ rfl ?_;clear hK K)|(refine CallK.give (ds:=[.agg [I64 d.me, .slc 8 (itemsD d.items), .slc 3 (ordersD d.orders)], .agg [I64 x.seller, I64 x.number, I64 x.buyer, I64 x.currency, I64 x.amount, I64 x.round, I64 x.state, I64 x.cycle]]) rfl (r50) (by simp) ?_)|refine CallG.off ?_|with_reducible refine Or.inl ?_|simp only [thenS,blockS]|with_reducible refine And.intro ?_ ?_|with_reducible exact True.intro|simp (dsimp:=false) only [↓gq,↓stepP,↓stepG,go_sem,beq_self_eq_true])
    all_goals (try (first|(intro hg;simp [hg];done)|exact of_decide_eq_true rfl|(cases h;done)))
    (refine Fin.valV V0 (by first | exact .inr rfl | exact .inl rfl) (by simp (dsimp:=false) only [↓gq,↓stepP,↓stepG,go_sem,resL]; rfl) (by simp only [and_self]) rfl (by simp [pnil, V8]) (by simp [resP, toDL, idsL, pnil, V8]))
  · have e : d.put x = d := by unfold Desk.put; rw [if_neg he]
    rw [if_neg he] at r50
    rw [e]
    have c : (putE d.me d.items x == 0) = false := by rw [beq_eq_false_iff_ne]; exact he
    unfold deskB Desk.cells Desk.book
    simp only [List.cons_append, List.nil_append, List.map_cons, List.map_nil]
    unfold Item.d Item.cells at *
    refine Runs.of (kit Try.prog) Try.func217 rfl rfl (by rw [Try.ntmps217]; exact of_decide_eq_true rfl) ?_; rw [Try.ntmps217, Try.results217]
    repeat' (first|((first|refine goA rfl fun K hK=>?_|refine goB rfl fun K hK=>?_|refine goC rfl rfl fun K hK=>?_|refine goD rfl rfl fun K hK=>?_);simp (dsimp:=false) only [↓gq,↓stepP,↓stepG,go_sem,c])|refine Pwp.seq ?_|refine Pwp.block ?_|(refine Pwp.exit ?_;simp only [thenS,blockS,if_true,if_false,reduceIte,Nat.reduceEqDiff,Nat.add_one_ne_zero,reduceCtorEq])|(refine Pwp.skip ?_;simp only [thenS,blockS])|(refine Pwp.cond rfl True.intro (fun h=>?_) (fun h=>?_)<;>(try (cases h;done))<;>(try simp only [h]))|refine Pwp.ret ?_|(refine hK _ ?_;clear hK K)|(refine hK _ _ rfl ?_;clear hK K)|(refine CallK.give (ds:=[.agg [I64 d.me, .slc 8 (itemsD d.items), .slc 3 (ordersD d.orders)], .agg [I64 x.seller, I64 x.number, I64 x.buyer, I64 x.currency, I64 x.amount, I64 x.round, I64 x.state, I64 x.cycle]]) rfl (r50) (by simp) ?_)|refine CallG.off ?_|with_reducible refine Or.inl ?_|simp only [thenS,blockS]|with_reducible refine And.intro ?_ ?_|with_reducible exact True.intro|simp (dsimp:=false) only [↓gq,↓stepP,↓stepG,go_sem,c])
    all_goals (try (first|(intro hg;simp [hg];done)|exact of_decide_eq_true rfl|(cases h;done)))
    (refine Fin.valV V0 (by first | exact .inr rfl | exact .inl rfl) (by simp (dsimp:=false) only [↓gq,↓stepP,↓stepG,go_sem,resL]; rfl) (by simp only [and_self]) rfl (by simp [pnil, V8]) (by simp [resP, toDL, idsL, pnil, V8]))
set_option maxHeartbeats 8000000 in
theorem run219 (d : Desk) (s n : Int) (hl : d.items.length ≤ 100000) : Runs Try.prog 219 [.ref 0 0, .d (.agg [I64 s, I64 n])] [(0, deskB d)] (.d (.tup [(getI d.items s n).d, I64 (if isIn d.items s n = true then (if (getI d.items s n).seller = d.me then 0 else 140) else 4)])) [(0, deskB d)] := by
  have r65 := run65 d.me d.items (ordersD d.orders) s n (by omega)
  unfold bookD at r65
  generalize getI d.items s n = x at *
  unfold deskB Desk.cells Desk.book Item.d Item.cells at *
  simp only [List.cons_append, List.nil_append, List.map_cons, List.map_nil]
  cases hin : isIn d.items s n with
  | false =>
    rw [hin] at r65
    rw [if_neg (by simp)]
    refine Runs.of (kit Try.prog) Try.func219 rfl rfl (by rw [Try.ntmps219]; exact of_decide_eq_true rfl) ?_; rw [Try.ntmps219, Try.results219]
    repeat' (first|((first|refine goA rfl fun K hK=>?_|refine goB rfl fun K hK=>?_|refine goC rfl rfl fun K hK=>?_|refine goD rfl rfl fun K hK=>?_);simp (dsimp:=false) only [↓gq,↓stepP,↓stepG,go_sem])|refine Pwp.seq ?_|refine Pwp.block ?_|(refine Pwp.exit ?_;simp only [thenS,blockS,if_true,if_false,reduceIte,Nat.reduceEqDiff,Nat.add_one_ne_zero,reduceCtorEq])|(refine Pwp.skip ?_;simp only [thenS,blockS])|(refine Pwp.cond rfl True.intro (fun h=>?_) (fun h=>?_)<;>(try (cases h;done))<;>(try simp only [h]))|refine Pwp.ret ?_|(refine hK _ ?_;clear hK K)|(refine hK _ _ rfl ?_;clear hK K)|(refine CallK.toD (ds:=[.agg [I64 d.me, .slc 8 (itemsD d.items), .slc 3 (ordersD d.orders)], .agg [I64 s, I64 n]]) rfl (r65) rfl ?_)|refine CallG.off ?_|with_reducible refine Or.inl ?_|simp only [thenS,blockS]|with_reducible refine And.intro ?_ ?_|with_reducible exact True.intro|simp (dsimp:=false) only [↓gq,↓stepP,↓stepG,go_sem])
    all_goals (try (first|(intro hg;simp [hg];done)|exact of_decide_eq_true rfl|(cases h;done)))
    (refine Fin.valV V0 (by first | exact .inr rfl | exact .inl rfl) (by simp (dsimp:=false) only [↓gq,↓stepP,↓stepG,go_sem,resL]; rfl) (by simp only [and_self]) rfl (by simp [pnil, V8]) (by simp [resP, toDL, idsL, pnil, V8]))
  | true =>
    rw [hin] at r65
    rw [if_pos rfl]
    by_cases h : x.seller = d.me
    · have c : (x.seller != d.me) = false := by simp [h]
      rw [if_pos h]
      refine Runs.of (kit Try.prog) Try.func219 rfl rfl (by rw [Try.ntmps219]; exact of_decide_eq_true rfl) ?_; rw [Try.ntmps219, Try.results219]
      repeat' (first|((first|refine goA rfl fun K hK=>?_|refine goB rfl fun K hK=>?_|refine goC rfl rfl fun K hK=>?_|refine goD rfl rfl fun K hK=>?_);simp (dsimp:=false) only [↓gq,↓stepP,↓stepG,go_sem,c])|refine Pwp.seq ?_|refine Pwp.block ?_|(refine Pwp.exit ?_;simp only [thenS,blockS,if_true,if_false,reduceIte,Nat.reduceEqDiff,Nat.add_one_ne_zero,reduceCtorEq])|(refine Pwp.skip ?_;simp only [thenS,blockS])|(refine Pwp.cond rfl True.intro (fun h=>?_) (fun h=>?_)<;>(try (cases h;done))<;>(try simp only [h]))|refine Pwp.ret ?_|(refine hK _ ?_;clear hK K)|(refine hK _ _ rfl ?_;clear hK K)|(refine CallK.toD (ds:=[.agg [I64 d.me, .slc 8 (itemsD d.items), .slc 3 (ordersD d.orders)], .agg [I64 s, I64 n]]) rfl (r65) rfl ?_)|refine CallG.off ?_|with_reducible refine Or.inl ?_|simp only [thenS,blockS]|with_reducible refine And.intro ?_ ?_|with_reducible exact True.intro|simp (dsimp:=false) only [↓gq,↓stepP,↓stepG,go_sem,c])
      all_goals (try (first|(intro hg;simp [hg];done)|exact of_decide_eq_true rfl|(cases h;done)))
      (refine Fin.valV V0 (by first | exact .inr rfl | exact .inl rfl) (by simp (dsimp:=false) only [↓gq,↓stepP,↓stepG,go_sem,resL]; rfl) (by simp only [and_self]) rfl (by simp [pnil, V8]) (by simp [resP, toDL, idsL, pnil, V8]))
    · have c : (x.seller != d.me) = true := by simpa using h
      rw [if_neg h]
      refine Runs.of (kit Try.prog) Try.func219 rfl rfl (by rw [Try.ntmps219]; exact of_decide_eq_true rfl) ?_; rw [Try.ntmps219, Try.results219]
      repeat' (first|((first|refine goA rfl fun K hK=>?_|refine goB rfl fun K hK=>?_|refine goC rfl rfl fun K hK=>?_|refine goD rfl rfl fun K hK=>?_);simp (dsimp:=false) only [↓gq,↓stepP,↓stepG,go_sem,c])|refine Pwp.seq ?_|refine Pwp.block ?_|(refine Pwp.exit ?_;simp only [thenS,blockS,if_true,if_false,reduceIte,Nat.reduceEqDiff,Nat.add_one_ne_zero,reduceCtorEq])|(refine Pwp.skip ?_;simp only [thenS,blockS])|(refine Pwp.cond rfl True.intro (fun h=>?_) (fun h=>?_)<;>(try (cases h;done))<;>(try simp only [h]))|refine Pwp.ret ?_|(refine hK _ ?_;clear hK K)|(refine hK _ _ rfl ?_;clear hK K)|(refine CallK.toD (ds:=[.agg [I64 d.me, .slc 8 (itemsD d.items), .slc 3 (ordersD d.orders)], .agg [I64 s, I64 n]]) rfl (r65) rfl ?_)|refine CallG.off ?_|with_reducible refine Or.inl ?_|simp only [thenS,blockS]|with_reducible refine And.intro ?_ ?_|with_reducible exact True.intro|simp (dsimp:=false) only [↓gq,↓stepP,↓stepG,go_sem,c])
      all_goals (try (first|(intro hg;simp [hg];done)|exact of_decide_eq_true rfl|(cases h;done)))
      (refine Fin.valV V0 (by first | exact .inr rfl | exact .inl rfl) (by simp (dsimp:=false) only [↓gq,↓stepP,↓stepG,go_sem,resL]; rfl) (by simp only [and_self]) rfl (by simp [pnil, V8]) (by simp [resP, toDL, idsL, pnil, V8]))
def L218 (d : Desk) (to k : Int) (x : Item) : St := ⟨[(7, .ref 8 0), (2, pint .i64 k), (1, pint .i64 to), (0, .ref 0 0)], [(0, .box [.d (I64 d.me), .d (.slc 8 (itemsD d.items)), .d (.slc 3 (ordersD d.orders)), .d (I64 d.far), .own 9 0 12 0 0]), (9, .arr 110 12 0 none []), (8, .box (x.cells.map .d))], 12⟩
set_option maxHeartbeats 8000000 in
theorem run218 (d : Desk) (to k : Int) (x : Item) : Runs Try.prog 218 [.ref 0 0, pint .i64 to, pint .i64 k, .d x.d] [(0, deskB d)] (.d (.tup [])) [(0, deskB2 d 8 0 1), (8, .arr 110 12 0 none [saidD to (about k x)])] := by
  have r250 := run250 k x
  unfold deskB deskB2 Desk.cells Desk.book saidD Msg.d Msg.cells about Item.d Item.cells at *
  simp only [List.cons_append, List.nil_append, List.map_cons, List.map_nil]
  refine Runs.of (kit Try.prog) Try.func218 rfl rfl (by rw [Try.ntmps218]; exact of_decide_eq_true rfl) ?_; rw [Try.ntmps218, Try.results218]
  refine Pwp.step (kit _) rfl fun K hK => ?_
  simp (dsimp:=false) only [↓gq,↓stepP,↓stepG,go_sem]
  refine hK _ ?_
  clear hK K
  refine Pwp.sub (Sub.view (t := L218 d to k x) (VN 9) (by simp [L218]) rfl (by simp [L218,Item.cells]) (by simp [L218,Item.cells])) ?_
  unfold L218 Item.cells
  repeat' (first|((first|refine goA rfl fun K hK=>?_|refine goB rfl fun K hK=>?_|refine goC rfl rfl fun K hK=>?_|refine goD rfl rfl fun K hK=>?_);simp (dsimp:=false) only [↓gq,↓stepP,↓stepG,go_sem])|refine Pwp.seq ?_|refine Pwp.block ?_|(refine Pwp.exit ?_;simp only [thenS,blockS,if_true,if_false,reduceIte,Nat.reduceEqDiff,Nat.add_one_ne_zero,reduceCtorEq])|(refine Pwp.skip ?_;simp only [thenS,blockS])|(refine Pwp.cond rfl True.intro (fun h=>?_) (fun h=>?_)<;>(try (cases h;done))<;>(try simp only [h]))|refine Pwp.ret ?_|(refine hK _ ?_;clear hK K)|(refine hK _ _ rfl ?_;clear hK K)|(refine CallK.toD (ds:=[I64 k, .agg [I64 x.seller, I64 x.number, I64 x.buyer, I64 x.currency, I64 x.amount, I64 x.round, I64 x.state, I64 x.cycle]]) rfl (r250) rfl ?_)|refine CallG.off ?_|with_reducible refine Or.inl ?_|simp only [thenS,blockS]|with_reducible refine And.intro ?_ ?_|with_reducible exact True.intro|simp (dsimp:=false) only [↓gq,↓stepP,↓stepG,go_sem])
  all_goals (try (first|(intro hg;simp [hg];done)|exact of_decide_eq_true rfl|(cases h;done)))
  (refine Fin.valV (V8 9 1) (by first | exact .inr rfl | exact .inl rfl) (by simp (dsimp:=false) only [↓gq,↓stepP,↓stepG,go_sem,resL]; rfl) (by simp only [and_self]) rfl (by simp [pnil, V8]) (by simp [resP, toDL, idsL, pnil, V8]))
set_option maxHeartbeats 8000000 in
theorem run217b (d : Desk) (x : Item) (s : D) (hl : d.items.length ≤ 100000) : Runs Try.prog 217 [.ref 0 0, .d x.d] [(0, deskB2 d 1 0 1), (1, .arr 110 12 0 none [s])] (pint .i64 (putE d.me d.items x)) [(0, deskB2 (d.put x) 1 0 1), (1, .arr 110 12 0 none [s])] := by
  have r50 := run50 d.me d.items (ordersD d.orders) x (by omega)
  unfold bookD at r50
  by_cases he : putE d.me d.items x = 0
  · have e : d.put x = ⟨d.me, putIn d.items x, d.orders, d.far⟩ := by unfold Desk.put; rw [if_pos he]
    rw [he, if_pos rfl] at r50
    rw [he, e]
    unfold deskB2 Desk.cells Desk.book
    simp only [List.cons_append, List.nil_append, List.map_cons, List.map_nil]
    unfold Item.d Item.cells at *
    refine Runs.of (kit Try.prog) Try.func217 rfl rfl (by rw [Try.ntmps217]; exact of_decide_eq_true rfl) ?_; rw [Try.ntmps217, Try.results217]
    repeat' (first|((first|refine goA rfl fun K hK=>?_|refine goB rfl fun K hK=>?_|refine goC rfl rfl fun K hK=>?_|refine goD rfl rfl fun K hK=>?_);simp (dsimp:=false) only [↓gq,↓stepP,↓stepG,go_sem,beq_self_eq_true])|refine Pwp.seq ?_|refine Pwp.block ?_|(refine Pwp.exit ?_;simp only [thenS,blockS,if_true,if_false,reduceIte,Nat.reduceEqDiff,Nat.add_one_ne_zero,reduceCtorEq])|(refine Pwp.skip ?_;simp only [thenS,blockS])|(refine Pwp.cond rfl True.intro (fun h=>?_) (fun h=>?_)<;>(try (cases h;done))<;>(try simp only [h]))|refine Pwp.ret ?_|(refine hK _ ?_;clear hK K)|(refine hK _ _ rfl ?_;clear hK K)|(refine CallK.give (ds:=[.agg [I64 d.me, .slc 8 (itemsD d.items), .slc 3 (ordersD d.orders)], .agg [I64 x.seller, I64 x.number, I64 x.buyer, I64 x.currency, I64 x.amount, I64 x.round, I64 x.state, I64 x.cycle]]) rfl (r50) (by simp) ?_)|refine CallG.off ?_|with_reducible refine Or.inl ?_|simp only [thenS,blockS]|with_reducible refine And.intro ?_ ?_|with_reducible exact True.intro|simp (dsimp:=false) only [↓gq,↓stepP,↓stepG,go_sem,beq_self_eq_true])
    all_goals (try (first|(intro hg;simp [hg];done)|exact of_decide_eq_true rfl|(cases h;done)))
    (refine Fin.valV V0 (by first | exact .inr rfl | exact .inl rfl) (by simp (dsimp:=false) only [↓gq,↓stepP,↓stepG,go_sem,resL]; rfl) (by simp only [and_self]) rfl (by simp [pnil, V8]) (by simp [resP, toDL, idsL, pnil, V8]))
  · have e : d.put x = d := by unfold Desk.put; rw [if_neg he]
    rw [if_neg he] at r50
    rw [e]
    have c : (putE d.me d.items x == 0) = false := by rw [beq_eq_false_iff_ne]; exact he
    unfold deskB2 Desk.cells Desk.book
    simp only [List.cons_append, List.nil_append, List.map_cons, List.map_nil]
    unfold Item.d Item.cells at *
    refine Runs.of (kit Try.prog) Try.func217 rfl rfl (by rw [Try.ntmps217]; exact of_decide_eq_true rfl) ?_; rw [Try.ntmps217, Try.results217]
    repeat' (first|((first|refine goA rfl fun K hK=>?_|refine goB rfl fun K hK=>?_|refine goC rfl rfl fun K hK=>?_|refine goD rfl rfl fun K hK=>?_);simp (dsimp:=false) only [↓gq,↓stepP,↓stepG,go_sem,c])|refine Pwp.seq ?_|refine Pwp.block ?_|(refine Pwp.exit ?_;simp only [thenS,blockS,if_true,if_false,reduceIte,Nat.reduceEqDiff,Nat.add_one_ne_zero,reduceCtorEq])|(refine Pwp.skip ?_;simp only [thenS,blockS])|(refine Pwp.cond rfl True.intro (fun h=>?_) (fun h=>?_)<;>(try (cases h;done))<;>(try simp only [h]))|refine Pwp.ret ?_|(refine hK _ ?_;clear hK K)|(refine hK _ _ rfl ?_;clear hK K)|(refine CallK.give (ds:=[.agg [I64 d.me, .slc 8 (itemsD d.items), .slc 3 (ordersD d.orders)], .agg [I64 x.seller, I64 x.number, I64 x.buyer, I64 x.currency, I64 x.amount, I64 x.round, I64 x.state, I64 x.cycle]]) rfl (r50) (by simp) ?_)|refine CallG.off ?_|with_reducible refine Or.inl ?_|simp only [thenS,blockS]|with_reducible refine And.intro ?_ ?_|with_reducible exact True.intro|simp (dsimp:=false) only [↓gq,↓stepP,↓stepG,go_sem,c])
    all_goals (try (first|(intro hg;simp [hg];done)|exact of_decide_eq_true rfl|(cases h;done)))
    (refine Fin.valV V0 (by first | exact .inr rfl | exact .inl rfl) (by simp (dsimp:=false) only [↓gq,↓stepP,↓stepG,go_sem,resL]; rfl) (by simp only [and_self]) rfl (by simp [pnil, V8]) (by simp [resP, toDL, idsL, pnil, V8]))
structure Out where
  e : Int
  d : Desk
  o : Option D
def deskH (d : Desk) (o : Option D) : List (Nat × PObj) := match o with
  | none => [(0, deskB d)]
  | some s => [(0, deskB2 d 8 0 1), (8, .arr 110 12 0 none [s])]
def mineE (d : Desk) (s n : Int) : Int := if isIn d.items s n = true then (if (getI d.items s n).seller = d.me then 0 else 140) else 4
def ansE (d : Desk) (m : Msg) (from' : Int) : Int := if mineE d m.seller m.number ≠ 0 then mineE d m.seller m.number else if from' ≠ (getI d.items m.seller m.number).buyer then 140 else if (getI d.items m.seller m.number).round ≠ m.round then 90 else 0
set_option maxHeartbeats 8000000 in
theorem run226 (d : Desk) (m : Msg) (from' : Int) (hl : d.items.length ≤ 100000) : Runs Try.prog 226 [.ref 0 0, .d m.d, pint .i64 from'] [(0, deskB d)] (.d (.tup [(getI d.items m.seller m.number).d, I64 (ansE d m from')])) [(0, deskB d)] := by
  have r219 := run219 d m.seller m.number hl
  change Runs Try.prog 219 _ _ (.d (.tup [_, I64 (mineE d m.seller m.number)])) _ at r219
  unfold ansE
  generalize mineE d m.seller m.number = e at *
  generalize getI d.items m.seller m.number = x at *
  unfold deskB Desk.cells Desk.book Msg.d Msg.cells Item.d Item.cells at *
  simp only [List.cons_append, List.nil_append, List.map_cons, List.map_nil] at *
  by_cases he : e = 0
  · subst he
    rw [if_neg (by simp)]
    by_cases h1 : from' = x.buyer
    · have c1 : (from' != x.buyer) = false := by simp [h1]
      rw [if_neg (by simpa using h1)]
      by_cases h2 : x.round = m.round
      · have c2 : (x.round != m.round) = false := by simp [h2]
        rw [if_neg (by simpa using h2)]
        refine Runs.of (kit Try.prog) Try.func226 rfl rfl (by rw [Try.ntmps226]; exact of_decide_eq_true rfl) ?_; rw [Try.ntmps226, Try.results226]
        repeat' (first|((first|refine goA rfl fun K hK=>?_|refine goB rfl fun K hK=>?_|refine goC rfl rfl fun K hK=>?_|refine goD rfl rfl fun K hK=>?_);simp (dsimp:=false) only [↓gq,↓stepP,↓stepG,go_sem,c1,c2,bne_self_eq_false])|refine Pwp.seq ?_|refine Pwp.block ?_|(refine Pwp.exit ?_;simp only [thenS,blockS,if_true,if_false,reduceIte,Nat.reduceEqDiff,Nat.add_one_ne_zero,reduceCtorEq])|(refine Pwp.skip ?_;simp only [thenS,blockS])|(refine Pwp.cond rfl True.intro (fun h=>?_) (fun h=>?_)<;>(try (cases h;done))<;>(try simp only [h]))|refine Pwp.ret ?_|(refine hK _ ?_;clear hK K)|(refine hK _ _ rfl ?_;clear hK K)|(refine CallK.desk (cs:=[I64 d.me, .slc 8 (itemsD d.items), .slc 3 (ordersD d.orders), I64 d.far, nilD]) rfl rfl rfl r219 (by simp) ?_)|refine CallG.off ?_|with_reducible refine Or.inl ?_|simp only [thenS,blockS]|with_reducible refine And.intro ?_ ?_|with_reducible exact True.intro|simp (dsimp:=false) only [↓gq,↓stepP,↓stepG,go_sem,c1,c2,bne_self_eq_false])
        all_goals (try (first|(intro hg;simp [hg];done)|exact of_decide_eq_true rfl|(cases h;done)))
        (refine Fin.valV V0 (by first | exact .inr rfl | exact .inl rfl) (by simp (dsimp:=false) only [↓gq,↓stepP,↓stepG,go_sem,resL]; rfl) (by simp only [and_self]) rfl (by simp [pnil, V8]) (by simp [resP, toDL, idsL, pnil, V8]))
      · have c2 : (x.round != m.round) = true := by simpa using h2
        rw [if_pos (by simpa using h2)]
        refine Runs.of (kit Try.prog) Try.func226 rfl rfl (by rw [Try.ntmps226]; exact of_decide_eq_true rfl) ?_; rw [Try.ntmps226, Try.results226]
        repeat' (first|((first|refine goA rfl fun K hK=>?_|refine goB rfl fun K hK=>?_|refine goC rfl rfl fun K hK=>?_|refine goD rfl rfl fun K hK=>?_);simp (dsimp:=false) only [↓gq,↓stepP,↓stepG,go_sem,c1,c2,bne_self_eq_false])|refine Pwp.seq ?_|refine Pwp.block ?_|(refine Pwp.exit ?_;simp only [thenS,blockS,if_true,if_false,reduceIte,Nat.reduceEqDiff,Nat.add_one_ne_zero,reduceCtorEq])|(refine Pwp.skip ?_;simp only [thenS,blockS])|(refine Pwp.cond rfl True.intro (fun h=>?_) (fun h=>?_)<;>(try (cases h;done))<;>(try simp only [h]))|refine Pwp.ret ?_|(refine hK _ ?_;clear hK K)|(refine hK _ _ rfl ?_;clear hK K)|(refine CallK.desk (cs:=[I64 d.me, .slc 8 (itemsD d.items), .slc 3 (ordersD d.orders), I64 d.far, nilD]) rfl rfl rfl r219 (by simp) ?_)|refine CallG.off ?_|with_reducible refine Or.inl ?_|simp only [thenS,blockS]|with_reducible refine And.intro ?_ ?_|with_reducible exact True.intro|simp (dsimp:=false) only [↓gq,↓stepP,↓stepG,go_sem,c1,c2,bne_self_eq_false])
        all_goals (try (first|(intro hg;simp [hg];done)|exact of_decide_eq_true rfl|(cases h;done)))
        (refine Fin.valV V0 (by first | exact .inr rfl | exact .inl rfl) (by simp (dsimp:=false) only [↓gq,↓stepP,↓stepG,go_sem,resL]; rfl) (by simp only [and_self]) rfl (by simp [pnil, V8]) (by simp [resP, toDL, idsL, pnil, V8]))
    · have c1 : (from' != x.buyer) = true := by simpa using h1
      rw [if_pos (by simpa using h1)]
      refine Runs.of (kit Try.prog) Try.func226 rfl rfl (by rw [Try.ntmps226]; exact of_decide_eq_true rfl) ?_; rw [Try.ntmps226, Try.results226]
      repeat' (first|((first|refine goA rfl fun K hK=>?_|refine goB rfl fun K hK=>?_|refine goC rfl rfl fun K hK=>?_|refine goD rfl rfl fun K hK=>?_);simp (dsimp:=false) only [↓gq,↓stepP,↓stepG,go_sem,c1,bne_self_eq_false])|refine Pwp.seq ?_|refine Pwp.block ?_|(refine Pwp.exit ?_;simp only [thenS,blockS,if_true,if_false,reduceIte,Nat.reduceEqDiff,Nat.add_one_ne_zero,reduceCtorEq])|(refine Pwp.skip ?_;simp only [thenS,blockS])|(refine Pwp.cond rfl True.intro (fun h=>?_) (fun h=>?_)<;>(try (cases h;done))<;>(try simp only [h]))|refine Pwp.ret ?_|(refine hK _ ?_;clear hK K)|(refine hK _ _ rfl ?_;clear hK K)|(refine CallK.desk (cs:=[I64 d.me, .slc 8 (itemsD d.items), .slc 3 (ordersD d.orders), I64 d.far, nilD]) rfl rfl rfl r219 (by simp) ?_)|refine CallG.off ?_|with_reducible refine Or.inl ?_|simp only [thenS,blockS]|with_reducible refine And.intro ?_ ?_|with_reducible exact True.intro|simp (dsimp:=false) only [↓gq,↓stepP,↓stepG,go_sem,c1,bne_self_eq_false])
      all_goals (try (first|(intro hg;simp [hg];done)|exact of_decide_eq_true rfl|(cases h;done)))
      (refine Fin.valV V0 (by first | exact .inr rfl | exact .inl rfl) (by simp (dsimp:=false) only [↓gq,↓stepP,↓stepG,go_sem,resL]; rfl) (by simp only [and_self]) rfl (by simp [pnil, V8]) (by simp [resP, toDL, idsL, pnil, V8]))
  · have c0 : (e != 0) = true := by simpa using he
    rw [if_pos he]
    refine Runs.of (kit Try.prog) Try.func226 rfl rfl (by rw [Try.ntmps226]; exact of_decide_eq_true rfl) ?_; rw [Try.ntmps226, Try.results226]
    repeat' (first|((first|refine goA rfl fun K hK=>?_|refine goB rfl fun K hK=>?_|refine goC rfl rfl fun K hK=>?_|refine goD rfl rfl fun K hK=>?_);simp (dsimp:=false) only [↓gq,↓stepP,↓stepG,go_sem,c0])|refine Pwp.seq ?_|refine Pwp.block ?_|(refine Pwp.exit ?_;simp only [thenS,blockS,if_true,if_false,reduceIte,Nat.reduceEqDiff,Nat.add_one_ne_zero,reduceCtorEq])|(refine Pwp.skip ?_;simp only [thenS,blockS])|(refine Pwp.cond rfl True.intro (fun h=>?_) (fun h=>?_)<;>(try (cases h;done))<;>(try simp only [h]))|refine Pwp.ret ?_|(refine hK _ ?_;clear hK K)|(refine hK _ _ rfl ?_;clear hK K)|(refine CallK.desk (cs:=[I64 d.me, .slc 8 (itemsD d.items), .slc 3 (ordersD d.orders), I64 d.far, nilD]) rfl rfl rfl r219 (by simp) ?_)|refine CallG.off ?_|with_reducible refine Or.inl ?_|simp only [thenS,blockS]|with_reducible refine And.intro ?_ ?_|with_reducible exact True.intro|simp (dsimp:=false) only [↓gq,↓stepP,↓stepG,go_sem,c0])
    all_goals (try (first|(intro hg;simp [hg];done)|exact of_decide_eq_true rfl|(cases h;done)))
    (refine Fin.valV V0 (by first | exact .inr rfl | exact .inl rfl) (by simp (dsimp:=false) only [↓gq,↓stepP,↓stepG,go_sem,resL]; rfl) (by simp only [and_self]) rfl (by simp [pnil, V8]) (by simp [resP, toDL, idsL, pnil, V8]))
end Go.Proofs.Ytdodgbhodkcckaa.Pv
end
section
set_option linter.unusedVariables false
set_option linter.unusedSimpArgs false
set_option autoImplicit false
set_option maxRecDepth 100000
namespace Go.Proofs.Ytdodgbhodkcckaa.Pv
open Go Go.RowKit
def confirmR (d : Desk) (m : Msg) (from' : Int) : Out := if ansE d m from' ≠ 0 then ⟨ansE d m from', d, none⟩ else if stepE (getI d.items m.seller m.number) 1 ≠ 0 then ⟨stepE (getI d.items m.seller m.number) 1, d, none⟩ else ⟨putE d.me d.items (stepI (getI d.items m.seller m.number) 1 3), d.put (stepI (getI d.items m.seller m.number) 1 3), none⟩
set_option maxHeartbeats 16000000 in
theorem run178 (d : Desk) (m : Msg) (from' : Int) (hl : d.items.length ≤ 100000) : Runs Try.prog 178 [.ref 0 0, .d m.d, pint .i64 from'] [(0, deskB d)] (pint .i64 (confirmR d m from').e) (deskH (confirmR d m from').d (confirmR d m from').o) := by
  have r0 := run226 d m from' hl
  have r1 := run224 (getI d.items m.seller m.number)
  have r3 := run217 d (stepI (getI d.items m.seller m.number) 1 3) hl
  unfold confirmR
  generalize hy : stepI (getI d.items m.seller m.number) 1 3 = y at *
  generalize he1 : stepE (getI d.items m.seller m.number) 1 = e1 at *
  generalize hx : getI d.items m.seller m.number = x at *
  generalize he0 : ansE d m from' = e0 at *
  generalize hpe : putE d.me d.items y = pe at *
  generalize hpd : d.put y = d2 at *
  clear hy he1 hx he0 hpe hpd
  by_cases h0 : e0 = 0
  · subst h0
    rw [if_neg (by simp)]
    by_cases h1 : e1 = 0
    · subst h1
      rw [if_neg (by simp)]
      simp only [deskH, deskB, deskB2, Desk.cells, Desk.book, saidD, Msg.d, Msg.cells, about, Item.d, Item.cells, List.cons_append, List.nil_append, List.map_cons, List.map_nil] at *
      refine Runs.of (kit Try.prog) Try.func178 rfl rfl (by rw [Try.ntmps178]; exact of_decide_eq_true rfl) ?_; rw [Try.ntmps178, Try.results178]
      repeat' (first|((first|refine goA rfl fun K hK=>?_|refine goB rfl fun K hK=>?_|refine goC rfl rfl fun K hK=>?_|refine goD rfl rfl fun K hK=>?_);simp (dsimp:=false) only [↓gq,↓stepP,↓stepG,go_sem,bne_self_eq_false])|refine Pwp.seq ?_|refine Pwp.block ?_|(refine Pwp.exit ?_;simp only [thenS,blockS,if_true,if_false,reduceIte,Nat.reduceEqDiff,Nat.add_one_ne_zero,reduceCtorEq])|(refine Pwp.skip ?_;simp only [thenS,blockS])|(refine Pwp.cond rfl True.intro (fun h=>?_) (fun h=>?_)<;>(try (cases h;done))<;>(try simp only [h]))|refine Pwp.ret ?_|(refine hK _ ?_;clear hK K)|(refine hK _ _ rfl ?_;clear hK K)|(refine CallK.desk (cs:=[I64 d.me, .slc 8 (itemsD d.items), .slc 3 (ordersD d.orders), I64 d.far, nilD]) rfl rfl rfl r0 (by simp) ?_)|(refine CallK.desk (cs:=[I64 d.me, .slc 8 (itemsD d.items), .slc 3 (ordersD d.orders), I64 d.far, nilD]) rfl rfl rfl r3 (by simp) ?_)|(refine CallK.toD (ds:=[.agg [I64 x.seller, I64 x.number, I64 x.buyer, I64 x.currency, I64 x.amount, I64 x.round, I64 x.state, I64 x.cycle]]) rfl (r1) rfl ?_)|refine CallG.off ?_|with_reducible refine Or.inl ?_|simp only [thenS,blockS]|with_reducible refine And.intro ?_ ?_|with_reducible exact True.intro|simp (dsimp:=false) only [↓gq,↓stepP,↓stepG,go_sem,bne_self_eq_false])
      all_goals (try (first|(intro hg;simp [hg];done)|exact of_decide_eq_true rfl|(cases h;done)))
      (refine Fin.valV V0 (by first | exact .inr rfl | exact .inl rfl) (by simp (dsimp:=false) only [↓gq,↓stepP,↓stepG,go_sem,resL]; rfl) (by simp only [and_self]) rfl (by simp [pnil, V8]) (by simp [resP, toDL, idsL, pnil, V8]))
    · have n1 : (e1 != 0) = true := by simpa using h1
      rw [if_pos h1]
      simp only [deskH, deskB, deskB2, Desk.cells, Desk.book, saidD, Msg.d, Msg.cells, about, Item.d, Item.cells, List.cons_append, List.nil_append, List.map_cons, List.map_nil] at *
      refine Runs.of (kit Try.prog) Try.func178 rfl rfl (by rw [Try.ntmps178]; exact of_decide_eq_true rfl) ?_; rw [Try.ntmps178, Try.results178]
      repeat' (first|((first|refine goA rfl fun K hK=>?_|refine goB rfl fun K hK=>?_|refine goC rfl rfl fun K hK=>?_|refine goD rfl rfl fun K hK=>?_);simp (dsimp:=false) only [↓gq,↓stepP,↓stepG,go_sem,bne_self_eq_false,n1])|refine Pwp.seq ?_|refine Pwp.block ?_|(refine Pwp.exit ?_;simp only [thenS,blockS,if_true,if_false,reduceIte,Nat.reduceEqDiff,Nat.add_one_ne_zero,reduceCtorEq])|(refine Pwp.skip ?_;simp only [thenS,blockS])|(refine Pwp.cond rfl True.intro (fun h=>?_) (fun h=>?_)<;>(try (cases h;done))<;>(try simp only [h]))|refine Pwp.ret ?_|(refine hK _ ?_;clear hK K)|(refine hK _ _ rfl ?_;clear hK K)|(refine CallK.desk (cs:=[I64 d.me, .slc 8 (itemsD d.items), .slc 3 (ordersD d.orders), I64 d.far, nilD]) rfl rfl rfl r0 (by simp) ?_)|(refine CallK.toD (ds:=[.agg [I64 x.seller, I64 x.number, I64 x.buyer, I64 x.currency, I64 x.amount, I64 x.round, I64 x.state, I64 x.cycle]]) rfl (r1) rfl ?_)|refine CallG.off ?_|with_reducible refine Or.inl ?_|simp only [thenS,blockS]|with_reducible refine And.intro ?_ ?_|with_reducible exact True.intro|simp (dsimp:=false) only [↓gq,↓stepP,↓stepG,go_sem,bne_self_eq_false,n1])
      all_goals (try (first|(intro hg;simp [hg];done)|exact of_decide_eq_true rfl|(cases h;done)))
      (refine Fin.valV V0 (by first | exact .inr rfl | exact .inl rfl) (by simp (dsimp:=false) only [↓gq,↓stepP,↓stepG,go_sem,resL]; rfl) (by simp only [and_self]) rfl (by simp [pnil, V8]) (by simp [resP, toDL, idsL, pnil, V8]))
  · have n0 : (e0 != 0) = true := by simpa using h0
    rw [if_pos h0]
    simp only [deskH, deskB, deskB2, Desk.cells, Desk.book, saidD, Msg.d, Msg.cells, about, Item.d, Item.cells, List.cons_append, List.nil_append, List.map_cons, List.map_nil] at *
    refine Runs.of (kit Try.prog) Try.func178 rfl rfl (by rw [Try.ntmps178]; exact of_decide_eq_true rfl) ?_; rw [Try.ntmps178, Try.results178]
    repeat' (first|((first|refine goA rfl fun K hK=>?_|refine goB rfl fun K hK=>?_|refine goC rfl rfl fun K hK=>?_|refine goD rfl rfl fun K hK=>?_);simp (dsimp:=false) only [↓gq,↓stepP,↓stepG,go_sem,n0])|refine Pwp.seq ?_|refine Pwp.block ?_|(refine Pwp.exit ?_;simp only [thenS,blockS,if_true,if_false,reduceIte,Nat.reduceEqDiff,Nat.add_one_ne_zero,reduceCtorEq])|(refine Pwp.skip ?_;simp only [thenS,blockS])|(refine Pwp.cond rfl True.intro (fun h=>?_) (fun h=>?_)<;>(try (cases h;done))<;>(try simp only [h]))|refine Pwp.ret ?_|(refine hK _ ?_;clear hK K)|(refine hK _ _ rfl ?_;clear hK K)|(refine CallK.desk (cs:=[I64 d.me, .slc 8 (itemsD d.items), .slc 3 (ordersD d.orders), I64 d.far, nilD]) rfl rfl rfl r0 (by simp) ?_)|refine CallG.off ?_|with_reducible refine Or.inl ?_|simp only [thenS,blockS]|with_reducible refine And.intro ?_ ?_|with_reducible exact True.intro|simp (dsimp:=false) only [↓gq,↓stepP,↓stepG,go_sem,n0])
    all_goals (try (first|(intro hg;simp [hg];done)|exact of_decide_eq_true rfl|(cases h;done)))
    (refine Fin.valV V0 (by first | exact .inr rfl | exact .inl rfl) (by simp (dsimp:=false) only [↓gq,↓stepP,↓stepG,go_sem,resL]; rfl) (by simp only [and_self]) rfl (by simp [pnil, V8]) (by simp [resP, toDL, idsL, pnil, V8]))
def withdrawR (d : Desk) (m : Msg) (from' : Int) : Out := if mineE d m.seller m.number ≠ 0 then ⟨mineE d m.seller m.number, d, none⟩ else if stepE (getI d.items m.seller m.number) 2 ≠ 0 then ⟨stepE (getI d.items m.seller m.number) 2, d, none⟩ else ⟨putE d.me d.items (stepI (getI d.items m.seller m.number) 2 4), d.put (stepI (getI d.items m.seller m.number) 2 4), some (saidD (stepI (getI d.items m.seller m.number) 2 4).buyer (about 9 (stepI (getI d.items m.seller m.number) 2 4)))⟩
set_option maxHeartbeats 16000000 in
theorem run175 (d : Desk) (m : Msg) (from' : Int) (hl : d.items.length ≤ 100000) : Runs Try.prog 175 [.ref 0 0, .d m.d, pint .i64 from'] [(0, deskB d)] (pint .i64 (withdrawR d m from').e) (deskH (withdrawR d m from').d (withdrawR d m from').o) := by
  have r0 := run219 d m.seller m.number hl
  change Runs Try.prog 219 _ _ (.d (.tup [_, I64 (mineE d m.seller m.number)])) _ at r0
  have r1 := run221 (getI d.items m.seller m.number)
  have r2 := run218 d (stepI (getI d.items m.seller m.number) 2 4).buyer 9 (stepI (getI d.items m.seller m.number) 2 4)
  have r3 := run217b d (stepI (getI d.items m.seller m.number) 2 4) (saidD (stepI (getI d.items m.seller m.number) 2 4).buyer (about 9 (stepI (getI d.items m.seller m.number) 2 4))) hl
  unfold withdrawR
  generalize hy : stepI (getI d.items m.seller m.number) 2 4 = y at *
  generalize he1 : stepE (getI d.items m.seller m.number) 2 = e1 at *
  generalize hx : getI d.items m.seller m.number = x at *
  generalize he0 : mineE d m.seller m.number = e0 at *
  generalize hpe : putE d.me d.items y = pe at *
  generalize hpd : d.put y = d2 at *
  clear hy he1 hx he0 hpe hpd
  by_cases h0 : e0 = 0
  · subst h0
    rw [if_neg (by simp)]
    by_cases h1 : e1 = 0
    · subst h1
      rw [if_neg (by simp)]
      simp only [deskH, deskB, deskB2, Desk.cells, Desk.book, saidD, Msg.d, Msg.cells, about, Item.d, Item.cells, List.cons_append, List.nil_append, List.map_cons, List.map_nil] at *
      refine Runs.of (kit Try.prog) Try.func175 rfl rfl (by rw [Try.ntmps175]; exact of_decide_eq_true rfl) ?_; rw [Try.ntmps175, Try.results175]
      repeat' (first|((first|refine goA rfl fun K hK=>?_|refine goB rfl fun K hK=>?_|refine goC rfl rfl fun K hK=>?_|refine goD rfl rfl fun K hK=>?_);simp (dsimp:=false) only [↓gq,↓stepP,↓stepG,go_sem,bne_self_eq_false])|refine Pwp.seq ?_|refine Pwp.block ?_|(refine Pwp.exit ?_;simp only [thenS,blockS,if_true,if_false,reduceIte,Nat.reduceEqDiff,Nat.add_one_ne_zero,reduceCtorEq])|(refine Pwp.skip ?_;simp only [thenS,blockS])|(refine Pwp.cond rfl True.intro (fun h=>?_) (fun h=>?_)<;>(try (cases h;done))<;>(try simp only [h]))|refine Pwp.ret ?_|(refine hK _ ?_;clear hK K)|(refine hK _ _ rfl ?_;clear hK K)|(refine CallK.desk (cs:=[I64 d.me, .slc 8 (itemsD d.items), .slc 3 (ordersD d.orders), I64 d.far, nilD]) rfl rfl rfl r0 (by simp) ?_)|(refine CallK.desk (cs:=[I64 d.me, .slc 8 (itemsD d.items), .slc 3 (ordersD d.orders), I64 d.far, nilD]) rfl rfl rfl r2 (by simp) ?_)|(refine CallK.desk2 (cs:=[I64 d.me, .slc 8 (itemsD d.items), .slc 3 (ordersD d.orders), I64 d.far]) rfl rfl rfl rfl (of_decide_eq_true rfl) r3 (by simp) ?_)|(refine CallK.toD (ds:=[.agg [I64 x.seller, I64 x.number, I64 x.buyer, I64 x.currency, I64 x.amount, I64 x.round, I64 x.state, I64 x.cycle]]) rfl (r1) rfl ?_)|refine CallG.off ?_|with_reducible refine Or.inl ?_|simp only [thenS,blockS]|with_reducible refine And.intro ?_ ?_|with_reducible exact True.intro|simp (dsimp:=false) only [↓gq,↓stepP,↓stepG,go_sem,bne_self_eq_false])
      all_goals (try (first|(intro hg;simp [hg];done)|exact of_decide_eq_true rfl|(cases h;done)))
      (refine Fin.valV (V8 104 0) (by first | exact .inr rfl | exact .inl rfl) (by simp (dsimp:=false) only [↓gq,↓stepP,↓stepG,go_sem,resL]; rfl) (by simp only [and_self]) rfl (by simp [pnil, V8]) (by simp [resP, toDL, idsL, pnil, V8]))
    · have n1 : (e1 != 0) = true := by simpa using h1
      rw [if_pos h1]
      simp only [deskH, deskB, deskB2, Desk.cells, Desk.book, saidD, Msg.d, Msg.cells, about, Item.d, Item.cells, List.cons_append, List.nil_append, List.map_cons, List.map_nil] at *
      refine Runs.of (kit Try.prog) Try.func175 rfl rfl (by rw [Try.ntmps175]; exact of_decide_eq_true rfl) ?_; rw [Try.ntmps175, Try.results175]
      repeat' (first|((first|refine goA rfl fun K hK=>?_|refine goB rfl fun K hK=>?_|refine goC rfl rfl fun K hK=>?_|refine goD rfl rfl fun K hK=>?_);simp (dsimp:=false) only [↓gq,↓stepP,↓stepG,go_sem,bne_self_eq_false,n1])|refine Pwp.seq ?_|refine Pwp.block ?_|(refine Pwp.exit ?_;simp only [thenS,blockS,if_true,if_false,reduceIte,Nat.reduceEqDiff,Nat.add_one_ne_zero,reduceCtorEq])|(refine Pwp.skip ?_;simp only [thenS,blockS])|(refine Pwp.cond rfl True.intro (fun h=>?_) (fun h=>?_)<;>(try (cases h;done))<;>(try simp only [h]))|refine Pwp.ret ?_|(refine hK _ ?_;clear hK K)|(refine hK _ _ rfl ?_;clear hK K)|(refine CallK.desk (cs:=[I64 d.me, .slc 8 (itemsD d.items), .slc 3 (ordersD d.orders), I64 d.far, nilD]) rfl rfl rfl r0 (by simp) ?_)|(refine CallK.toD (ds:=[.agg [I64 x.seller, I64 x.number, I64 x.buyer, I64 x.currency, I64 x.amount, I64 x.round, I64 x.state, I64 x.cycle]]) rfl (r1) rfl ?_)|refine CallG.off ?_|with_reducible refine Or.inl ?_|simp only [thenS,blockS]|with_reducible refine And.intro ?_ ?_|with_reducible exact True.intro|simp (dsimp:=false) only [↓gq,↓stepP,↓stepG,go_sem,bne_self_eq_false,n1])
      all_goals (try (first|(intro hg;simp [hg];done)|exact of_decide_eq_true rfl|(cases h;done)))
      (refine Fin.valV V0 (by first | exact .inr rfl | exact .inl rfl) (by simp (dsimp:=false) only [↓gq,↓stepP,↓stepG,go_sem,resL]; rfl) (by simp only [and_self]) rfl (by simp [pnil, V8]) (by simp [resP, toDL, idsL, pnil, V8]))
  · have n0 : (e0 != 0) = true := by simpa using h0
    rw [if_pos h0]
    simp only [deskH, deskB, deskB2, Desk.cells, Desk.book, saidD, Msg.d, Msg.cells, about, Item.d, Item.cells, List.cons_append, List.nil_append, List.map_cons, List.map_nil] at *
    refine Runs.of (kit Try.prog) Try.func175 rfl rfl (by rw [Try.ntmps175]; exact of_decide_eq_true rfl) ?_; rw [Try.ntmps175, Try.results175]
    repeat' (first|((first|refine goA rfl fun K hK=>?_|refine goB rfl fun K hK=>?_|refine goC rfl rfl fun K hK=>?_|refine goD rfl rfl fun K hK=>?_);simp (dsimp:=false) only [↓gq,↓stepP,↓stepG,go_sem,n0])|refine Pwp.seq ?_|refine Pwp.block ?_|(refine Pwp.exit ?_;simp only [thenS,blockS,if_true,if_false,reduceIte,Nat.reduceEqDiff,Nat.add_one_ne_zero,reduceCtorEq])|(refine Pwp.skip ?_;simp only [thenS,blockS])|(refine Pwp.cond rfl True.intro (fun h=>?_) (fun h=>?_)<;>(try (cases h;done))<;>(try simp only [h]))|refine Pwp.ret ?_|(refine hK _ ?_;clear hK K)|(refine hK _ _ rfl ?_;clear hK K)|(refine CallK.desk (cs:=[I64 d.me, .slc 8 (itemsD d.items), .slc 3 (ordersD d.orders), I64 d.far, nilD]) rfl rfl rfl r0 (by simp) ?_)|refine CallG.off ?_|with_reducible refine Or.inl ?_|simp only [thenS,blockS]|with_reducible refine And.intro ?_ ?_|with_reducible exact True.intro|simp (dsimp:=false) only [↓gq,↓stepP,↓stepG,go_sem,n0])
    all_goals (try (first|(intro hg;simp [hg];done)|exact of_decide_eq_true rfl|(cases h;done)))
    (refine Fin.valV V0 (by first | exact .inr rfl | exact .inl rfl) (by simp (dsimp:=false) only [↓gq,↓stepP,↓stepG,go_sem,resL]; rfl) (by simp only [and_self]) rfl (by simp [pnil, V8]) (by simp [resP, toDL, idsL, pnil, V8]))
def dueR (d : Desk) (m : Msg) (from' : Int) : Out := if mineE d m.seller m.number ≠ 0 then ⟨mineE d m.seller m.number, d, none⟩ else if (getI d.items m.seller m.number).round ≠ m.round then ⟨90, d, none⟩ else if stepE (getI d.items m.seller m.number) 2 ≠ 0 then ⟨stepE (getI d.items m.seller m.number) 2, d, none⟩ else ⟨putE d.me d.items (stepI (getI d.items m.seller m.number) 2 4), d.put (stepI (getI d.items m.seller m.number) 2 4), some (saidD (stepI (getI d.items m.seller m.number) 2 4).buyer (about 9 (stepI (getI d.items m.seller m.number) 2 4)))⟩
set_option maxHeartbeats 16000000 in
theorem run176 (d : Desk) (m : Msg) (from' : Int) (hl : d.items.length ≤ 100000) : Runs Try.prog 176 [.ref 0 0, .d m.d, pint .i64 from'] [(0, deskB d)] (pint .i64 (dueR d m from').e) (deskH (dueR d m from').d (dueR d m from').o) := by
  have r0 := run219 d m.seller m.number hl
  change Runs Try.prog 219 _ _ (.d (.tup [_, I64 (mineE d m.seller m.number)])) _ at r0
  have r1 := run221 (getI d.items m.seller m.number)
  have r2 := run218 d (stepI (getI d.items m.seller m.number) 2 4).buyer 9 (stepI (getI d.items m.seller m.number) 2 4)
  have r3 := run217b d (stepI (getI d.items m.seller m.number) 2 4) (saidD (stepI (getI d.items m.seller m.number) 2 4).buyer (about 9 (stepI (getI d.items m.seller m.number) 2 4))) hl
  unfold dueR
  generalize hy : stepI (getI d.items m.seller m.number) 2 4 = y at *
  generalize he1 : stepE (getI d.items m.seller m.number) 2 = e1 at *
  generalize hx : getI d.items m.seller m.number = x at *
  generalize he0 : mineE d m.seller m.number = e0 at *
  generalize hpe : putE d.me d.items y = pe at *
  generalize hpd : d.put y = d2 at *
  clear hy he1 hx he0 hpe hpd
  by_cases h0 : e0 = 0
  · subst h0
    rw [if_neg (by simp)]
    by_cases hc1 : x.round = m.round
    · have c1 : (x.round != m.round) = false := by simp [hc1]
      rw [if_neg (by simpa using hc1)]
      by_cases h1 : e1 = 0
      · subst h1
        rw [if_neg (by simp)]
        simp only [deskH, deskB, deskB2, Desk.cells, Desk.book, saidD, Msg.d, Msg.cells, about, Item.d, Item.cells, List.cons_append, List.nil_append, List.map_cons, List.map_nil] at *
        refine Runs.of (kit Try.prog) Try.func176 rfl rfl (by rw [Try.ntmps176]; exact of_decide_eq_true rfl) ?_; rw [Try.ntmps176, Try.results176]
        repeat' (first|((first|refine goA rfl fun K hK=>?_|refine goB rfl fun K hK=>?_|refine goC rfl rfl fun K hK=>?_|refine goD rfl rfl fun K hK=>?_);simp (dsimp:=false) only [↓gq,↓stepP,↓stepG,go_sem,bne_self_eq_false,c1])|refine Pwp.seq ?_|refine Pwp.block ?_|(refine Pwp.exit ?_;simp only [thenS,blockS,if_true,if_false,reduceIte,Nat.reduceEqDiff,Nat.add_one_ne_zero,reduceCtorEq])|(refine Pwp.skip ?_;simp only [thenS,blockS])|(refine Pwp.cond rfl True.intro (fun h=>?_) (fun h=>?_)<;>(try (cases h;done))<;>(try simp only [h]))|refine Pwp.ret ?_|(refine hK _ ?_;clear hK K)|(refine hK _ _ rfl ?_;clear hK K)|(refine CallK.desk (cs:=[I64 d.me, .slc 8 (itemsD d.items), .slc 3 (ordersD d.orders), I64 d.far, nilD]) rfl rfl rfl r0 (by simp) ?_)|(refine CallK.desk (cs:=[I64 d.me, .slc 8 (itemsD d.items), .slc 3 (ordersD d.orders), I64 d.far, nilD]) rfl rfl rfl r2 (by simp) ?_)|(refine CallK.desk2 (cs:=[I64 d.me, .slc 8 (itemsD d.items), .slc 3 (ordersD d.orders), I64 d.far]) rfl rfl rfl rfl (of_decide_eq_true rfl) r3 (by simp) ?_)|(refine CallK.toD (ds:=[.agg [I64 x.seller, I64 x.number, I64 x.buyer, I64 x.currency, I64 x.amount, I64 x.round, I64 x.state, I64 x.cycle]]) rfl (r1) rfl ?_)|refine CallG.off ?_|with_reducible refine Or.inl ?_|simp only [thenS,blockS]|with_reducible refine And.intro ?_ ?_|with_reducible exact True.intro|simp (dsimp:=false) only [↓gq,↓stepP,↓stepG,go_sem,bne_self_eq_false,c1])
        all_goals (try (first|(intro hg;simp [hg];done)|exact of_decide_eq_true rfl|(cases h;done)))
        (refine Fin.valV (V8 132 0) (by first | exact .inr rfl | exact .inl rfl) (by simp (dsimp:=false) only [↓gq,↓stepP,↓stepG,go_sem,resL]; rfl) (by simp only [and_self]) rfl (by simp [pnil, V8]) (by simp [resP, toDL, idsL, pnil, V8]))
      · have n1 : (e1 != 0) = true := by simpa using h1
        rw [if_pos h1]
        simp only [deskH, deskB, deskB2, Desk.cells, Desk.book, saidD, Msg.d, Msg.cells, about, Item.d, Item.cells, List.cons_append, List.nil_append, List.map_cons, List.map_nil] at *
        refine Runs.of (kit Try.prog) Try.func176 rfl rfl (by rw [Try.ntmps176]; exact of_decide_eq_true rfl) ?_; rw [Try.ntmps176, Try.results176]
        repeat' (first|((first|refine goA rfl fun K hK=>?_|refine goB rfl fun K hK=>?_|refine goC rfl rfl fun K hK=>?_|refine goD rfl rfl fun K hK=>?_);simp (dsimp:=false) only [↓gq,↓stepP,↓stepG,go_sem,bne_self_eq_false,c1,n1])|refine Pwp.seq ?_|refine Pwp.block ?_|(refine Pwp.exit ?_;simp only [thenS,blockS,if_true,if_false,reduceIte,Nat.reduceEqDiff,Nat.add_one_ne_zero,reduceCtorEq])|(refine Pwp.skip ?_;simp only [thenS,blockS])|(refine Pwp.cond rfl True.intro (fun h=>?_) (fun h=>?_)<;>(try (cases h;done))<;>(try simp only [h]))|refine Pwp.ret ?_|(refine hK _ ?_;clear hK K)|(refine hK _ _ rfl ?_;clear hK K)|(refine CallK.desk (cs:=[I64 d.me, .slc 8 (itemsD d.items), .slc 3 (ordersD d.orders), I64 d.far, nilD]) rfl rfl rfl r0 (by simp) ?_)|(refine CallK.toD (ds:=[.agg [I64 x.seller, I64 x.number, I64 x.buyer, I64 x.currency, I64 x.amount, I64 x.round, I64 x.state, I64 x.cycle]]) rfl (r1) rfl ?_)|refine CallG.off ?_|with_reducible refine Or.inl ?_|simp only [thenS,blockS]|with_reducible refine And.intro ?_ ?_|with_reducible exact True.intro|simp (dsimp:=false) only [↓gq,↓stepP,↓stepG,go_sem,bne_self_eq_false,c1,n1])
        all_goals (try (first|(intro hg;simp [hg];done)|exact of_decide_eq_true rfl|(cases h;done)))
        (refine Fin.valV V0 (by first | exact .inr rfl | exact .inl rfl) (by simp (dsimp:=false) only [↓gq,↓stepP,↓stepG,go_sem,resL]; rfl) (by simp only [and_self]) rfl (by simp [pnil, V8]) (by simp [resP, toDL, idsL, pnil, V8]))
    · have c1 : (x.round != m.round) = true := by simpa using hc1
      rw [if_pos (by simpa using hc1)]
      simp only [deskH, deskB, deskB2, Desk.cells, Desk.book, saidD, Msg.d, Msg.cells, about, Item.d, Item.cells, List.cons_append, List.nil_append, List.map_cons, List.map_nil] at *
      refine Runs.of (kit Try.prog) Try.func176 rfl rfl (by rw [Try.ntmps176]; exact of_decide_eq_true rfl) ?_; rw [Try.ntmps176, Try.results176]
      repeat' (first|((first|refine goA rfl fun K hK=>?_|refine goB rfl fun K hK=>?_|refine goC rfl rfl fun K hK=>?_|refine goD rfl rfl fun K hK=>?_);simp (dsimp:=false) only [↓gq,↓stepP,↓stepG,go_sem,bne_self_eq_false,c1])|refine Pwp.seq ?_|refine Pwp.block ?_|(refine Pwp.exit ?_;simp only [thenS,blockS,if_true,if_false,reduceIte,Nat.reduceEqDiff,Nat.add_one_ne_zero,reduceCtorEq])|(refine Pwp.skip ?_;simp only [thenS,blockS])|(refine Pwp.cond rfl True.intro (fun h=>?_) (fun h=>?_)<;>(try (cases h;done))<;>(try simp only [h]))|refine Pwp.ret ?_|(refine hK _ ?_;clear hK K)|(refine hK _ _ rfl ?_;clear hK K)|(refine CallK.desk (cs:=[I64 d.me, .slc 8 (itemsD d.items), .slc 3 (ordersD d.orders), I64 d.far, nilD]) rfl rfl rfl r0 (by simp) ?_)|refine CallG.off ?_|with_reducible refine Or.inl ?_|simp only [thenS,blockS]|with_reducible refine And.intro ?_ ?_|with_reducible exact True.intro|simp (dsimp:=false) only [↓gq,↓stepP,↓stepG,go_sem,bne_self_eq_false,c1])
      all_goals (try (first|(intro hg;simp [hg];done)|exact of_decide_eq_true rfl|(cases h;done)))
      (refine Fin.valV V0 (by first | exact .inr rfl | exact .inl rfl) (by simp (dsimp:=false) only [↓gq,↓stepP,↓stepG,go_sem,resL]; rfl) (by simp only [and_self]) rfl (by simp [pnil, V8]) (by simp [resP, toDL, idsL, pnil, V8]))
  · have n0 : (e0 != 0) = true := by simpa using h0
    rw [if_pos h0]
    simp only [deskH, deskB, deskB2, Desk.cells, Desk.book, saidD, Msg.d, Msg.cells, about, Item.d, Item.cells, List.cons_append, List.nil_append, List.map_cons, List.map_nil] at *
    refine Runs.of (kit Try.prog) Try.func176 rfl rfl (by rw [Try.ntmps176]; exact of_decide_eq_true rfl) ?_; rw [Try.ntmps176, Try.results176]
    repeat' (first|((first|refine goA rfl fun K hK=>?_|refine goB rfl fun K hK=>?_|refine goC rfl rfl fun K hK=>?_|refine goD rfl rfl fun K hK=>?_);simp (dsimp:=false) only [↓gq,↓stepP,↓stepG,go_sem,n0])|refine Pwp.seq ?_|refine Pwp.block ?_|(refine Pwp.exit ?_;simp only [thenS,blockS,if_true,if_false,reduceIte,Nat.reduceEqDiff,Nat.add_one_ne_zero,reduceCtorEq])|(refine Pwp.skip ?_;simp only [thenS,blockS])|(refine Pwp.cond rfl True.intro (fun h=>?_) (fun h=>?_)<;>(try (cases h;done))<;>(try simp only [h]))|refine Pwp.ret ?_|(refine hK _ ?_;clear hK K)|(refine hK _ _ rfl ?_;clear hK K)|(refine CallK.desk (cs:=[I64 d.me, .slc 8 (itemsD d.items), .slc 3 (ordersD d.orders), I64 d.far, nilD]) rfl rfl rfl r0 (by simp) ?_)|refine CallG.off ?_|with_reducible refine Or.inl ?_|simp only [thenS,blockS]|with_reducible refine And.intro ?_ ?_|with_reducible exact True.intro|simp (dsimp:=false) only [↓gq,↓stepP,↓stepG,go_sem,n0])
    all_goals (try (first|(intro hg;simp [hg];done)|exact of_decide_eq_true rfl|(cases h;done)))
    (refine Fin.valV V0 (by first | exact .inr rfl | exact .inl rfl) (by simp (dsimp:=false) only [↓gq,↓stepP,↓stepG,go_sem,resL]; rfl) (by simp only [and_self]) rfl (by simp [pnil, V8]) (by simp [resP, toDL, idsL, pnil, V8]))
def adjustR (d : Desk) (m : Msg) (from' : Int) : Out := if mineE d m.seller m.number ≠ 0 then ⟨mineE d m.seller m.number, d, none⟩ else if adjE (getI d.items m.seller m.number) m.amount ≠ 0 then ⟨adjE (getI d.items m.seller m.number) m.amount, d, none⟩ else ⟨putE d.me d.items (adjI (getI d.items m.seller m.number) m.amount), d.put (adjI (getI d.items m.seller m.number) m.amount), some (saidD (adjI (getI d.items m.seller m.number) m.amount).buyer (about 6 (adjI (getI d.items m.seller m.number) m.amount)))⟩
set_option maxHeartbeats 16000000 in
theorem run174 (d : Desk) (m : Msg) (from' : Int) (hl : d.items.length ≤ 100000) (hr : 0 ≤ (getI d.items m.seller m.number).round ∧ (getI d.items m.seller m.number).round ≤ 3) : Runs Try.prog 174 [.ref 0 0, .d m.d, pint .i64 from'] [(0, deskB d)] (pint .i64 (adjustR d m from').e) (deskH (adjustR d m from').d (adjustR d m from').o) := by
  have r0 := run219 d m.seller m.number hl
  change Runs Try.prog 219 _ _ (.d (.tup [_, I64 (mineE d m.seller m.number)])) _ at r0
  have r1 := run220 (getI d.items m.seller m.number) m.amount hr
  have r2 := run218 d (adjI (getI d.items m.seller m.number) m.amount).buyer 6 (adjI (getI d.items m.seller m.number) m.amount)
  have r3 := run217b d (adjI (getI d.items m.seller m.number) m.amount) (saidD (adjI (getI d.items m.seller m.number) m.amount).buyer (about 6 (adjI (getI d.items m.seller m.number) m.amount))) hl
  unfold adjustR
  generalize hy : adjI (getI d.items m.seller m.number) m.amount = y at *
  generalize he1 : adjE (getI d.items m.seller m.number) m.amount = e1 at *
  generalize hx : getI d.items m.seller m.number = x at *
  generalize he0 : mineE d m.seller m.number = e0 at *
  generalize hpe : putE d.me d.items y = pe at *
  generalize hpd : d.put y = d2 at *
  clear hy he1 hx he0 hpe hpd
  by_cases h0 : e0 = 0
  · subst h0
    rw [if_neg (by simp)]
    by_cases h1 : e1 = 0
    · subst h1
      rw [if_neg (by simp)]
      simp only [deskH, deskB, deskB2, Desk.cells, Desk.book, saidD, Msg.d, Msg.cells, about, Item.d, Item.cells, List.cons_append, List.nil_append, List.map_cons, List.map_nil] at *
      refine Runs.of (kit Try.prog) Try.func174 rfl rfl (by rw [Try.ntmps174]; exact of_decide_eq_true rfl) ?_; rw [Try.ntmps174, Try.results174]
      repeat' (first|((first|refine goA rfl fun K hK=>?_|refine goB rfl fun K hK=>?_|refine goC rfl rfl fun K hK=>?_|refine goD rfl rfl fun K hK=>?_);simp (dsimp:=false) only [↓gq,↓stepP,↓stepG,go_sem,bne_self_eq_false])|refine Pwp.seq ?_|refine Pwp.block ?_|(refine Pwp.exit ?_;simp only [thenS,blockS,if_true,if_false,reduceIte,Nat.reduceEqDiff,Nat.add_one_ne_zero,reduceCtorEq])|(refine Pwp.skip ?_;simp only [thenS,blockS])|(refine Pwp.cond rfl True.intro (fun h=>?_) (fun h=>?_)<;>(try (cases h;done))<;>(try simp only [h]))|refine Pwp.ret ?_|(refine hK _ ?_;clear hK K)|(refine hK _ _ rfl ?_;clear hK K)|(refine CallK.desk (cs:=[I64 d.me, .slc 8 (itemsD d.items), .slc 3 (ordersD d.orders), I64 d.far, nilD]) rfl rfl rfl r0 (by simp) ?_)|(refine CallK.desk (cs:=[I64 d.me, .slc 8 (itemsD d.items), .slc 3 (ordersD d.orders), I64 d.far, nilD]) rfl rfl rfl r2 (by simp) ?_)|(refine CallK.desk2 (cs:=[I64 d.me, .slc 8 (itemsD d.items), .slc 3 (ordersD d.orders), I64 d.far]) rfl rfl rfl rfl (of_decide_eq_true rfl) r3 (by simp) ?_)|(refine CallK.toD (ds:=[.agg [I64 x.seller, I64 x.number, I64 x.buyer, I64 x.currency, I64 x.amount, I64 x.round, I64 x.state, I64 x.cycle], I64 m.amount]) rfl (r1) rfl ?_)|refine CallG.off ?_|with_reducible refine Or.inl ?_|simp only [thenS,blockS]|with_reducible refine And.intro ?_ ?_|with_reducible exact True.intro|simp (dsimp:=false) only [↓gq,↓stepP,↓stepG,go_sem,bne_self_eq_false])
      all_goals (try (first|(intro hg;simp [hg];done)|exact of_decide_eq_true rfl|(cases h;done)))
      (refine Fin.valV (V8 112 0) (by first | exact .inr rfl | exact .inl rfl) (by simp (dsimp:=false) only [↓gq,↓stepP,↓stepG,go_sem,resL]; rfl) (by simp only [and_self]) rfl (by simp [pnil, V8]) (by simp [resP, toDL, idsL, pnil, V8]))
    · have n1 : (e1 != 0) = true := by simpa using h1
      rw [if_pos h1]
      simp only [deskH, deskB, deskB2, Desk.cells, Desk.book, saidD, Msg.d, Msg.cells, about, Item.d, Item.cells, List.cons_append, List.nil_append, List.map_cons, List.map_nil] at *
      refine Runs.of (kit Try.prog) Try.func174 rfl rfl (by rw [Try.ntmps174]; exact of_decide_eq_true rfl) ?_; rw [Try.ntmps174, Try.results174]
      repeat' (first|((first|refine goA rfl fun K hK=>?_|refine goB rfl fun K hK=>?_|refine goC rfl rfl fun K hK=>?_|refine goD rfl rfl fun K hK=>?_);simp (dsimp:=false) only [↓gq,↓stepP,↓stepG,go_sem,bne_self_eq_false,n1])|refine Pwp.seq ?_|refine Pwp.block ?_|(refine Pwp.exit ?_;simp only [thenS,blockS,if_true,if_false,reduceIte,Nat.reduceEqDiff,Nat.add_one_ne_zero,reduceCtorEq])|(refine Pwp.skip ?_;simp only [thenS,blockS])|(refine Pwp.cond rfl True.intro (fun h=>?_) (fun h=>?_)<;>(try (cases h;done))<;>(try simp only [h]))|refine Pwp.ret ?_|(refine hK _ ?_;clear hK K)|(refine hK _ _ rfl ?_;clear hK K)|(refine CallK.desk (cs:=[I64 d.me, .slc 8 (itemsD d.items), .slc 3 (ordersD d.orders), I64 d.far, nilD]) rfl rfl rfl r0 (by simp) ?_)|(refine CallK.toD (ds:=[.agg [I64 x.seller, I64 x.number, I64 x.buyer, I64 x.currency, I64 x.amount, I64 x.round, I64 x.state, I64 x.cycle], I64 m.amount]) rfl (r1) rfl ?_)|refine CallG.off ?_|with_reducible refine Or.inl ?_|simp only [thenS,blockS]|with_reducible refine And.intro ?_ ?_|with_reducible exact True.intro|simp (dsimp:=false) only [↓gq,↓stepP,↓stepG,go_sem,bne_self_eq_false,n1])
      all_goals (try (first|(intro hg;simp [hg];done)|exact of_decide_eq_true rfl|(cases h;done)))
      (refine Fin.valV V0 (by first | exact .inr rfl | exact .inl rfl) (by simp (dsimp:=false) only [↓gq,↓stepP,↓stepG,go_sem,resL]; rfl) (by simp only [and_self]) rfl (by simp [pnil, V8]) (by simp [resP, toDL, idsL, pnil, V8]))
  · have n0 : (e0 != 0) = true := by simpa using h0
    rw [if_pos h0]
    simp only [deskH, deskB, deskB2, Desk.cells, Desk.book, saidD, Msg.d, Msg.cells, about, Item.d, Item.cells, List.cons_append, List.nil_append, List.map_cons, List.map_nil] at *
    refine Runs.of (kit Try.prog) Try.func174 rfl rfl (by rw [Try.ntmps174]; exact of_decide_eq_true rfl) ?_; rw [Try.ntmps174, Try.results174]
    repeat' (first|((first|refine goA rfl fun K hK=>?_|refine goB rfl fun K hK=>?_|refine goC rfl rfl fun K hK=>?_|refine goD rfl rfl fun K hK=>?_);simp (dsimp:=false) only [↓gq,↓stepP,↓stepG,go_sem,n0])|refine Pwp.seq ?_|refine Pwp.block ?_|(refine Pwp.exit ?_;simp only [thenS,blockS,if_true,if_false,reduceIte,Nat.reduceEqDiff,Nat.add_one_ne_zero,reduceCtorEq])|(refine Pwp.skip ?_;simp only [thenS,blockS])|(refine Pwp.cond rfl True.intro (fun h=>?_) (fun h=>?_)<;>(try (cases h;done))<;>(try simp only [h]))|refine Pwp.ret ?_|(refine hK _ ?_;clear hK K)|(refine hK _ _ rfl ?_;clear hK K)|(refine CallK.desk (cs:=[I64 d.me, .slc 8 (itemsD d.items), .slc 3 (ordersD d.orders), I64 d.far, nilD]) rfl rfl rfl r0 (by simp) ?_)|refine CallG.off ?_|with_reducible refine Or.inl ?_|simp only [thenS,blockS]|with_reducible refine And.intro ?_ ?_|with_reducible exact True.intro|simp (dsimp:=false) only [↓gq,↓stepP,↓stepG,go_sem,n0])
    all_goals (try (first|(intro hg;simp [hg];done)|exact of_decide_eq_true rfl|(cases h;done)))
    (refine Fin.valV V0 (by first | exact .inr rfl | exact .inl rfl) (by simp (dsimp:=false) only [↓gq,↓stepP,↓stepG,go_sem,resL]; rfl) (by simp only [and_self]) rfl (by simp [pnil, V8]) (by simp [resP, toDL, idsL, pnil, V8]))
end Go.Proofs.Ytdodgbhodkcckaa.Pv
end
section
set_option linter.unusedVariables false
set_option linter.unusedSimpArgs false
set_option autoImplicit false
set_option maxRecDepth 100000
namespace Go.Proofs.Ytdodgbhodkcckaa.Pv
open Go Go.RowKit
def disputeR (d : Desk) (m : Msg) (from' : Int) : Out := if ansE d m from' ≠ 0 then ⟨ansE d m from', d, none⟩ else if stepE (getI d.items m.seller m.number) 1 ≠ 0 then ⟨stepE (getI d.items m.seller m.number) 1, d, none⟩
  else if (stepI (getI d.items m.seller m.number) 1 2).round = 3 then ⟨putE d.me d.items (stepI (stepI (getI d.items m.seller m.number) 1 2) 2 4), d.put (stepI (stepI (getI d.items m.seller m.number) 1 2) 2 4), some (saidD from' (about 9 (stepI (stepI (getI d.items m.seller m.number) 1 2) 2 4)))⟩
  else ⟨putE d.me d.items (stepI (getI d.items m.seller m.number) 1 2), d.put (stepI (getI d.items m.seller m.number) 1 2), none⟩
set_option maxHeartbeats 16000000 in
theorem run179 (d : Desk) (m : Msg) (from' : Int) (hl : d.items.length ≤ 100000) : Runs Try.prog 179 [.ref 0 0, .d m.d, pint .i64 from'] [(0, deskB d)] (pint .i64 (disputeR d m from').e) (deskH (disputeR d m from').d (disputeR d m from').o) := by
  have r0 := run226 d m from' hl
  have r1 := run225 (getI d.items m.seller m.number)
  have r4 := run221 (stepI (getI d.items m.seller m.number) 1 2)
  have r2 := run218 d from' 9 (stepI (stepI (getI d.items m.seller m.number) 1 2) 2 4)
  have r3 := run217b d (stepI (stepI (getI d.items m.seller m.number) 1 2) 2 4) (saidD from' (about 9 (stepI (stepI (getI d.items m.seller m.number) 1 2) 2 4))) hl
  have r5 := run217 d (stepI (getI d.items m.seller m.number) 1 2) hl
  unfold disputeR
  generalize hz : stepI (stepI (getI d.items m.seller m.number) 1 2) 2 4 = z at *
  generalize he2 : stepE (stepI (getI d.items m.seller m.number) 1 2) 2 = e2 at *
  generalize hy : stepI (getI d.items m.seller m.number) 1 2 = y at *
  generalize he1 : stepE (getI d.items m.seller m.number) 1 = e1 at *
  generalize hx : getI d.items m.seller m.number = x at *
  generalize he0 : ansE d m from' = e0 at *
  generalize hpz : putE d.me d.items z = pz at *
  generalize hpe : putE d.me d.items y = pe at *
  generalize hdz : d.put z = dz at *
  generalize hpd : d.put y = d2 at *
  clear hz hy he2 he1 hx he0 hpe hpd hpz hdz
  by_cases h0 : e0 = 0
  · subst h0
    rw [if_neg (by simp)]
    by_cases h1 : e1 = 0
    · subst h1
      rw [if_neg (by simp)]
      by_cases h3 : y.round = 3
      · have c3 : (y.round == 3) = true := by simp [h3]
        rw [if_pos h3]
        simp only [deskH, deskB, deskB2, Desk.cells, Desk.book, saidD, Msg.d, Msg.cells, about, Item.d, Item.cells, List.cons_append, List.nil_append, List.map_cons, List.map_nil] at *
        refine Runs.of (kit Try.prog) Try.func179 rfl rfl (by rw [Try.ntmps179]; exact of_decide_eq_true rfl) ?_; rw [Try.ntmps179, Try.results179]
        repeat' (first|((first|refine goA rfl fun K hK=>?_|refine goB rfl fun K hK=>?_|refine goC rfl rfl fun K hK=>?_|refine goD rfl rfl fun K hK=>?_);simp (dsimp:=false) only [↓gq,↓stepP,↓stepG,go_sem,bne_self_eq_false,c3])|refine Pwp.seq ?_|refine Pwp.block ?_|(refine Pwp.exit ?_;simp only [thenS,blockS,if_true,if_false,reduceIte,Nat.reduceEqDiff,Nat.add_one_ne_zero,reduceCtorEq])|(refine Pwp.skip ?_;simp only [thenS,blockS])|(refine Pwp.cond rfl True.intro (fun h=>?_) (fun h=>?_)<;>(try (cases h;done))<;>(try simp only [h]))|refine Pwp.ret ?_|(refine hK _ ?_;clear hK K)|(refine hK _ _ rfl ?_;clear hK K)|(refine CallK.desk (cs:=[I64 d.me, .slc 8 (itemsD d.items), .slc 3 (ordersD d.orders), I64 d.far, nilD]) rfl rfl rfl r0 (by simp) ?_)|(refine CallK.desk (cs:=[I64 d.me, .slc 8 (itemsD d.items), .slc 3 (ordersD d.orders), I64 d.far, nilD]) rfl rfl rfl r2 (by simp) ?_)|(refine CallK.desk2 (cs:=[I64 d.me, .slc 8 (itemsD d.items), .slc 3 (ordersD d.orders), I64 d.far]) rfl rfl rfl rfl (of_decide_eq_true rfl) r3 (by simp) ?_)|(refine CallK.toD (ds:=[.agg [I64 x.seller, I64 x.number, I64 x.buyer, I64 x.currency, I64 x.amount, I64 x.round, I64 x.state, I64 x.cycle]]) rfl (r1) rfl ?_)|(refine CallK.toD (ds:=[.agg [I64 y.seller, I64 y.number, I64 y.buyer, I64 y.currency, I64 y.amount, I64 y.round, I64 y.state, I64 y.cycle]]) rfl (r4) rfl ?_)|refine CallG.off ?_|with_reducible refine Or.inl ?_|simp only [thenS,blockS]|with_reducible refine And.intro ?_ ?_|with_reducible exact True.intro|simp (dsimp:=false) only [↓gq,↓stepP,↓stepG,go_sem,bne_self_eq_false,c3])
        all_goals (try (first|(intro hg;simp [hg];done)|exact of_decide_eq_true rfl|(cases h;done)))
        (refine Fin.valV (V8 139 0) (by first | exact .inr rfl | exact .inl rfl) (by simp (dsimp:=false) only [↓gq,↓stepP,↓stepG,go_sem,resL]; rfl) (by simp only [and_self]) rfl (by simp [pnil, V8]) (by simp [resP, toDL, idsL, pnil, V8]))
      · have c3 : (y.round == 3) = false := by simpa using h3
        rw [if_neg h3]
        simp only [deskH, deskB, deskB2, Desk.cells, Desk.book, saidD, Msg.d, Msg.cells, about, Item.d, Item.cells, List.cons_append, List.nil_append, List.map_cons, List.map_nil] at *
        refine Runs.of (kit Try.prog) Try.func179 rfl rfl (by rw [Try.ntmps179]; exact of_decide_eq_true rfl) ?_; rw [Try.ntmps179, Try.results179]
        repeat' (first|((first|refine goA rfl fun K hK=>?_|refine goB rfl fun K hK=>?_|refine goC rfl rfl fun K hK=>?_|refine goD rfl rfl fun K hK=>?_);simp (dsimp:=false) only [↓gq,↓stepP,↓stepG,go_sem,bne_self_eq_false,c3])|refine Pwp.seq ?_|refine Pwp.block ?_|(refine Pwp.exit ?_;simp only [thenS,blockS,if_true,if_false,reduceIte,Nat.reduceEqDiff,Nat.add_one_ne_zero,reduceCtorEq])|(refine Pwp.skip ?_;simp only [thenS,blockS])|(refine Pwp.cond rfl True.intro (fun h=>?_) (fun h=>?_)<;>(try (cases h;done))<;>(try simp only [h]))|refine Pwp.ret ?_|(refine hK _ ?_;clear hK K)|(refine hK _ _ rfl ?_;clear hK K)|(refine CallK.desk (cs:=[I64 d.me, .slc 8 (itemsD d.items), .slc 3 (ordersD d.orders), I64 d.far, nilD]) rfl rfl rfl r0 (by simp) ?_)|(refine CallK.desk (cs:=[I64 d.me, .slc 8 (itemsD d.items), .slc 3 (ordersD d.orders), I64 d.far, nilD]) rfl rfl rfl r5 (by simp) ?_)|(refine CallK.toD (ds:=[.agg [I64 x.seller, I64 x.number, I64 x.buyer, I64 x.currency, I64 x.amount, I64 x.round, I64 x.state, I64 x.cycle]]) rfl (r1) rfl ?_)|refine CallG.off ?_|with_reducible refine Or.inl ?_|simp only [thenS,blockS]|with_reducible refine And.intro ?_ ?_|with_reducible exact True.intro|simp (dsimp:=false) only [↓gq,↓stepP,↓stepG,go_sem,bne_self_eq_false,c3])
        all_goals (try (first|(intro hg;simp [hg];done)|exact of_decide_eq_true rfl|(cases h;done)))
        (refine Fin.valV V0 (by first | exact .inr rfl | exact .inl rfl) (by simp (dsimp:=false) only [↓gq,↓stepP,↓stepG,go_sem,resL]; rfl) (by simp only [and_self]) rfl (by simp [pnil, V8]) (by simp [resP, toDL, idsL, pnil, V8]))
    · have n1 : (e1 != 0) = true := by simpa using h1
      rw [if_pos h1]
      simp only [deskH, deskB, deskB2, Desk.cells, Desk.book, saidD, Msg.d, Msg.cells, about, Item.d, Item.cells, List.cons_append, List.nil_append, List.map_cons, List.map_nil] at *
      refine Runs.of (kit Try.prog) Try.func179 rfl rfl (by rw [Try.ntmps179]; exact of_decide_eq_true rfl) ?_; rw [Try.ntmps179, Try.results179]
      repeat' (first|((first|refine goA rfl fun K hK=>?_|refine goB rfl fun K hK=>?_|refine goC rfl rfl fun K hK=>?_|refine goD rfl rfl fun K hK=>?_);simp (dsimp:=false) only [↓gq,↓stepP,↓stepG,go_sem,bne_self_eq_false,n1])|refine Pwp.seq ?_|refine Pwp.block ?_|(refine Pwp.exit ?_;simp only [thenS,blockS,if_true,if_false,reduceIte,Nat.reduceEqDiff,Nat.add_one_ne_zero,reduceCtorEq])|(refine Pwp.skip ?_;simp only [thenS,blockS])|(refine Pwp.cond rfl True.intro (fun h=>?_) (fun h=>?_)<;>(try (cases h;done))<;>(try simp only [h]))|refine Pwp.ret ?_|(refine hK _ ?_;clear hK K)|(refine hK _ _ rfl ?_;clear hK K)|(refine CallK.desk (cs:=[I64 d.me, .slc 8 (itemsD d.items), .slc 3 (ordersD d.orders), I64 d.far, nilD]) rfl rfl rfl r0 (by simp) ?_)|(refine CallK.toD (ds:=[.agg [I64 x.seller, I64 x.number, I64 x.buyer, I64 x.currency, I64 x.amount, I64 x.round, I64 x.state, I64 x.cycle]]) rfl (r1) rfl ?_)|refine CallG.off ?_|with_reducible refine Or.inl ?_|simp only [thenS,blockS]|with_reducible refine And.intro ?_ ?_|with_reducible exact True.intro|simp (dsimp:=false) only [↓gq,↓stepP,↓stepG,go_sem,bne_self_eq_false,n1])
      all_goals (try (first|(intro hg;simp [hg];done)|exact of_decide_eq_true rfl|(cases h;done)))
      (refine Fin.valV V0 (by first | exact .inr rfl | exact .inl rfl) (by simp (dsimp:=false) only [↓gq,↓stepP,↓stepG,go_sem,resL]; rfl) (by simp only [and_self]) rfl (by simp [pnil, V8]) (by simp [resP, toDL, idsL, pnil, V8]))
  · have n0 : (e0 != 0) = true := by simpa using h0
    rw [if_pos h0]
    simp only [deskH, deskB, deskB2, Desk.cells, Desk.book, saidD, Msg.d, Msg.cells, about, Item.d, Item.cells, List.cons_append, List.nil_append, List.map_cons, List.map_nil] at *
    refine Runs.of (kit Try.prog) Try.func179 rfl rfl (by rw [Try.ntmps179]; exact of_decide_eq_true rfl) ?_; rw [Try.ntmps179, Try.results179]
    repeat' (first|((first|refine goA rfl fun K hK=>?_|refine goB rfl fun K hK=>?_|refine goC rfl rfl fun K hK=>?_|refine goD rfl rfl fun K hK=>?_);simp (dsimp:=false) only [↓gq,↓stepP,↓stepG,go_sem,n0])|refine Pwp.seq ?_|refine Pwp.block ?_|(refine Pwp.exit ?_;simp only [thenS,blockS,if_true,if_false,reduceIte,Nat.reduceEqDiff,Nat.add_one_ne_zero,reduceCtorEq])|(refine Pwp.skip ?_;simp only [thenS,blockS])|(refine Pwp.cond rfl True.intro (fun h=>?_) (fun h=>?_)<;>(try (cases h;done))<;>(try simp only [h]))|refine Pwp.ret ?_|(refine hK _ ?_;clear hK K)|(refine hK _ _ rfl ?_;clear hK K)|(refine CallK.desk (cs:=[I64 d.me, .slc 8 (itemsD d.items), .slc 3 (ordersD d.orders), I64 d.far, nilD]) rfl rfl rfl r0 (by simp) ?_)|refine CallG.off ?_|with_reducible refine Or.inl ?_|simp only [thenS,blockS]|with_reducible refine And.intro ?_ ?_|with_reducible exact True.intro|simp (dsimp:=false) only [↓gq,↓stepP,↓stepG,go_sem,n0])
    all_goals (try (first|(intro hg;simp [hg];done)|exact of_decide_eq_true rfl|(cases h;done)))
    (refine Fin.valV V0 (by first | exact .inr rfl | exact .inl rfl) (by simp (dsimp:=false) only [↓gq,↓stepP,↓stepG,go_sem,resL]; rfl) (by simp only [and_self]) rfl (by simp [pnil, V8]) (by simp [resP, toDL, idsL, pnil, V8]))
def cancelR (d : Desk) (m : Msg) (from' : Int) : Out := if isIn d.items m.seller m.number = false then ⟨4, d, none⟩ else if (from' != (getI d.items m.seller m.number).seller || (getI d.items m.seller m.number).buyer != d.me) = true then ⟨140, d, none⟩ else if (getI d.items m.seller m.number).round ≠ m.round then ⟨90, d, none⟩
  else if stepE (getI d.items m.seller m.number) 2 ≠ 0 then ⟨stepE (getI d.items m.seller m.number) 2, d, none⟩ else ⟨putE d.me d.items (stepI (getI d.items m.seller m.number) 2 4), d.put (stepI (getI d.items m.seller m.number) 2 4), none⟩
set_option maxHeartbeats 16000000 in
theorem run180 (d : Desk) (m : Msg) (from' : Int) (hl : d.items.length ≤ 100000) : Runs Try.prog 180 [.ref 0 0, .d m.d, pint .i64 from'] [(0, deskB d)] (pint .i64 (cancelR d m from').e) (deskH (cancelR d m from').d (cancelR d m from').o) := by
  have r0 := run65 d.me d.items (ordersD d.orders) m.seller m.number (by omega)
  unfold bookD at r0
  have r1 := run221 (getI d.items m.seller m.number)
  have r3 := run217 d (stepI (getI d.items m.seller m.number) 2 4) hl
  unfold cancelR
  generalize hy : stepI (getI d.items m.seller m.number) 2 4 = y at *
  generalize he1 : stepE (getI d.items m.seller m.number) 2 = e1 at *
  generalize hx : getI d.items m.seller m.number = x at *
  generalize hi : isIn d.items m.seller m.number = b at *
  generalize hpe : putE d.me d.items y = pe at *
  generalize hpd : d.put y = d2 at *
  clear hy he1 hx hi hpe hpd
  cases b with
  | false =>
    rw [if_pos rfl]
    simp only [deskH, deskB, deskB2, Desk.cells, Desk.book, saidD, Msg.d, Msg.cells, about, Item.d, Item.cells, List.cons_append, List.nil_append, List.map_cons, List.map_nil] at *
    refine Runs.of (kit Try.prog) Try.func180 rfl rfl (by rw [Try.ntmps180]; exact of_decide_eq_true rfl) ?_; rw [Try.ntmps180, Try.results180]
    repeat' (first|((first|refine goA rfl fun K hK=>?_|refine goB rfl fun K hK=>?_|refine goC rfl rfl fun K hK=>?_|refine goD rfl rfl fun K hK=>?_);simp (dsimp:=false) only [↓gq,↓stepP,↓stepG,go_sem])|refine Pwp.seq ?_|refine Pwp.block ?_|(refine Pwp.exit ?_;simp only [thenS,blockS,if_true,if_false,reduceIte,Nat.reduceEqDiff,Nat.add_one_ne_zero,reduceCtorEq])|(refine Pwp.skip ?_;simp only [thenS,blockS])|(refine Pwp.cond rfl True.intro (fun h=>?_) (fun h=>?_)<;>(try (cases h;done))<;>(try simp only [h]))|refine Pwp.ret ?_|(refine hK _ ?_;clear hK K)|(refine hK _ _ rfl ?_;clear hK K)|(refine CallK.toD (ds:=[.agg [I64 d.me, .slc 8 (itemsD d.items), .slc 3 (ordersD d.orders)], .agg [I64 m.seller, I64 m.number]]) rfl (r0) rfl ?_)|refine CallG.off ?_|with_reducible refine Or.inl ?_|simp only [thenS,blockS]|with_reducible refine And.intro ?_ ?_|with_reducible exact True.intro|simp (dsimp:=false) only [↓gq,↓stepP,↓stepG,go_sem])
    all_goals (try (first|(intro hg;simp [hg];done)|exact of_decide_eq_true rfl|(cases h;done)))
    (refine Fin.valV V0 (by first | exact .inr rfl | exact .inl rfl) (by simp (dsimp:=false) only [↓gq,↓stepP,↓stepG,go_sem,resL]; rfl) (by simp only [and_self]) rfl (by simp [pnil, V8]) (by simp [resP, toDL, idsL, pnil, V8]))
  | true =>
    rw [if_neg (by simp)]
    cases c1 : (from' != x.seller || x.buyer != d.me) with
    | true =>
      rw [if_pos rfl]
      simp only [deskH, deskB, deskB2, Desk.cells, Desk.book, saidD, Msg.d, Msg.cells, about, Item.d, Item.cells, List.cons_append, List.nil_append, List.map_cons, List.map_nil] at *
      refine Runs.of (kit Try.prog) Try.func180 rfl rfl (by rw [Try.ntmps180]; exact of_decide_eq_true rfl) ?_; rw [Try.ntmps180, Try.results180]
      repeat' (first|((first|refine goA rfl fun K hK=>?_|refine goB rfl fun K hK=>?_|refine goC rfl rfl fun K hK=>?_|refine goD rfl rfl fun K hK=>?_);simp (dsimp:=false) only [↓gq,↓stepP,↓stepG,go_sem,c1])|refine Pwp.seq ?_|refine Pwp.block ?_|(refine Pwp.exit ?_;simp only [thenS,blockS,if_true,if_false,reduceIte,Nat.reduceEqDiff,Nat.add_one_ne_zero,reduceCtorEq])|(refine Pwp.skip ?_;simp only [thenS,blockS])|(refine Pwp.cond rfl True.intro (fun h=>?_) (fun h=>?_)<;>(try (cases h;done))<;>(try simp only [h]))|refine Pwp.ret ?_|(refine hK _ ?_;clear hK K)|(refine hK _ _ rfl ?_;clear hK K)|(refine CallK.toD (ds:=[.agg [I64 d.me, .slc 8 (itemsD d.items), .slc 3 (ordersD d.orders)], .agg [I64 m.seller, I64 m.number]]) rfl (r0) rfl ?_)|refine CallG.off ?_|with_reducible refine Or.inl ?_|simp only [thenS,blockS]|with_reducible refine And.intro ?_ ?_|with_reducible exact True.intro|simp (dsimp:=false) only [↓gq,↓stepP,↓stepG,go_sem,c1])
      all_goals (try (first|(intro hg;simp [hg];done)|exact of_decide_eq_true rfl|(cases h;done)))
      (refine Fin.valV V0 (by first | exact .inr rfl | exact .inl rfl) (by simp (dsimp:=false) only [↓gq,↓stepP,↓stepG,go_sem,resL]; rfl) (by simp only [and_self]) rfl (by simp [pnil, V8]) (by simp [resP, toDL, idsL, pnil, V8]))
    | false =>
      rw [if_neg (by simp)]
      by_cases h2 : x.round = m.round
      · have c2 : (x.round != m.round) = false := by simp [h2]
        rw [if_neg (by simpa using h2)]
        by_cases h1 : e1 = 0
        · subst h1
          rw [if_neg (by simp)]
          simp only [deskH, deskB, deskB2, Desk.cells, Desk.book, saidD, Msg.d, Msg.cells, about, Item.d, Item.cells, List.cons_append, List.nil_append, List.map_cons, List.map_nil] at *
          refine Runs.of (kit Try.prog) Try.func180 rfl rfl (by rw [Try.ntmps180]; exact of_decide_eq_true rfl) ?_; rw [Try.ntmps180, Try.results180]
          repeat' (first|((first|refine goA rfl fun K hK=>?_|refine goB rfl fun K hK=>?_|refine goC rfl rfl fun K hK=>?_|refine goD rfl rfl fun K hK=>?_);simp (dsimp:=false) only [↓gq,↓stepP,↓stepG,go_sem,c1,c2,bne_self_eq_false])|refine Pwp.seq ?_|refine Pwp.block ?_|(refine Pwp.exit ?_;simp only [thenS,blockS,if_true,if_false,reduceIte,Nat.reduceEqDiff,Nat.add_one_ne_zero,reduceCtorEq])|(refine Pwp.skip ?_;simp only [thenS,blockS])|(refine Pwp.cond rfl True.intro (fun h=>?_) (fun h=>?_)<;>(try (cases h;done))<;>(try simp only [h]))|refine Pwp.ret ?_|(refine hK _ ?_;clear hK K)|(refine hK _ _ rfl ?_;clear hK K)|(refine CallK.desk (cs:=[I64 d.me, .slc 8 (itemsD d.items), .slc 3 (ordersD d.orders), I64 d.far, nilD]) rfl rfl rfl r3 (by simp) ?_)|(refine CallK.toD (ds:=[.agg [I64 d.me, .slc 8 (itemsD d.items), .slc 3 (ordersD d.orders)], .agg [I64 m.seller, I64 m.number]]) rfl (r0) rfl ?_)|(refine CallK.toD (ds:=[.agg [I64 x.seller, I64 x.number, I64 x.buyer, I64 x.currency, I64 x.amount, I64 x.round, I64 x.state, I64 x.cycle]]) rfl (r1) rfl ?_)|refine CallG.off ?_|with_reducible refine Or.inl ?_|simp only [thenS,blockS]|with_reducible refine And.intro ?_ ?_|with_reducible exact True.intro|simp (dsimp:=false) only [↓gq,↓stepP,↓stepG,go_sem,c1,c2,bne_self_eq_false])
          all_goals (try (first|(intro hg;simp [hg];done)|exact of_decide_eq_true rfl|(cases h;done)))
          (refine Fin.valV V0 (by first | exact .inr rfl | exact .inl rfl) (by simp (dsimp:=false) only [↓gq,↓stepP,↓stepG,go_sem,resL]; rfl) (by simp only [and_self]) rfl (by simp [pnil, V8]) (by simp [resP, toDL, idsL, pnil, V8]))
        · have n1 : (e1 != 0) = true := by simpa using h1
          rw [if_pos h1]
          simp only [deskH, deskB, deskB2, Desk.cells, Desk.book, saidD, Msg.d, Msg.cells, about, Item.d, Item.cells, List.cons_append, List.nil_append, List.map_cons, List.map_nil] at *
          refine Runs.of (kit Try.prog) Try.func180 rfl rfl (by rw [Try.ntmps180]; exact of_decide_eq_true rfl) ?_; rw [Try.ntmps180, Try.results180]
          repeat' (first|((first|refine goA rfl fun K hK=>?_|refine goB rfl fun K hK=>?_|refine goC rfl rfl fun K hK=>?_|refine goD rfl rfl fun K hK=>?_);simp (dsimp:=false) only [↓gq,↓stepP,↓stepG,go_sem,c1,c2,n1])|refine Pwp.seq ?_|refine Pwp.block ?_|(refine Pwp.exit ?_;simp only [thenS,blockS,if_true,if_false,reduceIte,Nat.reduceEqDiff,Nat.add_one_ne_zero,reduceCtorEq])|(refine Pwp.skip ?_;simp only [thenS,blockS])|(refine Pwp.cond rfl True.intro (fun h=>?_) (fun h=>?_)<;>(try (cases h;done))<;>(try simp only [h]))|refine Pwp.ret ?_|(refine hK _ ?_;clear hK K)|(refine hK _ _ rfl ?_;clear hK K)|(refine CallK.toD (ds:=[.agg [I64 d.me, .slc 8 (itemsD d.items), .slc 3 (ordersD d.orders)], .agg [I64 m.seller, I64 m.number]]) rfl (r0) rfl ?_)|(refine CallK.toD (ds:=[.agg [I64 x.seller, I64 x.number, I64 x.buyer, I64 x.currency, I64 x.amount, I64 x.round, I64 x.state, I64 x.cycle]]) rfl (r1) rfl ?_)|refine CallG.off ?_|with_reducible refine Or.inl ?_|simp only [thenS,blockS]|with_reducible refine And.intro ?_ ?_|with_reducible exact True.intro|simp (dsimp:=false) only [↓gq,↓stepP,↓stepG,go_sem,c1,c2,n1])
          all_goals (try (first|(intro hg;simp [hg];done)|exact of_decide_eq_true rfl|(cases h;done)))
          (refine Fin.valV V0 (by first | exact .inr rfl | exact .inl rfl) (by simp (dsimp:=false) only [↓gq,↓stepP,↓stepG,go_sem,resL]; rfl) (by simp only [and_self]) rfl (by simp [pnil, V8]) (by simp [resP, toDL, idsL, pnil, V8]))
      · have c2 : (x.round != m.round) = true := by simpa using h2
        rw [if_pos (by simpa using h2)]
        simp only [deskH, deskB, deskB2, Desk.cells, Desk.book, saidD, Msg.d, Msg.cells, about, Item.d, Item.cells, List.cons_append, List.nil_append, List.map_cons, List.map_nil] at *
        refine Runs.of (kit Try.prog) Try.func180 rfl rfl (by rw [Try.ntmps180]; exact of_decide_eq_true rfl) ?_; rw [Try.ntmps180, Try.results180]
        repeat' (first|((first|refine goA rfl fun K hK=>?_|refine goB rfl fun K hK=>?_|refine goC rfl rfl fun K hK=>?_|refine goD rfl rfl fun K hK=>?_);simp (dsimp:=false) only [↓gq,↓stepP,↓stepG,go_sem,c1,c2])|refine Pwp.seq ?_|refine Pwp.block ?_|(refine Pwp.exit ?_;simp only [thenS,blockS,if_true,if_false,reduceIte,Nat.reduceEqDiff,Nat.add_one_ne_zero,reduceCtorEq])|(refine Pwp.skip ?_;simp only [thenS,blockS])|(refine Pwp.cond rfl True.intro (fun h=>?_) (fun h=>?_)<;>(try (cases h;done))<;>(try simp only [h]))|refine Pwp.ret ?_|(refine hK _ ?_;clear hK K)|(refine hK _ _ rfl ?_;clear hK K)|(refine CallK.toD (ds:=[.agg [I64 d.me, .slc 8 (itemsD d.items), .slc 3 (ordersD d.orders)], .agg [I64 m.seller, I64 m.number]]) rfl (r0) rfl ?_)|refine CallG.off ?_|with_reducible refine Or.inl ?_|simp only [thenS,blockS]|with_reducible refine And.intro ?_ ?_|with_reducible exact True.intro|simp (dsimp:=false) only [↓gq,↓stepP,↓stepG,go_sem,c1,c2])
        all_goals (try (first|(intro hg;simp [hg];done)|exact of_decide_eq_true rfl|(cases h;done)))
        (refine Fin.valV V0 (by first | exact .inr rfl | exact .inl rfl) (by simp (dsimp:=false) only [↓gq,↓stepP,↓stepG,go_sem,resL]; rfl) (by simp only [and_self]) rfl (by simp [pnil, V8]) (by simp [resP, toDL, idsL, pnil, V8]))
def orderR (d : Desk) (m : Msg) : Out := ⟨expE d.me d.orders ⟨m.seller, m.number, m.amount⟩, if expE d.me d.orders ⟨m.seller, m.number, m.amount⟩ = 0 then { d with orders := putO d.orders ⟨m.seller, m.number, m.amount⟩ } else d, none⟩
set_option maxHeartbeats 16000000 in
theorem run173 (d : Desk) (m : Msg) (from' : Int) (hl : d.orders.length ≤ 100000) : Runs Try.prog 173 [.ref 0 0, .d m.d, pint .i64 from'] [(0, deskB d)] (pint .i64 (orderR d m).e) (deskH (orderR d m).d (orderR d m).o) := by
  have r0 := run106 d.me (itemsD d.items) d.orders ⟨m.seller, m.number, m.amount⟩ (by omega)
  unfold bookO at r0
  unfold orderR
  simp only at r0 ⊢
  generalize hpo : putO d.orders ⟨m.seller, m.number, m.amount⟩ = po at *
  generalize he : expE d.me d.orders ⟨m.seller, m.number, m.amount⟩ = e at *
  clear hpo he
  by_cases h0 : e = 0
  · subst h0
    rw [if_pos rfl] at r0
    rw [if_pos rfl]
    simp only [deskH, deskB, deskB2, Desk.cells, Desk.book, saidD, Msg.d, Msg.cells, about, Item.d, Item.cells, List.cons_append, List.nil_append, List.map_cons, List.map_nil] at *
    refine Runs.of (kit Try.prog) Try.func173 rfl rfl (by rw [Try.ntmps173]; exact of_decide_eq_true rfl) ?_; rw [Try.ntmps173, Try.results173]
    repeat' (first|((first|refine goA rfl fun K hK=>?_|refine goB rfl fun K hK=>?_|refine goC rfl rfl fun K hK=>?_|refine goD rfl rfl fun K hK=>?_);simp (dsimp:=false) only [↓gq,↓stepP,↓stepG,go_sem,beq_self_eq_true])|refine Pwp.seq ?_|refine Pwp.block ?_|(refine Pwp.exit ?_;simp only [thenS,blockS,if_true,if_false,reduceIte,Nat.reduceEqDiff,Nat.add_one_ne_zero,reduceCtorEq])|(refine Pwp.skip ?_;simp only [thenS,blockS])|(refine Pwp.cond rfl True.intro (fun h=>?_) (fun h=>?_)<;>(try (cases h;done))<;>(try simp only [h]))|refine Pwp.ret ?_|(refine hK _ ?_;clear hK K)|(refine hK _ _ rfl ?_;clear hK K)|(refine CallK.give (ds:=[.agg [I64 d.me, .slc 8 (itemsD d.items), .slc 3 (ordersD d.orders)], .agg [I64 m.seller, I64 m.number], I64 m.amount]) rfl (r0) (by simp) ?_)|refine CallG.off ?_|with_reducible refine Or.inl ?_|simp only [thenS,blockS]|with_reducible refine And.intro ?_ ?_|with_reducible exact True.intro|simp (dsimp:=false) only [↓gq,↓stepP,↓stepG,go_sem,beq_self_eq_true])
    all_goals (try (first|(intro hg;simp [hg];done)|exact of_decide_eq_true rfl|(cases h;done)))
    (refine Fin.valV V0 (by first | exact .inr rfl | exact .inl rfl) (by simp (dsimp:=false) only [↓gq,↓stepP,↓stepG,go_sem,resL]; rfl) (by simp only [and_self]) rfl (by simp [pnil, V8]) (by simp [resP, toDL, idsL, pnil, V8]))
  · have n0 : (e == 0) = false := by simpa using h0
    rw [if_neg h0] at r0
    rw [if_neg h0]
    simp only [deskH, deskB, deskB2, Desk.cells, Desk.book, saidD, Msg.d, Msg.cells, about, Item.d, Item.cells, List.cons_append, List.nil_append, List.map_cons, List.map_nil] at *
    refine Runs.of (kit Try.prog) Try.func173 rfl rfl (by rw [Try.ntmps173]; exact of_decide_eq_true rfl) ?_; rw [Try.ntmps173, Try.results173]
    repeat' (first|((first|refine goA rfl fun K hK=>?_|refine goB rfl fun K hK=>?_|refine goC rfl rfl fun K hK=>?_|refine goD rfl rfl fun K hK=>?_);simp (dsimp:=false) only [↓gq,↓stepP,↓stepG,go_sem,n0])|refine Pwp.seq ?_|refine Pwp.block ?_|(refine Pwp.exit ?_;simp only [thenS,blockS,if_true,if_false,reduceIte,Nat.reduceEqDiff,Nat.add_one_ne_zero,reduceCtorEq])|(refine Pwp.skip ?_;simp only [thenS,blockS])|(refine Pwp.cond rfl True.intro (fun h=>?_) (fun h=>?_)<;>(try (cases h;done))<;>(try simp only [h]))|refine Pwp.ret ?_|(refine hK _ ?_;clear hK K)|(refine hK _ _ rfl ?_;clear hK K)|(refine CallK.give (ds:=[.agg [I64 d.me, .slc 8 (itemsD d.items), .slc 3 (ordersD d.orders)], .agg [I64 m.seller, I64 m.number], I64 m.amount]) rfl (r0) (by simp) ?_)|refine CallG.off ?_|with_reducible refine Or.inl ?_|simp only [thenS,blockS]|with_reducible refine And.intro ?_ ?_|with_reducible exact True.intro|simp (dsimp:=false) only [↓gq,↓stepP,↓stepG,go_sem,n0])
    all_goals (try (first|(intro hg;simp [hg];done)|exact of_decide_eq_true rfl|(cases h;done)))
    (refine Fin.valV V0 (by first | exact .inr rfl | exact .inl rfl) (by simp (dsimp:=false) only [↓gq,↓stepP,↓stepG,go_sem,resL]; rfl) (by simp only [and_self]) rfl (by simp [pnil, V8]) (by simp [resP, toDL, idsL, pnil, V8]))
def issueI (m : Msg) : Item := newI m.seller m.number m.buyer m.currency m.amount 0
def issueR (d : Desk) (m : Msg) : Out := if m.seller ≠ d.me then ⟨140, d, none⟩ else if isIn d.items m.seller m.number = true then ⟨5, d, none⟩ else if chk (issueI m) ≠ 0 then ⟨chk (issueI m), d, none⟩ else if putE d.me d.items (issueI m) ≠ 0 then ⟨putE d.me d.items (issueI m), d.put (issueI m), none⟩
  else ⟨0, d.put (issueI m), some (saidD (issueI m).buyer (about 6 (issueI m)))⟩
set_option maxHeartbeats 16000000 in
theorem run172 (d : Desk) (m : Msg) (from' : Int) (hl : d.items.length ≤ 100000) : Runs Try.prog 172 [.ref 0 0, .d m.d, pint .i64 from'] [(0, deskB d)] (pint .i64 (issueR d m).e) (deskH (issueR d m).d (issueR d m).o) := by
  have r0 := run65 d.me d.items (ordersD d.orders) m.seller m.number (by omega)
  unfold bookD at r0
  have r1 := run216 m.seller m.number m.buyer m.currency m.amount
  have r3 := run217 d (issueI m) hl
  have r2 := run218 (d.put (issueI m)) (issueI m).buyer 6 (issueI m)
  unfold issueR
  change Runs Try.prog 216 _ _ (.d (.tup [(if chk (issueI m) = 0 then issueI m else Item.zero).d, I64 (chk (issueI m))])) _ at r1
  generalize hx : getI d.items m.seller m.number = x at *
  generalize hi : isIn d.items m.seller m.number = b at *
  generalize hpe : putE d.me d.items (issueI m) = pe at *
  generalize hpd : d.put (issueI m) = d2 at *
  generalize hc : chk (issueI m) = e1 at *
  generalize hy : issueI m = y at *
  clear hy hx hi hpe hpd hc
  by_cases h0 : m.seller = d.me
  · have c0 : (m.seller != d.me) = false := by simp [h0]
    rw [if_neg (by simpa using h0)]
    cases b with
    | true =>
      rw [if_pos rfl]
      simp only [deskH, deskB, deskB2, Desk.cells, Desk.book, saidD, Msg.d, Msg.cells, about, Item.d, Item.cells, List.cons_append, List.nil_append, List.map_cons, List.map_nil] at *
      refine Runs.of (kit Try.prog) Try.func172 rfl rfl (by rw [Try.ntmps172]; exact of_decide_eq_true rfl) ?_; rw [Try.ntmps172, Try.results172]
      repeat' (first|((first|refine goA rfl fun K hK=>?_|refine goB rfl fun K hK=>?_|refine goC rfl rfl fun K hK=>?_|refine goD rfl rfl fun K hK=>?_);simp (dsimp:=false) only [↓gq,↓stepP,↓stepG,go_sem,c0])|refine Pwp.seq ?_|refine Pwp.block ?_|(refine Pwp.exit ?_;simp only [thenS,blockS,if_true,if_false,reduceIte,Nat.reduceEqDiff,Nat.add_one_ne_zero,reduceCtorEq])|(refine Pwp.skip ?_;simp only [thenS,blockS])|(refine Pwp.cond rfl True.intro (fun h=>?_) (fun h=>?_)<;>(try (cases h;done))<;>(try simp only [h]))|refine Pwp.ret ?_|(refine hK _ ?_;clear hK K)|(refine hK _ _ rfl ?_;clear hK K)|(refine CallK.toD (ds:=[.agg [I64 d.me, .slc 8 (itemsD d.items), .slc 3 (ordersD d.orders)], .agg [I64 m.seller, I64 m.number]]) rfl (r0) rfl ?_)|refine CallG.off ?_|with_reducible refine Or.inl ?_|simp only [thenS,blockS]|with_reducible refine And.intro ?_ ?_|with_reducible exact True.intro|simp (dsimp:=false) only [↓gq,↓stepP,↓stepG,go_sem,c0])
      all_goals (try (first|(intro hg;simp [hg];done)|exact of_decide_eq_true rfl|(cases h;done)))
      (refine Fin.valV V0 (by first | exact .inr rfl | exact .inl rfl) (by simp (dsimp:=false) only [↓gq,↓stepP,↓stepG,go_sem,resL]; rfl) (by simp only [and_self]) rfl (by simp [pnil, V8]) (by simp [resP, toDL, idsL, pnil, V8]))
    | false =>
      rw [if_neg (by simp)]
      by_cases h1 : e1 = 0
      · subst h1
        rw [if_pos rfl] at r1
        rw [if_neg (by simp)]
        by_cases h2 : pe = 0
        · subst h2
          rw [if_neg (by simp)]
          simp only [deskH, deskB, deskB2, Desk.cells, Desk.book, saidD, Msg.d, Msg.cells, about, Item.d, Item.cells, List.cons_append, List.nil_append, List.map_cons, List.map_nil] at *
          refine Runs.of (kit Try.prog) Try.func172 rfl rfl (by rw [Try.ntmps172]; exact of_decide_eq_true rfl) ?_; rw [Try.ntmps172, Try.results172]
          repeat' (first|((first|refine goA rfl fun K hK=>?_|refine goB rfl fun K hK=>?_|refine goC rfl rfl fun K hK=>?_|refine goD rfl rfl fun K hK=>?_);simp (dsimp:=false) only [↓gq,↓stepP,↓stepG,go_sem,c0,bne_self_eq_false])|refine Pwp.seq ?_|refine Pwp.block ?_|(refine Pwp.exit ?_;simp only [thenS,blockS,if_true,if_false,reduceIte,Nat.reduceEqDiff,Nat.add_one_ne_zero,reduceCtorEq])|(refine Pwp.skip ?_;simp only [thenS,blockS])|(refine Pwp.cond rfl True.intro (fun h=>?_) (fun h=>?_)<;>(try (cases h;done))<;>(try simp only [h]))|refine Pwp.ret ?_|(refine hK _ ?_;clear hK K)|(refine hK _ _ rfl ?_;clear hK K)|(refine CallK.desk (cs:=[I64 d.me, .slc 8 (itemsD d.items), .slc 3 (ordersD d.orders), I64 d.far, nilD]) rfl rfl rfl r3 (by simp) ?_)|(refine CallK.desk (cs:=[I64 d2.me, .slc 8 (itemsD d2.items), .slc 3 (ordersD d2.orders), I64 d2.far, nilD]) rfl rfl rfl r2 (by simp) ?_)|(refine CallK.toD (ds:=[.agg [I64 d.me, .slc 8 (itemsD d.items), .slc 3 (ordersD d.orders)], .agg [I64 m.seller, I64 m.number]]) rfl (r0) rfl ?_)|(refine CallK.toD (ds:=[.agg [I64 m.seller, I64 m.number], I64 m.buyer, I64 m.currency, I64 m.amount]) rfl (r1) rfl ?_)|refine CallG.off ?_|with_reducible refine Or.inl ?_|simp only [thenS,blockS]|with_reducible refine And.intro ?_ ?_|with_reducible exact True.intro|simp (dsimp:=false) only [↓gq,↓stepP,↓stepG,go_sem,c0,bne_self_eq_false])
          all_goals (try (first|(intro hg;simp [hg];done)|exact of_decide_eq_true rfl|(cases h;done)))
          (refine Fin.valV (V8 204 0) (by first | exact .inr rfl | exact .inl rfl) (by simp (dsimp:=false) only [↓gq,↓stepP,↓stepG,go_sem,resL]; rfl) (by simp only [and_self]) rfl (by simp [pnil, V8]) (by simp [resP, toDL, idsL, pnil, V8]))
        · have n2 : (pe != 0) = true := by simpa using h2
          rw [if_pos h2]
          simp only [deskH, deskB, deskB2, Desk.cells, Desk.book, saidD, Msg.d, Msg.cells, about, Item.d, Item.cells, List.cons_append, List.nil_append, List.map_cons, List.map_nil] at *
          refine Runs.of (kit Try.prog) Try.func172 rfl rfl (by rw [Try.ntmps172]; exact of_decide_eq_true rfl) ?_; rw [Try.ntmps172, Try.results172]
          repeat' (first|((first|refine goA rfl fun K hK=>?_|refine goB rfl fun K hK=>?_|refine goC rfl rfl fun K hK=>?_|refine goD rfl rfl fun K hK=>?_);simp (dsimp:=false) only [↓gq,↓stepP,↓stepG,go_sem,c0,n2,bne_self_eq_false])|refine Pwp.seq ?_|refine Pwp.block ?_|(refine Pwp.exit ?_;simp only [thenS,blockS,if_true,if_false,reduceIte,Nat.reduceEqDiff,Nat.add_one_ne_zero,reduceCtorEq])|(refine Pwp.skip ?_;simp only [thenS,blockS])|(refine Pwp.cond rfl True.intro (fun h=>?_) (fun h=>?_)<;>(try (cases h;done))<;>(try simp only [h]))|refine Pwp.ret ?_|(refine hK _ ?_;clear hK K)|(refine hK _ _ rfl ?_;clear hK K)|(refine CallK.desk (cs:=[I64 d.me, .slc 8 (itemsD d.items), .slc 3 (ordersD d.orders), I64 d.far, nilD]) rfl rfl rfl r3 (by simp) ?_)|(refine CallK.toD (ds:=[.agg [I64 d.me, .slc 8 (itemsD d.items), .slc 3 (ordersD d.orders)], .agg [I64 m.seller, I64 m.number]]) rfl (r0) rfl ?_)|(refine CallK.toD (ds:=[.agg [I64 m.seller, I64 m.number], I64 m.buyer, I64 m.currency, I64 m.amount]) rfl (r1) rfl ?_)|refine CallG.off ?_|with_reducible refine Or.inl ?_|simp only [thenS,blockS]|with_reducible refine And.intro ?_ ?_|with_reducible exact True.intro|simp (dsimp:=false) only [↓gq,↓stepP,↓stepG,go_sem,c0,n2,bne_self_eq_false])
          all_goals (try (first|(intro hg;simp [hg];done)|exact of_decide_eq_true rfl|(cases h;done)))
          (refine Fin.valV V0 (by first | exact .inr rfl | exact .inl rfl) (by simp (dsimp:=false) only [↓gq,↓stepP,↓stepG,go_sem,resL]; rfl) (by simp only [and_self]) rfl (by simp [pnil, V8]) (by simp [resP, toDL, idsL, pnil, V8]))
      · have n1 : (e1 != 0) = true := by simpa using h1
        rw [if_neg h1] at r1
        rw [if_pos h1]
        unfold Item.zero at r1
        simp only [deskH, deskB, deskB2, Desk.cells, Desk.book, saidD, Msg.d, Msg.cells, about, Item.d, Item.cells, List.cons_append, List.nil_append, List.map_cons, List.map_nil] at *
        refine Runs.of (kit Try.prog) Try.func172 rfl rfl (by rw [Try.ntmps172]; exact of_decide_eq_true rfl) ?_; rw [Try.ntmps172, Try.results172]
        repeat' (first|((first|refine goA rfl fun K hK=>?_|refine goB rfl fun K hK=>?_|refine goC rfl rfl fun K hK=>?_|refine goD rfl rfl fun K hK=>?_);simp (dsimp:=false) only [↓gq,↓stepP,↓stepG,go_sem,c0,n1])|refine Pwp.seq ?_|refine Pwp.block ?_|(refine Pwp.exit ?_;simp only [thenS,blockS,if_true,if_false,reduceIte,Nat.reduceEqDiff,Nat.add_one_ne_zero,reduceCtorEq])|(refine Pwp.skip ?_;simp only [thenS,blockS])|(refine Pwp.cond rfl True.intro (fun h=>?_) (fun h=>?_)<;>(try (cases h;done))<;>(try simp only [h]))|refine Pwp.ret ?_|(refine hK _ ?_;clear hK K)|(refine hK _ _ rfl ?_;clear hK K)|(refine CallK.toD (ds:=[.agg [I64 d.me, .slc 8 (itemsD d.items), .slc 3 (ordersD d.orders)], .agg [I64 m.seller, I64 m.number]]) rfl (r0) rfl ?_)|(refine CallK.toD (ds:=[.agg [I64 m.seller, I64 m.number], I64 m.buyer, I64 m.currency, I64 m.amount]) rfl (r1) rfl ?_)|refine CallG.off ?_|with_reducible refine Or.inl ?_|simp only [thenS,blockS]|with_reducible refine And.intro ?_ ?_|with_reducible exact True.intro|simp (dsimp:=false) only [↓gq,↓stepP,↓stepG,go_sem,c0,n1])
        all_goals (try (first|(intro hg;simp [hg];done)|exact of_decide_eq_true rfl|(cases h;done)))
        (refine Fin.valV V0 (by first | exact .inr rfl | exact .inl rfl) (by simp (dsimp:=false) only [↓gq,↓stepP,↓stepG,go_sem,resL]; rfl) (by simp only [and_self]) rfl (by simp [pnil, V8]) (by simp [resP, toDL, idsL, pnil, V8]))
  · have c0 : (m.seller != d.me) = true := by simpa using h0
    rw [if_pos (by simpa using h0)]
    simp only [deskH, deskB, deskB2, Desk.cells, Desk.book, saidD, Msg.d, Msg.cells, about, Item.d, Item.cells, List.cons_append, List.nil_append, List.map_cons, List.map_nil] at *
    refine Runs.of (kit Try.prog) Try.func172 rfl rfl (by rw [Try.ntmps172]; exact of_decide_eq_true rfl) ?_; rw [Try.ntmps172, Try.results172]
    repeat' (first|((first|refine goA rfl fun K hK=>?_|refine goB rfl fun K hK=>?_|refine goC rfl rfl fun K hK=>?_|refine goD rfl rfl fun K hK=>?_);simp (dsimp:=false) only [↓gq,↓stepP,↓stepG,go_sem,c0])|refine Pwp.seq ?_|refine Pwp.block ?_|(refine Pwp.exit ?_;simp only [thenS,blockS,if_true,if_false,reduceIte,Nat.reduceEqDiff,Nat.add_one_ne_zero,reduceCtorEq])|(refine Pwp.skip ?_;simp only [thenS,blockS])|(refine Pwp.cond rfl True.intro (fun h=>?_) (fun h=>?_)<;>(try (cases h;done))<;>(try simp only [h]))|refine Pwp.ret ?_|(refine hK _ ?_;clear hK K)|(refine hK _ _ rfl ?_;clear hK K)|refine CallG.off ?_|with_reducible refine Or.inl ?_|simp only [thenS,blockS]|with_reducible refine And.intro ?_ ?_|with_reducible exact True.intro|simp (dsimp:=false) only [↓gq,↓stepP,↓stepG,go_sem,c0])
    all_goals (try (first|(intro hg;simp [hg];done)|exact of_decide_eq_true rfl|(cases h;done)))
    (refine Fin.valV V0 (by first | exact .inr rfl | exact .inl rfl) (by simp (dsimp:=false) only [↓gq,↓stepP,↓stepG,go_sem,resL]; rfl) (by simp only [and_self]) rfl (by simp [pnil, V8]) (by simp [resP, toDL, idsL, pnil, V8]))
end Go.Proofs.Ytdodgbhodkcckaa.Pv
end
section
set_option linter.unusedVariables false
set_option linter.unusedSimpArgs false
set_option autoImplicit false
set_option maxRecDepth 100000
namespace Go.Proofs.Ytdodgbhodkcckaa.Pv
open Go Go.RowKit
def propI (m : Msg) : Item := newI m.seller m.number m.buyer m.currency m.amount m.round
def propS (d : Desk) (m : Msg) : Bool := (isIn d.items m.seller m.number && (((getI d.items m.seller m.number).state != 2 || (getI d.items m.seller m.number).round + 1 != m.round) || (getI d.items m.seller m.number).currency != m.currency)) || (!isIn d.items m.seller m.number && m.round != 0)
def propN (d : Desk) (m : Msg) : Bool := isInO d.orders m.seller m.number && nearV (getO d.orders m.seller m.number) m.amount d.far
def propY (d : Desk) (m : Msg) : Item := if propN d m = true then stepI (propI m) 1 3 else stepI (propI m) 1 2
def propK (d : Desk) (m : Msg) : Int := if propN d m = true then 7 else 8
def proposeR (d : Desk) (m : Msg) (from' : Int) : Out := if chk (propI m) ≠ 0 then ⟨chk (propI m), d, none⟩ else if (from' != m.seller || m.buyer != d.me) = true then ⟨140, d, none⟩ else if propS d m = true then ⟨90, d, none⟩
  else if putE d.me d.items (propY d m) ≠ 0 then ⟨putE d.me d.items (propY d m), d.put (propY d m), none⟩ else ⟨0, d.put (propY d m), some (saidD from' (about (propK d m) (propY d m)))⟩
set_option maxHeartbeats 32000000 in
theorem run177 (d : Desk) (m : Msg) (from' : Int) (hl : d.items.length ≤ 100000) (hlo : d.orders.length ≤ 100000) (hr : 0 ≤ (getI d.items m.seller m.number).round ∧ (getI d.items m.seller m.number).round ≤ 3) (hg : In64 (getO d.orders m.seller m.number)) (hm : In64 m.amount) (hf : In64 d.far) :
    Runs Try.prog 177 [.ref 0 0, .d m.d, pint .i64 from'] [(0, deskB d)] (pint .i64 (proposeR d m from').e) (deskH (proposeR d m from').d (proposeR d m from').o) := by
  have r222 := run222 m
  have r65 := run65 d.me d.items (ordersD d.orders) m.seller m.number (by omega)
  unfold bookD at r65
  have r107 := run107 d.me (itemsD d.items) d.orders m.seller m.number (by omega)
  unfold bookO at r107
  have r223 := run223 (getO d.orders m.seller m.number) m.amount d.far hg hm hf
  have r224 := run224 (propI m)
  have r225 := run225 (propI m)
  have w : IntKind.wrap .i64 ((getI d.items m.seller m.number).round + 1) = (getI d.items m.seller m.number).round + 1 := wrap_of (by omega) (by omega)
  have r3 := run217 d (propY d m) hl
  have r2 := run218 (d.put (propY d m)) from' (propK d m) (propY d m)
  unfold proposeR
  change Runs Try.prog 222 _ _ (.d (.tup [(if chk (propI m) = 0 then propI m else Item.zero).d, I64 (chk (propI m))])) _ at r222
  by_cases he : chk (propI m) = 0
  · rw [he, if_pos rfl] at r222
    rw [if_neg (by simpa using he)]
    generalize hpe : putE d.me d.items (propY d m) = pe at *
    generalize hpd : d.put (propY d m) = d2 at *
    clear hpe hpd he
    cases c1 : (from' != m.seller || m.buyer != d.me) with
    | true =>
      rw [if_pos rfl]
      unfold propI newI at *
      simp only [deskH, deskB, deskB2, Desk.cells, Desk.book, saidD, Msg.d, Msg.cells, about, Item.d, Item.cells, List.cons_append, List.nil_append, List.map_cons, List.map_nil] at *
      refine Runs.of (kit Try.prog) Try.func177 rfl rfl (by rw [Try.ntmps177]; exact of_decide_eq_true rfl) ?_; rw [Try.ntmps177, Try.results177]
      repeat' (first|((first|refine goA rfl fun K hK=>?_|refine goB rfl fun K hK=>?_|refine goC rfl rfl fun K hK=>?_|refine goD rfl rfl fun K hK=>?_);simp (dsimp:=false) only [↓gq,↓stepP,↓stepG,go_sem,c1,bne_self_eq_false])|refine Pwp.seq ?_|refine Pwp.block ?_|(refine Pwp.exit ?_;simp only [thenS,blockS,if_true,if_false,reduceIte,Nat.reduceEqDiff,Nat.add_one_ne_zero,reduceCtorEq])|(refine Pwp.skip ?_;simp only [thenS,blockS])|(refine Pwp.cond rfl True.intro (fun h=>?_) (fun h=>?_)<;>(try (cases h;done))<;>(try simp only [h]))|refine Pwp.ret ?_|(refine hK _ ?_;clear hK K)|(refine hK _ _ rfl ?_;clear hK K)|(refine CallK.toD (ds:=[.agg [I64 m.kind, I64 m.seller, I64 m.number, I64 m.buyer, I64 m.currency, I64 m.round, I64 m.cycle, I64 m.amount, .v (.bool m.yes), m.lines, m.nets]]) rfl (r222) rfl ?_)|refine CallG.off ?_|with_reducible refine Or.inl ?_|simp only [thenS,blockS]|with_reducible refine And.intro ?_ ?_|with_reducible exact True.intro|simp (dsimp:=false) only [↓gq,↓stepP,↓stepG,go_sem,c1,bne_self_eq_false])
      all_goals (try (first|(intro hg;simp [hg];done)|exact of_decide_eq_true rfl|(cases h;done)))
      (refine Fin.valV V0 (by first | exact .inr rfl | exact .inl rfl) (by simp (dsimp:=false) only [↓gq,↓stepP,↓stepG,go_sem,resL]; rfl) (by simp only [and_self]) rfl (by simp [pnil, V8]) (by simp [resP, toDL, idsL, pnil, V8]))
    | false =>
      rw [if_neg (by simp)]
      unfold propS propY propK propN at *
      generalize getI d.items m.seller m.number = x at *
      generalize isIn d.items m.seller m.number = b at *
      generalize getO d.orders m.seller m.number = og at *
      generalize isInO d.orders m.seller m.number = bo at *
      generalize nearV og m.amount d.far = nr at *
      cases c2 : (b && ((x.state != 2 || x.round + 1 != m.round) || x.currency != m.currency)) || (!b && m.round != 0) with
      | true =>
        rw [if_pos rfl]
        unfold propI newI at *
        simp only [deskH, deskB, deskB2, Desk.cells, Desk.book, saidD, Msg.d, Msg.cells, about, Item.d, Item.cells, List.cons_append, List.nil_append, List.map_cons, List.map_nil] at *
        refine Runs.of (kit Try.prog) Try.func177 rfl rfl (by rw [Try.ntmps177]; exact of_decide_eq_true rfl) ?_; rw [Try.ntmps177, Try.results177]
        repeat' (first|((first|refine goA rfl fun K hK=>?_|refine goB rfl fun K hK=>?_|refine goC rfl rfl fun K hK=>?_|refine goD rfl rfl fun K hK=>?_);simp (dsimp:=false) only [↓gq,↓stepP,↓stepG,go_sem,c1,c2,w,bne_self_eq_false])|refine Pwp.seq ?_|refine Pwp.block ?_|(refine Pwp.exit ?_;simp only [thenS,blockS,if_true,if_false,reduceIte,Nat.reduceEqDiff,Nat.add_one_ne_zero,reduceCtorEq])|(refine Pwp.skip ?_;simp only [thenS,blockS])|(refine Pwp.cond rfl True.intro (fun h=>?_) (fun h=>?_)<;>(try (cases h;done))<;>(try simp only [h]))|refine Pwp.ret ?_|(refine hK _ ?_;clear hK K)|(refine hK _ _ rfl ?_;clear hK K)|(refine CallK.toD (ds:=[.agg [I64 m.kind, I64 m.seller, I64 m.number, I64 m.buyer, I64 m.currency, I64 m.round, I64 m.cycle, I64 m.amount, .v (.bool m.yes), m.lines, m.nets]]) rfl (r222) rfl ?_)|(refine CallK.toD (ds:=[.agg [I64 d.me, .slc 8 (itemsD d.items), .slc 3 (ordersD d.orders)], .agg [I64 m.seller, I64 m.number]]) rfl (r65) rfl ?_)|refine CallG.off ?_|with_reducible refine Or.inl ?_|simp only [thenS,blockS]|with_reducible refine And.intro ?_ ?_|with_reducible exact True.intro|simp (dsimp:=false) only [↓gq,↓stepP,↓stepG,go_sem,c1,c2,w,bne_self_eq_false])
        all_goals (try (first|(intro hg;simp [hg];done)|exact of_decide_eq_true rfl|(cases h;done)))
        (refine Fin.valV V0 (by first | exact .inr rfl | exact .inl rfl) (by simp (dsimp:=false) only [↓gq,↓stepP,↓stepG,go_sem,resL]; rfl) (by simp only [and_self]) rfl (by simp [pnil, V8]) (by simp [resP, toDL, idsL, pnil, V8]))
      | false =>
        rw [if_neg (by simp)]
        cases c3 : (bo && nr) with
        | true =>
          simp only [c3, reduceIte, Bool.false_eq_true] at r2 r3 ⊢
          generalize stepI (propI m) 1 3 = y at *
          unfold propI newI at *
          by_cases h2 : pe = 0
          · subst h2
            rw [if_neg (by simp)]
            simp only [deskH, deskB, deskB2, Desk.cells, Desk.book, saidD, Msg.d, Msg.cells, about, Item.d, Item.cells, List.cons_append, List.nil_append, List.map_cons, List.map_nil] at *
            refine Runs.of (kit Try.prog) Try.func177 rfl rfl (by rw [Try.ntmps177]; exact of_decide_eq_true rfl) ?_; rw [Try.ntmps177, Try.results177]
            repeat' (first|((first|refine goA rfl fun K hK=>?_|refine goB rfl fun K hK=>?_|refine goC rfl rfl fun K hK=>?_|refine goD rfl rfl fun K hK=>?_);simp (dsimp:=false) only [↓gq,↓stepP,↓stepG,go_sem,c1,c2,c3,w,bne_self_eq_false])|refine Pwp.seq ?_|refine Pwp.block ?_|(refine Pwp.exit ?_;simp only [thenS,blockS,if_true,if_false,reduceIte,Nat.reduceEqDiff,Nat.add_one_ne_zero,reduceCtorEq])|(refine Pwp.skip ?_;simp only [thenS,blockS])|(refine Pwp.cond rfl True.intro (fun h=>?_) (fun h=>?_)<;>(try (cases h;done))<;>(try simp only [h]))|refine Pwp.ret ?_|(refine hK _ ?_;clear hK K)|(refine hK _ _ rfl ?_;clear hK K)|(refine CallK.desk (cs:=[I64 d.me, .slc 8 (itemsD d.items), .slc 3 (ordersD d.orders), I64 d.far, nilD]) rfl rfl rfl r3 (by simp) ?_)|(refine CallK.desk (cs:=[I64 d2.me, .slc 8 (itemsD d2.items), .slc 3 (ordersD d2.orders), I64 d2.far, nilD]) rfl rfl rfl r2 (by simp) ?_)|(refine CallK.toD (ds:=[.agg [I64 m.kind, I64 m.seller, I64 m.number, I64 m.buyer, I64 m.currency, I64 m.round, I64 m.cycle, I64 m.amount, .v (.bool m.yes), m.lines, m.nets]]) rfl (r222) rfl ?_)|(refine CallK.toD (ds:=[.agg [I64 d.me, .slc 8 (itemsD d.items), .slc 3 (ordersD d.orders)], .agg [I64 m.seller, I64 m.number]]) rfl (r65) rfl ?_)|(refine CallK.toD (ds:=[.agg [I64 d.me, .slc 8 (itemsD d.items), .slc 3 (ordersD d.orders)], .agg [I64 m.seller, I64 m.number]]) rfl (r107) rfl ?_)|(refine CallK.toD (ds:=[.agg [I64 m.seller, I64 m.number, I64 m.buyer, I64 m.currency, I64 m.amount, I64 m.round, I64 1, I64 0]]) rfl (r224) rfl ?_)|(refine CallG.toD (ds:=[I64 og, I64 m.amount, I64 d.far]) rfl (r223) rfl ?_ ?_)|refine CallG.off ?_|with_reducible refine Or.inl ?_|simp only [thenS,blockS]|with_reducible refine And.intro ?_ ?_|with_reducible exact True.intro|simp (dsimp:=false) only [↓gq,↓stepP,↓stepG,go_sem,c1,c2,c3,w,bne_self_eq_false])
            all_goals (try (first|(intro hg;simp [hg];done)|exact of_decide_eq_true rfl|(cases h;done)))
            (refine Fin.valV (V8 448 0) (by first | exact .inr rfl | exact .inl rfl) (by simp (dsimp:=false) only [↓gq,↓stepP,↓stepG,go_sem,resL]; rfl) (by simp only [and_self]) rfl (by simp [pnil, V8]) (by simp [resP, toDL, idsL, pnil, V8]))
          · have n2 : (pe != 0) = true := by simpa using h2
            rw [if_pos h2]
            simp only [deskH, deskB, deskB2, Desk.cells, Desk.book, saidD, Msg.d, Msg.cells, about, Item.d, Item.cells, List.cons_append, List.nil_append, List.map_cons, List.map_nil] at *
            refine Runs.of (kit Try.prog) Try.func177 rfl rfl (by rw [Try.ntmps177]; exact of_decide_eq_true rfl) ?_; rw [Try.ntmps177, Try.results177]
            repeat' (first|((first|refine goA rfl fun K hK=>?_|refine goB rfl fun K hK=>?_|refine goC rfl rfl fun K hK=>?_|refine goD rfl rfl fun K hK=>?_);simp (dsimp:=false) only [↓gq,↓stepP,↓stepG,go_sem,c1,c2,c3,w,n2,bne_self_eq_false])|refine Pwp.seq ?_|refine Pwp.block ?_|(refine Pwp.exit ?_;simp only [thenS,blockS,if_true,if_false,reduceIte,Nat.reduceEqDiff,Nat.add_one_ne_zero,reduceCtorEq])|(refine Pwp.skip ?_;simp only [thenS,blockS])|(refine Pwp.cond rfl True.intro (fun h=>?_) (fun h=>?_)<;>(try (cases h;done))<;>(try simp only [h]))|refine Pwp.ret ?_|(refine hK _ ?_;clear hK K)|(refine hK _ _ rfl ?_;clear hK K)|(refine CallK.desk (cs:=[I64 d.me, .slc 8 (itemsD d.items), .slc 3 (ordersD d.orders), I64 d.far, nilD]) rfl rfl rfl r3 (by simp) ?_)|(refine CallK.toD (ds:=[.agg [I64 m.kind, I64 m.seller, I64 m.number, I64 m.buyer, I64 m.currency, I64 m.round, I64 m.cycle, I64 m.amount, .v (.bool m.yes), m.lines, m.nets]]) rfl (r222) rfl ?_)|(refine CallK.toD (ds:=[.agg [I64 d.me, .slc 8 (itemsD d.items), .slc 3 (ordersD d.orders)], .agg [I64 m.seller, I64 m.number]]) rfl (r65) rfl ?_)|(refine CallK.toD (ds:=[.agg [I64 d.me, .slc 8 (itemsD d.items), .slc 3 (ordersD d.orders)], .agg [I64 m.seller, I64 m.number]]) rfl (r107) rfl ?_)|(refine CallK.toD (ds:=[.agg [I64 m.seller, I64 m.number, I64 m.buyer, I64 m.currency, I64 m.amount, I64 m.round, I64 1, I64 0]]) rfl (r224) rfl ?_)|(refine CallG.toD (ds:=[I64 og, I64 m.amount, I64 d.far]) rfl (r223) rfl ?_ ?_)|refine CallG.off ?_|with_reducible refine Or.inl ?_|simp only [thenS,blockS]|with_reducible refine And.intro ?_ ?_|with_reducible exact True.intro|simp (dsimp:=false) only [↓gq,↓stepP,↓stepG,go_sem,c1,c2,c3,w,n2,bne_self_eq_false])
            all_goals (try (first|(intro hg;simp [hg];done)|exact of_decide_eq_true rfl|(cases h;done)))
            (refine Fin.valV V0 (by first | exact .inr rfl | exact .inl rfl) (by simp (dsimp:=false) only [↓gq,↓stepP,↓stepG,go_sem,resL]; rfl) (by simp only [and_self]) rfl (by simp [pnil, V8]) (by simp [resP, toDL, idsL, pnil, V8]))
        | false =>
          simp only [c3, reduceIte, Bool.false_eq_true] at r2 r3 ⊢
          generalize stepI (propI m) 1 2 = y at *
          unfold propI newI at *
          by_cases h2 : pe = 0
          · subst h2
            rw [if_neg (by simp)]
            simp only [deskH, deskB, deskB2, Desk.cells, Desk.book, saidD, Msg.d, Msg.cells, about, Item.d, Item.cells, List.cons_append, List.nil_append, List.map_cons, List.map_nil] at *
            refine Runs.of (kit Try.prog) Try.func177 rfl rfl (by rw [Try.ntmps177]; exact of_decide_eq_true rfl) ?_; rw [Try.ntmps177, Try.results177]
            repeat' (first|((first|refine goA rfl fun K hK=>?_|refine goB rfl fun K hK=>?_|refine goC rfl rfl fun K hK=>?_|refine goD rfl rfl fun K hK=>?_);simp (dsimp:=false) only [↓gq,↓stepP,↓stepG,go_sem,c1,c2,c3,w,bne_self_eq_false])|refine Pwp.seq ?_|refine Pwp.block ?_|(refine Pwp.exit ?_;simp only [thenS,blockS,if_true,if_false,reduceIte,Nat.reduceEqDiff,Nat.add_one_ne_zero,reduceCtorEq])|(refine Pwp.skip ?_;simp only [thenS,blockS])|(refine Pwp.cond rfl True.intro (fun h=>?_) (fun h=>?_)<;>(try (cases h;done))<;>(try simp only [h]))|refine Pwp.ret ?_|(refine hK _ ?_;clear hK K)|(refine hK _ _ rfl ?_;clear hK K)|(refine CallK.desk (cs:=[I64 d.me, .slc 8 (itemsD d.items), .slc 3 (ordersD d.orders), I64 d.far, nilD]) rfl rfl rfl r3 (by simp) ?_)|(refine CallK.desk (cs:=[I64 d2.me, .slc 8 (itemsD d2.items), .slc 3 (ordersD d2.orders), I64 d2.far, nilD]) rfl rfl rfl r2 (by simp) ?_)|(refine CallK.toD (ds:=[.agg [I64 m.kind, I64 m.seller, I64 m.number, I64 m.buyer, I64 m.currency, I64 m.round, I64 m.cycle, I64 m.amount, .v (.bool m.yes), m.lines, m.nets]]) rfl (r222) rfl ?_)|(refine CallK.toD (ds:=[.agg [I64 d.me, .slc 8 (itemsD d.items), .slc 3 (ordersD d.orders)], .agg [I64 m.seller, I64 m.number]]) rfl (r65) rfl ?_)|(refine CallK.toD (ds:=[.agg [I64 d.me, .slc 8 (itemsD d.items), .slc 3 (ordersD d.orders)], .agg [I64 m.seller, I64 m.number]]) rfl (r107) rfl ?_)|(refine CallK.toD (ds:=[.agg [I64 m.seller, I64 m.number, I64 m.buyer, I64 m.currency, I64 m.amount, I64 m.round, I64 1, I64 0]]) rfl (r225) rfl ?_)|(refine CallG.toD (ds:=[I64 og, I64 m.amount, I64 d.far]) rfl (r223) rfl ?_ ?_)|refine CallG.off ?_|with_reducible refine Or.inl ?_|simp only [thenS,blockS]|with_reducible refine And.intro ?_ ?_|with_reducible exact True.intro|simp (dsimp:=false) only [↓gq,↓stepP,↓stepG,go_sem,c1,c2,c3,w,bne_self_eq_false])
            all_goals (try (first|(intro hg;simp [hg];done)|exact of_decide_eq_true rfl|(cases h;done)))
            (refine Fin.valV (V8 444 0) (by first | exact .inr rfl | exact .inl rfl) (by simp (dsimp:=false) only [↓gq,↓stepP,↓stepG,go_sem,resL]; rfl) (by simp only [and_self]) rfl (by simp [pnil, V8]) (by simp [resP, toDL, idsL, pnil, V8]))
          · have n2 : (pe != 0) = true := by simpa using h2
            rw [if_pos h2]
            simp only [deskH, deskB, deskB2, Desk.cells, Desk.book, saidD, Msg.d, Msg.cells, about, Item.d, Item.cells, List.cons_append, List.nil_append, List.map_cons, List.map_nil] at *
            refine Runs.of (kit Try.prog) Try.func177 rfl rfl (by rw [Try.ntmps177]; exact of_decide_eq_true rfl) ?_; rw [Try.ntmps177, Try.results177]
            repeat' (first|((first|refine goA rfl fun K hK=>?_|refine goB rfl fun K hK=>?_|refine goC rfl rfl fun K hK=>?_|refine goD rfl rfl fun K hK=>?_);simp (dsimp:=false) only [↓gq,↓stepP,↓stepG,go_sem,c1,c2,c3,w,n2,bne_self_eq_false])|refine Pwp.seq ?_|refine Pwp.block ?_|(refine Pwp.exit ?_;simp only [thenS,blockS,if_true,if_false,reduceIte,Nat.reduceEqDiff,Nat.add_one_ne_zero,reduceCtorEq])|(refine Pwp.skip ?_;simp only [thenS,blockS])|(refine Pwp.cond rfl True.intro (fun h=>?_) (fun h=>?_)<;>(try (cases h;done))<;>(try simp only [h]))|refine Pwp.ret ?_|(refine hK _ ?_;clear hK K)|(refine hK _ _ rfl ?_;clear hK K)|(refine CallK.desk (cs:=[I64 d.me, .slc 8 (itemsD d.items), .slc 3 (ordersD d.orders), I64 d.far, nilD]) rfl rfl rfl r3 (by simp) ?_)|(refine CallK.toD (ds:=[.agg [I64 m.kind, I64 m.seller, I64 m.number, I64 m.buyer, I64 m.currency, I64 m.round, I64 m.cycle, I64 m.amount, .v (.bool m.yes), m.lines, m.nets]]) rfl (r222) rfl ?_)|(refine CallK.toD (ds:=[.agg [I64 d.me, .slc 8 (itemsD d.items), .slc 3 (ordersD d.orders)], .agg [I64 m.seller, I64 m.number]]) rfl (r65) rfl ?_)|(refine CallK.toD (ds:=[.agg [I64 d.me, .slc 8 (itemsD d.items), .slc 3 (ordersD d.orders)], .agg [I64 m.seller, I64 m.number]]) rfl (r107) rfl ?_)|(refine CallK.toD (ds:=[.agg [I64 m.seller, I64 m.number, I64 m.buyer, I64 m.currency, I64 m.amount, I64 m.round, I64 1, I64 0]]) rfl (r225) rfl ?_)|(refine CallG.toD (ds:=[I64 og, I64 m.amount, I64 d.far]) rfl (r223) rfl ?_ ?_)|refine CallG.off ?_|with_reducible refine Or.inl ?_|simp only [thenS,blockS]|with_reducible refine And.intro ?_ ?_|with_reducible exact True.intro|simp (dsimp:=false) only [↓gq,↓stepP,↓stepG,go_sem,c1,c2,c3,w,n2,bne_self_eq_false])
            all_goals (try (first|(intro hg;simp [hg];done)|exact of_decide_eq_true rfl|(cases h;done)))
            (refine Fin.valV V0 (by first | exact .inr rfl | exact .inl rfl) (by simp (dsimp:=false) only [↓gq,↓stepP,↓stepG,go_sem,resL]; rfl) (by simp only [and_self]) rfl (by simp [pnil, V8]) (by simp [resP, toDL, idsL, pnil, V8]))
  · rw [if_neg he] at r222
    have n1 : (chk (propI m) != 0) = true := by simpa using he
    rw [if_pos he]
    unfold Item.zero at r222
    generalize chk (propI m) = e1 at *
    simp only [deskH, deskB, deskB2, Desk.cells, Desk.book, saidD, Msg.d, Msg.cells, about, Item.d, Item.cells, List.cons_append, List.nil_append, List.map_cons, List.map_nil] at *
    refine Runs.of (kit Try.prog) Try.func177 rfl rfl (by rw [Try.ntmps177]; exact of_decide_eq_true rfl) ?_; rw [Try.ntmps177, Try.results177]
    repeat' (first|((first|refine goA rfl fun K hK=>?_|refine goB rfl fun K hK=>?_|refine goC rfl rfl fun K hK=>?_|refine goD rfl rfl fun K hK=>?_);simp (dsimp:=false) only [↓gq,↓stepP,↓stepG,go_sem,n1])|refine Pwp.seq ?_|refine Pwp.block ?_|(refine Pwp.exit ?_;simp only [thenS,blockS,if_true,if_false,reduceIte,Nat.reduceEqDiff,Nat.add_one_ne_zero,reduceCtorEq])|(refine Pwp.skip ?_;simp only [thenS,blockS])|(refine Pwp.cond rfl True.intro (fun h=>?_) (fun h=>?_)<;>(try (cases h;done))<;>(try simp only [h]))|refine Pwp.ret ?_|(refine hK _ ?_;clear hK K)|(refine hK _ _ rfl ?_;clear hK K)|(refine CallK.toD (ds:=[.agg [I64 m.kind, I64 m.seller, I64 m.number, I64 m.buyer, I64 m.currency, I64 m.round, I64 m.cycle, I64 m.amount, .v (.bool m.yes), m.lines, m.nets]]) rfl (r222) rfl ?_)|refine CallG.off ?_|with_reducible refine Or.inl ?_|simp only [thenS,blockS]|with_reducible refine And.intro ?_ ?_|with_reducible exact True.intro|simp (dsimp:=false) only [↓gq,↓stepP,↓stepG,go_sem,n1])
    all_goals (try (first|(intro hg;simp [hg];done)|exact of_decide_eq_true rfl|(cases h;done)))
    (refine Fin.valV V0 (by first | exact .inr rfl | exact .inl rfl) (by simp (dsimp:=false) only [↓gq,↓stepP,↓stepG,go_sem,resL]; rfl) (by simp only [and_self]) rfl (by simp [pnil, V8]) (by simp [resP, toDL, idsL, pnil, V8]))
end Go.Proofs.Ytdodgbhodkcckaa.Pv
end
section
set_option linter.unusedVariables false
set_option linter.unusedSimpArgs false
set_option autoImplicit false
set_option maxRecDepth 100000
namespace Go.Proofs.Ytdodgbhodkcckaa.Pv
open Go Go.RowKit
abbrev fnD (k : Nat) : D := .v (.func (.func k) #[] #[])
def handV (k : Int) : D × Bool := if k = 1 then (fnD 172, true) else if k = 2 then (fnD 173, true) else if k = 3 then (fnD 174, true) else if k = 4 then (fnD 175, true) else if k = 16 then (fnD 176, true) else if k = 6 then (fnD 177, false) else if k = 7 then (fnD 178, false) else if k = 8 then (fnD 179, false) else if k = 9 then (fnD 180, false) else (.v .nilFunc, false)
theorem kneq {k n : Int} (h : k ≠ n) : (k == n) = false := by simpa using h
set_option maxHeartbeats 8000000 in
theorem run118 (k : Int) : Runs Try.prog 118 [pint .i64 k] [] (.d (.tup [(handV k).1, .v (.bool (handV k).2)])) [] := by
  unfold handV
  by_cases h1 : k = 1
  · have c1 : (k == 1) = true := by simp [h1]
    rw [if_pos h1]
    refine Runs.of (kit Try.prog) Try.func118 rfl rfl (by rw [Try.ntmps118]; exact of_decide_eq_true rfl) ?_; rw [Try.ntmps118, Try.results118]
    repeat' (first|((first|refine goA rfl fun K hK=>?_|refine goB rfl fun K hK=>?_|refine goC rfl rfl fun K hK=>?_|refine goD rfl rfl fun K hK=>?_);simp (dsimp:=false) only [↓gq,↓stepP,↓stepG,go_sem,c1])|refine Pwp.seq ?_|refine Pwp.block ?_|(refine Pwp.exit ?_;simp only [thenS,blockS,if_true,if_false,reduceIte,Nat.reduceEqDiff,Nat.add_one_ne_zero,reduceCtorEq])|(refine Pwp.skip ?_;simp only [thenS,blockS])|(refine Pwp.cond rfl True.intro (fun h=>?_) (fun h=>?_)<;>(try (cases h;done))<;>(try simp only [h]))|refine Pwp.ret ?_|(refine hK _ ?_;clear hK K)|(refine hK _ _ rfl ?_;clear hK K)|refine CallG.off ?_|with_reducible refine Or.inl ?_|simp only [thenS,blockS]|with_reducible refine And.intro ?_ ?_|with_reducible exact True.intro|simp (dsimp:=false) only [↓gq,↓stepP,↓stepG,go_sem,c1])
    all_goals (try (first|(intro hg;simp [hg];done)|exact of_decide_eq_true rfl|(cases h;done)))
    (refine Fin.data (.inr rfl) (by simp (dsimp:=false) only [↓gq,↓stepP,↓stepG,go_sem,resL]; rfl) (by simp only [and_self]) (by simp (dsimp:=false) only [↓gq,↓stepP,↓stepG,go_sem,resP,Nat.le_refl,List.take_length]; try rfl) ?_)
    exact subD_refl _
  have c1 := kneq h1
  rw [if_neg h1]
  by_cases h2 : k = 2
  · have c2 : (k == 2) = true := by simp [h2]
    rw [if_pos h2]
    refine Runs.of (kit Try.prog) Try.func118 rfl rfl (by rw [Try.ntmps118]; exact of_decide_eq_true rfl) ?_; rw [Try.ntmps118, Try.results118]
    repeat' (first|((first|refine goA rfl fun K hK=>?_|refine goB rfl fun K hK=>?_|refine goC rfl rfl fun K hK=>?_|refine goD rfl rfl fun K hK=>?_);simp (dsimp:=false) only [↓gq,↓stepP,↓stepG,go_sem,c1,c2])|refine Pwp.seq ?_|refine Pwp.block ?_|(refine Pwp.exit ?_;simp only [thenS,blockS,if_true,if_false,reduceIte,Nat.reduceEqDiff,Nat.add_one_ne_zero,reduceCtorEq])|(refine Pwp.skip ?_;simp only [thenS,blockS])|(refine Pwp.cond rfl True.intro (fun h=>?_) (fun h=>?_)<;>(try (cases h;done))<;>(try simp only [h]))|refine Pwp.ret ?_|(refine hK _ ?_;clear hK K)|(refine hK _ _ rfl ?_;clear hK K)|refine CallG.off ?_|with_reducible refine Or.inl ?_|simp only [thenS,blockS]|with_reducible refine And.intro ?_ ?_|with_reducible exact True.intro|simp (dsimp:=false) only [↓gq,↓stepP,↓stepG,go_sem,c1,c2])
    all_goals (try (first|(intro hg;simp [hg];done)|exact of_decide_eq_true rfl|(cases h;done)))
    (refine Fin.data (.inr rfl) (by simp (dsimp:=false) only [↓gq,↓stepP,↓stepG,go_sem,resL]; rfl) (by simp only [and_self]) (by simp (dsimp:=false) only [↓gq,↓stepP,↓stepG,go_sem,resP,Nat.le_refl,List.take_length]; try rfl) ?_)
    exact subD_refl _
  have c2 := kneq h2
  rw [if_neg h2]
  by_cases h3 : k = 3
  · have c3 : (k == 3) = true := by simp [h3]
    rw [if_pos h3]
    refine Runs.of (kit Try.prog) Try.func118 rfl rfl (by rw [Try.ntmps118]; exact of_decide_eq_true rfl) ?_; rw [Try.ntmps118, Try.results118]
    repeat' (first|((first|refine goA rfl fun K hK=>?_|refine goB rfl fun K hK=>?_|refine goC rfl rfl fun K hK=>?_|refine goD rfl rfl fun K hK=>?_);simp (dsimp:=false) only [↓gq,↓stepP,↓stepG,go_sem,c1,c2,c3])|refine Pwp.seq ?_|refine Pwp.block ?_|(refine Pwp.exit ?_;simp only [thenS,blockS,if_true,if_false,reduceIte,Nat.reduceEqDiff,Nat.add_one_ne_zero,reduceCtorEq])|(refine Pwp.skip ?_;simp only [thenS,blockS])|(refine Pwp.cond rfl True.intro (fun h=>?_) (fun h=>?_)<;>(try (cases h;done))<;>(try simp only [h]))|refine Pwp.ret ?_|(refine hK _ ?_;clear hK K)|(refine hK _ _ rfl ?_;clear hK K)|refine CallG.off ?_|with_reducible refine Or.inl ?_|simp only [thenS,blockS]|with_reducible refine And.intro ?_ ?_|with_reducible exact True.intro|simp (dsimp:=false) only [↓gq,↓stepP,↓stepG,go_sem,c1,c2,c3])
    all_goals (try (first|(intro hg;simp [hg];done)|exact of_decide_eq_true rfl|(cases h;done)))
    (refine Fin.data (.inr rfl) (by simp (dsimp:=false) only [↓gq,↓stepP,↓stepG,go_sem,resL]; rfl) (by simp only [and_self]) (by simp (dsimp:=false) only [↓gq,↓stepP,↓stepG,go_sem,resP,Nat.le_refl,List.take_length]; try rfl) ?_)
    exact subD_refl _
  have c3 := kneq h3
  rw [if_neg h3]
  by_cases h4 : k = 4
  · have c4 : (k == 4) = true := by simp [h4]
    rw [if_pos h4]
    refine Runs.of (kit Try.prog) Try.func118 rfl rfl (by rw [Try.ntmps118]; exact of_decide_eq_true rfl) ?_; rw [Try.ntmps118, Try.results118]
    repeat' (first|((first|refine goA rfl fun K hK=>?_|refine goB rfl fun K hK=>?_|refine goC rfl rfl fun K hK=>?_|refine goD rfl rfl fun K hK=>?_);simp (dsimp:=false) only [↓gq,↓stepP,↓stepG,go_sem,c1,c2,c3,c4])|refine Pwp.seq ?_|refine Pwp.block ?_|(refine Pwp.exit ?_;simp only [thenS,blockS,if_true,if_false,reduceIte,Nat.reduceEqDiff,Nat.add_one_ne_zero,reduceCtorEq])|(refine Pwp.skip ?_;simp only [thenS,blockS])|(refine Pwp.cond rfl True.intro (fun h=>?_) (fun h=>?_)<;>(try (cases h;done))<;>(try simp only [h]))|refine Pwp.ret ?_|(refine hK _ ?_;clear hK K)|(refine hK _ _ rfl ?_;clear hK K)|refine CallG.off ?_|with_reducible refine Or.inl ?_|simp only [thenS,blockS]|with_reducible refine And.intro ?_ ?_|with_reducible exact True.intro|simp (dsimp:=false) only [↓gq,↓stepP,↓stepG,go_sem,c1,c2,c3,c4])
    all_goals (try (first|(intro hg;simp [hg];done)|exact of_decide_eq_true rfl|(cases h;done)))
    (refine Fin.data (.inr rfl) (by simp (dsimp:=false) only [↓gq,↓stepP,↓stepG,go_sem,resL]; rfl) (by simp only [and_self]) (by simp (dsimp:=false) only [↓gq,↓stepP,↓stepG,go_sem,resP,Nat.le_refl,List.take_length]; try rfl) ?_)
    exact subD_refl _
  have c4 := kneq h4
  rw [if_neg h4]
  by_cases h16 : k = 16
  · have c16 : (k == 16) = true := by simp [h16]
    rw [if_pos h16]
    refine Runs.of (kit Try.prog) Try.func118 rfl rfl (by rw [Try.ntmps118]; exact of_decide_eq_true rfl) ?_; rw [Try.ntmps118, Try.results118]
    repeat' (first|((first|refine goA rfl fun K hK=>?_|refine goB rfl fun K hK=>?_|refine goC rfl rfl fun K hK=>?_|refine goD rfl rfl fun K hK=>?_);simp (dsimp:=false) only [↓gq,↓stepP,↓stepG,go_sem,c1,c2,c3,c4,c16])|refine Pwp.seq ?_|refine Pwp.block ?_|(refine Pwp.exit ?_;simp only [thenS,blockS,if_true,if_false,reduceIte,Nat.reduceEqDiff,Nat.add_one_ne_zero,reduceCtorEq])|(refine Pwp.skip ?_;simp only [thenS,blockS])|(refine Pwp.cond rfl True.intro (fun h=>?_) (fun h=>?_)<;>(try (cases h;done))<;>(try simp only [h]))|refine Pwp.ret ?_|(refine hK _ ?_;clear hK K)|(refine hK _ _ rfl ?_;clear hK K)|refine CallG.off ?_|with_reducible refine Or.inl ?_|simp only [thenS,blockS]|with_reducible refine And.intro ?_ ?_|with_reducible exact True.intro|simp (dsimp:=false) only [↓gq,↓stepP,↓stepG,go_sem,c1,c2,c3,c4,c16])
    all_goals (try (first|(intro hg;simp [hg];done)|exact of_decide_eq_true rfl|(cases h;done)))
    (refine Fin.data (.inr rfl) (by simp (dsimp:=false) only [↓gq,↓stepP,↓stepG,go_sem,resL]; rfl) (by simp only [and_self]) (by simp (dsimp:=false) only [↓gq,↓stepP,↓stepG,go_sem,resP,Nat.le_refl,List.take_length]; try rfl) ?_)
    exact subD_refl _
  have c16 := kneq h16
  rw [if_neg h16]
  by_cases h6 : k = 6
  · have c6 : (k == 6) = true := by simp [h6]
    rw [if_pos h6]
    refine Runs.of (kit Try.prog) Try.func118 rfl rfl (by rw [Try.ntmps118]; exact of_decide_eq_true rfl) ?_; rw [Try.ntmps118, Try.results118]
    repeat' (first|((first|refine goA rfl fun K hK=>?_|refine goB rfl fun K hK=>?_|refine goC rfl rfl fun K hK=>?_|refine goD rfl rfl fun K hK=>?_);simp (dsimp:=false) only [↓gq,↓stepP,↓stepG,go_sem,c1,c2,c3,c4,c16,c6])|refine Pwp.seq ?_|refine Pwp.block ?_|(refine Pwp.exit ?_;simp only [thenS,blockS,if_true,if_false,reduceIte,Nat.reduceEqDiff,Nat.add_one_ne_zero,reduceCtorEq])|(refine Pwp.skip ?_;simp only [thenS,blockS])|(refine Pwp.cond rfl True.intro (fun h=>?_) (fun h=>?_)<;>(try (cases h;done))<;>(try simp only [h]))|refine Pwp.ret ?_|(refine hK _ ?_;clear hK K)|(refine hK _ _ rfl ?_;clear hK K)|refine CallG.off ?_|with_reducible refine Or.inl ?_|simp only [thenS,blockS]|with_reducible refine And.intro ?_ ?_|with_reducible exact True.intro|simp (dsimp:=false) only [↓gq,↓stepP,↓stepG,go_sem,c1,c2,c3,c4,c16,c6])
    all_goals (try (first|(intro hg;simp [hg];done)|exact of_decide_eq_true rfl|(cases h;done)))
    (refine Fin.data (.inr rfl) (by simp (dsimp:=false) only [↓gq,↓stepP,↓stepG,go_sem,resL]; rfl) (by simp only [and_self]) (by simp (dsimp:=false) only [↓gq,↓stepP,↓stepG,go_sem,resP,Nat.le_refl,List.take_length]; try rfl) ?_)
    exact subD_refl _
  have c6 := kneq h6
  rw [if_neg h6]
  by_cases h7 : k = 7
  · have c7 : (k == 7) = true := by simp [h7]
    rw [if_pos h7]
    refine Runs.of (kit Try.prog) Try.func118 rfl rfl (by rw [Try.ntmps118]; exact of_decide_eq_true rfl) ?_; rw [Try.ntmps118, Try.results118]
    repeat' (first|((first|refine goA rfl fun K hK=>?_|refine goB rfl fun K hK=>?_|refine goC rfl rfl fun K hK=>?_|refine goD rfl rfl fun K hK=>?_);simp (dsimp:=false) only [↓gq,↓stepP,↓stepG,go_sem,c1,c2,c3,c4,c16,c6,c7])|refine Pwp.seq ?_|refine Pwp.block ?_|(refine Pwp.exit ?_;simp only [thenS,blockS,if_true,if_false,reduceIte,Nat.reduceEqDiff,Nat.add_one_ne_zero,reduceCtorEq])|(refine Pwp.skip ?_;simp only [thenS,blockS])|(refine Pwp.cond rfl True.intro (fun h=>?_) (fun h=>?_)<;>(try (cases h;done))<;>(try simp only [h]))|refine Pwp.ret ?_|(refine hK _ ?_;clear hK K)|(refine hK _ _ rfl ?_;clear hK K)|refine CallG.off ?_|with_reducible refine Or.inl ?_|simp only [thenS,blockS]|with_reducible refine And.intro ?_ ?_|with_reducible exact True.intro|simp (dsimp:=false) only [↓gq,↓stepP,↓stepG,go_sem,c1,c2,c3,c4,c16,c6,c7])
    all_goals (try (first|(intro hg;simp [hg];done)|exact of_decide_eq_true rfl|(cases h;done)))
    (refine Fin.data (.inr rfl) (by simp (dsimp:=false) only [↓gq,↓stepP,↓stepG,go_sem,resL]; rfl) (by simp only [and_self]) (by simp (dsimp:=false) only [↓gq,↓stepP,↓stepG,go_sem,resP,Nat.le_refl,List.take_length]; try rfl) ?_)
    exact subD_refl _
  have c7 := kneq h7
  rw [if_neg h7]
  by_cases h8 : k = 8
  · have c8 : (k == 8) = true := by simp [h8]
    rw [if_pos h8]
    refine Runs.of (kit Try.prog) Try.func118 rfl rfl (by rw [Try.ntmps118]; exact of_decide_eq_true rfl) ?_; rw [Try.ntmps118, Try.results118]
    repeat' (first|((first|refine goA rfl fun K hK=>?_|refine goB rfl fun K hK=>?_|refine goC rfl rfl fun K hK=>?_|refine goD rfl rfl fun K hK=>?_);simp (dsimp:=false) only [↓gq,↓stepP,↓stepG,go_sem,c1,c2,c3,c4,c16,c6,c7,c8])|refine Pwp.seq ?_|refine Pwp.block ?_|(refine Pwp.exit ?_;simp only [thenS,blockS,if_true,if_false,reduceIte,Nat.reduceEqDiff,Nat.add_one_ne_zero,reduceCtorEq])|(refine Pwp.skip ?_;simp only [thenS,blockS])|(refine Pwp.cond rfl True.intro (fun h=>?_) (fun h=>?_)<;>(try (cases h;done))<;>(try simp only [h]))|refine Pwp.ret ?_|(refine hK _ ?_;clear hK K)|(refine hK _ _ rfl ?_;clear hK K)|refine CallG.off ?_|with_reducible refine Or.inl ?_|simp only [thenS,blockS]|with_reducible refine And.intro ?_ ?_|with_reducible exact True.intro|simp (dsimp:=false) only [↓gq,↓stepP,↓stepG,go_sem,c1,c2,c3,c4,c16,c6,c7,c8])
    all_goals (try (first|(intro hg;simp [hg];done)|exact of_decide_eq_true rfl|(cases h;done)))
    (refine Fin.data (.inr rfl) (by simp (dsimp:=false) only [↓gq,↓stepP,↓stepG,go_sem,resL]; rfl) (by simp only [and_self]) (by simp (dsimp:=false) only [↓gq,↓stepP,↓stepG,go_sem,resP,Nat.le_refl,List.take_length]; try rfl) ?_)
    exact subD_refl _
  have c8 := kneq h8
  rw [if_neg h8]
  by_cases h9 : k = 9
  · have c9 : (k == 9) = true := by simp [h9]
    rw [if_pos h9]
    refine Runs.of (kit Try.prog) Try.func118 rfl rfl (by rw [Try.ntmps118]; exact of_decide_eq_true rfl) ?_; rw [Try.ntmps118, Try.results118]
    repeat' (first|((first|refine goA rfl fun K hK=>?_|refine goB rfl fun K hK=>?_|refine goC rfl rfl fun K hK=>?_|refine goD rfl rfl fun K hK=>?_);simp (dsimp:=false) only [↓gq,↓stepP,↓stepG,go_sem,c1,c2,c3,c4,c16,c6,c7,c8,c9])|refine Pwp.seq ?_|refine Pwp.block ?_|(refine Pwp.exit ?_;simp only [thenS,blockS,if_true,if_false,reduceIte,Nat.reduceEqDiff,Nat.add_one_ne_zero,reduceCtorEq])|(refine Pwp.skip ?_;simp only [thenS,blockS])|(refine Pwp.cond rfl True.intro (fun h=>?_) (fun h=>?_)<;>(try (cases h;done))<;>(try simp only [h]))|refine Pwp.ret ?_|(refine hK _ ?_;clear hK K)|(refine hK _ _ rfl ?_;clear hK K)|refine CallG.off ?_|with_reducible refine Or.inl ?_|simp only [thenS,blockS]|with_reducible refine And.intro ?_ ?_|with_reducible exact True.intro|simp (dsimp:=false) only [↓gq,↓stepP,↓stepG,go_sem,c1,c2,c3,c4,c16,c6,c7,c8,c9])
    all_goals (try (first|(intro hg;simp [hg];done)|exact of_decide_eq_true rfl|(cases h;done)))
    (refine Fin.data (.inr rfl) (by simp (dsimp:=false) only [↓gq,↓stepP,↓stepG,go_sem,resL]; rfl) (by simp only [and_self]) (by simp (dsimp:=false) only [↓gq,↓stepP,↓stepG,go_sem,resP,Nat.le_refl,List.take_length]; try rfl) ?_)
    exact subD_refl _
  have c9 := kneq h9
  rw [if_neg h9]
  refine Runs.of (kit Try.prog) Try.func118 rfl rfl (by rw [Try.ntmps118]; exact of_decide_eq_true rfl) ?_; rw [Try.ntmps118, Try.results118]
  repeat' (first|((first|refine goA rfl fun K hK=>?_|refine goB rfl fun K hK=>?_|refine goC rfl rfl fun K hK=>?_|refine goD rfl rfl fun K hK=>?_);simp (dsimp:=false) only [↓gq,↓stepP,↓stepG,go_sem,c1,c2,c3,c4,c16,c6,c7,c8,c9])|refine Pwp.seq ?_|refine Pwp.block ?_|(refine Pwp.exit ?_;simp only [thenS,blockS,if_true,if_false,reduceIte,Nat.reduceEqDiff,Nat.add_one_ne_zero,reduceCtorEq])|(refine Pwp.skip ?_;simp only [thenS,blockS])|(refine Pwp.cond rfl True.intro (fun h=>?_) (fun h=>?_)<;>(try (cases h;done))<;>(try simp only [h]))|refine Pwp.ret ?_|(refine hK _ ?_;clear hK K)|(refine hK _ _ rfl ?_;clear hK K)|refine CallG.off ?_|with_reducible refine Or.inl ?_|simp only [thenS,blockS]|with_reducible refine And.intro ?_ ?_|with_reducible exact True.intro|simp (dsimp:=false) only [↓gq,↓stepP,↓stepG,go_sem,c1,c2,c3,c4,c16,c6,c7,c8,c9])
  all_goals (try (first|(intro hg;simp [hg];done)|exact of_decide_eq_true rfl|(cases h;done)))
  (refine Fin.data (.inr rfl) (by simp (dsimp:=false) only [↓gq,↓stepP,↓stepG,go_sem,resL]; rfl) (by simp only [and_self]) (by simp (dsimp:=false) only [↓gq,↓stepP,↓stepG,go_sem,resP,Nat.le_refl,List.take_length]; try rfl) ?_)
  exact subD_refl _
def deskD (d : Desk) : D := .agg (d.cells ++ [nilD])
def saidL (o : Option D) : D := .slc 12 o.toList
def outD (o : Out) : D := .tup [deskD o.d, saidL o.o, I64 o.e]
set_option maxHeartbeats 16000000 in
theorem run57n (d : Desk) (m : Msg) (from' : Int) (x : D) (hh : Runs Try.prog 118 [pint .i64 m.kind] [] (.d (.tup [.v .nilFunc, .v (.bool false)])) []) : Runs Try.prog 57 [.d (deskD d), .d m.d, pint .i64 from'] [] (.d (outD ⟨110, d, none⟩)) [] := by
  unfold outD deskD saidL
  simp only [deskH, deskB, deskB2, Desk.cells, Desk.book, saidD, Msg.d, Msg.cells, about, Item.d, Item.cells, List.cons_append, List.nil_append, List.map_cons, List.map_nil] at *
  refine Runs.of (kit Try.prog) Try.func57 rfl rfl (by rw [Try.ntmps57]; exact of_decide_eq_true rfl) ?_; rw [Try.ntmps57, Try.results57]
  repeat' (first|((first|refine goA rfl fun K hK=>?_|refine goB rfl fun K hK=>?_|refine goC rfl rfl fun K hK=>?_|refine goD rfl rfl fun K hK=>?_);simp (dsimp:=false) only [↓gq,↓stepP,↓stepG,go_sem])|refine Pwp.seq ?_|refine Pwp.block ?_|(refine Pwp.exit ?_;simp only [thenS,blockS,if_true,if_false,reduceIte,Nat.reduceEqDiff,Nat.add_one_ne_zero,reduceCtorEq])|(refine Pwp.skip ?_;simp only [thenS,blockS])|(refine Pwp.cond rfl True.intro (fun h=>?_) (fun h=>?_)<;>(try (cases h;done))<;>(try simp only [h]))|refine Pwp.ret ?_|(refine hK _ ?_;clear hK K)|(refine hK _ _ rfl ?_;clear hK K)|(refine CallK.give (ds:=[I64 m.kind]) rfl (hh) (by simp) ?_)|refine CallG.off ?_|with_reducible refine Or.inl ?_|simp only [thenS,blockS]|with_reducible refine And.intro ?_ ?_|with_reducible exact True.intro|simp (dsimp:=false) only [↓gq,↓stepP,↓stepG,go_sem])
  all_goals (try (first|(intro hg;simp [hg];done)|exact of_decide_eq_true rfl|(cases h;done)))
  (refine Fin.data (.inr rfl) (by simp (dsimp:=false) only [↓gq,↓stepP,↓stepG,go_sem,resL]; rfl) (by simp only [and_self]) (by simp (dsimp:=false) only [↓gq,↓stepP,↓stepG,go_sem,resP,Nat.le_refl,List.take_length]; try rfl) ?_)
  simp [subD, subL, subV, subD_refl]
set_option maxHeartbeats 16000000 in
theorem run57w (d : Desk) (m : Msg) (from' : Int) (f : Nat) (cl : Bool) (hh : Runs Try.prog 118 [pint .i64 m.kind] [] (.d (.tup [fnD f, .v (.bool cl)])) []) (hc : cl ≠ (from' == -1)) : Runs Try.prog 57 [.d (deskD d), .d m.d, pint .i64 from'] [] (.d (outD ⟨110, d, none⟩)) [] := by
  have hc2 : (cl == (from' == -1)) = false := by simpa using hc
  unfold outD deskD saidL
  simp only [deskH, deskB, deskB2, Desk.cells, Desk.book, saidD, Msg.d, Msg.cells, about, Item.d, Item.cells, List.cons_append, List.nil_append, List.map_cons, List.map_nil] at *
  refine Runs.of (kit Try.prog) Try.func57 rfl rfl (by rw [Try.ntmps57]; exact of_decide_eq_true rfl) ?_; rw [Try.ntmps57, Try.results57]
  repeat' (first|((first|refine goA rfl fun K hK=>?_|refine goB rfl fun K hK=>?_|refine goC rfl rfl fun K hK=>?_|refine goD rfl rfl fun K hK=>?_);simp (dsimp:=false) only [↓gq,↓stepP,↓stepG,go_sem,hc2])|refine Pwp.seq ?_|refine Pwp.block ?_|(refine Pwp.exit ?_;simp only [thenS,blockS,if_true,if_false,reduceIte,Nat.reduceEqDiff,Nat.add_one_ne_zero,reduceCtorEq])|(refine Pwp.skip ?_;simp only [thenS,blockS])|(refine Pwp.cond rfl True.intro (fun h=>?_) (fun h=>?_)<;>(try (cases h;done))<;>(try simp only [h]))|refine Pwp.ret ?_|(refine hK _ ?_;clear hK K)|(refine hK _ _ rfl ?_;clear hK K)|(refine CallK.give (ds:=[I64 m.kind]) rfl (hh) (by simp) ?_)|refine CallG.off ?_|with_reducible refine Or.inl ?_|simp only [thenS,blockS]|with_reducible refine And.intro ?_ ?_|with_reducible exact True.intro|simp (dsimp:=false) only [↓gq,↓stepP,↓stepG,go_sem,hc2])
  all_goals (try (first|(intro hg;simp [hg];done)|exact of_decide_eq_true rfl|(cases h;done)))
  (refine Fin.data (.inr rfl) (by simp (dsimp:=false) only [↓gq,↓stepP,↓stepG,go_sem,resL]; rfl) (by simp only [and_self]) (by simp (dsimp:=false) only [↓gq,↓stepP,↓stepG,go_sem,resP,Nat.le_refl,List.take_length]; try rfl) ?_)
  simp [subD, subL, subV, subD_refl]
set_option maxHeartbeats 16000000 in
theorem run57c (d : Desk) (m : Msg) (from' : Int) (f : Nat) (R : Out) (hh : Runs Try.prog 118 [pint .i64 m.kind] [] (.d (.tup [fnD f, .v (.bool (from' == -1))])) []) (hr : Runs Try.prog f [.ref 0 0, .d m.d, pint .i64 from'] [(0, deskB d)] (pint .i64 R.e) (deskH R.d R.o)) :
    Runs Try.prog 57 [.d (deskD d), .d m.d, pint .i64 from'] [] (.d (outD (if R.e = 0 then R else ⟨R.e, d, none⟩))) [] := by
  obtain ⟨e, d2, ro⟩ := R
  simp only at hr ⊢
  cases ro with
  | none =>
    by_cases h0 : e = 0
    · subst h0
      rw [if_pos rfl]
      unfold outD deskD saidL
      simp only [deskH, deskB, deskB2, Desk.cells, Desk.book, saidD, Msg.d, Msg.cells, about, Item.d, Item.cells, List.cons_append, List.nil_append, List.map_cons, List.map_nil] at *
      refine Runs.of (kit Try.prog) Try.func57 rfl rfl (by rw [Try.ntmps57]; exact of_decide_eq_true rfl) ?_; rw [Try.ntmps57, Try.results57]
      repeat' (first|((first|refine goA rfl fun K hK=>?_|refine goB rfl fun K hK=>?_|refine goC rfl rfl fun K hK=>?_|refine goD rfl rfl fun K hK=>?_);simp (dsimp:=false) only [↓gq,↓stepP,↓stepG,go_sem,beq_self_eq_true,bne_self_eq_false,Bool.not_true])|refine Pwp.seq ?_|refine Pwp.block ?_|(refine Pwp.exit ?_;simp only [thenS,blockS,if_true,if_false,reduceIte,Nat.reduceEqDiff,Nat.add_one_ne_zero,reduceCtorEq])|(refine Pwp.skip ?_;simp only [thenS,blockS])|(refine Pwp.cond rfl True.intro (fun h=>?_) (fun h=>?_)<;>(try (cases h;done))<;>(try simp only [h]))|refine Pwp.ret ?_|(refine hK _ ?_;clear hK K)|(refine hK _ _ rfl ?_;clear hK K)|(refine CallK.desk (cs:=[I64 d.me, .slc 8 (itemsD d.items), .slc 3 (ordersD d.orders), I64 d.far, nilD]) rfl rfl rfl hr (by simp) ?_)|(refine CallK.give (ds:=[I64 m.kind]) rfl (hh) (by simp) ?_)|refine CallG.off ?_|with_reducible refine Or.inl ?_|simp only [thenS,blockS]|with_reducible refine And.intro ?_ ?_|with_reducible exact True.intro|simp (dsimp:=false) only [↓gq,↓stepP,↓stepG,go_sem,beq_self_eq_true,bne_self_eq_false,Bool.not_true])
      all_goals (try (first|(intro hg;simp [hg];done)|exact of_decide_eq_true rfl|(cases h;done)))
      (refine Fin.data (.inr rfl) (by simp (dsimp:=false) only [↓gq,↓stepP,↓stepG,go_sem,resL]; rfl) (by simp only [and_self]) (by simp (dsimp:=false) only [↓gq,↓stepP,↓stepG,go_sem,resP,Nat.le_refl,List.take_length]; try rfl) ?_)
      simp [subD, subL, subV, subD_refl]
    · have n0 : (e != 0) = true := by simpa using h0
      rw [if_neg h0]
      unfold outD deskD saidL
      simp only [deskH, deskB, deskB2, Desk.cells, Desk.book, saidD, Msg.d, Msg.cells, about, Item.d, Item.cells, List.cons_append, List.nil_append, List.map_cons, List.map_nil] at *
      refine Runs.of (kit Try.prog) Try.func57 rfl rfl (by rw [Try.ntmps57]; exact of_decide_eq_true rfl) ?_; rw [Try.ntmps57, Try.results57]
      repeat' (first|((first|refine goA rfl fun K hK=>?_|refine goB rfl fun K hK=>?_|refine goC rfl rfl fun K hK=>?_|refine goD rfl rfl fun K hK=>?_);simp (dsimp:=false) only [↓gq,↓stepP,↓stepG,go_sem,beq_self_eq_true,n0,Bool.not_true])|refine Pwp.seq ?_|refine Pwp.block ?_|(refine Pwp.exit ?_;simp only [thenS,blockS,if_true,if_false,reduceIte,Nat.reduceEqDiff,Nat.add_one_ne_zero,reduceCtorEq])|(refine Pwp.skip ?_;simp only [thenS,blockS])|(refine Pwp.cond rfl True.intro (fun h=>?_) (fun h=>?_)<;>(try (cases h;done))<;>(try simp only [h]))|refine Pwp.ret ?_|(refine hK _ ?_;clear hK K)|(refine hK _ _ rfl ?_;clear hK K)|(refine CallK.desk (cs:=[I64 d.me, .slc 8 (itemsD d.items), .slc 3 (ordersD d.orders), I64 d.far, nilD]) rfl rfl rfl hr (by simp) ?_)|(refine CallK.give (ds:=[I64 m.kind]) rfl (hh) (by simp) ?_)|refine CallG.off ?_|with_reducible refine Or.inl ?_|simp only [thenS,blockS]|with_reducible refine And.intro ?_ ?_|with_reducible exact True.intro|simp (dsimp:=false) only [↓gq,↓stepP,↓stepG,go_sem,beq_self_eq_true,n0,Bool.not_true])
      all_goals (try (first|(intro hg;simp [hg];done)|exact of_decide_eq_true rfl|(cases h;done)))
      (refine Fin.data (.inr rfl) (by simp (dsimp:=false) only [↓gq,↓stepP,↓stepG,go_sem,resL]; rfl) (by simp only [and_self]) (by simp (dsimp:=false) only [↓gq,↓stepP,↓stepG,go_sem,resP,Nat.le_refl,List.take_length]; try rfl) ?_)
      simp [subD, subL, subV, subD_refl]
  | some s =>
    by_cases h0 : e = 0
    · subst h0
      rw [if_pos rfl]
      unfold outD deskD saidL
      simp only [deskH, deskB, deskB2, Desk.cells, Desk.book, saidD, Msg.d, Msg.cells, about, Item.d, Item.cells, List.cons_append, List.nil_append, List.map_cons, List.map_nil] at *
      refine Runs.of (kit Try.prog) Try.func57 rfl rfl (by rw [Try.ntmps57]; exact of_decide_eq_true rfl) ?_; rw [Try.ntmps57, Try.results57]
      repeat' (first|((first|refine goA rfl fun K hK=>?_|refine goB rfl fun K hK=>?_|refine goC rfl rfl fun K hK=>?_|refine goD rfl rfl fun K hK=>?_);simp (dsimp:=false) only [↓gq,↓stepP,↓stepG,go_sem,beq_self_eq_true,bne_self_eq_false,Bool.not_true])|refine Pwp.seq ?_|refine Pwp.block ?_|(refine Pwp.exit ?_;simp only [thenS,blockS,if_true,if_false,reduceIte,Nat.reduceEqDiff,Nat.add_one_ne_zero,reduceCtorEq])|(refine Pwp.skip ?_;simp only [thenS,blockS])|(refine Pwp.cond rfl True.intro (fun h=>?_) (fun h=>?_)<;>(try (cases h;done))<;>(try simp only [h]))|refine Pwp.ret ?_|(refine hK _ ?_;clear hK K)|(refine hK _ _ rfl ?_;clear hK K)|(refine CallK.desk (cs:=[I64 d.me, .slc 8 (itemsD d.items), .slc 3 (ordersD d.orders), I64 d.far, nilD]) rfl rfl rfl hr (by simp) ?_)|(refine CallK.give (ds:=[I64 m.kind]) rfl (hh) (by simp) ?_)|refine CallG.off ?_|with_reducible refine Or.inl ?_|simp only [thenS,blockS]|with_reducible refine And.intro ?_ ?_|with_reducible exact True.intro|simp (dsimp:=false) only [↓gq,↓stepP,↓stepG,go_sem,beq_self_eq_true,bne_self_eq_false,Bool.not_true])
      all_goals (try (first|(intro hg;simp [hg];done)|exact of_decide_eq_true rfl|(cases h;done)))
      (refine Fin.data (.inr rfl) (by simp (dsimp:=false) only [↓gq,↓stepP,↓stepG,go_sem,resL]; rfl) (by simp only [and_self]) (by simp (dsimp:=false) only [↓gq,↓stepP,↓stepG,go_sem,resP,Nat.le_refl,List.take_length]; try rfl) ?_)
      simp [subD, subL, subV, subD_refl]
    · have n0 : (e != 0) = true := by simpa using h0
      rw [if_neg h0]
      unfold outD deskD saidL
      simp only [deskH, deskB, deskB2, Desk.cells, Desk.book, saidD, Msg.d, Msg.cells, about, Item.d, Item.cells, List.cons_append, List.nil_append, List.map_cons, List.map_nil] at *
      refine Runs.of (kit Try.prog) Try.func57 rfl rfl (by rw [Try.ntmps57]; exact of_decide_eq_true rfl) ?_; rw [Try.ntmps57, Try.results57]
      repeat' (first|((first|refine goA rfl fun K hK=>?_|refine goB rfl fun K hK=>?_|refine goC rfl rfl fun K hK=>?_|refine goD rfl rfl fun K hK=>?_);simp (dsimp:=false) only [↓gq,↓stepP,↓stepG,go_sem,beq_self_eq_true,n0,Bool.not_true])|refine Pwp.seq ?_|refine Pwp.block ?_|(refine Pwp.exit ?_;simp only [thenS,blockS,if_true,if_false,reduceIte,Nat.reduceEqDiff,Nat.add_one_ne_zero,reduceCtorEq])|(refine Pwp.skip ?_;simp only [thenS,blockS])|(refine Pwp.cond rfl True.intro (fun h=>?_) (fun h=>?_)<;>(try (cases h;done))<;>(try simp only [h]))|refine Pwp.ret ?_|(refine hK _ ?_;clear hK K)|(refine hK _ _ rfl ?_;clear hK K)|(refine CallK.desk (cs:=[I64 d.me, .slc 8 (itemsD d.items), .slc 3 (ordersD d.orders), I64 d.far, nilD]) rfl rfl rfl hr (by simp) ?_)|(refine CallK.give (ds:=[I64 m.kind]) rfl (hh) (by simp) ?_)|refine CallG.off ?_|with_reducible refine Or.inl ?_|simp only [thenS,blockS]|with_reducible refine And.intro ?_ ?_|with_reducible exact True.intro|simp (dsimp:=false) only [↓gq,↓stepP,↓stepG,go_sem,beq_self_eq_true,n0,Bool.not_true])
      all_goals (try (first|(intro hg;simp [hg];done)|exact of_decide_eq_true rfl|(cases h;done)))
      (refine Fin.data (.inr rfl) (by simp (dsimp:=false) only [↓gq,↓stepP,↓stepG,go_sem,resL]; rfl) (by simp only [and_self]) (by simp (dsimp:=false) only [↓gq,↓stepP,↓stepG,go_sem,resP,Nat.le_refl,List.take_length]; try rfl) ?_)
      simp [subD, subL, subV, subD_refl]
end Go.Proofs.Ytdodgbhodkcckaa.Pv
end
section
set_option linter.unusedVariables false
set_option linter.unusedSimpArgs false
set_option autoImplicit false
set_option maxRecDepth 100000
namespace Go.Proofs.Ytdodgbhodkcckaa.Pv
open Go Go.RowKit
structure DeskOK (d : Desk) : Prop where
  li : d.items.length ≤ 1024
  lo : d.orders.length ≤ 1024
  it : ∀ x ∈ d.items, chk x = 0
  am : ∀ o ∈ d.orders, In64 o.amount
  far : In64 d.far
theorem DeskOK.li2 {d : Desk} (h : DeskOK d) : d.items.length ≤ 100000 := by have := h.li; omega
theorem DeskOK.lo2 {d : Desk} (h : DeskOK d) : d.orders.length ≤ 100000 := by have := h.lo; omega
theorem chk_round {x : Item} (h : chk x = 0) : 0 ≤ x.round ∧ x.round ≤ 3 := by
  unfold chk at h
  by_cases c : (decide (x.round < 0) || decide (3 < x.round)) = true
  · exfalso
    rw [if_pos c] at h
    repeat' split at h
    all_goals cases h
  · rw [Bool.or_eq_true, decide_eq_true_eq, decide_eq_true_eq] at c; omega
theorem DeskOK.get {d : Desk} (h : DeskOK d) (s n : Int) : 0 ≤ (getI d.items s n).round ∧ (getI d.items s n).round ≤ 3 := by
  unfold getI
  split
  · cases e : d.items[posOf d.items s n]? with
    | none => simp [Item.zero]
    | some x => exact chk_round (h.it x (List.mem_of_getElem? e))
  · simp [Item.zero]
theorem DeskOK.getO {d : Desk} (h : DeskOK d) (s n : Int) : In64 (getO d.orders s n) := by
  unfold Pv.getO
  split
  · cases e : d.orders[posO d.orders s n]? with
    | none => simp [In64]
    | some x => exact h.am x (List.mem_of_getElem? e)
  · simp [In64]
def Out.of (d : Desk) (cl : Bool) (from' : Int) (R : Out) : Out := if cl = (from' == -1) then (if R.e = 0 then R else ⟨R.e, d, none⟩) else ⟨110, d, none⟩
def doR (d : Desk) (m : Msg) (from' : Int) : Out :=
  if m.kind = 1 then Out.of d true from' (issueR d m) else
  if m.kind = 2 then Out.of d true from' (orderR d m) else
  if m.kind = 3 then Out.of d true from' (adjustR d m from') else
  if m.kind = 4 then Out.of d true from' (withdrawR d m from') else
  if m.kind = 16 then Out.of d true from' (dueR d m from') else
  if m.kind = 6 then Out.of d false from' (proposeR d m from') else
  if m.kind = 7 then Out.of d false from' (confirmR d m from') else
  if m.kind = 8 then Out.of d false from' (disputeR d m from') else
  if m.kind = 9 then Out.of d false from' (cancelR d m from') else
  ⟨110, d, none⟩
set_option maxHeartbeats 8000000 in
theorem run57 (d : Desk) (h : DeskOK d) (m : Msg) (hm : In64 m.amount) (from' : Int) : Runs Try.prog 57 [.d (deskD d), .d m.d, pint .i64 from'] [] (.d (outD (doR d m from'))) [] := by
  have hh := run118 m.kind
  unfold doR
  by_cases k1 : m.kind = 1
  · rw [if_pos k1]
    rw [show handV m.kind = (fnD 172, true) by simp [handV, k1]] at hh
    unfold Out.of
    by_cases hb : true = (from' == -1)
    · rw [if_pos hb]; rw [hb] at hh; exact run57c d m from' 172 _ hh (run172 d m from' h.li2)
    · rw [if_neg hb]; exact run57w d m from' 172 true hh hb
  rw [if_neg k1]
  by_cases k2 : m.kind = 2
  · rw [if_pos k2]
    rw [show handV m.kind = (fnD 173, true) by simp [handV, k2]] at hh
    unfold Out.of
    by_cases hb : true = (from' == -1)
    · rw [if_pos hb]; rw [hb] at hh; exact run57c d m from' 173 _ hh (run173 d m from' h.lo2)
    · rw [if_neg hb]; exact run57w d m from' 173 true hh hb
  rw [if_neg k2]
  by_cases k3 : m.kind = 3
  · rw [if_pos k3]
    rw [show handV m.kind = (fnD 174, true) by simp [handV, k3]] at hh
    unfold Out.of
    by_cases hb : true = (from' == -1)
    · rw [if_pos hb]; rw [hb] at hh; exact run57c d m from' 174 _ hh (run174 d m from' h.li2 (h.get _ _))
    · rw [if_neg hb]; exact run57w d m from' 174 true hh hb
  rw [if_neg k3]
  by_cases k4 : m.kind = 4
  · rw [if_pos k4]
    rw [show handV m.kind = (fnD 175, true) by simp [handV, k4]] at hh
    unfold Out.of
    by_cases hb : true = (from' == -1)
    · rw [if_pos hb]; rw [hb] at hh; exact run57c d m from' 175 _ hh (run175 d m from' h.li2)
    · rw [if_neg hb]; exact run57w d m from' 175 true hh hb
  rw [if_neg k4]
  by_cases k16 : m.kind = 16
  · rw [if_pos k16]
    rw [show handV m.kind = (fnD 176, true) by simp [handV, k16]] at hh
    unfold Out.of
    by_cases hb : true = (from' == -1)
    · rw [if_pos hb]; rw [hb] at hh; exact run57c d m from' 176 _ hh (run176 d m from' h.li2)
    · rw [if_neg hb]; exact run57w d m from' 176 true hh hb
  rw [if_neg k16]
  by_cases k6 : m.kind = 6
  · rw [if_pos k6]
    rw [show handV m.kind = (fnD 177, false) by simp [handV, k6]] at hh
    unfold Out.of
    by_cases hb : false = (from' == -1)
    · rw [if_pos hb]; rw [hb] at hh; exact run57c d m from' 177 _ hh (run177 d m from' h.li2 h.lo2 (h.get _ _) (h.getO _ _) hm h.far)
    · rw [if_neg hb]; exact run57w d m from' 177 false hh hb
  rw [if_neg k6]
  by_cases k7 : m.kind = 7
  · rw [if_pos k7]
    rw [show handV m.kind = (fnD 178, false) by simp [handV, k7]] at hh
    unfold Out.of
    by_cases hb : false = (from' == -1)
    · rw [if_pos hb]; rw [hb] at hh; exact run57c d m from' 178 _ hh (run178 d m from' h.li2)
    · rw [if_neg hb]; exact run57w d m from' 178 false hh hb
  rw [if_neg k7]
  by_cases k8 : m.kind = 8
  · rw [if_pos k8]
    rw [show handV m.kind = (fnD 179, false) by simp [handV, k8]] at hh
    unfold Out.of
    by_cases hb : false = (from' == -1)
    · rw [if_pos hb]; rw [hb] at hh; exact run57c d m from' 179 _ hh (run179 d m from' h.li2)
    · rw [if_neg hb]; exact run57w d m from' 179 false hh hb
  rw [if_neg k8]
  by_cases k9 : m.kind = 9
  · rw [if_pos k9]
    rw [show handV m.kind = (fnD 180, false) by simp [handV, k9]] at hh
    unfold Out.of
    by_cases hb : false = (from' == -1)
    · rw [if_pos hb]; rw [hb] at hh; exact run57c d m from' 180 _ hh (run180 d m from' h.li2)
    · rw [if_neg hb]; exact run57w d m from' 180 false hh hb
  rw [if_neg k9]
  rw [show handV m.kind = (.v .nilFunc, false) by simp [handV, k1, k2, k3, k4, k16, k6, k7, k8, k9]] at hh
  exact run57n d m from' nilD hh
def desk0 (me far : Int) : Desk := ⟨me, [], [], far⟩
set_option maxHeartbeats 8000000 in
theorem run56 (me far : Int) (h : 0 ≤ me ∧ me < 8) : Runs Try.prog 56 [pint .i64 me, pint .i64 far] [] (.d (.tup [deskD (desk0 me far), .v (.bool true)])) [] := by
  have r49 := run49 me
  rw [if_neg (by rw [Bool.or_eq_true, decide_eq_true_eq, decide_eq_true_eq]; omega)] at r49
  unfold deskD desk0 Desk.cells Desk.book
  refine Runs.of (kit Try.prog) Try.func56 rfl rfl (by rw [Try.ntmps56]; exact of_decide_eq_true rfl) ?_; rw [Try.ntmps56, Try.results56]
  repeat' (first|((first|refine goA rfl fun K hK=>?_|refine goB rfl fun K hK=>?_|refine goC rfl rfl fun K hK=>?_|refine goD rfl rfl fun K hK=>?_);simp (dsimp:=false) only [↓gq,↓stepP,↓stepG,go_sem,beq_self_eq_true])|refine Pwp.seq ?_|refine Pwp.block ?_|(refine Pwp.exit ?_;simp only [thenS,blockS,if_true,if_false,reduceIte,Nat.reduceEqDiff,Nat.add_one_ne_zero,reduceCtorEq])|(refine Pwp.skip ?_;simp only [thenS,blockS])|(refine Pwp.cond rfl True.intro (fun h=>?_) (fun h=>?_)<;>(try (cases h;done))<;>(try simp only [h]))|refine Pwp.ret ?_|(refine hK _ ?_;clear hK K)|(refine hK _ _ rfl ?_;clear hK K)|(refine CallK.give (ds:=[I64 me]) rfl (r49) (by simp) ?_)|refine CallG.off ?_|with_reducible refine Or.inl ?_|simp only [thenS,blockS]|with_reducible refine And.intro ?_ ?_|with_reducible exact True.intro|simp (dsimp:=false) only [↓gq,↓stepP,↓stepG,go_sem,beq_self_eq_true])
  all_goals (try (first|(intro hg;simp [hg];done)|exact of_decide_eq_true rfl|(cases h;done)))
  (refine Fin.data (.inr rfl) (by simp (dsimp:=false) only [↓gq,↓stepP,↓stepG,go_sem,resL]; rfl) (by simp only [and_self]) (by simp (dsimp:=false) only [↓gq,↓stepP,↓stepG,go_sem,resP,Nat.le_refl,List.take_length]; try rfl) ?_)
  simp [subD, subL, subV, subD_refl, itemsD, ordersD]
end Go.Proofs.Ytdodgbhodkcckaa.Pv
end
section
set_option linter.unusedVariables false
set_option linter.unusedSimpArgs false
set_option autoImplicit false
set_option maxRecDepth 100000
namespace Go.Proofs.Ytdodgbhodkcckaa.Pv
open Go Go.RowKit
theorem cmpN_self (s n : Int) : cmpN s n s n = 0 := by simp [cmpN, cmpI]
theorem posOf_nil (s n : Int) : posOf [] s n = 0 := by unfold posOf; exact bsLoop_end (by simp)
theorem isIn_nil (s n : Int) : isIn [] s n = false := by simp [isIn, posOf_nil]
theorem posOf_one (x : Item) : posOf [x] x.seller x.number = 0 := by
  unfold posOf
  rw [bsLoop_ge (by simp) (by simp [cmpAt, cmpN_self])]
  exact bsLoop_end (by simp)
theorem isIn_one (x : Item) : isIn [x] x.seller x.number = true := by simp [isIn, posOf_one, cmpAt, cmpN_self]
theorem getI_one (x : Item) : getI [x] x.seller x.number = x := by simp [getI, isIn_one, posOf_one]
theorem putIn_nil (x : Item) : putIn [] x = [x] := by simp [putIn, isIn_nil, posOf_nil]
theorem putIn_one (x y : Item) (hs : y.seller = x.seller) (hn : y.number = x.number) : putIn [x] y = [y] := by
  unfold putIn
  rw [hs, hn, isIn_one, posOf_one]; simp
theorem posO_nil (s n : Int) : posO [] s n = 0 := by unfold posO; exact bsLoop_end (by simp)
theorem isInO_nil (s n : Int) : isInO [] s n = false := by simp [isInO, posO_nil]
theorem posO_one (x : Order) : posO [x] x.seller x.number = 0 := by
  unfold posO
  rw [bsLoop_ge (by simp) (by simp [cmpAtO, cmpN_self])]
  exact bsLoop_end (by simp)
theorem isInO_one (x : Order) : isInO [x] x.seller x.number = true := by simp [isInO, posO_one, cmpAtO, cmpN_self]
theorem getO_one (x : Order) : getO [x] x.seller x.number = x.amount := by simp [getO, isInO_one, posO_one]
theorem putO_nil (x : Order) : putO [] x = [x] := by simp [putO, isInO_nil, posO_nil]
theorem desk0_ok {me far : Int} (hf : In64 far) : DeskOK (desk0 me far) := ⟨by simp [desk0], by simp [desk0], by simp [desk0], by simp [desk0], hf⟩
theorem chk_ok {s n b c a r st : Int} (h1 : 0 ≤ s ∧ s < 8) (h2 : 0 ≤ b ∧ b < 8) (h3 : b ≠ s) (h4 : 1 ≤ n ∧ n ≤ 1048576) (h5 : 0 ≤ c ∧ c < 8) (h6 : 1 ≤ a ∧ a ≤ 1125899906842624) (h7 : 0 ≤ r ∧ r ≤ 3) (h8 : 1 ≤ st ∧ st ≤ 4) : chk ⟨s, n, b, c, a, r, st, 0⟩ = 0 := by
  unfold chk
  simp only
  rw [if_neg (by simp; omega), if_neg (by simp; omega), if_neg (by simpa using h3), if_neg (by simp; omega), if_neg (by simp; omega), if_neg (by simp; omega), if_neg (by simp; omega), if_neg (by simp; omega), if_neg (by simp), if_neg (by simp), if_neg (by simp; omega)]
theorem do_propose {os : List Order} {far a : Int} (ha : 1 ≤ a ∧ a ≤ 1125899906842624) (l n : D) {nr : Bool} (hn : (isInO os 0 3 && nearV (getO os 0 3) a far) = nr) :
    doR ⟨1, [], os, far⟩ ⟨6, 0, 3, 1, 0, 0, 0, a, false, l, n⟩ 0 = ⟨0, ⟨1, [⟨0, 3, 1, 0, a, 0, if nr = true then 3 else 2, 0⟩], os, far⟩, some (saidD 0 (about (if nr = true then 7 else 8) ⟨0, 3, 1, 0, a, 0, if nr = true then 3 else 2, 0⟩))⟩ := by
  have e0 : chk ⟨0, 3, 1, 0, a, 0, 1, 0⟩ = 0 := chk_ok (by omega) (by omega) (by omega) (by omega) (by omega) ha (by omega) (by omega)
  have e1 : chk (propI ⟨6, 0, 3, 1, 0, 0, 0, a, false, l, n⟩) = 0 := e0
  have e2 : propY ⟨1, [], os, far⟩ ⟨6, 0, 3, 1, 0, 0, 0, a, false, l, n⟩ = ⟨0, 3, 1, 0, a, 0, if nr = true then 3 else 2, 0⟩ := by
    unfold propY propN
    simp only [hn]
    cases nr <;> simp [stepI, propI, newI]
  have e3 : propK ⟨1, [], os, far⟩ ⟨6, 0, 3, 1, 0, 0, 0, a, false, l, n⟩ = if nr = true then 7 else 8 := by
    unfold propK propN
    simp only [hn]
  have e4 : propS ⟨1, [], os, far⟩ ⟨6, 0, 3, 1, 0, 0, 0, a, false, l, n⟩ = false := by simp [propS, isIn_nil]
  have e5 : ∀ st : Int, 1 ≤ st ∧ st ≤ 4 → putE 1 [] ⟨0, 3, 1, 0, a, 0, st, 0⟩ = 0 := fun st hst => by
    unfold putE
    rw [chk_ok (by omega) (by omega) (by omega) (by omega) (by omega) ha (by omega) hst]
    simp [isIn_nil]
  have e6 := e5 (if nr = true then 3 else 2) (by cases nr <;> simp)
  unfold doR
  simp only [Int.reduceEq, if_false, if_true]
  unfold Out.of proposeR
  rw [e1, e2, e3, e4, e6]
  simp [Desk.put, e6, putIn_nil]
theorem do_order {me far s n a : Int} (h : expE me [] ⟨s, n, a⟩ = 0) (c : Int) (b cu r cy : Int) (y : Bool) (l ne : D) : doR (desk0 me far) ⟨2, s, n, b, cu, r, cy, a, y, l, ne⟩ (-1) = ⟨0, ⟨me, [], [⟨s, n, a⟩], far⟩, none⟩ := by
  unfold doR
  simp only [Int.reduceEq, if_false, if_true]
  unfold Out.of orderR desk0
  simp [h, putO_nil]
theorem do_issue {far n b a : Int} (hb : 0 < b ∧ b < 8) (hn : 1 ≤ n ∧ n ≤ 1048576) (ha : 1 ≤ a ∧ a ≤ 1125899906842624) (l ne : D) : doR (desk0 0 far) ⟨1, 0, n, b, 0, 0, 0, a, false, l, ne⟩ (-1) = ⟨0, ⟨0, [⟨0, n, b, 0, a, 0, 1, 0⟩], [], far⟩, some (saidD b (about 6 ⟨0, n, b, 0, a, 0, 1, 0⟩))⟩ := by
  have e0 : chk ⟨0, n, b, 0, a, 0, 1, 0⟩ = 0 := chk_ok (by omega) (by omega) (by omega) hn (by omega) ha (by omega) (by omega)
  have e1 : chk (issueI ⟨1, 0, n, b, 0, 0, 0, a, false, l, ne⟩) = 0 := e0
  have e6 : putE 0 [] ⟨0, n, b, 0, a, 0, 1, 0⟩ = 0 := by
    unfold putE
    rw [chk_ok (by omega) (by omega) (by omega) hn (by omega) ha (by omega) (by omega)]
    simp [isIn_nil]
  unfold doR
  simp only [Int.reduceEq, if_false, if_true]
  unfold Out.of issueR desk0
  rw [e1]
  have e7 : issueI ⟨1, 0, n, b, 0, 0, 0, a, false, l, ne⟩ = ⟨0, n, b, 0, a, 0, 1, 0⟩ := rfl
  rw [e7]
  simp [Desk.put, e6, putIn_nil, isIn_nil]
theorem do_confirm {far n b a : Int} (hb : 0 < b ∧ b < 8) (hn : 1 ≤ n ∧ n ≤ 1048576) (ha : 1 ≤ a ∧ a ≤ 1125899906842624) (x y z : Int) (q : Bool) (l ne : D) : doR ⟨0, [⟨0, n, b, 0, a, 0, 1, 0⟩], [], far⟩ ⟨7, 0, n, x, y, 0, z, a, q, l, ne⟩ b = ⟨0, ⟨0, [⟨0, n, b, 0, a, 0, 3, 0⟩], [], far⟩, none⟩ := by
  have i1 := isIn_one ⟨0, n, b, 0, a, 0, 1, 0⟩
  have g1 := getI_one ⟨0, n, b, 0, a, 0, 1, 0⟩
  simp only at i1 g1
  have e6 : putE 0 [⟨0, n, b, 0, a, 0, 1, 0⟩] ⟨0, n, b, 0, a, 0, 3, 0⟩ = 0 := by
    unfold putE
    rw [chk_ok (by omega) (by omega) (by omega) hn (by omega) ha (by omega) (by omega)]
    simp [i1]
  have hb1 : (b == -1) = false := by rw [beq_eq_false_iff_ne]; omega
  have p1 : putIn [⟨0, n, b, 0, a, 0, 1, 0⟩] ⟨0, n, b, 0, a, 0, 3, 0⟩ = [⟨0, n, b, 0, a, 0, 3, 0⟩] := putIn_one _ _ rfl rfl
  unfold doR
  simp only [Int.reduceEq, if_false, if_true]
  unfold Out.of confirmR ansE mineE
  simp only [i1, g1]
  simp [hb1, stepE, stepI, Desk.put, e6, p1]
end Go.Proofs.Ytdodgbhodkcckaa.Pv
end
section
set_option linter.unusedVariables false
set_option linter.unusedSimpArgs false
set_option autoImplicit false
set_option maxRecDepth 100000
namespace Go.Proofs.Ytdodgbhodkcckaa.Pv
open Go Go.RowKit
def eI (n r s : Int) : Item := ⟨0, 1, 1, 0, n, r, s, 0⟩
structure EOK (n r s : Int) : Prop where
  n : 1 ≤ n ∧ n ≤ 1125899906842624
  r : 0 ≤ r ∧ r ≤ 3
  s : 1 ≤ s ∧ s ≤ 4
theorem EOK.chk {n r s : Int} (h : EOK n r s) : chk (eI n r s) = 0 := chk_ok (by omega) (by omega) (by omega) (by omega) (by omega) h.n h.r h.s
theorem EOK.put0 {n r s : Int} (h : EOK n r s) (me : Int) (hm : me = 0 ∨ me = 1) : putE me [] (eI n r s) = 0 := by
  unfold putE
  rw [h.chk]
  rcases hm with rfl | rfl <;> simp [isIn_nil, eI]
theorem EOK.put1 {n r s : Int} (h : EOK n r s) (me : Int) (hm : me = 0 ∨ me = 1) (m k t : Int) : putE me [eI m k t] (eI n r s) = 0 := by
  have h1 := isIn_one (eI m k t)
  unfold putE
  rw [h.chk]
  simp only [eI] at h1
  rcases hm with rfl | rfl <;> simp [eI, h1]
theorem eI_is (n r s : Int) : isIn [eI n r s] 0 1 = true := isIn_one (eI n r s)
theorem eI_get (n r s : Int) : getI [eI n r s] 0 1 = eI n r s := getI_one (eI n r s)
theorem eI_put (n r s m k t : Int) : putIn [eI n r s] (eI m k t) = [eI m k t] := putIn_one _ _ rfl rfl
def dA (far : Int) (l : List Item) : Desk := ⟨0, l, [], far⟩
def dB (far want : Int) (l : List Item) : Desk := ⟨1, l, [⟨0, 1, want⟩], far⟩
def inR (n : Int) : Bool := decide (1 ≤ n) && decide (n ≤ 1125899906842624)
theorem inR_t {n : Int} (h : inR n = true) : 1 ≤ n ∧ n ≤ 1125899906842624 := by simpa [inR] using h
def issM (n : Int) : Msg := ⟨1, 0, 1, 1, 0, 0, 0, n, false, nilD, nilD⟩
def adjM (n : Int) : Msg := ⟨3, 0, 1, 1, 0, 0, 0, n, false, nilD, nilD⟩
theorem ends_issue {far n : Int} (h : inR n = true) : doR (dA far []) (issM n) (-1) = ⟨0, dA far [eI n 0 1], some (saidD 1 (about 6 (eI n 0 1)))⟩ :=
  do_issue (by omega) (by omega) (inR_t h) _ _
theorem ends_issue_no {far n : Int} (h : inR n = false) : ∃ e, e ≠ 0 ∧ doR (dA far []) (issM n) (-1) = ⟨e, dA far [], none⟩ := by
  have hc : chk (eI n 0 1) ≠ 0 := by
    unfold chk eI
    simp only
    rw [if_neg (by simp), if_neg (by simp), if_neg (by simp), if_neg (by simp), if_neg (by simp)]
    rw [if_pos]
    · decide
    · simp only [inR, Bool.and_eq_false_iff, decide_eq_false_iff_not] at h
      simp; omega
  refine ⟨chk (eI n 0 1), hc, ?_⟩
  unfold doR issM
  simp only [Int.reduceEq, if_false, if_true]
  unfold Out.of issueR
  have e7 : issueI ⟨1, 0, 1, 1, 0, 0, 0, n, false, nilD, nilD⟩ = eI n 0 1 := rfl
  rw [e7]
  simp [dA, isIn_nil, hc]
theorem ends_adjust {far n m r : Int} (h : inR n = true) (hr : 0 ≤ r ∧ r < 3) : doR (dA far [eI m r 2]) (adjM n) (-1) = ⟨0, dA far [eI n (r + 1) 1], some (saidD 1 (about 6 (eI n (r + 1) 1)))⟩ := by
  have hn := inR_t h
  have e1 : adjE (eI m r 2) n = 0 := by
    unfold adjE eI
    rw [if_neg (by simp), if_neg (by simp; omega), if_neg (by simp only; omega)]
  have e2 : adjI (eI m r 2) n = eI n (r + 1) 1 := by unfold adjI; rw [if_pos e1]; rfl
  have e3 := (show EOK n (r + 1) 1 from ⟨hn, by omega, by omega⟩).put1 0 (.inl rfl) m r 2
  have hm : mineE (dA far [eI m r 2]) 0 1 = 0 := by
    unfold mineE dA
    simp only
    rw [eI_is, if_pos rfl, eI_get]; rfl
  unfold doR adjM
  simp only [Int.reduceEq, if_false, if_true]
  unfold Out.of adjustR
  simp only [hm]
  simp only [dA, eI_get, e1, e2, e3]
  simp [Desk.put, e3, eI_put]
  try rfl
theorem ends_adjust_no {far n m r s : Int} (h : s ≠ 2 ∨ inR n = false) : ∃ e, e ≠ 0 ∧ doR (dA far [eI m r s]) (adjM n) (-1) = ⟨e, dA far [eI m r s], none⟩ := by
  have e1 : adjE (eI m r s) n ≠ 0 := by
    unfold adjE eI
    by_cases hs : s = 2
    · rcases h with h | h
      · exact absurd hs h
      · simp only [inR, Bool.and_eq_false_iff, decide_eq_false_iff_not] at h
        rw [if_neg (by simp [hs]), if_pos (by simp; omega)]; decide
    · rw [if_pos (by simpa using hs)]; decide
  have hm : mineE (dA far [eI m r s]) 0 1 = 0 := by
    unfold mineE dA
    simp only
    rw [eI_is, if_pos rfl, eI_get]; rfl
  refine ⟨adjE (eI m r s) n, e1, ?_⟩
  unfold doR adjM
  simp only [Int.reduceEq, if_false, if_true]
  unfold Out.of adjustR
  simp only [hm]
  simp only [dA, eI_get]
  simp [e1]
theorem ends_propose {far want n r : Int} {l : List Item} (h : EOK n r 1) (hl : (l = [] ∧ r = 0) ∨ ∃ m, l = [eI m (r - 1) 2]) {nr : Bool} (hn : nearV want n far = nr) :
    doR (dB far want l) (about 6 (eI n r 1)) 0 = ⟨0, dB far want [eI n r (if nr = true then 3 else 2)], some (saidD 0 (about (if nr = true then 7 else 8) (eI n r (if nr = true then 3 else 2))))⟩ := by
  have i1 := isInO_one ⟨0, 1, want⟩
  have g1 := getO_one ⟨0, 1, want⟩
  simp only at i1 g1
  have e1 : propI (about 6 (eI n r 1)) = eI n r 1 := rfl
  have e0 : propN (dB far want l) (about 6 (eI n r 1)) = nr := by
    unfold propN dB about eI
    simp only [i1, g1, Bool.true_and]; exact hn
  have e2 : propY (dB far want l) (about 6 (eI n r 1)) = eI n r (if nr = true then 3 else 2) := by
    unfold propY
    rw [e0, e1]
    cases nr <;> simp [stepI, eI]
  have e3 : propK (dB far want l) (about 6 (eI n r 1)) = if nr = true then 7 else 8 := by unfold propK; rw [e0]
  have e4 : propS (dB far want l) (about 6 (eI n r 1)) = false := by
    unfold propS dB about
    rcases hl with ⟨rfl, rfl⟩ | ⟨m, rfl⟩
    · simp [eI, isIn_nil]
    · have q1 := eI_is m (r - 1) 2
      have q2 := eI_get m (r - 1) 2
      simp only [eI] at q1 q2 ⊢
      simp [q1, q2]
  have hk : EOK n r (if nr = true then 3 else 2) := ⟨h.n, h.r, by cases nr <;> simp⟩
  have e5 : putE 1 l (eI n r (if nr = true then 3 else 2)) = 0 := by
    rcases hl with ⟨rfl, _⟩ | ⟨m, rfl⟩
    · exact hk.put0 1 (.inr rfl)
    · exact hk.put1 1 (.inr rfl) _ _ _
  have e6 : putIn l (eI n r (if nr = true then 3 else 2)) = [eI n r (if nr = true then 3 else 2)] := by
    rcases hl with ⟨rfl, _⟩ | ⟨m, rfl⟩
    · exact putIn_nil _
    · exact eI_put _ _ _ _ _ _
  unfold doR
  rw [show (about 6 (eI n r 1)).kind = 6 from rfl]
  simp only [Int.reduceEq, if_false, if_true]
  unfold Out.of proposeR
  rw [e1, e2, e3, e4, h.chk]
  generalize eI n r (if nr = true then 3 else 2) = y at *
  simp [about, eI, dB, Desk.put, e5, e6]
theorem ends_confirm {far n r : Int} (h : EOK n r 1) : doR (dA far [eI n r 1]) (about 7 (eI n r 3)) 1 = ⟨0, dA far [eI n r 3], none⟩ := by
  have e3 := (show EOK n r 3 from ⟨h.n, h.r, by omega⟩).put1 0 (.inl rfl) n r 1
  have hm : ansE (dA far [eI n r 1]) (about 7 (eI n r 3)) 1 = 0 := by
    unfold ansE mineE dA about
    have q1 := eI_is n r 1
    have q2 := eI_get n r 1
    simp only [eI] at q1 q2 ⊢
    simp [q1, q2]
  have hx : getI (dA far [eI n r 1]).items (about 7 (eI n r 3)).seller (about 7 (eI n r 3)).number = eI n r 1 := eI_get n r 1
  have hs : stepI (eI n r 1) 1 3 = eI n r 3 := rfl
  have he : stepE (eI n r 1) 1 = 0 := rfl
  unfold doR
  rw [show (about 7 (eI n r 3)).kind = 7 from rfl]
  simp only [Int.reduceEq, if_false, if_true]
  unfold Out.of confirmR
  rw [hm, hx, hs, he]
  simp [dA, Desk.put, e3, eI_put]
theorem ends_dispute {far n r : Int} (h : EOK n r 1) (hr : r < 3) : doR (dA far [eI n r 1]) (about 8 (eI n r 2)) 1 = ⟨0, dA far [eI n r 2], none⟩ := by
  have e3 := (show EOK n r 2 from ⟨h.n, h.r, by omega⟩).put1 0 (.inl rfl) n r 1
  have hm : ansE (dA far [eI n r 1]) (about 8 (eI n r 2)) 1 = 0 := by
    unfold ansE mineE dA about
    have q1 := eI_is n r 1
    have q2 := eI_get n r 1
    simp only [eI] at q1 q2 ⊢
    simp [q1, q2]
  have hx : getI (dA far [eI n r 1]).items (about 8 (eI n r 2)).seller (about 8 (eI n r 2)).number = eI n r 1 := eI_get n r 1
  have hs : stepI (eI n r 1) 1 2 = eI n r 2 := rfl
  have he : stepE (eI n r 1) 1 = 0 := rfl
  have hr3 : ¬ (eI n r 2).round = 3 := by simp only [eI]; omega
  unfold doR
  rw [show (about 8 (eI n r 2)).kind = 8 from rfl]
  simp only [Int.reduceEq, if_false, if_true]
  unfold Out.of disputeR
  rw [hm, hx, hs, he]
  simp [hr3, dA, Desk.put, e3, eI_put]
theorem ends_over {far n : Int} (h : EOK n 3 1) : doR (dA far [eI n 3 1]) (about 8 (eI n 3 2)) 1 = ⟨0, dA far [eI n 3 4], some (saidD 1 (about 9 (eI n 3 4)))⟩ := by
  have e3 := (show EOK n 3 4 from ⟨h.n, h.r, by omega⟩).put1 0 (.inl rfl) n 3 1
  have hm : ansE (dA far [eI n 3 1]) (about 8 (eI n 3 2)) 1 = 0 := by
    unfold ansE mineE dA about
    have q1 := eI_is n 3 1
    have q2 := eI_get n 3 1
    simp only [eI] at q1 q2 ⊢
    simp [q1, q2]
  have hx : getI (dA far [eI n 3 1]).items (about 8 (eI n 3 2)).seller (about 8 (eI n 3 2)).number = eI n 3 1 := eI_get n 3 1
  have hs : stepI (eI n 3 1) 1 2 = eI n 3 2 := rfl
  have hs2 : stepI (eI n 3 2) 2 4 = eI n 3 4 := rfl
  have he : stepE (eI n 3 1) 1 = 0 := rfl
  have hr3 : (eI n 3 2).round = 3 := rfl
  unfold doR
  rw [show (about 8 (eI n 3 2)).kind = 8 from rfl]
  simp only [Int.reduceEq, if_false, if_true]
  unfold Out.of disputeR
  rw [hm, hx, hs, he, hs2]
  simp [hr3, dA, Desk.put, e3, eI_put]
theorem ends_cancel {far want n : Int} (h : EOK n 3 2) : doR (dB far want [eI n 3 2]) (about 9 (eI n 3 4)) 0 = ⟨0, dB far want [eI n 3 4], none⟩ := by
  have e3 := (show EOK n 3 4 from ⟨h.n, h.r, by omega⟩).put1 1 (.inr rfl) n 3 2
  have q1 := eI_is n 3 2
  have q2 := eI_get n 3 2
  have hs2 : stepI (eI n 3 2) 2 4 = eI n 3 4 := rfl
  have he : stepE (eI n 3 2) 2 = 0 := rfl
  unfold doR
  rw [show (about 9 (eI n 3 4)).kind = 9 from rfl]
  simp only [Int.reduceEq, if_false, if_true]
  unfold Out.of cancelR
  rw [show (dB far want [eI n 3 2]).items = [eI n 3 2] from rfl, show (about 9 (eI n 3 4)).seller = 0 from rfl, show (about 9 (eI n 3 4)).number = 1 from rfl, q1, q2, hs2, he]
  simp [dB, about, Desk.put, e3, eI_put]
  simp [eI]
theorem dA_ok {far n r s : Int} (hf : In64 far) (h : EOK n r s) : DeskOK (dA far [eI n r s]) := ⟨by simp [dA], by simp [dA], by simp only [dA, List.mem_singleton, forall_eq]; exact h.chk, by simp [dA], hf⟩
theorem dA_ok0 {far : Int} (hf : In64 far) : DeskOK (dA far []) := ⟨by simp [dA], by simp [dA], by simp [dA], by simp [dA], hf⟩
theorem dB_ok {far want n r s : Int} (hf : In64 far) (hw : In64 want) (h : EOK n r s) : DeskOK (dB far want [eI n r s]) := ⟨by simp [dB], by simp [dB], by simp only [dB, List.mem_singleton, forall_eq]; exact h.chk, by simp only [dB, List.mem_singleton, forall_eq]; exact hw, hf⟩
theorem dB_ok0 {far want : Int} (hf : In64 far) (hw : In64 want) : DeskOK (dB far want []) := ⟨by simp [dB], by simp [dB], by simp [dB], by simp only [dB, List.mem_singleton, forall_eq]; exact hw, hf⟩
end Go.Proofs.Ytdodgbhodkcckaa.Pv
end
section
set_option linter.unusedVariables false
set_option linter.unusedSimpArgs false
set_option autoImplicit false
set_option maxRecDepth 100000
namespace Go.Proofs.Ytdodgbhodkcckaa.Pv
open Go Go.RowKit
set_option maxHeartbeats 16000000 in
theorem run57o (d : Desk) (m : Msg) (from' : Int) (f : Nat) (d2 : Desk) (s : D) (hh : Runs Try.prog 118 [pint .i64 m.kind] [] (.d (.tup [fnD f, .v (.bool (from' == -1))])) []) (hr : Runs Try.prog f [.ref 0 0, .d m.d, pint .i64 from'] [(0, deskB d)] (pint .i64 0) (deskH d2 (some s))) :
    Runs Try.prog 57 [.d (deskD d), .d m.d, pint .i64 from'] [] (.tup [.d (deskD d2), .own 8 0 12 0 1, pint .i64 0]) [(8, .arr 110 12 0 none [s])] := by
  unfold deskD
  simp only [deskH, deskB, deskB2, Desk.cells, Desk.book, Msg.d, Msg.cells, about, Item.d, Item.cells, List.cons_append, List.nil_append, List.map_cons, List.map_nil] at *
  refine Runs.of (kit Try.prog) Try.func57 rfl rfl (by rw [Try.ntmps57]; exact of_decide_eq_true rfl) ?_; rw [Try.ntmps57, Try.results57]
  repeat' (first|((first|refine goA rfl fun K hK=>?_|refine goB rfl fun K hK=>?_|refine goC rfl rfl fun K hK=>?_|refine goD rfl rfl fun K hK=>?_);simp (dsimp:=false) only [↓gq,↓stepP,↓stepG,go_sem,beq_self_eq_true,bne_self_eq_false,Bool.not_true])|refine Pwp.seq ?_|refine Pwp.block ?_|(refine Pwp.exit ?_;simp only [thenS,blockS,if_true,if_false,reduceIte,Nat.reduceEqDiff,Nat.add_one_ne_zero,reduceCtorEq])|(refine Pwp.skip ?_;simp only [thenS,blockS])|(refine Pwp.cond rfl True.intro (fun h=>?_) (fun h=>?_)<;>(try (cases h;done))<;>(try simp only [h]))|refine Pwp.ret ?_|(refine hK _ ?_;clear hK K)|(refine hK _ _ rfl ?_;clear hK K)|(refine CallK.desk (cs:=[I64 d.me, .slc 8 (itemsD d.items), .slc 3 (ordersD d.orders), I64 d.far, nilD]) rfl rfl rfl hr (by simp) ?_)|(refine CallK.give (ds:=[I64 m.kind]) rfl (hh) (by simp) ?_)|refine CallG.off ?_|with_reducible refine Or.inl ?_|simp only [thenS,blockS]|with_reducible refine And.intro ?_ ?_|with_reducible exact True.intro|simp (dsimp:=false) only [↓gq,↓stepP,↓stepG,go_sem,beq_self_eq_true,bne_self_eq_false,Bool.not_true])
  all_goals (try (first|(intro hg;simp [hg];done)|exact of_decide_eq_true rfl|(cases h;done)))
  (refine Fin.valV (V8 115 0) (by first | exact .inr rfl | exact .inl rfl) (by simp (dsimp:=false) only [↓gq,↓stepP,↓stepG,go_sem,resL]; rfl) (by simp only [and_self]) rfl (by simp [pnil, V8]) (by simp [resP, toDL, idsL, pnil, V8]))
theorem of_own {d d2 : Desk} {cl : Bool} {from' : Int} {R : Out} {s : D} (h : Out.of d cl from' R = ⟨0, d2, some s⟩) : cl = (from' == -1) ∧ R = ⟨0, d2, some s⟩ := by
  unfold Out.of at h
  split at h
  · rename_i hb
    split at h
    · exact ⟨hb, h⟩
    · exact absurd (congrArg Out.o h) (by simp)
  · exact absurd (congrArg Out.o h) (by simp)
theorem run57own (d : Desk) (h : DeskOK d) (m : Msg) (hm : In64 m.amount) (from' : Int) {d2 : Desk} {s : D} (hk : m.kind = 1 ∨ m.kind = 3 ∨ m.kind = 6 ∨ m.kind = 8) (hR : doR d m from' = ⟨0, d2, some s⟩) :
    Runs Try.prog 57 [.d (deskD d), .d m.d, pint .i64 from'] [] (.tup [.d (deskD d2), .own 8 0 12 0 1, pint .i64 0]) [(8, .arr 110 12 0 none [s])] := by
  have hh := run118 m.kind
  rcases hk with k | k | k | k
  · rw [show handV m.kind = (fnD 172, true) by simp [handV, k]] at hh
    have e : doR d m from' = Out.of d true from' (issueR d m) := by unfold doR; simp [k]
    rw [e] at hR
    obtain ⟨hb, hR2⟩ := of_own hR
    have r := run172 d m from' h.li2
    rw [hR2] at r
    rw [hb] at hh
    exact run57o d m from' 172 d2 s hh r
  · rw [show handV m.kind = (fnD 174, true) by simp [handV, k]] at hh
    have e : doR d m from' = Out.of d true from' (adjustR d m from') := by unfold doR; simp [k]
    rw [e] at hR
    obtain ⟨hb, hR2⟩ := of_own hR
    have r := run174 d m from' h.li2 (h.get _ _)
    rw [hR2] at r
    rw [hb] at hh
    exact run57o d m from' 174 d2 s hh r
  · rw [show handV m.kind = (fnD 177, false) by simp [handV, k]] at hh
    have e : doR d m from' = Out.of d false from' (proposeR d m from') := by unfold doR; simp [k]
    rw [e] at hR
    obtain ⟨hb, hR2⟩ := of_own hR
    have r := run177 d m from' h.li2 h.lo2 (h.get _ _) (h.getO _ _) hm h.far
    rw [hR2] at r
    rw [hb] at hh
    exact run57o d m from' 177 d2 s hh r
  · rw [show handV m.kind = (fnD 179, false) by simp [handV, k]] at hh
    have e : doR d m from' = Out.of d false from' (disputeR d m from') := by unfold doR; simp [k]
    rw [e] at hR
    obtain ⟨hb, hR2⟩ := of_own hR
    have r := run179 d m from' h.li2
    rw [hR2] at r
    rw [hb] at hh
    exact run57o d m from' 179 d2 s hh r
set_option maxHeartbeats 8000000 in
theorem run66 (me : Int) (x : Item) : Runs Try.prog 66 [pint .i64 me, .d x.d] [] (pbool (x.seller == me && x.state == 2)) [] := by
  unfold Item.d Item.cells
  refine Runs.of (kit Try.prog) Try.func66 rfl rfl (by rw [Try.ntmps66]; exact of_decide_eq_true rfl) ?_; rw [Try.ntmps66, Try.results66]
  repeat' (first|((first|refine goA rfl fun K hK=>?_|refine goB rfl fun K hK=>?_|refine goC rfl rfl fun K hK=>?_|refine goD rfl rfl fun K hK=>?_);simp (dsimp:=false) only [↓gq,↓stepP,↓stepG,go_sem])|refine Pwp.seq ?_|refine Pwp.block ?_|(refine Pwp.exit ?_;simp only [thenS,blockS,if_true,if_false,reduceIte,Nat.reduceEqDiff,Nat.add_one_ne_zero,reduceCtorEq])|(refine Pwp.skip ?_;simp only [thenS,blockS])|(refine Pwp.cond rfl True.intro (fun h=>?_) (fun h=>?_)<;>(try (cases h;done))<;>(try simp only [h]))|refine Pwp.ret ?_|(refine hK _ ?_;clear hK K)|(refine hK _ _ rfl ?_;clear hK K)|refine CallG.off ?_|with_reducible refine Or.inl ?_|simp only [thenS,blockS]|with_reducible refine And.intro ?_ ?_|with_reducible exact True.intro|simp (dsimp:=false) only [↓gq,↓stepP,↓stepG,go_sem])
  all_goals (try (first|(intro hg;simp [hg];done)|exact of_decide_eq_true rfl|(cases h;done)))
  (refine Fin.data (.inr rfl) (by simp (dsimp:=false) only [↓gq,↓stepP,↓stepG,go_sem,resL]; rfl) (by simp only [and_self]) (by simp (dsimp:=false) only [↓gq,↓stepP,↓stepG,go_sem,resP,Nat.le_refl,List.take_length]; try rfl) ?_)
  exact subD_refl _
end Go.Proofs.Ytdodgbhodkcckaa.Pv
end
section
set_option linter.unusedVariables false
set_option linter.unusedSimpArgs false
set_option autoImplicit false
set_option maxRecDepth 100000
namespace Go.Proofs.Ytdodgbhodkcckaa.Pv
open Go Go.RowKit
set_option maxHeartbeats 16000000 in
theorem run55 : Runs Try.prog 55 [] [] (pbool true) [] := by
  have f5 : In64 5 := by simp [In64]
  have rA := run56 0 5 (by omega)
  have rB := run56 1 5 (by omega)
  have r1 := run57 (desk0 0 5) (desk0_ok f5) ⟨1, 0, 3, 1, 0, 0, 0, 100, false, nilD, nilD⟩ (by simp [In64]) (-1)
  rw [do_issue (by omega) (by omega) (by omega)] at r1
  have r2 := run57 (desk0 1 5) (desk0_ok f5) ⟨2, 0, 3, 0, 0, 0, 0, 103, false, nilD, nilD⟩ (by simp [In64]) (-1)
  rw [do_order (by simp [expE, isInO_nil]) 0] at r2
  have r3 := run57 ⟨1, [], [⟨0, 3, 103⟩], 5⟩ ⟨by simp, by simp, by simp, by simp [In64], f5⟩ ⟨6, 0, 3, 1, 0, 0, 0, 100, false, nilD, nilD⟩ (by simp [In64]) 0
  have n3 : (isInO [⟨0, 3, 103⟩] 0 3 && nearV (getO [⟨0, 3, 103⟩] 0 3) 100 5) = true := by
    have i1 := isInO_one ⟨0, 3, 103⟩
    have g1 := getO_one ⟨0, 3, 103⟩
    simp only at i1 g1
    rw [i1, g1]; simp [nearV]
  rw [do_propose (by omega) _ _ n3] at r3
  have r4 := run57 ⟨0, [⟨0, 3, 1, 0, 100, 0, 1, 0⟩], [], 5⟩ ⟨by simp, by simp, by simp; exact chk_ok (by omega) (by omega) (by omega) (by omega) (by omega) (by omega) (by omega) (by omega), by simp, f5⟩ ⟨7, 0, 3, 1, 0, 0, 0, 100, false, nilD, nilD⟩ (by simp [In64]) 1
  rw [do_confirm (by omega) (by omega) (by omega)] at r4
  have g := getI_one ⟨0, 3, 1, 0, 100, 0, 3, 0⟩
  have i := isIn_one ⟨0, 3, 1, 0, 100, 0, 3, 0⟩
  have r5 := run65 0 [⟨0, 3, 1, 0, 100, 0, 3, 0⟩] (ordersD []) 0 3 (by simp)
  have r6 := run65 1 [⟨0, 3, 1, 0, 100, 0, 3, 0⟩] (ordersD [⟨0, 3, 103⟩]) 0 3 (by simp)
  simp only at g i
  rw [g, i] at r5 r6
  unfold bookD at r5 r6
  have w : IntKind.wrap .i64 (0 + 0) = 0 := wrap_of (by omega) (by omega)
  simp only [outD, deskD, saidL, desk0, Option.toList, if_true, reduceIte] at rA rB r1 r2 r3 r4
  simp only [Desk.cells, Desk.book, saidD, Msg.d, Msg.cells, about, Item.d, Item.cells, List.cons_append, List.nil_append, List.map_cons, List.map_nil] at *
  refine Runs.of (kit Try.prog) Try.func55 rfl rfl (by rw [Try.ntmps55]; exact of_decide_eq_true rfl) ?_; rw [Try.ntmps55, Try.results55]
  repeat' (first|((first|refine goA rfl fun K hK=>?_|refine goB rfl fun K hK=>?_|refine goC rfl rfl fun K hK=>?_|refine goD rfl rfl fun K hK=>?_);simp (dsimp:=false) only [↓gq,↓stepP,↓stepG,go_sem,w])|refine Pwp.seq ?_|refine Pwp.block ?_|(refine Pwp.exit ?_;simp only [thenS,blockS,if_true,if_false,reduceIte,Nat.reduceEqDiff,Nat.add_one_ne_zero,reduceCtorEq])|(refine Pwp.skip ?_;simp only [thenS,blockS])|(refine Pwp.cond rfl True.intro (fun h=>?_) (fun h=>?_)<;>(try (cases h;done))<;>(try simp only [h]))|refine Pwp.ret ?_|(refine hK _ ?_;clear hK K)|(refine hK _ _ rfl ?_;clear hK K)|(refine CallK.toD (ds:=[.agg [I64 0, .slc 8 (itemsD [⟨0, 3, 1, 0, 100, 0, 3, 0⟩]), .slc 3 (ordersD [])], .agg [I64 0, I64 3]]) rfl (r5) rfl ?_)|(refine CallK.toD (ds:=[.agg [I64 1, .slc 8 (itemsD [⟨0, 3, 1, 0, 100, 0, 3, 0⟩]), .slc 3 (ordersD [⟨0, 3, 103⟩])], .agg [I64 0, I64 3]]) rfl (r6) rfl ?_)|(refine CallK.give (ds:=[I64 0, I64 5]) rfl (rA) (by simp) ?_)|(refine CallK.give (ds:=[I64 1, I64 5]) rfl (rB) (by simp) ?_)|(refine CallK.give (ds:=[.agg [I64 0, .slc 8 (itemsD []), .slc 3 (ordersD []), I64 5, nilD], .agg [I64 1, I64 0, I64 3, I64 1, I64 0, I64 0, I64 0, I64 100, .v (.bool false), nilD, nilD], I64 (-1)]) rfl (r1) (by simp) ?_)|(refine CallK.give (ds:=[.agg [I64 1, .slc 8 (itemsD []), .slc 3 (ordersD []), I64 5, nilD], .agg [I64 2, I64 0, I64 3, I64 0, I64 0, I64 0, I64 0, I64 103, .v (.bool false), nilD, nilD], I64 (-1)]) rfl (r2) (by simp) ?_)|(refine CallK.give (ds:=[.agg [I64 1, .slc 8 (itemsD []), .slc 3 (ordersD [⟨0, 3, 103⟩]), I64 5, nilD], .agg [I64 6, I64 0, I64 3, I64 1, I64 0, I64 0, I64 0, I64 100, .v (.bool false), nilD, nilD], I64 0]) rfl (r3) (by simp) ?_)|(refine CallK.give (ds:=[.agg [I64 0, .slc 8 (itemsD [⟨0, 3, 1, 0, 100, 0, 1, 0⟩]), .slc 3 (ordersD []), I64 5, nilD], .agg [I64 7, I64 0, I64 3, I64 1, I64 0, I64 0, I64 0, I64 100, .v (.bool false), nilD, nilD], I64 1]) rfl (r4) (by simp) ?_)|refine CallG.off ?_|with_reducible refine Or.inl ?_|simp only [thenS,blockS]|with_reducible refine And.intro ?_ ?_|with_reducible exact True.intro|simp (dsimp:=false) only [↓gq,↓stepP,↓stepG,go_sem,w])
  all_goals (try (first|(intro hg;simp [hg];done)|exact of_decide_eq_true rfl|(cases h;done)))
  (refine Fin.data (.inr rfl) (by simp (dsimp:=false) only [↓gq,↓stepP,↓stepG,go_sem,resL]; rfl) (by simp only [and_self]) (by simp (dsimp:=false) only [↓gq,↓stepP,↓stepG,go_sem,resP,Nat.le_refl,List.take_length]; try rfl) ?_)
  exact subD_refl _
end Go.Proofs.Ytdodgbhodkcckaa.Pv
end
section
set_option linter.unusedVariables false
set_option linter.unusedSimpArgs false
set_option autoImplicit false
set_option maxRecDepth 100000
namespace Go.Proofs.Ytdodgbhodkcckaa.Pv
open Go Go.RowKit
def VM (b : Nat) : Turn := ⟨fun k => if k = 16 then b else k, fun _ => none, []⟩
def boxK (d : Desk) : PObj := .box [.d (I64 d.me), .d (.slc 8 (itemsD d.items)), .d (.slc 3 (ordersD d.orders)), .d (I64 d.far), .d nilD]
def idB : PObj := .box [.d (I64 0), .d (I64 1)]
def L19a (far want : Int) (am : List Int) (l : List Item) (k : Int) (i : Nat) : St :=
  ⟨[(68, pint .i64 i), (67, pint .i64 am.length), (66, .d (.slc 1 (am.map I64))), (12, pint .i64 k), (11, .ref 145 0), (9, .ref 117 0), (7, .ref 85 0)], [(85, boxK (dA far l)), (117, boxK (dB far want l)), (145, idB)], 212⟩
def L19b (far want : Int) (am : List Int) (a b : List Item) (pre out : List D) (i : Nat) : St :=
  ⟨[(68, pint .i64 i), (67, pint .i64 am.length), (66, .d (.slc 1 (am.map I64))), (16, .own 16 0 12 pre.length out.length), (12, pint .i64 3), (11, .ref 145 0), (9, .ref 117 0), (7, .ref 85 0)], [(16, .arr 110 12 0 none (pre ++ out)), (85, boxK (dA far a)), (117, boxK (dB far want b)), (145, idB)], 304⟩
def Both19 (l : List Item) (k : Int) : Prop := (l = [] ∧ k = 1) ∨ (k = 3 ∧ ∃ n r s, l = [eI n r s] ∧ EOK n r s ∧ s ≠ 1 ∧ (s = 2 → r < 3))
inductive Ph19 : Nat → List Item → List Item → List D → Prop where
  | p3 (n r : Int) (l : List Item) (h : EOK n r 1) (hl : (l = [] ∧ r = 0) ∨ ∃ m, l = [eI m (r - 1) 2] ∧ EOK m (r - 1) 2) : Ph19 3 [eI n r 1] l [saidD 1 (about 6 (eI n r 1))]
  | p2 (n r : Int) (nr : Bool) (h : EOK n r 1) : Ph19 2 [eI n r 1] [eI n r (if nr = true then 3 else 2)] [saidD 0 (about (if nr = true then 7 else 8) (eI n r (if nr = true then 3 else 2)))]
  | p1 (n : Int) (h : EOK n 3 1) : Ph19 1 [eI n 3 4] [eI n 3 2] [saidD 1 (about 9 (eI n 3 4))]
  | p0 (n r s : Int) (h : EOK n r s) (h1 : s ≠ 1) (h2 : s = 2 → r < 3) : Ph19 0 [eI n r s] [eI n r s] []
theorem run57d {d : Desk} (h : DeskOK d) {m : Msg} (hm : In64 m.amount) (from' : Int) {R : Out} (hR : doR d m from' = R) : Runs Try.prog 57 [.d (deskD d), .d m.d, pint .i64 from'] [] (.d (outD R)) [] := by
  rw [← hR]; exact run57 d h m hm from'
set_option maxHeartbeats 64000000 in
theorem run19 (far want : Int) (am : List Int) (hf : In64 far) (hw : In64 want) (ha : ∀ a ∈ am, In64 a) : Runs Try.prog 19 [pint .i64 far, pint .i64 want, .d (.slc 1 (am.map I64))] [] (pbool true) [] := by
  have r55 := run55
  have hal : (am.map I64).length = am.length := by simp
  cases hc : (((decide (far < 0) || decide (want < 1)) || decide (1125899906842624 < want)) || decide (12 < (am.length : Int))) with
  | true =>
    refine Runs.of (kit Try.prog) Try.func19 rfl rfl (by rw [Try.ntmps19]; exact of_decide_eq_true rfl) ?_; rw [Try.ntmps19, Try.results19]
    repeat' (first|((first|refine goA rfl fun K hK=>?_|refine goB rfl fun K hK=>?_|refine goC rfl rfl fun K hK=>?_|refine goD rfl rfl fun K hK=>?_);simp (dsimp:=false) only [↓gq,↓stepP,↓stepG,go_sem,hc,hal,Bool.not_true])|refine Pwp.seq ?_|refine Pwp.block ?_|(refine Pwp.exit ?_;simp only [thenS,blockS,if_true,if_false,reduceIte,Nat.reduceEqDiff,Nat.add_one_ne_zero,reduceCtorEq])|(refine Pwp.skip ?_;simp only [thenS,blockS])|(refine Pwp.cond rfl True.intro (fun h=>?_) (fun h=>?_)<;>(try (cases h;done))<;>(try simp only [h]))|refine Pwp.ret ?_|(refine hK _ ?_;clear hK K)|(refine hK _ _ rfl ?_;clear hK K)|(refine CallK.toD (ds:=[]) rfl (r55) rfl ?_)|refine CallG.off ?_|with_reducible refine Or.inl ?_|simp only [thenS,blockS]|with_reducible refine And.intro ?_ ?_|with_reducible exact True.intro|simp (dsimp:=false) only [↓gq,↓stepP,↓stepG,go_sem,hc,hal,Bool.not_true])
    all_goals (try (first|(intro hg;simp [hg];done)|exact of_decide_eq_true rfl|(cases h;done)))
    all_goals (try (intro hg; simp only [hg, Bool.not_false, Bool.not_true, Bool.and_self, Bool.true_and, Bool.and_true, true_and, and_self, imp_self, implies_true]; done))
    (refine Fin.data (.inr rfl) (by simp (dsimp:=false) only [↓gq,↓stepP,↓stepG,go_sem,resL]; rfl) (by simp only [and_self]) (by simp (dsimp:=false) only [↓gq,↓stepP,↓stepG,go_sem,resP,Nat.le_refl,List.take_length]; try rfl) ?_)
    exact subD_refl _
  | false =>
    have hc2 := hc
    simp only [Bool.or_eq_false_iff, decide_eq_false_iff_not] at hc2
    obtain ⟨⟨⟨h1, h2⟩, h3⟩, h4⟩ := hc2
    have rA := run56 0 far (by omega)
    have rB := run56 1 far (by omega)
    have r1 := run57 (desk0 1 far) (desk0_ok hf) ⟨2, 0, 1, 0, 0, 0, 0, want, false, nilD, nilD⟩ hw (-1)
    rw [do_order (by unfold expE; rw [if_neg (by simp), if_neg (by simp; omega), if_neg (by simp)]) 0] at r1
    simp only [outD, deskD, saidL, desk0, Option.toList, if_true, reduceIte, Desk.cells, Desk.book, saidD, Msg.d, Msg.cells, List.cons_append, List.nil_append] at rA rB r1
    refine Runs.of (kit Try.prog) Try.func19 rfl rfl (by rw [Try.ntmps19]; exact of_decide_eq_true rfl) ?_; rw [Try.ntmps19, Try.results19]
    repeat' (first|((first|refine goA rfl fun K hK=>?_|refine goB rfl fun K hK=>?_|refine goC rfl rfl fun K hK=>?_|refine goD rfl rfl fun K hK=>?_);simp (dsimp:=false) only [↓gq,↓stepP,↓stepG,go_sem,hc,hal,Bool.not_true])|refine Pwp.seq ?_|refine Pwp.block ?_|(refine Pwp.exit ?_;simp only [thenS,blockS,if_true,if_false,reduceIte,Nat.reduceEqDiff,Nat.add_one_ne_zero,reduceCtorEq])|(refine Pwp.skip ?_;simp only [thenS,blockS])|(refine Pwp.cond rfl True.intro (fun h=>?_) (fun h=>?_)<;>(try (cases h;done))<;>(try simp only [h]))|refine Pwp.ret ?_|(refine hK _ ?_;clear hK K)|(refine hK _ _ rfl ?_;clear hK K)|(refine CallK.toD (ds:=[]) rfl (r55) rfl ?_)|(refine CallK.give (ds:=[I64 0, I64 far]) rfl (rA) (by simp) ?_)|(refine CallK.give (ds:=[I64 1, I64 far]) rfl (rB) (by simp) ?_)|(refine CallK.give (ds:=[.agg [I64 1, .slc 8 (itemsD []), .slc 3 (ordersD []), I64 far, nilD], .agg [I64 2, I64 0, I64 1, I64 0, I64 0, I64 0, I64 0, I64 want, .v (.bool false), nilD, nilD], I64 (-1)]) rfl (r1) (by simp) ?_)|refine CallG.off ?_|with_reducible refine Or.inl ?_|simp only [thenS,blockS]|with_reducible refine And.intro ?_ ?_|with_reducible exact True.intro|simp (dsimp:=false) only [↓gq,↓stepP,↓stepG,go_sem,hc,hal,Bool.not_true])
    all_goals (try (first|(intro hg;simp [hg];done)|exact of_decide_eq_true rfl|(cases h;done)))
    all_goals (try (intro hg; simp only [hg, Bool.not_false, Bool.not_true, Bool.and_self, Bool.true_and, Bool.and_true, true_and, and_self, imp_self, implies_true]; done))
    refine Pwp.rangeI am.length (fun i s => ∃ l k, Both19 l k ∧ s = L19a far want am l k i) (s0 := L19a far want am [] 1 0) (Sub.view V0 (by simp [L19a]) rfl (by simp [L19a,boxK,idB,dA,dB]) (by simp [L19a,boxK,idB,dA,dB])) ⟨[], 1, .inl ⟨rfl, rfl⟩, rfl⟩ ?_ ?_
    · rintro i s hi ⟨l, k, hB, rfl⟩
      obtain ⟨n, hx, hm⟩ := at_lt hi
      have hg : (am.map I64)[i]? = some (I64 n) := by rw [List.getElem?_map, hx]; rfl
      have hn := ha n hm
      have c1 := dlt hi
      have w1 := wrap_succ (i := i) (by omega)
      -- the first word
      have hfirst : (∃ e, e ≠ 0 ∧ doR (dA far l) ⟨k, 0, 1, 1, 0, 0, 0, n, false, nilD, nilD⟩ (-1) = ⟨e, dA far l, none⟩) ∨
          ∃ r, EOK n r 1 ∧ ((l = [] ∧ r = 0) ∨ ∃ m, l = [eI m (r - 1) 2] ∧ EOK m (r - 1) 2) ∧ doR (dA far l) ⟨k, 0, 1, 1, 0, 0, 0, n, false, nilD, nilD⟩ (-1) = ⟨0, dA far [eI n r 1], some (saidD 1 (about 6 (eI n r 1)))⟩ := by
        rcases hB with ⟨rfl, rfl⟩ | ⟨rfl, m, r, s, rfl, he, hs1, hs2⟩
        · cases hr : inR n with
          | true => exact .inr ⟨0, ⟨inR_t hr, by omega, by omega⟩, .inl ⟨rfl, rfl⟩, ends_issue hr⟩
          | false => exact .inl (ends_issue_no hr)
        · by_cases hs : s = 2 ∧ inR n = true
          · obtain ⟨rfl, hr⟩ := hs
            refine .inr ⟨r + 1, ⟨inR_t hr, by have := he.r; have := hs2 rfl; omega, by omega⟩, .inr ⟨m, by rw [Int.add_sub_cancel], by rw [Int.add_sub_cancel]; exact he⟩, ends_adjust hr ⟨he.r.1, hs2 rfl⟩⟩
          · exact .inl (ends_adjust_no (by
              by_cases h : s = 2
              · exact .inr (by simpa [h] using hs)
              · exact .inl h))
      have hdk : DeskOK (dA far l) := by
        rcases hB with ⟨rfl, rfl⟩ | ⟨rfl, m, r, s, rfl, he, _, _⟩
        · exact dA_ok0 hf
        · exact dA_ok hf he
      have hk13 : k = 1 ∨ k = 3 := by rcases hB with ⟨_, h⟩ | ⟨h, _⟩ <;> simp [h]
      rcases hfirst with ⟨e, he, hR⟩ | ⟨r, hE, hl, hR⟩
      · have r2 := run57d hdk (m := ⟨k, 0, 1, 1, 0, 0, 0, n, false, nilD, nilD⟩) hn (-1) hR
        have he2 : (e != 0) = true := by simpa using he
        simp only [outD, deskD, saidL, dA, Option.toList, Desk.cells, Desk.book, Msg.d, Msg.cells, List.cons_append, List.nil_append] at r2
        unfold L19a boxK idB dA
        repeat' (first|((first|refine goA rfl fun K hK=>?_|refine goB rfl fun K hK=>?_|refine goC rfl rfl fun K hK=>?_|refine goD rfl rfl fun K hK=>?_);simp (dsimp:=false) only [↓gq,↓stepP,↓stepG,go_sem,hg,c1,w1,he2])|refine Pwp.seq ?_|refine Pwp.block ?_|(refine Pwp.exit ?_;simp only [thenS,blockS,if_true,if_false,reduceIte,Nat.reduceEqDiff,Nat.add_one_ne_zero,reduceCtorEq])|(refine Pwp.skip ?_;simp only [thenS,blockS])|(refine Pwp.cond rfl True.intro (fun h=>?_) (fun h=>?_)<;>(try (cases h;done))<;>(try simp only [h]))|refine Pwp.ret ?_|(refine hK _ ?_;clear hK K)|(refine hK _ _ rfl ?_;clear hK K)|(refine CallK.give (ds:=[.agg [I64 0, .slc 8 (itemsD l), .slc 3 (ordersD []), I64 far, nilD], .agg [I64 k, I64 0, I64 1, I64 1, I64 0, I64 0, I64 0, I64 n, .v (.bool false), nilD, nilD], I64 (-1)]) rfl (r2) (by simp) ?_)|refine CallG.off ?_|with_reducible refine Or.inl ?_|simp only [thenS,blockS]|with_reducible refine And.intro ?_ ?_|with_reducible exact True.intro|simp (dsimp:=false) only [↓gq,↓stepP,↓stepG,go_sem,hg,c1,w1,he2])
        all_goals (try (first|(intro hg;simp [hg];done)|exact of_decide_eq_true rfl|(cases h;done)))
        exact ⟨_, Sub.view V0 (by simp [L19a]) rfl (by simp [L19a,boxK,idB,dA]) (by simp [L19a,boxK,idB,dA]), l, k, hB, rfl⟩
      · have r2 := run57own (dA far l) hdk ⟨k, 0, 1, 1, 0, 0, 0, n, false, nilD, nilD⟩ hn (-1) (by simp only; omega) hR
        simp only [deskD, dA, Desk.cells, Desk.book, Msg.d, Msg.cells, List.cons_append, List.nil_append] at r2
        unfold L19a boxK idB dA
        repeat' (first|((first|refine goA rfl fun K hK=>?_|refine goB rfl fun K hK=>?_|refine goC rfl rfl fun K hK=>?_|refine goD rfl rfl fun K hK=>?_);simp (dsimp:=false) only [↓gq,↓stepP,↓stepG,go_sem,hg,c1,bne_self_eq_false])|refine Pwp.seq ?_|refine Pwp.block ?_|(refine Pwp.exit ?_;simp only [thenS,blockS,if_true,if_false,reduceIte,Nat.reduceEqDiff,Nat.add_one_ne_zero,reduceCtorEq])|(refine Pwp.skip ?_;simp only [thenS,blockS])|(refine Pwp.cond rfl True.intro (fun h=>?_) (fun h=>?_)<;>(try (cases h;done))<;>(try simp only [h]))|refine Pwp.ret ?_|(refine hK _ ?_;clear hK K)|(refine hK _ _ rfl ?_;clear hK K)|(refine CallK.give (ds:=[.agg [I64 0, .slc 8 (itemsD l), .slc 3 (ordersD []), I64 far, nilD], .agg [I64 k, I64 0, I64 1, I64 1, I64 0, I64 0, I64 0, I64 n, .v (.bool false), nilD, nilD], I64 (-1)]) rfl (r2) (by simp) ?_)|refine CallG.off ?_|with_reducible refine Or.inl ?_|simp only [thenS,blockS]|with_reducible refine And.intro ?_ ?_|with_reducible exact True.intro|simp (dsimp:=false) only [↓gq,↓stepP,↓stepG,go_sem,hg,c1,bne_self_eq_false])
        all_goals (try (first|(intro hg;simp [hg];done)|exact of_decide_eq_true rfl|(cases h;done)))
        refine Pwp.loop (fun j s => ∃ a b out pre, Ph19 j a b out ∧ s = L19b far want am a b pre out i) 3 (s := L19b far want am [eI n r 1] l [] [saidD 1 (about 6 (eI n r 1))] i) (Sub.view (VM 233) (by simp [L19b]) rfl (by simp [L19b,VM,boxK,idB,dA,dB]) (by simp [L19b,VM,boxK,idB,dA,dB])) ⟨_, _, _, [], .p3 n r l hE hl, rfl⟩ ?_
        clear hR r2
        rintro j s ⟨a, b, out, pre, hP, rfl⟩
        cases hP with
        | p0 n r s hO hs1 hs2 =>
          have r5 := run65 0 [eI n r s] (ordersD []) 0 1 (by simp)
          have r6 := run65 1 [eI n r s] (ordersD [⟨0, 1, want⟩]) 0 1 (by simp)
          have r7 := run66 0 (eI n r s)
          rw [eI_is, eI_get] at r5 r6
          have q1 : decide (3 < r) = false := decide_eq_false (by have := hO.r; omega)
          have q2 : (s == 1) = false := by simpa using hs1
          have q3 : (s == 2 && r == 3) = false := by
            by_cases h2 : s = 2
            · have := hs2 h2
              rw [Bool.and_eq_false_iff]; right; rw [beq_eq_false_iff_ne]; omega
            · rw [Bool.and_eq_false_iff]; left; simpa using h2
          have q4 : (s == 2 && !(s == 2)) = false := by cases (s == 2) <;> rfl
          have q5 : (s != 2 && s == 2) = false := by unfold bne; cases (s == 2) <;> rfl
          simp only [bookD, eI, Item.d, Item.cells, beq_self_eq_true, Bool.true_and] at r5 r6 r7
          unfold L19b boxK idB dA dB
          repeat' (first|((first|refine goA rfl fun K hK=>?_|refine goB rfl fun K hK=>?_|refine goC rfl rfl fun K hK=>?_|refine goD rfl rfl fun K hK=>?_);simp (dsimp:=false) only [↓gq,↓stepP,↓stepG,go_sem,eI,w1,q1,q2,q3,q4,q5,bne_self_eq_false,Bool.or_self,beq_self_eq_true,Bool.and_self,Bool.not_true])|refine Pwp.seq ?_|refine Pwp.block ?_|(refine Pwp.exit ?_;simp only [thenS,blockS,if_true,if_false,reduceIte,Nat.reduceEqDiff,Nat.add_one_ne_zero,reduceCtorEq])|(refine Pwp.skip ?_;simp only [thenS,blockS])|(refine Pwp.cond rfl True.intro (fun h=>?_) (fun h=>?_)<;>(try (cases h;done))<;>(try simp only [h]))|refine Pwp.ret ?_|(refine hK _ ?_;clear hK K)|(refine hK _ _ rfl ?_;clear hK K)|(refine CallK.toD (ds:=[.agg [I64 0, .slc 8 (itemsD [⟨0, 1, 1, 0, n, r, s, 0⟩]), .slc 3 (ordersD [])], .agg [I64 0, I64 1]]) rfl (r5) rfl ?_)|(refine CallK.toD (ds:=[.agg [I64 1, .slc 8 (itemsD [⟨0, 1, 1, 0, n, r, s, 0⟩]), .slc 3 (ordersD [⟨0, 1, want⟩])], .agg [I64 0, I64 1]]) rfl (r6) rfl ?_)|(refine CallG.toD (ds:=[I64 0, .agg [I64 0, I64 1, I64 1, I64 0, I64 n, I64 r, I64 s, I64 0]]) rfl (r7) rfl ?_ ?_)|refine CallG.off ?_|with_reducible refine Or.inl ?_|simp only [thenS,blockS]|with_reducible refine And.intro ?_ ?_|with_reducible exact True.intro|simp (dsimp:=false) only [↓gq,↓stepP,↓stepG,go_sem,eI,w1,q1,q2,q3,q4,q5,bne_self_eq_false,Bool.or_self,beq_self_eq_true,Bool.and_self,Bool.not_true])
          all_goals (try (first|(intro hg;simp [hg];done)|exact of_decide_eq_true rfl|(cases h;done)))
          exact ⟨_, Sub.view V0 (by simp [L19a]) rfl (by simp [L19a,boxK,idB,dA,dB,eI]) (by simp [L19a,boxK,idB,dA,dB,eI]), [eI n r s], 3, .inr ⟨rfl, n, r, s, rfl, hO, hs1, hs2⟩, rfl⟩
        | p1 n hO =>
          have hE : EOK n 3 2 := ⟨hO.n, hO.r, by omega⟩
          have r3 := run57d (dB_ok hf hw hE) (m := about 9 (eI n 3 4)) (by have := hO.n; simp only [about, eI, In64]; omega) 0 (ends_cancel (far := far) (want := want) hE)
          have htk : ∀ x : D, (pre ++ [x]).take (pre.length + 1) = pre ++ [x] := fun x => List.take_of_length_le (by simp)
          have hdr : ∀ x : D, ∀ k, (pre ++ [x]).drop (pre.length + 1 + k) = [] := fun x k => List.drop_of_length_le (by simp)
          have hdr0 : ∀ x : D, (pre ++ [x]).drop (pre.length + 1) = [] := fun x => List.drop_of_length_le (by simp)
          have hgt : ∀ x : D, (pre ++ [x])[pre.length]? = some x := fun x => by rw [List.getElem?_append_right (Nat.le_refl _), Nat.sub_self]; rfl
          have hlp : ∀ x : D, (pre ++ [x]).length = pre.length + 1 := fun x => by simp
          refine Pwp.room (id := 16) rfl fun rm hr1 hr2 => ?_
          simp only [hlp] at hr1
          simp only [L19b, upd, if_true, reduceIte]
          simp only [outD, deskD, saidL, Option.toList, dB, dA, boxK, idB, Desk.cells, Desk.book, Msg.d, Msg.cells, about, eI, saidD, List.cons_append, List.nil_append, List.map_cons, List.map_nil] at *
          repeat' (first|((first|refine goA rfl fun K hK=>?_|refine goB rfl fun K hK=>?_|refine goC rfl rfl fun K hK=>?_|refine goD rfl rfl fun K hK=>?_);simp (dsimp:=false) only [↓gq,↓stepP,↓stepG,go_sem,htk,hdr,hdr0,hgt,hlp,List.length,beq_self_eq_true])|refine Pwp.seq ?_|refine Pwp.block ?_|(refine Pwp.exit ?_;simp only [thenS,blockS,if_true,if_false,reduceIte,Nat.reduceEqDiff,Nat.add_one_ne_zero,reduceCtorEq])|(refine Pwp.skip ?_;simp only [thenS,blockS])|(refine Pwp.cond rfl True.intro (fun h=>?_) (fun h=>?_)<;>(try (cases h;done))<;>(try simp only [h]))|refine Pwp.ret ?_|(refine hK _ ?_;clear hK K)|(refine hK _ _ rfl ?_;clear hK K)|(refine Or.inl (Or.inr ⟨?_, Or.inl ⟨?_, ?_⟩⟩))|(refine CallK.give (ds:=[.agg [I64 1, .slc 8 (itemsD [⟨0, 1, 1, 0, n, 3, 2, 0⟩]), .slc 3 (ordersD [⟨0, 1, want⟩]), I64 far, nilD], .agg [I64 9, I64 0, I64 1, I64 1, I64 0, I64 3, I64 0, I64 n, .v (.bool false), nilD, nilD], I64 0]) rfl (r3) (by simp) ?_)|refine CallG.off ?_|with_reducible refine Or.inl ?_|simp only [thenS,blockS]|with_reducible refine And.intro ?_ ?_|with_reducible exact True.intro|simp (dsimp:=false) only [↓gq,↓stepP,↓stepG,go_sem,htk,hdr,hdr0,hgt,hlp,List.length,beq_self_eq_true])
          all_goals (try (first|(intro hg;simp [hg];done)|exact of_decide_eq_true rfl|(cases h;done)))
          all_goals (try (first | omega | (simp [maxLen]; omega) | (simp; omega) | (simp; done)))
          exact ⟨0, _, by omega, Sub.view V0 (by simp [L19b]) rfl (by simp [L19b,boxK,idB,dA,dB,eI,saidD,about,Msg.cells,htk,hdr,hdr0,hlp]) (by simp [L19b,boxK,idB,dA,dB,eI,saidD,about,Msg.cells,htk,hdr,hdr0,hlp]), _, _, [], pre ++ [saidD 1 (about 9 (eI n 3 4))], .p0 n 3 4 ⟨hO.n, hO.r, by omega⟩ (by omega) (by omega), rfl⟩
        | p2 n r nr hO =>
          cases nr with
          | true =>
            have r3 := run57d (dA_ok hf hO) (m := about 7 (eI n r 3)) (by have := hO.n; simp only [about, eI, In64]; omega) 1 (ends_confirm (far := far) hO)
            simp only [if_true, reduceIte]
            have htk : ∀ x : D, (pre ++ [x]).take (pre.length + 1) = pre ++ [x] := fun x => List.take_of_length_le (by simp)
            have hdr : ∀ x : D, ∀ k, (pre ++ [x]).drop (pre.length + 1 + k) = [] := fun x k => List.drop_of_length_le (by simp)
            have hdr0 : ∀ x : D, (pre ++ [x]).drop (pre.length + 1) = [] := fun x => List.drop_of_length_le (by simp)
            have hgt : ∀ x : D, (pre ++ [x])[pre.length]? = some x := fun x => by rw [List.getElem?_append_right (Nat.le_refl _), Nat.sub_self]; rfl
            have hlp : ∀ x : D, (pre ++ [x]).length = pre.length + 1 := fun x => by simp
            refine Pwp.room (id := 16) rfl fun rm hr1 hr2 => ?_
            simp only [hlp] at hr1
            simp only [L19b, upd, if_true, reduceIte]
            simp only [outD, deskD, saidL, Option.toList, dB, dA, boxK, idB, Desk.cells, Desk.book, Msg.d, Msg.cells, about, eI, saidD, List.cons_append, List.nil_append, List.map_cons, List.map_nil] at *
            repeat' (first|((first|refine goA rfl fun K hK=>?_|refine goB rfl fun K hK=>?_|refine goC rfl rfl fun K hK=>?_|refine goD rfl rfl fun K hK=>?_);simp (dsimp:=false) only [↓gq,↓stepP,↓stepG,go_sem,htk,hdr,hdr0,hgt,hlp,List.length,beq_self_eq_true])|refine Pwp.seq ?_|refine Pwp.block ?_|(refine Pwp.exit ?_;simp only [thenS,blockS,if_true,if_false,reduceIte,Nat.reduceEqDiff,Nat.add_one_ne_zero,reduceCtorEq])|(refine Pwp.skip ?_;simp only [thenS,blockS])|(refine Pwp.cond rfl True.intro (fun h=>?_) (fun h=>?_)<;>(try (cases h;done))<;>(try simp only [h]))|refine Pwp.ret ?_|(refine hK _ ?_;clear hK K)|(refine hK _ _ rfl ?_;clear hK K)|(refine Or.inl (Or.inr ⟨?_, Or.inl ⟨?_, ?_⟩⟩))|(refine CallK.give (ds:=[.agg [I64 0, .slc 8 (itemsD [⟨0, 1, 1, 0, n, r, 1, 0⟩]), .slc 3 (ordersD []), I64 far, nilD], .agg [I64 7, I64 0, I64 1, I64 1, I64 0, I64 r, I64 0, I64 n, .v (.bool false), nilD, nilD], I64 1]) rfl (r3) (by simp) ?_)|refine CallG.off ?_|with_reducible refine Or.inl ?_|simp only [thenS,blockS]|with_reducible refine And.intro ?_ ?_|with_reducible exact True.intro|simp (dsimp:=false) only [↓gq,↓stepP,↓stepG,go_sem,htk,hdr,hdr0,hgt,hlp,List.length,beq_self_eq_true])
            all_goals (try (first|(intro hg;simp [hg];done)|exact of_decide_eq_true rfl|(cases h;done)))
            all_goals (try (first | omega | (simp [maxLen]; omega) | (simp; omega) | (simp; done)))
            exact ⟨0, _, by omega, Sub.view V0 (by simp [L19b]) rfl (by simp [L19b,boxK,idB,dA,dB,eI,saidD,about,Msg.cells,htk,hdr,hdr0,hlp]) (by simp [L19b,boxK,idB,dA,dB,eI,saidD,about,Msg.cells,htk,hdr,hdr0,hlp]), _, _, [], pre ++ [saidD 0 (about 7 (eI n r 3))], .p0 n r 3 ⟨hO.n, hO.r, by omega⟩ (by omega) (by omega), rfl⟩
          | false =>
            simp only [Bool.false_eq_true, if_false, reduceIte]
            by_cases hr3 : r = 3
            · subst hr3
              have r3 := run57own _ (dA_ok hf hO) (about 8 (eI n 3 2)) (by have := hO.n; simp only [about, eI, In64]; omega) 1 (by simp [about]) (ends_over (far := far) hO)
              have htk : ∀ x : D, (pre ++ [x]).take (pre.length + 1) = pre ++ [x] := fun x => List.take_of_length_le (by simp)
              have hdr : ∀ x : D, ∀ k, (pre ++ [x]).drop (pre.length + 1 + k) = [] := fun x k => List.drop_of_length_le (by simp)
              have hdr0 : ∀ x : D, (pre ++ [x]).drop (pre.length + 1) = [] := fun x => List.drop_of_length_le (by simp)
              have hgt : ∀ x : D, (pre ++ [x])[pre.length]? = some x := fun x => by rw [List.getElem?_append_right (Nat.le_refl _), Nat.sub_self]; rfl
              have hlp : ∀ x : D, (pre ++ [x]).length = pre.length + 1 := fun x => by simp
              refine Pwp.room (id := 16) rfl fun rm hr1 hr2 => ?_
              simp only [hlp] at hr1
              simp only [L19b, upd, if_true, reduceIte]
              simp only [outD, deskD, saidL, Option.toList, dB, dA, boxK, idB, Desk.cells, Desk.book, Msg.d, Msg.cells, about, eI, saidD, List.cons_append, List.nil_append, List.map_cons, List.map_nil] at *
              rcases Nat.lt_or_ge rm (pre.length + 2) with hroom | hroom
              · repeat' (first|((first|refine goA rfl fun K hK=>?_|refine goB rfl fun K hK=>?_|refine goC rfl rfl fun K hK=>?_|refine goD rfl rfl fun K hK=>?_);simp (dsimp:=false) only [↓gq,↓stepP,↓stepG,go_sem,htk,hdr,hdr0,hgt,hlp,List.length,beq_self_eq_true])|refine Pwp.seq ?_|refine Pwp.block ?_|(refine Pwp.exit ?_;simp only [thenS,blockS,if_true,if_false,reduceIte,Nat.reduceEqDiff,Nat.add_one_ne_zero,reduceCtorEq])|(refine Pwp.skip ?_;simp only [thenS,blockS])|(refine Pwp.cond rfl True.intro (fun h=>?_) (fun h=>?_)<;>(try (cases h;done))<;>(try simp only [h]))|refine Pwp.ret ?_|(refine hK _ ?_;clear hK K)|(refine hK _ _ rfl ?_;clear hK K)|(refine Or.inl (Or.inr ⟨?_, Or.inr ⟨?_, ?_⟩⟩))|(refine CallK.give (ds:=[.agg [I64 0, .slc 8 (itemsD [⟨0, 1, 1, 0, n, 3, 1, 0⟩]), .slc 3 (ordersD []), I64 far, nilD], .agg [I64 8, I64 0, I64 1, I64 1, I64 0, I64 3, I64 0, I64 n, .v (.bool false), nilD, nilD], I64 1]) rfl (r3) (by simp) ?_)|refine CallG.off ?_|with_reducible refine Or.inl ?_|simp only [thenS,blockS]|with_reducible refine And.intro ?_ ?_|with_reducible exact True.intro|simp (dsimp:=false) only [↓gq,↓stepP,↓stepG,go_sem,htk,hdr,hdr0,hgt,hlp,List.length,beq_self_eq_true])
                all_goals (try (first|(intro hg;simp [hg];done)|exact of_decide_eq_true rfl|(cases h;done)))
                all_goals (try (first | omega | (simp [maxLen]; omega) | (simp; omega) | (simp; done)))
                exact ⟨1, _, by omega, Sub.view (VM 411) (by simp [L19b]) rfl (by simp [L19b,VM,boxK,idB,dA,dB,eI,saidD,about,Msg.cells,htk,hdr,hdr0,hlp]) (by simp [L19b,VM,boxK,idB,dA,dB,eI,saidD,about,Msg.cells,htk,hdr,hdr0,hlp]), _, _, _, [], .p1 n hO, rfl⟩
              · repeat' (first|((first|refine goA rfl fun K hK=>?_|refine goB rfl fun K hK=>?_|refine goC rfl rfl fun K hK=>?_|refine goD rfl rfl fun K hK=>?_);simp (dsimp:=false) only [↓gq,↓stepP,↓stepG,go_sem,htk,hdr,hdr0,hgt,hlp,List.length,beq_self_eq_true])|refine Pwp.seq ?_|refine Pwp.block ?_|(refine Pwp.exit ?_;simp only [thenS,blockS,if_true,if_false,reduceIte,Nat.reduceEqDiff,Nat.add_one_ne_zero,reduceCtorEq])|(refine Pwp.skip ?_;simp only [thenS,blockS])|(refine Pwp.cond rfl True.intro (fun h=>?_) (fun h=>?_)<;>(try (cases h;done))<;>(try simp only [h]))|refine Pwp.ret ?_|(refine hK _ ?_;clear hK K)|(refine hK _ _ rfl ?_;clear hK K)|(refine Or.inl (Or.inr ⟨?_, Or.inl ⟨?_, ?_⟩⟩))|(refine CallK.give (ds:=[.agg [I64 0, .slc 8 (itemsD [⟨0, 1, 1, 0, n, 3, 1, 0⟩]), .slc 3 (ordersD []), I64 far, nilD], .agg [I64 8, I64 0, I64 1, I64 1, I64 0, I64 3, I64 0, I64 n, .v (.bool false), nilD, nilD], I64 1]) rfl (r3) (by simp) ?_)|refine CallG.off ?_|with_reducible refine Or.inl ?_|simp only [thenS,blockS]|with_reducible refine And.intro ?_ ?_|with_reducible exact True.intro|simp (dsimp:=false) only [↓gq,↓stepP,↓stepG,go_sem,htk,hdr,hdr0,hgt,hlp,List.length,beq_self_eq_true])
                all_goals (try (first|(intro hg;simp [hg];done)|exact of_decide_eq_true rfl|(cases h;done)))
                all_goals (try (first | omega | (simp [maxLen]; omega) | (simp; omega) | (simp; done)))
                exact ⟨1, _, by omega, Sub.view V0 (by simp [L19b]) rfl (by simp [L19b,boxK,idB,dA,dB,eI,saidD,about,Msg.cells,htk,hdr,hdr0,hlp]) (by simp [L19b,boxK,idB,dA,dB,eI,saidD,about,Msg.cells,htk,hdr,hdr0,hlp]), _, _, _, pre ++ [saidD 0 (about 8 (eI n 3 2))], .p1 n hO, rfl⟩
            · have r3 := run57d (dA_ok hf hO) (m := about 8 (eI n r 2)) (by have := hO.n; simp only [about, eI, In64]; omega) 1 (ends_dispute (far := far) hO (by have := hO.r; omega))
              have htk : ∀ x : D, (pre ++ [x]).take (pre.length + 1) = pre ++ [x] := fun x => List.take_of_length_le (by simp)
              have hdr : ∀ x : D, ∀ k, (pre ++ [x]).drop (pre.length + 1 + k) = [] := fun x k => List.drop_of_length_le (by simp)
              have hdr0 : ∀ x : D, (pre ++ [x]).drop (pre.length + 1) = [] := fun x => List.drop_of_length_le (by simp)
              have hgt : ∀ x : D, (pre ++ [x])[pre.length]? = some x := fun x => by rw [List.getElem?_append_right (Nat.le_refl _), Nat.sub_self]; rfl
              have hlp : ∀ x : D, (pre ++ [x]).length = pre.length + 1 := fun x => by simp
              refine Pwp.room (id := 16) rfl fun rm hr1 hr2 => ?_
              simp only [hlp] at hr1
              simp only [L19b, upd, if_true, reduceIte]
              simp only [outD, deskD, saidL, Option.toList, dB, dA, boxK, idB, Desk.cells, Desk.book, Msg.d, Msg.cells, about, eI, saidD, List.cons_append, List.nil_append, List.map_cons, List.map_nil] at *
              repeat' (first|((first|refine goA rfl fun K hK=>?_|refine goB rfl fun K hK=>?_|refine goC rfl rfl fun K hK=>?_|refine goD rfl rfl fun K hK=>?_);simp (dsimp:=false) only [↓gq,↓stepP,↓stepG,go_sem,htk,hdr,hdr0,hgt,hlp,List.length,beq_self_eq_true])|refine Pwp.seq ?_|refine Pwp.block ?_|(refine Pwp.exit ?_;simp only [thenS,blockS,if_true,if_false,reduceIte,Nat.reduceEqDiff,Nat.add_one_ne_zero,reduceCtorEq])|(refine Pwp.skip ?_;simp only [thenS,blockS])|(refine Pwp.cond rfl True.intro (fun h=>?_) (fun h=>?_)<;>(try (cases h;done))<;>(try simp only [h]))|refine Pwp.ret ?_|(refine hK _ ?_;clear hK K)|(refine hK _ _ rfl ?_;clear hK K)|(refine Or.inl (Or.inr ⟨?_, Or.inl ⟨?_, ?_⟩⟩))|(refine CallK.give (ds:=[.agg [I64 0, .slc 8 (itemsD [⟨0, 1, 1, 0, n, r, 1, 0⟩]), .slc 3 (ordersD []), I64 far, nilD], .agg [I64 8, I64 0, I64 1, I64 1, I64 0, I64 r, I64 0, I64 n, .v (.bool false), nilD, nilD], I64 1]) rfl (r3) (by simp) ?_)|refine CallG.off ?_|with_reducible refine Or.inl ?_|simp only [thenS,blockS]|with_reducible refine And.intro ?_ ?_|with_reducible exact True.intro|simp (dsimp:=false) only [↓gq,↓stepP,↓stepG,go_sem,htk,hdr,hdr0,hgt,hlp,List.length,beq_self_eq_true])
              all_goals (try (first|(intro hg;simp [hg];done)|exact of_decide_eq_true rfl|(cases h;done)))
              all_goals (try (first | omega | (simp [maxLen]; omega) | (simp; omega) | (simp; done)))
              exact ⟨0, _, by omega, Sub.view V0 (by simp [L19b]) rfl (by simp [L19b,boxK,idB,dA,dB,eI,saidD,about,Msg.cells,htk,hdr,hdr0,hlp]) (by simp [L19b,boxK,idB,dA,dB,eI,saidD,about,Msg.cells,htk,hdr,hdr0,hlp]), _, _, [], pre ++ [saidD 0 (about 8 (eI n r 2))], .p0 n r 2 ⟨hO.n, hO.r, by omega⟩ (by omega) (by have := hO.r; omega), rfl⟩
        | p3 n r l hO hll =>
          have hdb : DeskOK (dB far want b) := by
            rcases hll with ⟨rfl, _⟩ | ⟨m, rfl, he⟩
            · exact dB_ok0 hf hw
            · exact dB_ok hf hw he
          have hR := ends_propose (far := far) (want := want) hO (l := b) (by rcases hll with h | ⟨m, h, _⟩; exact .inl h; exact .inr ⟨m, h⟩) rfl
          have r3 := run57own _ hdb (about 6 (eI n r 1)) (by have := hO.n; simp only [about, eI, In64]; omega) 0 (by simp [about]) hR
          generalize nearV want n far = nr at *
          clear hdb hR hll
          have htk : ∀ x : D, (pre ++ [x]).take (pre.length + 1) = pre ++ [x] := fun x => List.take_of_length_le (by simp)
          have hdr : ∀ x : D, ∀ k, (pre ++ [x]).drop (pre.length + 1 + k) = [] := fun x k => List.drop_of_length_le (by simp)
          have hdr0 : ∀ x : D, (pre ++ [x]).drop (pre.length + 1) = [] := fun x => List.drop_of_length_le (by simp)
          have hgt : ∀ x : D, (pre ++ [x])[pre.length]? = some x := fun x => by rw [List.getElem?_append_right (Nat.le_refl _), Nat.sub_self]; rfl
          have hlp : ∀ x : D, (pre ++ [x]).length = pre.length + 1 := fun x => by simp
          refine Pwp.room (id := 16) rfl fun rm hr1 hr2 => ?_
          simp only [hlp] at hr1
          simp only [L19b, upd, if_true, reduceIte]
          simp only [outD, deskD, saidL, Option.toList, dB, dA, boxK, idB, Desk.cells, Desk.book, Msg.d, Msg.cells, about, eI, saidD, List.cons_append, List.nil_append, List.map_cons, List.map_nil] at *
          rcases Nat.lt_or_ge rm (pre.length + 2) with hroom | hroom
          · repeat' (first|((first|refine goA rfl fun K hK=>?_|refine goB rfl fun K hK=>?_|refine goC rfl rfl fun K hK=>?_|refine goD rfl rfl fun K hK=>?_);simp (dsimp:=false) only [↓gq,↓stepP,↓stepG,go_sem,htk,hdr,hdr0,hgt,hlp,List.length,beq_self_eq_true])|refine Pwp.seq ?_|refine Pwp.block ?_|(refine Pwp.exit ?_;simp only [thenS,blockS,if_true,if_false,reduceIte,Nat.reduceEqDiff,Nat.add_one_ne_zero,reduceCtorEq])|(refine Pwp.skip ?_;simp only [thenS,blockS])|(refine Pwp.cond rfl True.intro (fun h=>?_) (fun h=>?_)<;>(try (cases h;done))<;>(try simp only [h]))|refine Pwp.ret ?_|(refine hK _ ?_;clear hK K)|(refine hK _ _ rfl ?_;clear hK K)|(refine Or.inl (Or.inr ⟨?_, Or.inr ⟨?_, ?_⟩⟩))|(refine CallK.give (ds:=[.agg [I64 1, .slc 8 (itemsD b), .slc 3 (ordersD [⟨0, 1, want⟩]), I64 far, nilD], .agg [I64 6, I64 0, I64 1, I64 1, I64 0, I64 r, I64 0, I64 n, .v (.bool false), nilD, nilD], I64 0]) rfl (r3) (by simp) ?_)|refine CallG.off ?_|with_reducible refine Or.inl ?_|simp only [thenS,blockS]|with_reducible refine And.intro ?_ ?_|with_reducible exact True.intro|simp (dsimp:=false) only [↓gq,↓stepP,↓stepG,go_sem,htk,hdr,hdr0,hgt,hlp,List.length,beq_self_eq_true])
            all_goals (try (first|(intro hg;simp [hg];done)|exact of_decide_eq_true rfl|(cases h;done)))
            all_goals (try (first | omega | (simp [maxLen]; omega) | (simp; omega) | (simp; done)))
            exact ⟨2, _, by omega, Sub.view (VM 411) (by simp [L19b]) rfl (by simp [L19b,VM,boxK,idB,dA,dB,eI,saidD,about,Msg.cells,htk,hdr,hdr0,hlp]) (by simp [L19b,VM,boxK,idB,dA,dB,eI,saidD,about,Msg.cells,htk,hdr,hdr0,hlp]), _, _, _, [], .p2 n r nr hO, rfl⟩
          · repeat' (first|((first|refine goA rfl fun K hK=>?_|refine goB rfl fun K hK=>?_|refine goC rfl rfl fun K hK=>?_|refine goD rfl rfl fun K hK=>?_);simp (dsimp:=false) only [↓gq,↓stepP,↓stepG,go_sem,htk,hdr,hdr0,hgt,hlp,List.length,beq_self_eq_true])|refine Pwp.seq ?_|refine Pwp.block ?_|(refine Pwp.exit ?_;simp only [thenS,blockS,if_true,if_false,reduceIte,Nat.reduceEqDiff,Nat.add_one_ne_zero,reduceCtorEq])|(refine Pwp.skip ?_;simp only [thenS,blockS])|(refine Pwp.cond rfl True.intro (fun h=>?_) (fun h=>?_)<;>(try (cases h;done))<;>(try simp only [h]))|refine Pwp.ret ?_|(refine hK _ ?_;clear hK K)|(refine hK _ _ rfl ?_;clear hK K)|(refine Or.inl (Or.inr ⟨?_, Or.inl ⟨?_, ?_⟩⟩))|(refine CallK.give (ds:=[.agg [I64 1, .slc 8 (itemsD b), .slc 3 (ordersD [⟨0, 1, want⟩]), I64 far, nilD], .agg [I64 6, I64 0, I64 1, I64 1, I64 0, I64 r, I64 0, I64 n, .v (.bool false), nilD, nilD], I64 0]) rfl (r3) (by simp) ?_)|refine CallG.off ?_|with_reducible refine Or.inl ?_|simp only [thenS,blockS]|with_reducible refine And.intro ?_ ?_|with_reducible exact True.intro|simp (dsimp:=false) only [↓gq,↓stepP,↓stepG,go_sem,htk,hdr,hdr0,hgt,hlp,List.length,beq_self_eq_true])
            all_goals (try (first|(intro hg;simp [hg];done)|exact of_decide_eq_true rfl|(cases h;done)))
            all_goals (try (first | omega | (simp [maxLen]; omega) | (simp; omega) | (simp; done)))
            exact ⟨2, _, by omega, Sub.view V0 (by simp [L19b]) rfl (by simp [L19b,boxK,idB,dA,dB,eI,saidD,about,Msg.cells,htk,hdr,hdr0,hlp]) (by simp [L19b,boxK,idB,dA,dB,eI,saidD,about,Msg.cells,htk,hdr,hdr0,hlp]), _, _, _, pre ++ [saidD 1 (about 6 (eI n r 1))], .p2 n r nr hO, rfl⟩
    · rintro s ⟨l, k, hB, rfl⟩
      have c1 := dge (Nat.le_refl am.length)
      unfold L19a boxK idB
      repeat' (first|((first|refine goA rfl fun K hK=>?_|refine goB rfl fun K hK=>?_|refine goC rfl rfl fun K hK=>?_|refine goD rfl rfl fun K hK=>?_);simp (dsimp:=false) only [↓gq,↓stepP,↓stepG,go_sem,c1])|refine Pwp.seq ?_|refine Pwp.block ?_|(refine Pwp.exit ?_;simp only [thenS,blockS,if_true,if_false,reduceIte,Nat.reduceEqDiff,Nat.add_one_ne_zero,reduceCtorEq])|(refine Pwp.skip ?_;simp only [thenS,blockS])|(refine Pwp.cond rfl True.intro (fun h=>?_) (fun h=>?_)<;>(try (cases h;done))<;>(try simp only [h]))|refine Pwp.ret ?_|(refine hK _ ?_;clear hK K)|(refine hK _ _ rfl ?_;clear hK K)|refine CallG.off ?_|with_reducible refine Or.inl ?_|simp only [thenS,blockS]|with_reducible refine And.intro ?_ ?_|with_reducible exact True.intro|simp (dsimp:=false) only [↓gq,↓stepP,↓stepG,go_sem,c1])
      all_goals (try (first|(intro hg;simp [hg];done)|exact of_decide_eq_true rfl|(cases h;done)))
      (refine Fin.data (.inr rfl) (by simp (dsimp:=false) only [↓gq,↓stepP,↓stepG,go_sem,resL]; rfl) (by simp only [and_self]) (by simp (dsimp:=false) only [↓gq,↓stepP,↓stepG,go_sem,resP,Nat.le_refl,List.take_length]; try rfl) ?_)
      exact subD_refl _
end Go.Proofs.Ytdodgbhodkcckaa.Pv
end
section
set_option linter.unusedVariables false
set_option linter.unusedSimpArgs false
set_option autoImplicit false
namespace Go.Proofs.Ytdodgbhodkcckaa.Pv
section
variable {α : Type} (k : α → Int)
def Rising (l : List α) : Prop := l.Pairwise fun a b => k a < k b
def below (l : List α) (x : Int) : List α := l.takeWhile fun y => decide (k y < x)
def above (l : List α) (x : Int) : List α := l.dropWhile fun y => decide (k y < x)
def rest (l : List α) (x : Int) : List α := match above k l x with
  | y :: ys => if k y = x then ys else y :: ys
  | [] => []
def enter (y : α) (l : List α) : List α := below k l (k y) ++ y :: rest k l (k y)
variable {k}
theorem split_at (l : List α) (x : Int) : below k l x ++ above k l x = l := List.takeWhile_append_dropWhile
theorem mem_below {l : List α} {x : Int} : ∀ {y : α}, y ∈ below k l x → k y < x := by
  intro y hy
  unfold below at hy
  induction l with
  | nil => simp at hy
  | cons z l ih =>
    rw [List.takeWhile_cons] at hy
    split at hy
    · rename_i h
      rcases List.mem_cons.1 hy with rfl | hy
      · simpa using h
      · exact ih hy
    · simp at hy
theorem above_head {l : List α} {x : Int} {y : α} {ys : List α} (h : above k l x = y :: ys) : ¬ k y < x := by
  unfold above at h
  induction l with
  | nil => simp at h
  | cons z l ih =>
    rw [List.dropWhile_cons] at h
    split at h
    · exact ih h
    · rename_i hz
      cases h
      simpa using hz
theorem Rising.append {l m : List α} (h : Rising k (l ++ m)) : Rising k l ∧ Rising k m ∧ ∀ a ∈ l, ∀ b ∈ m, k a < k b := List.pairwise_append.1 h
theorem Rising.tail {y : α} {l : List α} (h : Rising k (y :: l)) : (∀ b ∈ l, k y < k b) ∧ Rising k l := List.pairwise_cons.1 h
theorem rising_enter {l : List α} (hr : Rising k l) (y : α) : Rising k (enter k y l) := by
  have hs := split_at (k := k) l (k y)
  have hr' := hr
  rw [← hs] at hr'
  obtain ⟨h1, h2, h3⟩ := hr'.append
  have hrest : Rising k (y :: rest k l (k y)) := by
    refine List.pairwise_cons.2 ⟨fun b hb => ?_, ?_⟩
    · unfold rest at hb
      split at hb
      · rename_i z zs ha
        rw [ha] at h2
        have hz := above_head ha
        split at hb
        · rename_i e; rw [← e]; exact h2.tail.1 b hb
        · rename_i e
          rcases List.mem_cons.1 hb with rfl | hb
          · omega
          · have := h2.tail.1 b hb; omega
      · simp at hb
    · unfold rest
      split
      · rename_i z zs ha
        rw [ha] at h2
        split
        · exact h2.tail.2
        · exact h2
      · exact List.Pairwise.nil
  refine List.pairwise_append.2 ⟨h1, hrest, fun a ha b hb => ?_⟩
  have hka := mem_below ha
  rcases List.mem_cons.1 hb with rfl | hb
  · exact hka
  · have := hrest.tail.1 b hb; omega
theorem mem_enter {l : List α} (hr : Rising k l) {y z : α} : z ∈ enter k y l ↔ z = y ∨ (z ∈ l ∧ k z ≠ k y) := by
  have hs := split_at (k := k) l (k y)
  have hr' := hr
  rw [← hs] at hr'
  obtain ⟨h1, h2, h3⟩ := hr'.append
  have hm : z ∈ l ↔ z ∈ below k l (k y) ∨ z ∈ above k l (k y) := by
    conv => lhs; rw [← hs]
    exact List.mem_append
  have hrest : z ∈ rest k l (k y) ↔ z ∈ above k l (k y) ∧ k z ≠ k y := by
    unfold rest
    cases ha : above k l (k y) with
    | nil => simp
    | cons w ws =>
      rw [ha] at h2
      have hw := above_head ha
      simp only
      split
      · rename_i e
        constructor
        · intro hz; have := h2.tail.1 z hz; exact ⟨List.mem_cons_of_mem _ hz, by omega⟩
        · rintro ⟨hz, hne⟩
          rcases List.mem_cons.1 hz with rfl | hz
          · exact absurd e hne
          · exact hz
      · rename_i e
        constructor
        · intro hz
          refine ⟨hz, ?_⟩
          rcases List.mem_cons.1 hz with rfl | hz
          · exact e
          · have := h2.tail.1 z hz; omega
        · exact fun h => h.1
  unfold enter
  rw [List.mem_append, List.mem_cons, hrest, hm]
  constructor
  · rintro (h | rfl | ⟨h, hne⟩)
    · exact .inr ⟨.inl h, by have := mem_below h; omega⟩
    · exact .inl rfl
    · exact .inr ⟨.inr h, hne⟩
  · rintro (rfl | ⟨h | h, hne⟩)
    · exact .inr (.inl rfl)
    · exact .inl h
    · exact .inr (.inr ⟨h, hne⟩)
end
end Go.Proofs.Ytdodgbhodkcckaa.Pv
end
section
set_option linter.unusedVariables false
set_option linter.unusedSimpArgs false
set_option autoImplicit false
set_option maxRecDepth 100000
namespace Go.Proofs.Ytdodgbhodkcckaa.Pv
open Go Go.RowKit
structure Line where
  seller : Int
  number : Int
  buyer : Int
  amount : Int
deriving DecidableEq
def Line.cells (x : Line) : List D := [I64 x.seller, I64 x.number, I64 x.buyer, I64 x.amount]
def Line.d (x : Line) : D := .agg x.cells
def linesD (l : List Line) : List D := l.map Line.d
def ahead (x y : Line) : Bool := decide (x.seller < y.seller) || (x.seller == y.seller && decide (x.number < y.number))
end Go.Proofs.Ytdodgbhodkcckaa.Pv
end
section
set_option linter.unusedVariables false
set_option linter.unusedSimpArgs false
set_option autoImplicit false
set_option maxRecDepth 100000
namespace Go.Proofs.Ytdodgbhodkcckaa.Pv
open Go Go.RowKit
def held (x : Item) : Bool := x.state == 3 && x.cycle != 0
structure Part where
  cycle : Int
  currency : Int
  state : Int
  lines : List Line
deriving DecidableEq
def Part.cells (x : Part) : List D := [I64 x.cycle, I64 x.currency, I64 x.state, .slc 4 (linesD x.lines)]
def Part.d (x : Part) : D := .agg x.cells
def partsL (l : List Part) : List D := (l.map Part.cells).map .agg
structure VP where
  me : Int
  n : Int
  list : List Part
def VP.cells (p : VP) : List D := [I64 p.me, I64 p.n, .slc 4 (partsL p.list)]
def VP.d (p : VP) : D := .agg p.cells
def Part.zero : Part := ⟨0, 0, 0, []⟩
def Item.of : List D → Item
  | [.v (.int _ a), .v (.int _ b), .v (.int _ c), .v (.int _ d), .v (.int _ e), .v (.int _ f), .v (.int _ g), .v (.int _ h)] => ⟨a, b, c, d, e, f, g, h⟩
  | _ => Item.zero
end Go.Proofs.Ytdodgbhodkcckaa.Pv
end
section
set_option linter.unusedVariables false
set_option linter.unusedSimpArgs false
set_option autoImplicit false
namespace Go.Proofs.Ytdodgbhodkcckaa.Pv
open Go Go.RowKit
def keyN (s n : Int) : Int := s * 36893488147419103232 + n
structure Fine (x : Item) : Prop where
  s : 0 ≤ x.seller ∧ x.seller < 8
  b : 0 ≤ x.buyer ∧ x.buyer < 8
  sb : x.buyer ≠ x.seller
  n : 1 ≤ x.number ∧ x.number ≤ 1048576
  c : 0 ≤ x.currency ∧ x.currency < 8
  a : 1 ≤ x.amount ∧ x.amount ≤ 1125899906842624
  r : 0 ≤ x.round ∧ x.round ≤ 3
  t : 1 ≤ x.state ∧ x.state ≤ 5
  y : 0 ≤ x.cycle ∧ x.cycle ≤ 1048576
  y3 : x.cycle ≠ 0 → x.state = 3 ∨ x.state = 5
  y0 : x.cycle = 0 → x.state ≠ 5
def kI (x : Item) : Int := keyN x.seller x.number
structure Good (me : Int) (l : List Item) : Prop where
  rise : Rising kI l
  fine : ∀ x ∈ l, Fine x
  mine : ∀ x ∈ l, x.seller = me ∨ x.buyer = me
theorem Good.enter {me : Int} {l : List Item} (h : Good me l) {x : Item} (hx : Fine x) (hm : x.seller = me ∨ x.buyer = me) : Good me (enter kI x l) :=
  ⟨rising_enter h.rise x, fun y hy => by
    rcases (mem_enter h.rise).1 hy with rfl | ⟨h1, _⟩
    · exact hx
    · exact h.fine y h1, fun y hy => by
    rcases (mem_enter h.rise).1 hy with rfl | ⟨h1, _⟩
    · exact hm
    · exact h.mine y h1⟩
theorem Good.nil (me : Int) : Good me [] := ⟨List.Pairwise.nil, by simp, by simp⟩
end Go.Proofs.Ytdodgbhodkcckaa.Pv
end
section
set_option linter.unusedVariables false
set_option linter.unusedSimpArgs false
set_option autoImplicit false
set_option maxRecDepth 100000
namespace Go.Proofs.Ytdodgbhodkcckaa.Pv
open Go Go.RowKit
structure VOut where
  e : Int
  p : VP
  l : List Item
  o : Option D
end Go.Proofs.Ytdodgbhodkcckaa.Pv
end
section
set_option linter.unusedVariables false
set_option linter.unusedSimpArgs false
set_option autoImplicit false
set_option maxRecDepth 100000
namespace Go.Proofs.Ytdodgbhodkcckaa.Pv
open Go Go.RowKit
structure LineOK (n : Int) (x : Line) : Prop where
  s : 0 ≤ x.seller ∧ x.seller < n
  b : 0 ≤ x.buyer ∧ x.buyer < n
  sb : x.seller ≠ x.buyer
  m : 1 ≤ x.number ∧ x.number ≤ 1048576
  a : 1 ≤ x.amount ∧ x.amount ≤ 1125899906842624
end Go.Proofs.Ytdodgbhodkcckaa.Pv
end
section
set_option linter.unusedVariables false
set_option linter.unusedSimpArgs false
set_option autoImplicit false
set_option maxRecDepth 100000
namespace Go.Proofs.Ytdodgbhodkcckaa.Pv
open Go Go.RowKit
structure RDesk where
  me : Int
  far : Int
  items : List Item
  orders : List Order
def RDesk.cells (d : RDesk) : List D := [I64 d.me, I64 d.far, .slc 8 (itemsD d.items), .slc 3 (ordersD d.orders)]
def RDesk.d (d : RDesk) : D := .agg d.cells
def isNm (s n : Int) (y : Item) : Bool := y.seller == s && y.number == n
def fndV (s n : Int) : Nat → List Item → Int
  | _, [] => -1
  | i, y :: l => if isNm s n y = true then i else fndV s n (i + 1) l
def keepL2 (l : List Item) (x : Item) : List Item := if fndV x.seller x.number 0 l < 0 then l ++ [x] else l.set (fndV x.seller x.number 0 l).toNat x
def RDesk.keep (d : RDesk) (x : Item) : RDesk := { d with items := keepL2 d.items x }
end Go.Proofs.Ytdodgbhodkcckaa.Pv
end
section
set_option linter.unusedVariables false
set_option linter.unusedSimpArgs false
set_option autoImplicit false
set_option maxRecDepth 100000
namespace Go.Proofs.Ytdodgbhodkcckaa.Pv
open Go Go.RowKit
structure VMsg where
  kind : Int
  seller : Int
  number : Int
  buyer : Int
  currency : Int
  round : Int
  cycle : Int
  amount : Int
  yes : Bool
  ls : List Line
  ns : List Int
def VMsg.msg (m : VMsg) : Msg := ⟨m.kind, m.seller, m.number, m.buyer, m.currency, m.round, m.cycle, m.amount, m.yes, .slc 4 (linesD m.ls), .slc 1 (m.ns.map I64)⟩
structure VW where
  from' : Int
  m : VMsg
def VW.d (w : VW) : D := .agg (I64 w.from' :: w.m.msg.cells)
end Go.Proofs.Ytdodgbhodkcckaa.Pv
end
section
set_option linter.unusedVariables false
set_option autoImplicit false
namespace Go.Proofs.Ytdodgbhodkcckaa.Pv
open Go Go.RowKit
theorem lit_inV {n : Int} (h : (Lit.int .i64 n).wf = true) : In64 n := by
  simp only [Lit.wf, Bool.and_eq_true, decide_eq_true_eq] at h
  exact h
structure OkVW (w : VW) : Prop where
  cy : In64 w.m.cycle
  ln : ∀ x ∈ w.m.ls, In64 x.number
end Go.Proofs.Ytdodgbhodkcckaa.Pv
end
section
set_option linter.unusedVariables false
set_option autoImplicit false
namespace Go.Proofs.Ytdodgbhodkcckaa.Pv
open Go Go.RowKit
theorem numsV64_of {d : D} (h : okD (.slc false [.int .i64]) d) : ∃ l : List Int, d = .slc 1 (l.map I64) ∧ ∀ a ∈ l, In64 a := by
  simp only [okD] at h
  obtain ⟨els, rfl, _, h⟩ := h
  obtain ⟨l, rfl, hl⟩ := els_of I64 In64 (els := els) fun el he => by
    obtain ⟨ds, rfl, h2⟩ := h el he
    simp only [okL, okD] at h2
    obtain ⟨_, _, rfl, ⟨a, rfl, ha⟩, rfl⟩ := h2
    exact ⟨a, rfl, lit_inV ha⟩
  exact ⟨l, rfl, hl⟩
theorem run19k (xs : List D) (h : okArgs [(false, [.int .i64]), (false, [.int .i64]), (false, [.slc false [.int .i64]])] xs) : Runs Try.prog 19 (xs.map .d) [] (.d (.v (.bool true))) [] := by
  simp only [okArgs, okL] at h
  obtain ⟨_, _, rfl, ⟨_, _, rfl, h0, rfl⟩, _, _, rfl, ⟨_, _, rfl, h1, rfl⟩, _, _, rfl, ⟨_, _, rfl, h2, rfl⟩, rfl⟩ := h
  obtain ⟨l, rfl, hl⟩ := numsV64_of h2
  simp only [okD] at h0 h1
  obtain ⟨a, rfl, ha⟩ := h0
  obtain ⟨b, rfl, hb⟩ := h1
  exact run19 a b l (lit_inV ha) (lit_inV hb) hl
end Go.Proofs.Ytdodgbhodkcckaa.Pv
end
