/- Rules in the form in which a walk takes them. No program is in sight here. -/
import Derived.Test.YtdodgbhodkcckaaPvw
set_option linter.unusedVariables false
set_option linter.unusedSectionVars false
set_option linter.unusedSimpArgs false
set_option autoImplicit false
namespace Go.Proofs.Ytdodgbhodkcckaa.Pv
open Go Go.RowKit

section
variable {P : Program} {n : Nat} {Q : Exit → St → Prop} {st : St} {T : Nat → Option TI} {eqt : Nat → Option (List CK)} (hk : Kit P T eqt)
include hk

/-- A region, and what comes behind it. -/
theorem Pwp.step {id : Nat} {ops : Array Oper} {y : Code} (hf : opsFit n ops.toList = true) (h : ∀ K : St → Prop, (∀ s, Pwp P n y Q s → K s) → opsP P T eqt ops.toList ops.size st.next 0 ops.toList st K) : Pwp P n (.seq (.region id ops false) y) Q st :=
  Pwp.seq (Pwp.region hk hf (h _ fun _ h => h))
/-- A region at the end. -/
theorem Pwp.last {id : Nat} {ops : Array Oper} (hf : opsFit n ops.toList = true) (h : ∀ K : St → Prop, (∀ s, Q .normal s → K s) → opsP P T eqt ops.toList ops.size st.next 0 ops.toList st K) : Pwp P n (.region id ops false) Q st :=
  Pwp.region hk hf (h _ fun _ h => h)
/-- A region whose order is drawn, and what comes behind it. -/
theorem Pwp.stepD {id : Nat} {ops : Array Oper} {y : Code} (hm : P.follows .mixedOrders = true) (hf : opsFit n ops.toList = true) (h : ∀ K : St → List Foot → Prop, (∀ s feet, orderOK ops feet = true → Pwp P n y Q s → K s feet) → opsD P T eqt ops.toList ops.size st.next 0 ops.toList st [] K) : Pwp P n (.seq (.region id ops true) y) Q st :=
  Pwp.seq (Pwp.drawn hk hm hf (h _ fun _ _ h1 h2 => ⟨h1, h2⟩))
theorem Pwp.lastD {id : Nat} {ops : Array Oper} (hm : P.follows .mixedOrders = true) (hf : opsFit n ops.toList = true) (h : ∀ K : St → List Foot → Prop, (∀ s feet, orderOK ops feet = true → Q .normal s → K s feet) → opsD P T eqt ops.toList ops.size st.next 0 ops.toList st [] K) : Pwp P n (.region id ops true) Q st :=
  Pwp.drawn hk hm hf (h _ fun _ _ h1 h2 => ⟨h1, h2⟩)
end

section
variable {P : Program} {n : Nat} {Q : Exit → St → Prop} {st : St}
theorem Pwp.step_skip {y : Code} (h : Pwp P n y Q st) : Pwp P n (.seq .skip y) Q st := Pwp.seq (Pwp.skip h)
end

theorem disj_nil (a : List Nat) : disj a [] = true := by
  induction a with
  | nil => rfl
  | cons x l ih => simp [disj]

/-- What is handed back is data. -/
theorem Fin.data {T : Nat → Option TI} {rs : List ResultVar} {e : Exit} {st : St} {ps : List PVal} {g : Prop} {x y : D} (he : e = .normal ∨ e = .ret) (hr : resL T st rs = some (ps, g)) (hg : g) (hd : (resP ps).toD st.heap = some x) (hs : subD x y) : Fin T rs (.d y) [] e st := by
  refine ⟨he, ?_⟩
  rw [hr]
  refine ⟨hg, ⟨fun k => k, fun _ => none, []⟩, rfl, trivial, ?_⟩
  simp only [viewP, hd, keptOf, List.map_nil]
  exact ⟨hs, disj_nil _⟩

/-- A call that is handed data alone, and hands back r and new objects. -/
theorem callP_data {P : Program} {fid : Nat} {nid : Nat → Nat} {st : St} {qs ps : List PVal} {r : PVal} {h' : List (Nat × PObj)} {K : Eff → Prop} (hr : Runs P fid ps [] r h') (ha : argsP st.heap (rename [] nid) qs ps) (hn : (h'.map (·.1)).Nodup) (give : Bool) (hg : give = true ∨ frozen qs ps = [] ∨ (r.flat = true ∧ h' = []))
    (hK : K ⟨r.shift (rename [] nid), if give = true then frozen qs ps else [], shiftH (rename [] nid) h'⟩) : callP P fid nid st qs [] ps [] r h' give K :=
  ⟨ha, hr, ⟨by simp, by simp, rfl, rfl⟩, ⟨hn, by simp⟩, hg, by simpa using hK⟩

/-- What is simplified of a call that is still to be taken: its arguments, its state. -/
theorem CallK.congr {P : Program} {fid : Nat} {nid : Nat → Nat} {st st' : St} {qs qs' : List PVal} {K : Eff → Prop} (hs : st = st') (hq : qs = qs') : CallK P fid nid st qs K = CallK P fid nid st' qs' K := by rw [hs, hq]
theorem CallG.congr {P : Program} {fid : Nat} {g g' : Bool} {st st' : St} {qs qs' : List PVal} {G G' : Prop} {K : Eff → Prop} (hb : g = g') (hs : st = st') (hq : qs = qs') (hG : G = G') : CallG P fid g st qs G K = CallG P fid g' st' qs' G' K := by rw [hb, hs, hq, hG]
attribute [congr] CallK.congr CallG.congr

theorem CallK.data {P : Program} {fid : Nat} {nid : Nat → Nat} {st : St} {qs ps : List PVal} {r : PVal} {h' : List (Nat × PObj)} {K : Eff → Prop} (hr : Runs P fid ps [] r h') (give : Bool) (ha : argsP st.heap (rename [] nid) qs ps) (hn : (h'.map (·.1)).Nodup) (hg : give = true ∨ frozen qs ps = [] ∨ (r.flat = true ∧ h' = []))
    (hK : K ⟨r.shift (rename [] nid), if give = true then frozen qs ps else [], shiftH (rename [] nid) h'⟩) : CallK P fid nid st qs K := ⟨[], ps, [], r, h', give, callP_data hr ha hn give hg hK⟩

/-- A call of data that hands back data. -/
theorem CallK.flat {P : Program} {fid : Nat} {nid : Nat → Nat} {st : St} {qs ps : List PVal} {x : D} {K : Eff → Prop} (hr : Runs P fid ps [] (.d x) []) (ha : argsP st.heap (rename [] nid) qs ps) (hg : frozen qs ps = [] ∨ x.flat = true) (hK : K ⟨.d x, [], []⟩) : CallK P fid nid st qs K :=
  CallK.data hr false ha (by simp) (by rcases hg with h | h; exact .inr (.inl h); exact .inr (.inr ⟨h, rfl⟩)) (by simpa [PVal.shift, shiftH] using hK)

theorem callee_fn (f : Nat) : callee (.d (.v (.func (.func f) #[] #[]))) = some (f, [], []) := rfl
theorem callee_clo (f : Nat) (a b : List PVal) : callee (.clo (.func f) a b) = some (f, a, b) := rfl
theorem callee_d (f : Nat) (a b : List D) : callee (.d (.fn (.func f) a b)) = some (f, a.map .d, b.map .d) := rfl

theorem subV_refl (x : Value) : subV x (.v x) := by
  unfold subV
  split
  · rename_i h; cases h
  · rfl
mutual
theorem subD_refl : ∀ x : D, subD x x
  | .v x => by simp only [subD]; exact subV_refl x
  | .agg xs => by simp only [subD]; exact subL_refl xs
  | .tup xs => by simp only [subD]; exact subL_refl xs
  | .slc _ _ => by simp only [subD]
  | .ifc _ _ => by simp only [subD]
  | .fn _ _ _ => by simp only [subD]
  | .ptr _ => by simp only [subD]
theorem subL_refl : ∀ xs : List D, subL xs xs
  | [] => by simp only [subL]
  | x :: xs => by simp only [subL]; exact ⟨subD_refl x, subL_refl xs⟩
end

def PVal.isD : PVal → Bool
  | .d _ => true
  | _ => false

theorem args_same {h : List (Nat × PObj)} {ρ : Nat → Nat} : ∀ {qs : List PVal}, qs.all PVal.isD = true → argsP h ρ qs qs ∧ frozen qs qs = [] ∧ ∀ p ∈ qs, ∃ y, p = .d y
  | [], _ => ⟨trivial, rfl, by simp⟩
  | q :: qs, hq => by
    simp only [List.all_cons, Bool.and_eq_true] at hq
    obtain ⟨h1, h2, h3⟩ := args_same (h := h) (ρ := ρ) hq.2
    cases q with
    | d x =>
      refine ⟨⟨?_, h1⟩, by simp [frozen, PVal.ids, h2], ?_⟩
      · simp only [argP, PVal.toD]; exact subD_refl x
      · intro p hp
        rcases List.mem_cons.1 hp with rfl | hp
        · exact ⟨x, rfl⟩
        · exact h3 p hp
    | _ => simp [PVal.isD] at hq

/-- A call of data as it stands, that hands back data. -/
theorem CallK.same {P : Program} {fid : Nat} {nid : Nat → Nat} {st : St} {qs : List PVal} {x : D} {K : Eff → Prop} (hr : Runs P fid qs [] (.d x) []) (hq : qs.all PVal.isD = true) (hK : K ⟨.d x, [], []⟩) : CallK P fid nid st qs K :=
  CallK.flat hr (args_same hq).1 (.inl (args_same (h := []) (ρ := fun k => k) hq).2.1) hK
theorem CallG.same {P : Program} {fid : Nat} {g : Bool} {st : St} {qs : List PVal} {G : Prop} {x : D} {K : Eff → Prop} (hr : g = true → Runs P fid qs [] (.d x) []) (hq : qs.all PVal.isD = true) (hG : g = true → G) (hK : K ⟨.gd g (.d x), [], []⟩) : CallG P fid g st qs G K :=
  ⟨qs, x, fun e => ⟨(args_same hq).1, (args_same (h := []) (ρ := fun k => k) hq).2.2, hr e, hG e⟩, .inl (args_same (h := []) (ρ := fun k => k) hq).2.1, hK⟩

/-- Nothing is renumbered. -/
def V0 : Turn := ⟨fun k => k, fun _ => none, []⟩
theorem turnOK_id (ks : List Nat) : turnOK V0 ks = true := by
  simp only [turnOK, V0, Bool.and_eq_true, List.all_eq_true, List.mem_range, Bool.or_eq_true, beq_iff_eq, bne_iff_ne]
  refine ⟨fun k hk => by simp, fun k hk => .inr fun k' hk' => ?_⟩
  by_cases h : k = k'
  · exact .inl (.inr h)
  · exact .inr h
/-- Fewer things. -/
theorem Sub.same {n : Nat} {s t : St} (hN : 8 ≤ t.next) (hh : viewH V0 s (keptOf V0 t) t.next t.heap) (ht : viewT V0 s (keptOf V0 t) t.next t.tmps) : Sub n s t := Sub.view V0 hN (turnOK_id _) hh ht

theorem args_toDL {h : List (Nat × PObj)} {ρ : Nat → Nat} : ∀ {qs : List PVal} {ds : List D}, toDL h qs = some ds → argsP h ρ qs (ds.map .d) ∧ frozen qs (ds.map .d) = idsL qs
  | [], ds, hd => by simp only [toDL, Option.some.injEq] at hd; subst hd; exact ⟨trivial, rfl⟩
  | q :: qs, ds, hd => by
    simp only [toDL] at hd
    split at hd
    · rename_i x xs h1 h2
      simp only [Option.some.injEq] at hd; subst hd
      obtain ⟨g1, g2⟩ := args_toDL (ρ := ρ) h2
      refine ⟨⟨?_, g1⟩, by simp only [List.map_cons, frozen, g2, idsL]⟩
      simp only [argP, h1]
      exact subD_refl x
    · cases hd

/-- A call whose arguments are read as data, that hands back data with no address in it. -/
theorem CallK.toD {P : Program} {fid : Nat} {nid : Nat → Nat} {st : St} {qs : List PVal} {ds : List D} {x : D} {K : Eff → Prop} (hd : toDL st.heap qs = some ds) (hr : Runs P fid (ds.map .d) [] (.d x) []) (hf : x.flat = true) (hK : K ⟨.d x, [], []⟩) : CallK P fid nid st qs K :=
  CallK.flat hr (args_toDL hd).1 (.inr hf) hK
/-- .. and behind a guard. -/
theorem CallG.toD {P : Program} {fid : Nat} {g : Bool} {st : St} {qs : List PVal} {G : Prop} {ds : List D} {x : D} {K : Eff → Prop} (hd : toDL st.heap qs = some ds) (hr : Runs P fid (ds.map .d) [] (.d x) []) (hf : x.flat = true) (hG : g = true → G) (hK : K ⟨.gd g (.d x), [], []⟩) : CallG P fid g st qs G K :=
  ⟨ds.map .d, x, fun e => ⟨(args_toDL hd).1, fun p hp => by obtain ⟨y, _, rfl⟩ := List.mem_map.1 hp; exact ⟨y, rfl⟩, hr, hG e⟩, .inr hf, hK⟩
/-- A call that is not made. -/
theorem CallG.off {P : Program} {fid : Nat} {st : St} {qs : List PVal} {G : Prop} {K : Eff → Prop} (hK : K ⟨.gd false (.d (.v (.int .i64 0))), [], []⟩) : CallG P fid false st qs G K :=
  ⟨[], .v (.int .i64 0), (fun e => by cases e), .inr rfl, hK⟩
/-- Two rows of one's own: they don't overlap. -/
theorem OverK.two {P : Program} {T : Nat → Option TI} {fid s : Nat} {st : St} {K : Eff → Prop} {tS el : Nat} {te : TI} {id1 v1 o1 l1 id2 v2 o2 l2 e1 e2 : Nat} {r1 r2 : Option Nat} {els1 els2 : List D} (hi : IsOver P fid tS) (hk : kindOf T tS = some (.slice el)) (ht : T el = some te) (hs : te.size = s) (hp : 0 < s) (hne : id1 ≠ id2)
    (h1 : find id1 st.heap = some (.arr e1 s v1 r1 els1)) (h2 : find id2 st.heap = some (.arr e2 s v2 r2 els2)) (hl : 0 < l1 ∧ 0 < l2) (hK : K ⟨pbool false, [], []⟩) : OverK P T fid st [.own id1 v1 s o1 l1, .own id2 v2 s o2 l2] K := by
  subst hs
  exact ⟨tS, el, te, id1, v1, o1, l1, id2, v2, o2, l2, e1, r1, els1, e2, r2, els2, ⟨hi, hk, ht, hp⟩, rfl, hne, ⟨h1, h2, hl⟩, hK⟩
/-- A call whose arguments are given up as data. -/
theorem CallK.give {P : Program} {fid : Nat} {nid : Nat → Nat} {st : St} {qs : List PVal} {ds : List D} {r : PVal} {h' : List (Nat × PObj)} {K : Eff → Prop} (hd : toDL st.heap qs = some ds) (hr : Runs P fid (ds.map .d) [] r h') (hn : (h'.map (·.1)).Nodup) (hK : K ⟨r.shift (rename [] nid), idsL qs, shiftH (rename [] nid) h'⟩) : CallK P fid nid st qs K :=
  CallK.data hr true (args_toDL hd).1 hn (.inl rfl) (by rw [if_pos rfl, (args_toDL (ρ := rename [] nid) hd).2]; exact hK)

theorem wrap_of {x : Int} (h1 : -9223372036854775808 ≤ x) (h2 : x ≤ 9223372036854775807) : IntKind.i64.wrap x = x := by
  rw [IntKind.wrap_i64]; omega
theorem wrap_succ {i : Nat} (h : i < 9223372036854775807) : IntKind.i64.wrap ((i : Int) + 1) = ((i + 1 : Nat) : Int) := by
  rw [IntKind.wrap_i64]; omega

/-- The room of a row, where it is not told: some number. -/
theorem Pwp.room {P : Program} {n : Nat} {c : Code} {Q : Exit → St → Prop} {st : St} {id e s ver : Nat} {room : Option Nat} {els : List D} (hf : find id st.heap = some (.arr e s ver room els))
    (h : ∀ r, els.length ≤ r → r ≤ maxLen → Pwp P n c Q { st with heap := upd id (.arr e s ver (some r) els) st.heap }) : Pwp P n c Q st := by
  intro E S0 φ0 a w ⟨h1, h2, φ, S, h3, h4, h5⟩
  obtain ⟨g1, g2, g3, g4, g5⟩ := h3.objs id _ hf
  have hb : ∀ r, blk φ id (.arr e s ver r els) = blk φ id (.arr e s ver room els) := fun _ => rfl
  have hset : ∀ r, ORep w (Held E φ st.heap) φ id (.arr e s ver (some r) els) → Rst E S φ { st with heap := upd id (.arr e s ver (some r) els) st.heap } a w := by
    intro r ho
    have hO := held_set (o' := .arr e s ver (some r) els) (φ' := φ) h3 (fun _ _ _ => rfl) (fun c hc => .inr ⟨_, hf, hc⟩)
    exact h3.set (w' := w) (S' := S) (φ' := φ) rfl rfl rfl (Nat.le_refl _) (fun _ _ _ => rfl) (fun _ _ h => h) (fun _ _ _ => rfl) g1 g2 (fun _ _ _ h => h) (by simp only [PObj.und]) (fun c hc => ⟨(g4 c hc).1, .inr ⟨_, hf, hc⟩⟩)
      (ORep.keep (n := S) (φ' := φ) ⟨Nat.le_refl _, fun _ _ _ => rfl⟩ hO (fun _ _ _ => rfl) g1 (by simp only [PObj.und]) (fun _ _ => rfl) ho)
  simp only [ORep] at g5
  rcases g5 with ⟨q1, q2, q3⟩ | ⟨b, m, cs, q1, q2, q3, q4, q5, q6, q7⟩
  · exact h 0 (by simp [q2]) (by simp [maxLen]) E S0 φ0 a w ⟨h1, h2, φ, S, hset 0 (by simp only [ORep]; exact .inl ⟨q1, q2, fun n hn => by cases hn; rfl⟩), h4, h5⟩
  · exact h m q2 q3 E S0 φ0 a w ⟨h1, h2, φ, S, hset m (by simp only [ORep]; exact .inr ⟨b, m, cs, q1, q2, q3, fun n hn => by cases hn; rfl, q5, q6, q7⟩), h4, h5⟩

/-- An argument that is a slice: it has elements, or it is a value with none. -/
theorem Runs.slc {P : Program} {f : FuncId} {pre post : List PVal} {s : Nat} {els : List D} {h : List (Nat × PObj)} {r : PVal} {h' : List (Nat × PObj)} (h1 : els ≠ [] → Runs P f (pre ++ .d (.slc s els) :: post) h r h')
    (h2 : els = [] → ∀ ad cap, Runs P f (pre ++ .d (.v (.slice ad 0 cap)) :: post) h r h') : Runs P f (pre ++ .d (.slc s els) :: post) h r h' := by
  by_cases he : els = []
  · subst he
    refine ⟨(h2 rfl none 0).1, fun E S φ cs hp hS hr hu hx => ?_⟩
    have key : ∀ (pre : List PVal) (cs : List Value), PRepL E.w0 (Held E φ h) φ (pre ++ .d (.slc s []) :: post) cs → undL S (pre ++ .d (.slc s []) :: post) → ∃ ad cap, PRepL E.w0 (Held E φ h) φ (pre ++ .d (.v (.slice ad 0 cap)) :: post) cs ∧ undL S (pre ++ .d (.v (.slice ad 0 cap)) :: post) := by
      intro pre
      induction pre with
      | nil =>
        intro cs hx hu
        simp only [List.nil_append, PRepL, undL, PRep, DRep, PVal.und] at hx hu ⊢
        obtain ⟨c, cs', rfl, ⟨ad, cap, rfl, _⟩, h2⟩ := hx
        exact ⟨ad, cap, ⟨_, cs', rfl, rfl, h2⟩, hu⟩
      | cons p pre ih =>
        intro cs hx hu
        simp only [List.cons_append, PRepL, undL] at hx hu ⊢
        obtain ⟨c, cs', rfl, h1, h2⟩ := hx
        obtain ⟨ad, cap, h3, h4⟩ := ih cs' h2 hu.2
        exact ⟨ad, cap, ⟨c, cs', rfl, h1, h3⟩, hu.1, h4⟩
    obtain ⟨ad, cap, h3, h4⟩ := key pre cs hx hu
    exact (h2 rfl ad cap).2 E S φ cs hp hS hr h4 h3
  · exact h1 he

theorem cells_agg (cs : List D) : D.cells (.agg cs) = cs := rfl
theorem cells_int (k : IntKind) (n : Int) : D.cells (.v (.int k n)) = [.v (.int k n)] := rfl
theorem cells_bool (b : Bool) : D.cells (.v (.bool b)) = [.v (.bool b)] := rfl
theorem cells_str (b : ByteArray) : D.cells (.v (.string b)) = [.v (.string b)] := rfl
theorem cells_slice (a : Option Addr) (n c : Nat) : D.cells (.v (.slice a n c)) = [.v (.slice a n c)] := rfl
theorem cells_slc (s : Nat) (els : List D) : D.cells (.slc s els) = [.slc s els] := rfl
theorem cells_fn (f : Fn) (a b : List D) : D.cells (.fn f a b) = [.fn f a b] := rfl
theorem cells_ptr (a : List D) : D.cells (.ptr a) = [.ptr a] := rfl
theorem cells_vagg (cs : Array Value) : D.cells (.v (.agg cs)) = cs.toList.map .v := rfl

/-- Number 8 stands for a row's number. -/
def V8 (id ver : Nat) : Turn := ⟨fun k => if k < 8 then k else id + (k - 8), fun k => if k = 8 then some ver else none, []⟩
theorem turnOK_8 {id ver : Nat} : turnOK (V8 id ver) [8] = true := by
  simp only [turnOK, V8, Bool.and_eq_true, List.all_eq_true, List.mem_range, Bool.or_eq_true, beq_iff_eq, bne_iff_ne, List.mem_singleton]
  refine ⟨fun k hk => ?_, fun k hk => .inr fun k' hk' => .inl (.inr (by omega))⟩
  have : k ≠ 8 := by omega
  simp [hk, this]

/-- What is handed back is a row of one's own. -/
theorem Fin.row {T : Nat → Option TI} {rs : List ResultVar} {ex : Exit} {st : St} {g : Prop} {id ver e s len : Nat} {room : Option Nat} {els : List D} (he : ex = .normal ∨ ex = .ret) (hr : resL T st rs = some ([.own id ver s 0 len], g)) (hg : g) (hf : find id st.heap = some (.arr e s ver room els)) (hl : len = els.length) :
    Fin T rs (.own 8 0 s 0 els.length) [(8, .arr e s 0 none els)] ex st := by
  subst hl
  refine ⟨he, ?_⟩
  rw [hr]
  refine ⟨hg, V8 id ver, turnOK_8, ?_, ?_⟩
  · simp only [viewH, V8, List.contains_nil, Bool.false_eq_true, if_false, and_true]
    refine ⟨by omega, ?_⟩
    have : (if 8 < 8 then 8 else id + (8 - 8)) = id := by simp
    rw [this, hf]
    simp [viewO, V8]
  · simp only [resP, viewP, V8, List.contains_nil, Bool.false_eq_true, if_false]
    exact ⟨by omega, by simp⟩

/-- A call that is handed two rows of one's own, and data between them. -/
theorem CallK.rows2 {P : Program} {fid : Nat} {nid : Nat → Nat} {st : St} {K : Eff → Prop} {i1 i2 v1 v2 s1 s2 l1 l2 e1 e2 : Nat} {r1 r2 : Option Nat} {els1 els2 : List D} {p : D} {r : PVal} {h' : List (Nat × PObj)}
    (hr : Runs P fid [.own 0 v1 s1 0 l1, .d p, .own 1 v2 s2 0 l2] [(0, .arr e1 s1 v1 r1 els1), (1, .arr e2 s2 v2 r2 els2)] r h') (h1 : find i1 st.heap = some (.arr e1 s1 v1 r1 els1)) (h2 : find i2 st.heap = some (.arr e2 s2 v2 r2 els2)) (hne : i1 ≠ i2) (hn : (h'.map (·.1)).Nodup)
    (hK : K ⟨r.shift (rename [i1, i2] nid), [i1, i2], shiftH (rename [i1, i2] nid) h'⟩) : CallK P fid nid st [.own i1 v1 s1 0 l1, .d p, .own i2 v2 s2 0 l2] K := by
  refine ⟨[i1, i2], _, _, r, h', false, ?_, hr, ⟨by simp [hne], by simp, rfl, ?_⟩, ⟨hn, by simp [frozen, PVal.ids]⟩, .inr (.inl (by simp [frozen, PVal.ids])), by simpa using hK⟩
  · simp [argsP, argP, PVal.shift, rename, PVal.toD, subD_refl]
  · simp [PObj.shift, h1, h2]

/-- What is handed back is nil: a row without elements. -/
theorem Fin.nil {T : Nat → Option TI} {rs : List ResultVar} {ex : Exit} {st : St} {g : Prop} {e s : Nat} (he : ex = .normal ∨ ex = .ret) (hr : resL T st rs = some ([pnil], g)) (hg : g) : Fin T rs (.own 8 0 s 0 0) [(8, .arr e s 0 none [])] ex st := by
  refine ⟨he, ?_⟩
  rw [hr]
  refine ⟨hg, ⟨fun k => k, fun _ => none, [8]⟩, rfl, ?_, ?_⟩
  · simp [viewH]
  · simp [resP, viewP]

theorem toDL_ds (h : List (Nat × PObj)) : ∀ ds : List D, toDL h (ds.map .d) = some ds
  | [] => rfl
  | d :: ds => by simp only [List.map_cons, toDL, PVal.toD, toDL_ds h ds]
theorem ofCells_agg {n : Nat} {x : List D} (h : x.length = n) : ofCells n true (x.map .d) = some (.agg (x.map .d)) := by
  simp only [ofCells, if_true, List.length_map, h, Nat.le_refl]
  rw [List.take_of_length_le (by simp [h])]
theorem half {i j : Nat} (h : i + j < 9223372036854775807) : IntKind.i64.wrap (Int.fdiv (IntKind.u64.wrap (IntKind.i64.wrap ((i : Int) + j))) (2 ^ min 1 IntKind.u64.bits)) = (((i + j) / 2 : Nat) : Int) := by
  have h1 : IntKind.i64.wrap ((i : Int) + j) = ((i + j : Nat) : Int) := by rw [wrap_of (by omega) (by omega)]; simp
  have h2 : IntKind.u64.wrap ((i + j : Nat) : Int) = ((i + j : Nat) : Int) := by
    simp only [IntKind.wrap, IntKind.bits, IntKind.signed]
    simp
    omega
  rw [h1, h2]
  have h3 : (2 : Int) ^ min 1 IntKind.u64.bits = 2 := by decide
  rw [h3]
  have h4 : Int.fdiv ((i + j : Nat) : Int) 2 = (((i + j) / 2 : Nat) : Int) := by
    rw [Int.fdiv_eq_ediv_of_nonneg _ (by omega)]; omega
  rw [h4, wrap_of (by omega) (by omega)]

theorem viewL_ds (V : Turn) (h : List (Nat × PObj)) (kept : List Nat) (N : Nat) : ∀ ds : List D, viewL V h kept N (ds.map .d) (ds.map .d)
  | [] => by simp only [List.map_nil, viewL]
  | d :: ds => by
    simp only [List.map_cons, viewL, viewP, PVal.toD, PVal.ids]
    exact ⟨⟨subD_refl d, rfl⟩, viewL_ds V h kept N ds⟩

end Go.Proofs.Ytdodgbhodkcckaa.Pv
