/- Operations that make memory or change it: the machine does what is told of them. No program is in sight here. -/
import Derived.Test.YtdodgbhodkcckaaPvj
set_option linter.unusedVariables false
set_option linter.unusedSectionVars false
set_option linter.unusedSimpArgs false
set_option autoImplicit false
namespace Go.Proofs.Ytdodgbhodkcckaa.Pv
open Go Go.RowKit

theorem find_delAll : ∀ (ids : List Nat) (h : List (Nat × PObj)) (i : Nat), find i (delAll ids h) = if i ∈ ids then none else find i h
  | [], h, i => by simp [delAll]
  | id :: ids, h, i => by
    simp only [delAll]
    rw [find_delAll ids _ i]
    by_cases e : i = id
    · subst e; simp [find_del_same]
    · simp [e, find_del_other e]

theorem find_delAll_some {ids : List Nat} {h : List (Nat × PObj)} {i : Nat} {o : PObj} (hf : find i (delAll ids h) = some o) : i ∉ ids ∧ find i h = some o := by
  rw [find_delAll] at hf
  split at hf
  · cases hf
  · rename_i hn; exact ⟨hn, hf⟩

theorem app_eq (st : St) (dst : Option Nat) (e : Eff) : st.app dst e = ({ st with heap := updAll e.upds (delAll e.dels st.heap) } : St).put dst e.val := by cases dst <;> rfl

section
variable {E : Env} {S S' : Nat → Nat → Prop} {φ : Nat → Nat → Option (Nat × Nat)} {st : St} {a : Act} {w : World}

/-- Objects are given up. -/
theorem Rst.give (h : Rst E S φ st a w) (ids : List Nat) : Rst E S φ { st with heap := delAll ids st.heap } a w := h.fewer fun _ _ hf => (find_delAll_some hf).2

theorem Rst.notHeld (h : Rst E S φ st a w) {ids : List Nat} {id : Nat} {o : PObj} {b : Nat} (hid : id ∈ ids) (ho : find id st.heap = some o) (hb : blk φ id o = some b) : ¬ Held E φ (delAll ids st.heap) b := by
  rintro (hx | ⟨i, o', hi, hbi⟩)
  · exact h.notOut ho hb hx
  · obtain ⟨h1, h2⟩ := find_delAll_some hi
    exact h1 (h.inj i id o' o b h2 ho hbi hb ▸ hid)

theorem held_give (ids : List Nat) {b : Nat} (h : Held E φ (delAll ids st.heap) b) : Held E φ st.heap b := by
  rcases h with hx | ⟨i, o', hi, hbi⟩
  · exact .inl hx
  · exact .inr ⟨i, o', (find_delAll_some hi).2, hbi⟩

theorem Rst.objs' (h : Rst E S φ st a w) : ∀ id o, find id st.heap = some o → ORep w (Held E φ st.heap) φ id o ∧ ∀ b, blk φ id o = some b → b < w.heap.size :=
  fun id o ho => ⟨(h.objs id o ho).2.2.2.2, fun b hb => ((h.objs id o ho).2.2.2.1 b hb).1⟩

/-- What is given up is data. -/
theorem Rst.giveD (h : Rst E S φ st a w) {ids : List Nat} {p : PVal} {d : D} {c : Value} (hi : ∀ i ∈ p.ids, i ∈ ids) (hd : p.toD st.heap = some d) (hr : PRep w (Held E φ st.heap) φ p c) : DRep w (Held E φ (delAll ids st.heap)) d c :=
  toD_rep h.objs' (fun _ => held_give ids) p d c hd (fun id o b hm ho hb => h.notHeld (hi id hm) ho hb) hr
theorem Rst.giveDL (h : Rst E S φ st a w) {ids : List Nat} {ps : List PVal} {ds : List D} {cs : List Value} (hi : ∀ i ∈ idsL ps, i ∈ ids) (hd : toDL st.heap ps = some ds) (hr : PRepL w (Held E φ st.heap) φ ps cs) : DRepL w (Held E φ (delAll ids st.heap)) ds cs :=
  toDL_rep h.objs' (fun _ => held_give ids) ps ds cs hd (fun id o b hm ho hb => h.notHeld (hi id hm) ho hb) hr

/-- What is known when an operation has run. -/
def After (E : Env) (S : Nat → Nat → Prop) (φ : Nat → Nat → Option (Nat × Nat)) (st : St) (n : Nat) (nid : Nat → Nat) (dst : Option Nat) (e : Eff) (a' : Act) (w' : World) : Prop :=
  a'.tmps.size = n ∧ ∃ φ' S', Rst E S' φ' (st.app dst e) a' w' ∧ (∀ i v, S i v → S' i v ∧ φ' i v = φ i v) ∧ ∀ i v, S' i v → (∃ v', S i v') ∨ ∃ j, j < 4 ∧ i = nid j

/-- The value is put: what is left to show when the world is as told. -/
theorem Rst.after {S0 : Nat → Nat → Prop} {φ0 : Nat → Nat → Option (Nat × Nat)} {dst : Option Nat} {e : Eff} {nid : Nat → Nat} {c : Value} (h : Rst E S' φ { st with heap := updAll e.upds (delAll e.dels st.heap) } a w) (hd : ∀ d, dst = some d → d < a.tmps.size)
    (hu : e.val.und S') (hp : PRep w (Held E φ (updAll e.upds (delAll e.dels st.heap))) φ e.val c) (hm : ∀ i v, S0 i v → S' i v ∧ φ i v = φ0 i v) (hn : ∀ i v, S' i v → (∃ v', S0 i v') ∨ ∃ j, j < 4 ∧ i = nid j) : After E S0 φ0 st a.tmps.size nid dst e (a.put dst c) w :=
  ⟨put_size _ _ _, φ, S', by rw [app_eq]; exact h.put hd hu hp, hm, hn⟩

theorem also_new {id ver : Nat} {nid : Nat → Nat} (h : (∃ v, S id v) ∨ ∃ j, j < 4 ∧ id = nid j) : ∀ i v, also S id ver i v → (∃ v', S i v') ∨ ∃ j, j < 4 ∧ i = nid j := by
  rintro i v (hv | ⟨rfl, rfl⟩)
  · exact .inl ⟨v, hv⟩
  · exact h
end

theorem wp_value {P : Program} {o : Oper} {a : Act} {w w' : World} {K : Act → World → Prop} {Q : Exit → Act → World → Prop} {c : Value} (h : (execOp a.eval o).run P w = .ok (.value c) w') (hk : K (a.put o.dst c) w') : o.wp P a w K Q := by
  unfold Oper.wp; rw [h]; exact hk
theorem wp_skipped {P : Program} {o : Oper} {a : Act} {w w' : World} {K : Act → World → Prop} {Q : Exit → Act → World → Prop} (h : (execOp a.eval o).run P w = .ok .skip w') (hk : K (a.put o.dst undef) w') : o.wp P a w K Q := by
  unfold Oper.wp; rw [h]; exact hk

section
variable {P : Program} {T : Nat → Option TI} {eqt : Nat → Option (List CK)} (hk : Kit P T eqt) {E : Env} {S : Nat → Nat → Prop} {φ : Nat → Nat → Option (Nat × Nat)} {st : St} {a : Act} {w : World} {o : Oper} {nid : Nat → Nat} {e : Eff} {Q : Exit → Act → World → Prop}

include hk in
theorem alloc_run (h : Rst E S φ st a w) (hd : ∀ d, o.dst = some d → d < a.tmps.size) (hn : ∀ j v, ¬ S (nid j) v) {t : Nat} {ti : TI} (hop : o.op = .alloc t) (ht : T t = some ti)
    (he : e = ⟨.ref (nid 0) 0, [], [(nid 0, .box (zeroCells ti.zero))]⟩) : o.wp P a w (After E S φ st a.tmps.size nid o.dst e) Q := by
  subst he
  have hz := run_zeroValue_T (P := P) hk.tb ht w
  refine wp_value (c := .pointer (some ⟨w.heap.size, 0, none⟩)) (w' := w.alloc (.cells ti.zero.cells t)) ?_ ?_
  · simp only [execOp, hop, Instr.alloc]
    refine run_v ?_
    simp only [Sem.run_bind, hz, Result.andThen_ok]
    simp [newVar, newRow]
  · have hb := h.box (hn 0) t (zero_und ti.zero S) (zero_rep (φ := φ) ti.zero)
    refine Rst.after (by simpa [updAll, delAll] using hb) hd ?_ ?_ (fun i v h => ⟨.inl h, phi_old (hn 0 0) i v h⟩) (also_new (.inr ⟨0, by omega, rfl⟩))
    · simp only [PVal.und]; exact .inr ⟨rfl, rfl⟩
    · simp only [PRep]; exact ⟨_, _, phi_same .., rfl⟩

include hk in
theorem box_run (h : Rst E S φ st a w) (hd : ∀ d, o.dst = some d → d < a.tmps.size) (hn : ∀ j v, ¬ S (nid j) v) {t : Nat} {ti : TI} {x : Operand} (hop : o.op = .box t x) (ht : T t = some ti) (hto : (st.evs x).told = true) (hg : st.gds [x])
    (he : e = ⟨.ref (nid 0) 0, [], [(nid 0, .box (st.evs x).cells)]⟩) : o.wp P a w (After E S φ st a.tmps.size nid o.dst e) Q := by
  subst he
  obtain ⟨u1, r1⟩ := h.evs x (gds_mem hg x (by simp))
  have hcells := PRep.cells (p := st.evs x) (by intro b q e; rw [e] at hto; simp [PVal.told] at hto) (by intro e; rw [e] at hto; simp [PVal.told] at hto) r1
  refine wp_value (c := .pointer (some ⟨w.heap.size, 0, none⟩)) (w' := w.alloc (.cells (a.eval x).cells t)) ?_ ?_
  · simp only [execOp, hop, Instr.box]
    refine run_v ?_
    simp [newVar, newRow]
  · have hb := h.box (hn 0) t (und_cells u1) hcells
    refine Rst.after (by simpa [updAll, delAll] using hb) hd ?_ ?_ (fun i v h => ⟨.inl h, phi_old (hn 0 0) i v h⟩) (also_new (.inr ⟨0, by omega, rfl⟩))
    · simp only [PVal.und]; exact .inr ⟨rfl, rfl⟩
    · simp only [PRep]; exact ⟨_, _, phi_same .., rfl⟩

/-- All parts, one behind the other, over a row. -/
theorem fill_all {s : Nat} : ∀ (vals : List (Nat × Value)) (k : Nat) (A : Array Value), vals.map (·.1) = List.range' k vals.length → (∀ q ∈ vals, q.2.cells.size = s) → (k + vals.length) * s ≤ A.size →
    ∃ A', Instr.fill (fun i => some (i * s, s)) A vals = some A' ∧ A'.size = A.size ∧ (∀ i, i < k * s → A'[i]? = A[i]?) ∧ (∀ i q, vals[i]? = some q → ∀ j v, q.2.cells.toList[j]? = some v → A'[(k + i) * s + j]? = some v)
  | [], k, A, _, _, _ => ⟨A, rfl, rfl, fun _ _ => rfl, by simp⟩
  | (i0, v) :: vals, k, A, hm, hs, hl => by
    simp only [List.map_cons, List.length_cons, List.range'_succ, List.cons.injEq] at hm
    obtain ⟨rfl, hm⟩ := hm
    have hvs : v.cells.size = s := hs (i0, v) (by simp)
    have hvl : v.cells.toList.length = s := by simpa using hvs
    have hle : i0 * s + s ≤ A.size := by
      refine Nat.le_trans ?_ hl
      rw [← Nat.succ_mul]; exact Nat.mul_le_mul_right _ (by simp only [List.length_cons]; omega)
    have hfl := foldl_splice A v.cells.toList (i0 * s) (by omega)
    have hsz : (splice A.toList (i0 * s) v.cells.toList).length = A.size := by rw [length_splice' _ _ _ (by simp; omega)]; simp
    obtain ⟨A', h1, h2, h3, h4⟩ := fill_all vals (i0 + 1) (splice A.toList (i0 * s) v.cells.toList).toArray (by simpa using hm) (fun q hq => hs q (by simp [hq])) (by simp only [List.size_toArray, hsz]; simp only [List.length_cons] at hl; rw [show i0 + 1 + vals.length = i0 + (vals.length + 1) by omega]; exact hl)
    simp only [List.size_toArray, hsz] at h2
    refine ⟨A', ?_, h2, ?_, ?_⟩
    · simp only [Instr.fill, hvs]
      rw [if_neg (by simp; omega), ← h1, ← hfl]
      congr 1
      rw [← Array.foldl_toList]
      simp [Array.toList_zipIdx]
    · intro i hi
      rw [h3 i (by rw [Nat.add_mul]; omega)]
      rw [List.getElem?_toArray, splice_get _ _ _ _ (by simp; omega), if_neg (by omega)]
      simp
    · intro i q hq j u hj
      cases i with
      | zero =>
        simp only [List.getElem?_cons_zero, Option.some.injEq] at hq; subst hq
        have hjl : j < s := by rw [← hvl]; exact (List.getElem?_eq_some_iff.1 hj).1
        rw [Nat.add_zero, h3 _ (by rw [Nat.add_mul]; omega), List.getElem?_toArray, splice_get _ _ _ _ (by simp; omega), if_pos (by omega), ← hj]
        congr 1; omega
      | succ i =>
        have := h4 i q (by simpa using hq) j u hj
        rw [show i0 + (i + 1) = i0 + 1 + i by omega]; exact this

theorem DRepL.cell {w : World} {O : Nat → Prop} {d : D} {c : Value} (h : DRep w O d c) : c.cells.size = d.cells.length := by
  have := h.cells.length; simpa using this

include hk in
theorem buildSlice_run (h : Rst E S φ st a w) (hd : ∀ d, o.dst = some d → d < a.tmps.size) (hn : ∀ j v, ¬ S (nid j) v) {t len el : Nat} {te : TI} {parts : Array (Nat × Operand)} {ds : List D} (hop : o.op = .buildSlice t len parts)
    (hkd : kindOf T t = some (.slice el)) (ht : T el = some te) (hds : toDL st.heap (parts.toList.map fun q => st.evs q.2) = some ds)
    (hp : parts.toList.map (·.1) = List.range len) (hlim : len * te.size ≤ 16777216) (hone : ∀ d ∈ ds, d.cells.length = te.size ∧ d.cells.all D.one = true) (hg : st.gds (parts.toList.map (·.2))) (hlm : len ≤ maxLen)
    (he : e = ⟨.own (nid 0) 0 te.size 0 len, idsL (parts.toList.map fun q => st.evs q.2), [(nid 0, .arr el te.size 0 (some len) ds)]⟩) : o.wp P a w (After E S φ st a.tmps.size nid o.dst e) Q := by
  subst he
  have hun : P.underlying t = some (.slice el) := desc_of hk.tb hkd
  have hsz := run_sizeOf_T (P := P) hk.tb ht w
  have hz := run_zeroValue_T (P := P) hk.tb ht w
  obtain ⟨u1, r1⟩ := rep_map_evs h hg
  have e1 : (parts.toList.map fun q => (q.1, st.evs q.2)).map (·.2) = parts.toList.map fun q => st.evs q.2 := by simp [List.map_map, Function.comp_def]
  rw [e1] at r1
  have rd := h.giveDL (ids := idsL (parts.toList.map fun q => st.evs q.2)) (fun i hi => hi) hds r1
  have hvl : (parts.toList.map fun q => (q.1, a.eval q.2)).map (·.1) = List.range len := by rw [← hp]; simp [List.map_map, Function.comp_def]
  have hlen : (parts.toList.map fun q => (q.1, a.eval q.2)).length = len := by have := congrArg List.length hvl; simpa using this
  have hdl : ds.length = len := by have := rd.length; simp at this; rw [← this]; simpa using hlen
  have hcells : ∀ q ∈ (parts.toList.map fun q => (q.1, a.eval q.2)), q.2.cells.size = te.size := by
    intro q hq
    obtain ⟨i, hi⟩ := List.getElem?_of_mem hq
    have hil : i < ds.length := by rw [hdl, ← hlen]; exact (List.getElem?_eq_some_iff.1 hi).1
    obtain ⟨c, g1, g2⟩ := rd.get (List.getElem?_eq_getElem hil)
    have : c = q.2 := by
      rw [List.map_map] at g1
      simp only [List.getElem?_map] at g1 hi
      cases hpi : parts.toList[i]? with
      | none => simp [hpi] at hi
      | some z => simp [hpi] at hi g1; rw [← g1, ← hi]
    rw [← this, DRepL.cell g2]
    exact (hone _ (List.getElem_mem hil)).1
  obtain ⟨A', f1, f2, _, f4⟩ := fill_all (parts.toList.map fun q => (q.1, a.eval q.2)) 0 ((Array.range (len * te.size)).map ((if len * te.size = 0 then #[] else te.zero.cells)[· % (if len * te.size = 0 then #[] else te.zero.cells).size]!)) (by rw [hvl, hlen, List.range_eq_range']) hcells (by rw [hlen]; simp)
  have hpm : (parts.map fun (i, x) => (i, a.eval x)).toList = parts.toList.map fun q => (q.1, a.eval q.2) := by simp
  refine wp_value (c := .slice (some ⟨w.heap.size, 0, none⟩) len len) (w' := w.alloc (.cells A' el)) ?_ ?_
  · simp only [execOp, hop]
    refine run_v ?_
    have hnl : ¬ (len * te.size > 2 ^ 24) := by omega
    by_cases h0 : len * te.size = 0
    · simp only [h0, if_true] at f1
      have hnl0 : ¬ (0 > 2 ^ 24) := by omega
      simp only [Instr.buildSlice, Sem.run_bind, run_underlying hun, Result.andThen_ok, hsz, hnl, if_false, h0, if_true, hnl0, hpm, Sem.run_pure, f1]
      simp [newRow]
    · simp only [h0, if_false] at f1
      simp only [Instr.buildSlice, Sem.run_bind, run_underlying hun, Result.andThen_ok, hsz, hnl, if_false, h0, hz, hpm, f1, Sem.run_pure]
      simp [newRow]
  · have h1 := h.give (idsL (parts.toList.map fun q => st.evs q.2))
    have hb := h1.row (w' := w.alloc (.cells A' el)) (id := nid 0) (ver := 0) (b := w.heap.size) (n := len) (e := el) (s := te.size) (room := some len) (els := ds) (cs := A'.toList) rfl rfl rfl (by simp) (fun b hb _ => heap_alloc_old w _ b hb)
      (fun v hv => absurd hv (hn 0 v)) (by simp) (.inl (Nat.le_refl _)) (heap_new w _) (by omega) hlm (fun m hm => by cases hm; rfl) (by rw [Array.length_toList, f2]; simp) ?_
    · refine Rst.after (by simpa [updAll] using hb) hd ?_ ?_ (fun i v h => ⟨.inl h, phi_old (hn 0 0) i v h⟩) (also_new (.inr ⟨0, by omega, rfl⟩))
      · simp only [PVal.und]; exact .inr ⟨rfl, rfl⟩
      · simp only [PRep]; exact .inr ⟨_, _, some ⟨w.heap.size, 0, none⟩, phi_same .., by omega, by simp, .inr (by simp)⟩
    · intro i x hx
      obtain ⟨c, g1, g2⟩ := rd.get hx
      have hqi : (parts.toList.map fun q => (q.1, a.eval q.2))[i]? = some ((parts.toList.map fun q => (q.1, a.eval q.2))[i]'(by rw [hlen, ← hdl]; exact (List.getElem?_eq_some_iff.1 hx).1)) := List.getElem?_eq_getElem _
      have hc : c = ((parts.toList.map fun q => (q.1, a.eval q.2))[i]'(by rw [hlen, ← hdl]; exact (List.getElem?_eq_some_iff.1 hx).1)).2 := by
        rw [List.getElem?_map, hqi] at g1
        simpa using g1.symm
      refine ⟨c, g2, by rw [DRepL.cell g2]; exact (hone x (List.mem_of_getElem? hx)).1, fun j v hj => ?_⟩
      have := f4 i _ hqi j v (by rw [← hc]; exact hj)
      rw [Nat.zero_add] at this
      simpa using this

include hk in
theorem makeSlice_run (h : Rst E S φ st a w) (hd : ∀ d, o.dst = some d → d < a.tmps.size) (hn : ∀ j v, ¬ S (nid j) v) {t el : Nat} {te : TI} {l c : Operand} {kl kc : IntKind} {l' c' : Int} (hop : o.op = .makeSlice t l c)
    (hkd : kindOf T t = some (.slice el)) (ht : T el = some te) (hl : asInt (st.evs l) = some (kl, l')) (hc : asInt (st.evs c) = some (kc, c'))
    (h0 : 0 ≤ l') (hlc : l' ≤ c') (hby : (te.bytes : Int) * c' ≤ 281474976710656) (hmx : c' ≤ maxLen) (hg : st.gds [l, c])
    (he : e = ⟨.own (nid 0) 0 te.size 0 l'.toNat, [], [(nid 0, .arr el te.size 0 (some c'.toNat) (List.replicate l'.toNat (ofV te.zero)))]⟩) : o.wp P a w (After E S φ st a.tmps.size nid o.dst e) Q := by
  subst he
  have hun : P.underlying t = some (.slice el) := desc_of hk.tb hkd
  obtain ⟨inf, hi, hs, hb, hz⟩ := (hk.tb el te ht).info
  have hzs := (hk.tb el te ht).zsize
  have gl := asInt_rep hl (h.evs l (gds_mem hg l (by simp))).2
  have gc := asInt_rep hc (h.evs c (gds_mem hg c (by simp))).2
  have hr := run_make (P := P) w t el inf te.zero hun hi hz kl kc l' c' h0 hlc (by rw [hb]; exact hby) (by simp only [maxLen] at hmx; omega)
  rw [hs] at hr
  refine wp_value (c := .slice (some ⟨w.heap.size, 0, none⟩) l'.toNat c'.toNat) (w' := w.alloc (.cells (madeCells te.zero.cells (c'.toNat * te.size)) el)) ?_ ?_
  · simp only [execOp, hop, gl, gc]
    exact run_v hr
  · have hb := h.row (w' := w.alloc (.cells (madeCells te.zero.cells (c'.toNat * te.size)) el)) (id := nid 0) (ver := 0) (b := w.heap.size) (n := c'.toNat) (e := el) (s := te.size) (room := some c'.toNat) (els := List.replicate l'.toNat (ofV te.zero)) (cs := (madeCells te.zero.cells (c'.toNat * te.size)).toList)
      rfl rfl rfl (by simp) (fun b hb _ => heap_alloc_old w _ b hb) (fun v hv => absurd hv (hn 0 v)) (by simp) (.inl (Nat.le_refl _)) (heap_new w _) (by simp; omega) (by simp only [maxLen] at *; omega) (fun m hm => by cases hm; rfl) (by rw [Array.length_toList, size_madeCells]) ?_
    · refine Rst.after (by simpa [updAll, delAll] using hb) hd ?_ ?_ (fun i v h => ⟨.inl h, phi_old (hn 0 0) i v h⟩) (also_new (.inr ⟨0, by omega, rfl⟩))
      · simp only [PVal.und]; exact .inr ⟨rfl, rfl⟩
      · simp only [PRep]; exact .inr ⟨_, _, some ⟨w.heap.size, 0, none⟩, phi_same .., by omega, by simp, .inr (by simp)⟩
    · intro i x hx
      obtain ⟨hil, rfl⟩ := by simpa using List.getElem?_eq_some_iff.1 hx
      refine ⟨te.zero, DRep.ofV _, hzs, fun j v hj => ?_⟩
      have hjl : j < te.size := by have := (List.getElem?_eq_some_iff.1 hj).1; simpa [hzs] using this
      have hlt : i * te.size + j < c'.toNat * te.size := by
        have : (i + 1) * te.size ≤ c'.toNat * te.size := Nat.mul_le_mul_right _ (by omega)
        rw [Nat.add_mul] at this; omega
      simp only [madeCells, Array.toList_map, List.getElem?_map, Array.toList_range, List.getElem?_range hlt, Option.map_some]
      have hm : (i * te.size + j) % te.zero.cells.size = j := by rw [hzs, Nat.add_comm, Nat.add_mul_mod_self_right, Nat.mod_eq_of_lt hjl]
      rw [hm]
      have : te.zero.cells[j]? = some v := by simpa using hj
      rw [getElem!_def, this]

theorem setRow_mods (w : World) (b : Nat) (cs : Array Value) : (w.setRow b cs).os = w.os ∧ (w.setRow b cs).tape = w.tape ∧ (w.setRow b cs).output = w.output ∧ (w.setRow b cs).heap.size = w.heap.size := by
  simp [World.setRow]

include hk in
/-- A variable of a known size is written. -/
theorem storeVar_run {t : Nat} {ti : TI} (ht : T t = some ti) {b k : Nat} {cs : List Value} {ty : Nat} {v : Value} (hb : w.heap[b]? = some (.cells cs.toArray ty (0, 0))) (hs : v.cells.size = ti.size) (hl : k + ti.size ≤ cs.length) (h1 : ∀ u ∈ v.cells.toList, u.oneCell' = true) :
    (Instr.storeAt t (.pointer (some ⟨b, k, none⟩)) v).run P w = .ok () (w.setRow b (splice cs k v.cells.toList).toArray) := by
  have hsz := run_sizeOf_T (P := P) hk.tb ht w
  have hst := run_storeCells_at P b k ty v.cells.toList 0 cs.toArray w hb (by simp; omega) h1
  simp only [Nat.add_zero, List.toList_toArray] at hst
  simp only [Instr.storeAt, Instr.sureAddr, Sem.run_bind, Sem.run_pure, Result.andThen_ok, storeVar, hsz, hs]
  simp only [ne_eq, not_true_eq_false, if_false]
  exact hst

include hk in
theorem storeRef_run (h : Rst E S φ st a w) (hd : ∀ d, o.dst = some d → d < a.tmps.size) {t : Nat} {ti : TI} {ad x : Operand} {id k : Nat} {cells : List PVal} (hop : o.op = .store t ad x) (ht : T t = some ti) (ha : st.evs ad = .ref id k) (hf : find id st.heap = some (.box cells))
    (hl : (st.evs x).cells.length = ti.size) (hkl : k + ti.size ≤ cells.length) (hone : (st.evs x).cells.all PVal.one = true) (hg : st.gds [ad, x])
    (he : e = ⟨.dead, [], [(id, .box (splice cells k (st.evs x).cells))]⟩) : o.wp P a w (After E S φ st a.tmps.size nid o.dst e) Q := by
  subst he
  have ga := (h.evs ad (gds_mem hg ad (by simp))).2
  obtain ⟨ux, rx⟩ := h.evs x (gds_mem hg x (by simp))
  rw [ha] at ga
  simp only [PRep] at ga
  obtain ⟨b, n, hb, hav⟩ := ga
  obtain ⟨h1, h1', h2, h3, h4⟩ := h.objs id _ hf
  simp only [ORep, PObj.und] at h4 h2
  obtain ⟨b', n', cs, ty, g1, g2, g3⟩ := h4
  rw [hb] at g1
  simp only [Option.some.injEq, Prod.mk.injEq] at g1
  obtain ⟨rfl, rfl⟩ := g1
  have hne : st.evs x ≠ .dead := by intro e; rw [e] at hone; simp [PVal.cells, PVal.one] at hone
  have hcells := PRep.cells (cells_told hone hne) hne rx
  have hvl : (a.eval x).cells.size = ti.size := by have := hcells.length; rw [hl] at this; simpa using this
  have hcl := g3.length
  refine wp_skipped (w' := w.setRow b (splice cs k (a.eval x).cells.toList).toArray) ?_ ?_
  · simp only [execOp, hop, hav]
    rw [Sem.run_bind, storeVar_run hk ht g2 hvl (by omega) (hcells.ones hone)]
    rfl
  · obtain ⟨m1, m2, m3, m4⟩ := setRow_mods w b (splice cs k (a.eval x).cells.toList).toArray
    have hbk : blk φ id (.box cells) = some b := by simp [blk, hb]
    have hs := h.set (w' := w.setRow b (splice cs k (a.eval x).cells.toList).toArray) (id := id) (o' := .box (splice cells k (st.evs x).cells)) (S' := S) (φ' := φ) m1 m2 m3 (by rw [m4]; exact Nat.le_refl _)
      (fun c hc hno => setRow_other w b c _ fun e => hno _ hf (e ▸ hbk)) (fun _ _ h => h) (fun _ _ _ => rfl) h1 h1' (fun _ _ _ h => h) (by simp only [PObj.und]; exact und_splice h2 (und_cells ux) k)
      (fun c hc => ⟨by rw [m4]; exact (h3 c hc).1, .inr ⟨_, hf, hc⟩⟩) ?_
    · refine Rst.after (c := undef) (by simpa [updAll, delAll] using hs) hd ?_ ?_ (fun _ _ h => ⟨h, rfl⟩) (fun i v hv => .inl ⟨v, hv⟩)
      · simp only [PVal.und]
      · simp only [PRep]
    · simp only [ORep]
      refine ⟨b, n, _, ty, hb, setRow_heap w b cs.toArray _ ty (0, 0) g2, ?_⟩
      have hO := held_set (o' := .box (splice cells k (st.evs x).cells)) (φ' := φ) h (fun _ _ _ => rfl) (fun c hc => .inr ⟨_, hf, hc⟩)
      have hkp : Keeps (Held E φ st.heap) w (w.setRow b (splice cs k (a.eval x).cells.toList).toArray) := ⟨by rw [m4]; exact Nat.le_refl _, fun c hlt hc => setRow_other w b c _ fun e => hc (.inr ⟨id, _, hf, e ▸ hbk⟩)⟩
      exact PRepL.keep (n := S) hkp hO (fun _ _ _ => rfl) _ _ (und_splice h2 (und_cells ux) k) (splice_rep g3 hcells k)


theorem DRepL.splice {O : Nat → Prop} {ps qs : List D} {cs xs : List Value} (h : DRepL w O ps cs) (h' : DRepL w O qs xs) (o : Nat) : DRepL w O (splice ps o qs) (splice cs o xs) := by
  unfold Pv.splice
  rw [← h'.length]
  exact ((h.take o).append h').append (h.drop _)

theorem withCells_rep {O : Nat → Prop} {el : D} {c : Value} {ds : List D} {vs : List Value} {k s : Nat} (h : DRep w O el c) (hs : c.cells.size = s) (hd : DRepL w O ds vs) (hk : k + ds.length ≤ s) (h1 : ds.all D.one = true) :
    ∃ c', DRep w O (el.withCells (splice el.cells k ds)) c' ∧ c'.cells.toList = splice c.cells.toList k vs := by
  have hcs := h.cells
  have agg : (∃ es, el = .agg es) ∨ (∃ es, el = .v (.agg es)) ∨ (el.cells = [el] ∧ (∀ l, el.withCells l = l.headD el) ∧ c.cells = #[c]) := by
    cases el with
    | agg es => exact .inl ⟨es, rfl⟩
    | v x =>
      simp only [DRep] at h; subst h
      cases c <;> first
        | exact .inr (.inl ⟨_, rfl⟩)
        | exact .inr (.inr ⟨rfl, fun _ => rfl, rfl⟩)
    | tup es => simp only [DRep] at h; obtain ⟨_, rfl, _⟩ := h; exact .inr (.inr ⟨rfl, fun _ => rfl, rfl⟩)
    | slc s es => simp only [DRep] at h; obtain ⟨_, _, rfl, _⟩ := h; exact .inr (.inr ⟨rfl, fun _ => rfl, rfl⟩)
    | ifc t p => simp only [DRep] at h; obtain ⟨_, rfl, _⟩ := h; exact .inr (.inr ⟨rfl, fun _ => rfl, rfl⟩)
    | fn f x y => simp only [DRep] at h; obtain ⟨_, _, rfl, _⟩ := h; exact .inr (.inr ⟨rfl, fun _ => rfl, rfl⟩)
    | ptr ds => simp only [DRep] at h; obtain ⟨_, _, _, rfl, _⟩ := h; exact .inr (.inr ⟨rfl, fun _ => rfl, rfl⟩)
  rcases agg with ⟨es, rfl⟩ | ⟨es, rfl⟩ | ⟨e1, e2, e3⟩
  · exact ⟨.agg (splice c.cells.toList k vs).toArray, by simp only [D.withCells, DRep]; exact ⟨_, rfl, DRepL.splice hcs hd k⟩, by simp [Value.cells]⟩
  · exact ⟨.agg (splice c.cells.toList k vs).toArray, by simp only [D.withCells, DRep]; exact ⟨_, rfl, DRepL.splice hcs hd k⟩, by simp [Value.cells]⟩
  · rw [e1, e2, e3]
    rw [e3] at hs
    simp at hs
    cases ds with
    | nil =>
      simp only [DRepL] at hd; subst hd
      refine ⟨c, by simpa [splice] using h, by rw [e3]; simp [splice]⟩
    | cons x ds =>
      cases ds with
      | cons y ds => simp at hk; omega
      | nil =>
        simp at hk
        have hk0 : k = 0 := by omega
        subst hk0
        simp only [DRepL] at hd
        obtain ⟨u, us, rfl, g1, rfl⟩ := hd
        have hu : u.oneCell' = true := DRepL.ones (ds := [x]) (cs := [u]) (by simp only [DRepL]; exact ⟨u, [], rfl, g1, rfl⟩) h1 u (by simp)
        refine ⟨u, by simpa [splice] using g1, ?_⟩
        cases u <;> first
          | (simp [Value.oneCell'] at hu; done)
          | simp [splice, Value.cells]

include hk in
theorem storeElem_run (h : Rst E S φ st a w) (hd : ∀ d, o.dst = some d → d < a.tmps.size) {t : Nat} {ti : TI} {ad x : Operand} {id ver s i k : Nat} {ob ob' : PObj} {d : D} (hop : o.op = .store t ad x) (ht : T t = some ti) (ha : st.evs ad = .refE id ver s i k) (hf : find id st.heap = some ob)
    (hxd : (st.evs x).toD st.heap = some d) (hs : storeE s ver k d ob i = some ob') (hl : d.cells.length = ti.size) (hone : d.cells.all D.one = true) (hid : (st.evs x).ids.contains id = false) (hg : st.gds [ad, x])
    (he : e = ⟨.dead, (st.evs x).ids, [(id, ob')]⟩) : o.wp P a w (After E S φ st a.tmps.size nid o.dst e) Q := by
  subst he
  have ga := (h.evs ad (gds_mem hg ad (by simp))).2
  obtain ⟨ux, rx⟩ := h.evs x (gds_mem hg x (by simp))
  have rd := h.giveD (ids := (st.evs x).ids) (fun i hi => hi) hxd rx
  have hg1 := h.give (st.evs x).ids
  have hf1 : find id (delAll (st.evs x).ids st.heap) = some ob := by
    rw [find_delAll, if_neg (by simpa using hid)]; exact hf
  rw [ha] at ga
  simp only [PRep] at ga
  obtain ⟨b, n, hb, hav⟩ := ga
  cases ob with
  | box ps => simp [storeE] at hs
  | map es => simp [storeE] at hs
  | arr e s' ver' room els =>
    simp only [storeE] at hs
    split at hs
    · rename_i hc
      obtain ⟨rfl, rfl, hkl⟩ := hc
      obtain ⟨el, hel, rfl⟩ := Option.map_eq_some_iff.1 hs
      obtain ⟨h1, h1', h2, h3, h4⟩ := hg1.objs id _ hf1
      simp only [ORep] at h4
      obtain ⟨b', n', cs, g1, g2, g3, g4, g5, g6, g7⟩ := h4.resolve_left (by intro hh; rw [hh.1] at hb; cases hb)
      rw [hb] at g1
      simp only [Option.some.injEq, Prod.mk.injEq] at g1
      obtain ⟨rfl, rfl⟩ := g1
      have hil : i < els.length := (List.getElem?_eq_some_iff.1 hel).1
      have hin : (i + 1) * s ≤ n * s := Nat.mul_le_mul_right _ (by omega)
      rw [Nat.add_mul] at hin
      obtain ⟨ce, q1, q2, q3⟩ := g7.get hel
      have hvl : (a.eval x).cells.size = ti.size := by rw [DRepL.cell rd]; exact hl
      have hvl' : (a.eval x).cells.toList.length = d.cells.length := by rw [Array.length_toList, hvl, hl]
      have hfit : i * s + k + (a.eval x).cells.toList.length ≤ cs.length := by omega
      refine wp_skipped (w' := w.setRow b (splice cs (i * s + k) (a.eval x).cells.toList).toArray) ?_ ?_
      · simp only [execOp, hop, hav]
        rw [Sem.run_bind, storeVar_run hk ht g5 hvl (by omega) (rd.cells.ones hone)]
        rfl
      · obtain ⟨m1, m2, m3, m4⟩ := setRow_mods w b (splice cs (i * s + k) (a.eval x).cells.toList).toArray
        have hbk : blk φ id (.arr e s ver room els) = some b := by simp [blk, hb]
        have hblk' : ∀ els', blk φ id (.arr e s ver room els') = some b := fun _ => by simp [blk, hb]
        have hobj := setRow_heap w b cs.toArray (splice cs (i * s + k) (a.eval x).cells.toList).toArray e (0, 0) g5
        have hset := hg1.set (w' := w.setRow b (splice cs (i * s + k) (a.eval x).cells.toList).toArray) (id := id) (o' := .arr e s ver room (els.set i (el.withCells (splice el.cells k d.cells)))) (S' := S) (φ' := φ) m1 m2 m3 (by rw [m4]; exact Nat.le_refl _)
          (fun c hc hno => setRow_other w b c _ fun e => hno _ hf1 (e ▸ hbk)) (fun _ _ h => h) (fun _ _ _ => rfl) h1 h1' (fun _ _ _ h => h) (by simp only [PObj.und])
          (fun c hc => by rw [hblk'] at hc; cases hc; exact ⟨by rw [m4]; exact (h3 b hbk).1, .inr ⟨_, hf1, hbk⟩⟩) ?_
        · refine Rst.after (c := undef) (by simpa [updAll] using hset) hd ?_ ?_ (fun _ _ h => ⟨h, rfl⟩) (fun i v hv => .inl ⟨v, hv⟩)
          · simp only [PVal.und]
          · simp only [PRep]
        · have hO := held_set (o' := .arr e s ver room (els.set i (el.withCells (splice el.cells k d.cells)))) (φ' := φ) hg1 (fun _ _ _ => rfl) (fun c hc => by rw [hblk'] at hc; cases hc; exact .inr ⟨_, hf1, hbk⟩)
          have hkp : Keeps (Held E φ (delAll (st.evs x).ids st.heap)) w (w.setRow b (splice cs (i * s + k) (a.eval x).cells.toList).toArray) := ⟨by rw [m4]; exact Nat.le_refl _, fun c hlt hc => setRow_other w b c _ fun e => hc (.inr ⟨id, _, hf1, e ▸ hbk⟩)⟩
          simp only [ORep]
          refine .inr ⟨b, n, _, hb, by simpa using g2, g3, g4, hobj, by rw [length_splice' _ _ _ hfit]; exact g6, DRepE.of fun j y hy => ?_⟩
          rw [Nat.zero_add]
          by_cases hji : j = i
          · subst hji
            rw [List.getElem?_set_self hil] at hy
            cases hy
            obtain ⟨c', r1, r2⟩ := withCells_rep q1 q2 rd.cells hkl hone
            have hcl : ce.cells.toList.length = s := by simpa using q2
            refine ⟨c', DRep.keep hkp hO _ _ r1, ?_, fun m hm => ?_⟩
            · have := congrArg List.length r2
              rw [length_splice' _ _ _ (by omega)] at this
              rw [← Array.length_toList, this, hcl]
            · rw [cell_of_row _ _ _ _ _ _ hobj]
              have hms : m < s := by rw [r2, length_splice' _ _ _ (by omega), hcl] at hm; exact hm
              have hsrc : cs[j * s + m]? = ce.cells.toList[m]? := by
                have := q3 m (by omega)
                rw [Nat.zero_add, cell_of_row _ _ _ _ _ _ g5] at this
                have e2 : cs[j * s + m]? = some (ce.cells.toList[m]'(by omega)) := by simpa using this
                rw [e2, List.getElem?_eq_getElem (by omega)]
              rw [List.getElem?_toArray, splice_get _ _ _ _ hfit]
              rw [← List.getElem?_eq_getElem hm, r2, splice_get _ _ _ _ (by omega)]
              by_cases hmk : k ≤ m ∧ m < k + (a.eval x).cells.toList.length
              · rw [if_pos (by omega), if_pos hmk]; congr 1; omega
              · rw [if_neg (by omega), if_neg hmk, hsrc]
          · rw [List.getElem?_set_ne (by omega)] at hy
            obtain ⟨c', r1, r2, r3⟩ := g7.get hy
            refine ⟨c', DRep.keep hkp hO _ _ r1, r2, fun m hm => ?_⟩
            have := r3 m hm
            rw [Nat.zero_add, cell_of_row _ _ _ _ _ _ g5] at this
            rw [cell_of_row _ _ _ _ _ _ hobj, List.getElem?_toArray, splice_get _ _ _ _ hfit, ← this]
            have hms : m < s := by rw [Array.length_toList, r2] at hm; exact hm
            rw [if_neg ?_]
            · simp
            · rcases Nat.lt_or_gt_of_ne hji with hlt | hgt
              · have : (j + 1) * s ≤ i * s := Nat.mul_le_mul_right _ hlt
                rw [Nat.add_mul] at this; omega
              · have : (i + 1) * s ≤ j * s := Nat.mul_le_mul_right _ hgt
                rw [Nat.add_mul] at this; omega
    · cases hs

end

end Go.Proofs.Ytdodgbhodkcckaa.Pv
