/- How a state goes on: what is put, made and changed; types as the machine asks them. No program is in sight here. -/
import Derived.Test.YtdodgbhodkcckaaPvd
set_option linter.unusedVariables false
set_option linter.unusedSimpArgs false
set_option autoImplicit false
namespace Go.Proofs.Ytdodgbhodkcckaa.Pv
open Go Go.RowKit

/-! ### Types as the machine asks them -/
theorem kindOf_some {T : Nat → Option TI} {t : Nat} {k : TK} (h : kindOf T t = some k) : ∃ ti, T t = some ti ∧ ti.kind = k := by
  unfold kindOf at h
  cases e : T t with
  | none => simp [e] at h
  | some ti => exact ⟨ti, rfl, by simpa [e] using h⟩

section
variable {P : Program} {T : Nat → Option TI} (hT : TbOK P T)
include hT

theorem run_sizeOf_T {t : Nat} {ti : TI} (h : T t = some ti) (w : World) : (sizeOf t).run P w = .ok ti.size w := by
  obtain ⟨f, hf, hs, _⟩ := (hT t ti h).info
  simp [sizeOf, typeInfo, hf, hs]

theorem run_zeroValue_T {t : Nat} {ti : TI} (h : T t = some ti) (w : World) : (zeroValue t).run P w = .ok ti.zero w := by
  obtain ⟨f, hf, _, _, hz⟩ := (hT t ti h).info
  simp [zeroValue, typeInfo, hf, hz]

theorem run_isAgg_T {t : Nat} {ti : TI} (h : T t = some ti) (hk : ti.kind.known = true) (w : World) : (isAgg t).run P w = .ok ti.kind.isAgg w := by
  have hd := (hT t ti h).desc
  cases hkd : ti.kind with
  | other => rw [hkd] at hk; cases hk
  | struct fs => rw [hkd] at hd; obtain ⟨fields, hu, _⟩ := hd; simp [isAgg, run_underlying hu, TK.isAgg]
  | func => rw [hkd] at hd; obtain ⟨x, y, z, hu⟩ := hd; simp [isAgg, run_underlying hu, TK.isAgg]
  | iface => rw [hkd] at hd; obtain ⟨x, hu⟩ := hd; simp [isAgg, run_underlying hu, TK.isAgg]
  | _ => rw [hkd] at hd; have hu : P.underlying t = _ := hd; simp [isAgg, run_underlying hu, TK.isAgg]

theorem desc_of {t : Nat} {k : TK} (h : kindOf T t = some k) : DescOK P t k := by
  obtain ⟨ti, e, rfl⟩ := kindOf_some h
  exact (hT t ti e).desc
end

theorem fieldsOK_get {P : Program} : ∀ {fs : List (Nat × Nat × Bool)} {gs : List Field}, FieldsOK P fs gs → ∀ {i o s : Nat} {g : Bool}, fs[i]? = some (o, s, g) →
    ∃ f, gs[i]? = some f ∧ f.offset = o ∧ (P.info? f.type).map (·.size) = some s ∧ (P.underlying f.type).isSome = true ∧ aggOf P f.type = g
  | [], gs, h, i, o, s, g, hi => by simp at hi
  | (o', s', g') :: fs, [], h, i, o, s, g, hi => by simp [FieldsOK] at h
  | (o', s', g') :: fs, f :: gs, h, i, o, s, g, hi => by
    simp only [FieldsOK] at h
    cases i with
    | zero => simp at hi; obtain ⟨rfl, rfl, rfl⟩ := hi; exact ⟨f, by simp, h.1, h.2.1, h.2.2.1, h.2.2.2.1⟩
    | succ i => simpa using fieldsOK_get h.2.2.2.2 (by simpa using hi)

theorem run_isAgg_of {P : Program} {t : Nat} {g : Bool} (hu : (P.underlying t).isSome = true) (h : aggOf P t = g) (w : World) : (isAgg t).run P w = .ok g w := by
  cases e : P.underlying t with
  | none => simp [e] at hu
  | some d =>
    unfold isAgg
    rw [Sem.run_bind, run_underlying e w]
    simp only [aggOf, e] at h
    subst h
    cases d <;> simp

/-! ### Cells -/
theorem addr_add (b o k : Nat) : (⟨b, o, none⟩ : Addr).add k = ⟨b, o + k, none⟩ := by
  unfold Addr.add; split
  · rename_i h; subst h; rfl
  · rfl

theorem CellsAt.run {P : Program} {w : World} {b off : Nat} {cs : List Value} (h : CellsAt w b off cs) : (loadCells ⟨b, off, none⟩ cs.length).run P w = .ok cs.toArray w :=
  run_loadCells_list w _ cs fun j v hj => by
    obtain ⟨hlt, e⟩ := List.getElem?_eq_some_iff.1 hj
    rw [addr_add, h j hlt, e]

theorem CellsAt.take {w : World} {b off : Nat} {cs : List Value} (h : CellsAt w b off cs) (n : Nat) : CellsAt w b off (cs.take n) := fun j hj => by
  have hj' : j < cs.length := by simp at hj; omega
  rw [h j hj', List.getElem_take]

theorem CellsAt.drop {w : World} {b off : Nat} {cs : List Value} (h : CellsAt w b off cs) (n : Nat) : CellsAt w b (off + n) (cs.drop n) := fun j hj => by
  have hj' : n + j < cs.length := by simp at hj; omega
  rw [Nat.add_assoc, h (n + j) hj', List.getElem_drop]

theorem CellsAt.row {w : World} {b : Nat} {cs : List Value} {ty : TypeId} {fr : Nat × Nat} (h : w.heap[b]? = some (.cells cs.toArray ty fr)) : CellsAt w b 0 cs := fun j hj => by
  rw [cell_of_row w b (0 + j) cs.toArray ty fr h]; simp [hj]

theorem CellsAt.append {w : World} {b off : Nat} {xs ys : List Value} (h : CellsAt w b off xs) (h' : CellsAt w b (off + xs.length) ys) : CellsAt w b off (xs ++ ys) := fun j hj => by
  by_cases hlt : j < xs.length
  · rw [h j hlt, List.getElem_append_left hlt]
  · have hge : xs.length ≤ j := Nat.le_of_not_lt hlt
    have hj2 : j - xs.length < ys.length := by simp at hj; omega
    have := h' (j - xs.length) hj2
    rw [List.getElem_append_right hge, ← this]
    congr 2; omega

theorem getElem?_cells {w : World} {b off : Nat} {cs : List Value} (h : CellsAt w b off cs) {j : Nat} {v : Value} (hj : cs[j]? = some v) : w.cell? ((⟨b, off, none⟩ : Addr).add j) = some v := by
  obtain ⟨hlt, e⟩ := List.getElem?_eq_some_iff.1 hj
  rw [addr_add, h j hlt, e]

/-! ### Operands -/
theorem DRep.ofV {w : World} {O : Nat → Prop} (v : Value) : DRep w O (ofV v) v := by
  cases v <;> first
    | (simp only [Pv.ofV, DRep]; done)
    | (rename_i cs; simp only [Pv.ofV, DRep]; exact ⟨cs.toList, by simp, DRepL.vs _⟩)

section
variable {E : Env} {S : Nat → Nat → Prop} {φ : Nat → Nat → Option (Nat × Nat)} {st : St} {a : Act} {w : World}

theorem Rst.ev (h : Rst E S φ st a w) (x : Operand) : (st.ev x).und S ∧ PRep w (Held E φ st.heap) φ (st.ev x) (a.eval x) := by
  cases x with
  | tmp t =>
    simp only [St.ev, Act.eval]
    cases e : find t st.tmps with
    | none => simp [PVal.und, PRep]
    | some p => simpa using h.tmps t p e
  | const v => simp only [St.ev, Act.eval, PVal.und, PRep]; exact ⟨trivial, DRep.ofV v⟩
  | func f => simp [St.ev, Act.eval, PVal.und, PRep, DRep]
  | global g => simp [St.ev, Act.eval, PVal.und, PRep, DRep]

theorem PRep.strip {O : Nat → Prop} {p : PVal} {c : Value} (h : PRep w O φ p c) (hg : p.strip.2) : PRep w O φ p.strip.1 c := by
  cases p <;> first
    | exact h
    | (simp only [PVal.strip, PRep] at *; exact h.1 hg)

theorem strip_und {n : Nat → Nat → Prop} {p : PVal} (h : p.und n) (hg : p.strip.2) : p.strip.1.und n := by
  cases p <;> first
    | exact h
    | (simp only [PVal.strip, PVal.und] at *; exact h hg)

theorem Rst.evs (h : Rst E S φ st a w) (x : Operand) (hg : (st.ev x).strip.2) : (st.evs x).und S ∧ PRep w (Held E φ st.heap) φ (st.evs x) (a.eval x) :=
  ⟨strip_und (h.ev x).1 hg, PRep.strip (h.ev x).2 hg⟩

theorem gds_mem : ∀ {l : List Operand}, st.gds l → ∀ x ∈ l, (st.ev x).strip.2
  | [], _, x, hx => by simp at hx
  | [y], h, x, hx => by simp at hx; subst hx; exact h
  | y :: z :: l, h, x, hx => by
    simp only [St.gds] at h
    rcases List.mem_cons.1 hx with rfl | hx
    · exact h.1
    · exact gds_mem (l := z :: l) h.2 x hx

theorem Rst.evL (h : Rst E S φ st a w) : ∀ {l : List Operand}, (∀ x ∈ l, (st.ev x).strip.2) → undL S (l.map st.evs) ∧ PRepL w (Held E φ st.heap) φ (l.map st.evs) (l.map a.eval)
  | [], _ => by simp [undL, PRepL]
  | x :: l, hg => by
    have h1 := h.evs x (hg x (by simp))
    have h2 := Rst.evL h (l := l) fun y hy => hg y (by simp [hy])
    simp only [List.map_cons, undL, PRepL]
    exact ⟨⟨h1.1, h2.1⟩, _, _, rfl, h1.2, h2.2⟩

/-! ### What is put into a temporary -/
theorem eval_put_tmp (a : Act) (d : Nat) (v : Value) (t : Nat) : (a.put (some d) v).tmps.getD t undef = if t = d ∧ d < a.tmps.size then v else a.tmps.getD t undef := by
  simp only [Act.put, Array.getD_eq_getD_getElem?, Array.getElem?_setIfInBounds]
  by_cases h : d = t
  · subst h
    by_cases hl : d < a.tmps.size
    · simp [hl]
    · simp [hl]
  · have : ¬ t = d := fun e => h e.symm
    simp [h, this]

theorem put_defers (a : Act) (d : Option Nat) (v : Value) : (a.put d v).defers = a.defers := by cases d <;> rfl
theorem put_size (a : Act) (d : Option Nat) (v : Value) : (a.put d v).tmps.size = a.tmps.size := by cases d <;> simp [Act.put]

/-- A value is put. -/
theorem Rst.put (h : Rst E S φ st a w) {dst : Option Nat} {p : PVal} {c : Value} (hd : ∀ d, dst = some d → d < a.tmps.size) (hu : p.und S) (hp : PRep w (Held E φ st.heap) φ p c) : Rst E S φ (st.put dst p) (a.put dst c) w := by
  cases dst with
  | none => exact h
  | some d =>
    refine { h with defers := h.defers, tmps := ?_ }
    intro t q hq
    simp only [St.put, find] at hq
    rw [eval_put_tmp]
    split at hq
    · rename_i e; subst e
      cases hq
      simp only [true_and, hd t rfl, if_true]
      exact ⟨hu, hp⟩
    · rename_i e
      simp only [e, false_and, if_false]
      exact h.tmps t q hq

/-- Something is put of which nothing is told. -/
theorem Rst.lose (h : Rst E S φ st a w) (dst : Option Nat) (c : Value) : Rst E S φ (st.put dst .dead) (a.put dst c) w := by
  cases dst with
  | none => exact h
  | some d =>
    refine { h with defers := h.defers, tmps := ?_ }
    intro t q hq
    simp only [St.put, find] at hq
    rw [eval_put_tmp]
    split at hq
    · cases hq; simp [PVal.und, PRep]
    · rename_i e
      simp only [e, false_and, if_false]
      exact h.tmps t q hq

/-! ### The world goes on -/
theorem PObj.und_mono {n n' : Nat → Nat → Prop} (h : ∀ i v, n i v → n' i v) {o : PObj} (ho : o.und n) : o.und n' := by
  cases o <;> simp only [PObj.und] at ho ⊢; exact undL_mono h _ ho

theorem ORep.keep {w' : World} {O O' : Nat → Prop} {φ' : Nat → Nat → Option (Nat × Nat)} {n : Nat → Nat → Prop} {id : Nat} {o : PObj} (hk : Keeps O w w') (hO : ∀ b, b < w.heap.size → O' b → O b) (hφ : ∀ id v, n id v → φ' id v = φ id v) (hid : n id o.ver) (hu : o.und n)
    (hb : ∀ b, blk φ id o = some b → w'.heap[b]? = w.heap[b]?) (h : ORep w O φ id o) : ORep w' O' φ' id o := by
  cases o with
  | box ps =>
    simp only [ORep, blk, PObj.und, PObj.ver] at *
    obtain ⟨b, n', cs, ty, h1, h2, h3⟩ := h
    exact ⟨b, n', cs, ty, (hφ _ _ hid).trans h1, (hb b (by rw [h1]; rfl)).trans h2, PRepL.keep hk hO hφ ps cs hu h3⟩
  | arr e s ver room els =>
    simp only [ORep, blk, PObj.und, PObj.ver] at *
    rw [hφ _ _ hid]
    refine h.imp_right ?_
    rintro ⟨b, n', cs, h1, h2, h3, h4, h5, h6, h7⟩
    exact ⟨b, n', cs, h1, h2, h3, h4, (hb b (by rw [h1]; rfl)).trans h5, h6, DRepE.keep hk hO (hb b (by rw [h1]; rfl)) els 0 h7⟩
  | map es =>
    simp only [ORep, blk, PObj.und, PObj.ver] at *
    obtain ⟨b, n', arr, clock, h1, h2, h3, h4⟩ := h
    exact ⟨b, n', arr, clock, (hφ _ _ hid).trans h1, (hb b (by rw [h1]; rfl)).trans h2, DRepL.keep hk hO _ _ h3, DRepL.keep hk hO _ _ h4⟩

/-- New blocks: nothing that was there has changed. -/
theorem Rst.grow (h : Rst E S φ st a w) {w' : World} (hb : Below w.heap.size w w') : Rst E S φ st a w' := by
  have hk : Keeps (Held E φ st.heap) w w' := ⟨hb.size, fun b hlt _ => hb.block b hlt⟩
  refine { os := hb.os.trans h.os, tape := hb.tape.trans h.tape, output := hb.output.trans h.output, size := Nat.le_trans h.size hb.size, old := ?_, defers := h.defers, tmps := ?_, objs := ?_, inj := h.inj }
  · intro b hlt hp; rw [hb.block b (Nat.lt_of_lt_of_le hlt h.size)]; exact h.old b hlt hp
  · intro t p hp
    obtain ⟨h1, h2⟩ := h.tmps t p hp
    exact ⟨h1, PRep.keep hk (fun _ _ h => h) (fun _ _ _ => rfl) p _ h1 h2⟩
  · intro id o ho
    obtain ⟨h1, h1', h2, h3, h4⟩ := h.objs id o ho
    exact ⟨h1, h1', h2, fun b hb' => ⟨Nat.lt_of_lt_of_le (h3 b hb').1 hb.size, (h3 b hb').2⟩, ORep.keep hk (fun _ _ h => h) (fun _ _ _ => rfl) h1 h2 (fun b hb' => hb.block b (h3 b hb').1) h4⟩

/-- A block more. -/
theorem below_new (w : World) (o : Obj) : Below w.heap.size w (w.alloc o) := (Below.refl _ _).alloc (Nat.le_refl _) o

theorem keeps_below {O : Nat → Prop} {w w' : World} (hb : Below w.heap.size w w') : Keeps O w w' := ⟨hb.size, fun b hlt _ => hb.block b hlt⟩

theorem blk_congr {φ φ' : Nat → Nat → Option (Nat × Nat)} {id : Nat} {o : PObj} (h : φ' id o.ver = φ id o.ver) : blk φ' id o = blk φ id o := by
  cases o <;> simp only [blk, PObj.ver] at * <;> rw [h]

/-- No frame's block is another's. -/
theorem Rst.notOut (h : Rst E S φ st a w) {id : Nat} {o : PObj} {b : Nat} (ho : find id st.heap = some o) (hb : blk φ id o = some b) : ¬ E.out b := by
  intro hx
  have := E.under b hx
  rcases ((h.objs id o ho).2.2.2.1 b hb).2 with h1 | h1
  · omega
  · exact E.apart b h1 hx

/-- Fewer objects. -/
theorem Rst.fewer (h : Rst E S φ st a w) {h' : List (Nat × PObj)} (hs : ∀ id o, find id h' = some o → find id st.heap = some o) : Rst E S φ { st with heap := h' } a w := by
  have hO : ∀ b, b < w.heap.size → Held E φ h' b → Held E φ st.heap b := by
    rintro b _ (hb | ⟨id, o, ho, hb⟩)
    · exact .inl hb
    · exact .inr ⟨id, o, hs id o ho, hb⟩
  refine { h with tmps := ?_, objs := ?_, inj := ?_ }
  · intro t p hp
    obtain ⟨h1, h2⟩ := h.tmps t p hp
    exact ⟨h1, PRep.keep (φ' := φ) ⟨Nat.le_refl _, fun _ _ _ => rfl⟩ hO (fun _ _ _ => rfl) p _ h1 h2⟩
  · intro id o ho
    obtain ⟨h1, h1', h2, h3, h4⟩ := h.objs id o (hs id o ho)
    exact ⟨h1, h1', h2, h3, ORep.keep ⟨Nat.le_refl _, fun _ _ _ => rfl⟩ hO (fun _ _ _ => rfl) h1 h2 (fun _ _ => rfl) h4⟩
  · intro i j oi oj b hi hj; exact h.inj i j oi oj b (hs _ _ hi) (hs _ _ hj)

/-- Fewer temporaries; and what is asked of the state but by its names. -/
theorem Rst.less (h : Rst E S φ st a w) {ts : List (Nat × PVal)} {n : Nat} {a' : Act} (hd : a'.defers = []) (hs : ∀ t p, find t ts = some p → find t st.tmps = some p ∧ a'.tmps.getD t undef = a.tmps.getD t undef) : Rst E S φ { tmps := ts, heap := st.heap, next := n } a' w :=
  { h with defers := hd, tmps := fun t p hp => by rw [(hs t p hp).2]; exact h.tmps t p (hs t p hp).1 }

/-- An object that is new or changed, in a world in which all others are as they were: b0: the block in which it lay, if it was there. -/
theorem Rst.set (h : Rst E S φ st a w) {w' : World} {id : Nat} {o' : PObj} {S' : Nat → Nat → Prop} {φ' : Nat → Nat → Option (Nat × Nat)}
    (hos : w'.os = w.os) (htape : w'.tape = w.tape) (hout : w'.output = w.output) (hsize : w.heap.size ≤ w'.heap.size)
    (hblock : ∀ b, b < w.heap.size → (∀ o, find id st.heap = some o → blk φ id o ≠ some b) → w'.heap[b]? = w.heap[b]?)
    (hmono : ∀ i v, S i v → S' i v) (hφ : ∀ i v, S i v → φ' i v = φ i v) (hS : S' id o'.ver) (hSv : ∀ v, S' id v → v ≤ o'.ver) (hSo : ∀ i v, i ≠ id → S' i v → S i v) (hou : o'.und S')
    (hblk : ∀ b, blk φ' id o' = some b → b < w'.heap.size ∧ (w.heap.size ≤ b ∨ ∃ o, find id st.heap = some o ∧ blk φ id o = some b))
    (ho : ORep w' (Held E φ' (upd id o' st.heap)) φ' id o') : Rst E S' φ' { st with heap := upd id o' st.heap } a w' := by
  have hbl : ∀ i o, i ≠ id → find i st.heap = some o → blk φ' i o = blk φ i o := fun i o _ hi => blk_congr (hφ _ _ (h.objs i o hi).1)
  have hO : ∀ b, b < w.heap.size → Held E φ' (upd id o' st.heap) b → Held E φ st.heap b := by
    rintro b hlt (hb | ⟨i, o, hi, hb⟩)
    · exact .inl hb
    · right
      by_cases e : i = id
      · subst e
        rw [find_upd_same] at hi; cases hi
        rcases (hblk b hb).2 with h1 | ⟨o, h1, h2⟩
        · omega
        · exact ⟨i, o, h1, h2⟩
      · rw [find_upd_other e] at hi
        exact ⟨i, o, hi, by rw [← hbl i o e hi]; exact hb⟩
  have hk : Keeps (Held E φ st.heap) w w' := ⟨hsize, fun b hlt hb => hblock b hlt fun o hf he => hb (.inr ⟨id, o, hf, he⟩)⟩
  refine { os := hos.trans h.os, tape := htape.trans h.tape, output := hout.trans h.output, size := Nat.le_trans h.size hsize, old := ?_, defers := h.defers, tmps := ?_, objs := ?_, inj := ?_ }
  · intro b hl hp
    rw [hblock b (Nat.lt_of_lt_of_le hl h.size) fun o hf he => ?_]
    · exact h.old b hl hp
    · rcases ((h.objs id o hf).2.2.2.1 b he).2 with h1 | h1
      · omega
      · exact hp h1
  · intro t p hp
    obtain ⟨h1, h2⟩ := h.tmps t p hp
    exact ⟨PVal.und_mono hmono p h1, PRep.keep hk hO hφ p _ h1 h2⟩
  · intro i x hi
    by_cases e : i = id
    · subst e
      simp only [find_upd_same] at hi; cases hi
      refine ⟨hS, hSv, hou, fun b hb => ⟨(hblk b hb).1, ?_⟩, ho⟩
      rcases (hblk b hb).2 with h1 | ⟨o, h1, h2⟩
      · exact .inl (Nat.le_trans h.size h1)
      · exact ((h.objs i o h1).2.2.2.1 b h2).2
    · simp only [find_upd_other e] at hi
      obtain ⟨h1, h1', h2, h3, h4⟩ := h.objs i x hi
      refine ⟨hmono _ _ h1, fun v hv => h1' v (hSo i v e hv), PObj.und_mono hmono h2, fun b hb => ?_, ORep.keep hk hO hφ h1 h2 (fun b hb => hblock b (h3 b hb).1 fun o hf he => e (h.inj i id x o b hi hf hb he)) h4⟩
      rw [hbl i x e hi] at hb
      exact ⟨Nat.lt_of_lt_of_le (h3 b hb).1 hsize, (h3 b hb).2⟩
  · have key : ∀ i oi b, i ≠ id → find i (upd id o' st.heap) = some oi → blk φ' i oi = some b → b < w.heap.size ∧ find i st.heap = some oi ∧ blk φ i oi = some b := by
      intro i oi b e hi hb
      rw [find_upd_other e] at hi
      rw [hbl i oi e hi] at hb
      exact ⟨((h.objs i oi hi).2.2.2.1 b hb).1, hi, hb⟩
    have one : ∀ j oj b, j ≠ id → blk φ' id o' = some b → find j (upd id o' st.heap) = some oj → blk φ' j oj = some b → False := by
      intro j oj b e hb hj hbj
      obtain ⟨k1, k2, k3⟩ := key j oj b e hj hbj
      rcases (hblk b hb).2 with h1 | ⟨o, h1, h2⟩
      · omega
      · exact e (h.inj j id oj o b k2 h1 k3 h2)
    intro i j oi oj b hi hj hbi hbj
    by_cases ei : i = id
    · by_cases ej : j = id
      · exact ei.trans ej.symm
      · subst ei
        rw [find_upd_same] at hi; cases hi
        exact (one j oj b ej hbi hj hbj).elim
    · by_cases ej : j = id
      · subst ej
        rw [find_upd_same] at hj; cases hj
        exact (one i oi b ei hbj hi hbi).elim
      · obtain ⟨_, k2, k3⟩ := key i oi b ei hi hbi
        obtain ⟨_, k5, k6⟩ := key j oj b ej hj hbj
        exact h.inj i j oi oj b k2 k5 k3 k6

end
end Go.Proofs.Ytdodgbhodkcckaa.Pv
