/- Each operation: the machine does what is told of it. No program is in sight here. -/
import Derived.Lib.Overlaps
import Derived.Test.YtdodgbhodkcckaaPvn
set_option linter.unusedVariables false
set_option linter.unusedSectionVars false
set_option linter.unusedSimpArgs false
set_option autoImplicit false
namespace Go.Proofs.Ytdodgbhodkcckaa.Pv
open Go Go.RowKit

theorem run_callFunc {P : Program} {f : Nat} {fn : Func} (hf : P.funcs[f]? = some fn) (hn : (fn.name == "runtime.NumGoroutine") = false) (hb : fn.body.isNone = false) (args : Array Value) (w : World) : (callFunc f args).run P w = .ok (.enter f args) w := by
  have hn' : fn.name ≠ "runtime.NumGoroutine" := by simpa using hn
  have hb' : fn.body ≠ none := by intro e; rw [e] at hb; cases hb
  simp [callFunc, hf, hn', hb']

section
variable {P : Program} {T : Nat → Option TI} {eqt : Nat → Option (List CK)} (hk : Kit P T eqt) {E : Env} {S : Nat → Nat → Prop} {φ : Nat → Nat → Option (Nat × Nat)} {st : St} {a : Act} {w : World} {o : Oper} {nid : Nat → Nat} {e : Eff} {Q : Exit → Act → World → Prop}

/-- A function value. -/
theorem callee_rep {O : Nat → Prop} {p : PVal} {fid : Nat} {x y : List PVal} {c : Value} {n : Nat → Nat → Prop} (h : callee p = some (fid, x, y)) (hr : PRep w O φ p c) (hu : p.und n) :
    ∃ u v : List Value, c = .func (.func fid) u.toArray v.toArray ∧ PRepL w O φ x u ∧ PRepL w O φ y v ∧ undL n x ∧ undL n y := by
  unfold callee at h
  split at h
  · rename_i f u v
    simp only [Option.some.injEq, Prod.mk.injEq] at h
    obtain ⟨rfl, rfl, rfl⟩ := h
    simp only [PRep, DRep] at hr
    have e1 : ∀ l : List Value, l.map (fun c => PVal.d (.v c)) = (l.map D.v).map PVal.d := by intro l; simp
    refine ⟨u.toList, v.toList, by rw [hr], ?_, ?_, ?_, ?_⟩
    · rw [e1]; exact PRepL.ds (DRepL.vs _)
    · rw [e1]; exact PRepL.ds (DRepL.vs _)
    · rw [e1]; exact undL_ds _ _
    · rw [e1]; exact undL_ds _ _
  · simp only [Option.some.injEq, Prod.mk.injEq] at h
    obtain ⟨rfl, rfl, rfl⟩ := h
    simp only [PRep, DRep] at hr
    obtain ⟨u, v, e, h1, h2⟩ := hr
    exact ⟨u, v, e, PRepL.ds h1, PRepL.ds h2, undL_ds _ _, undL_ds _ _⟩
  · simp only [Option.some.injEq, Prod.mk.injEq] at h
    obtain ⟨rfl, rfl, rfl⟩ := h
    simp only [PRep, PVal.und] at hr hu
    obtain ⟨u, v, e, h1, h2⟩ := hr
    exact ⟨u, v, e, h1, h2, hu.1, hu.2⟩
  · cases h

theorem wp_call {f : Operand} {args : Array Operand} {ts : Array TypeId} {fid : Nat} {u v : List Value} (hop : o.op = .call ⟨.value f, args, ts⟩) (hfv : a.eval f = .func (.func fid) u.toArray v.toArray)
    {fn : Func} (hf : P.funcs[fid]? = some fn) (hn : (fn.name == "runtime.NumGoroutine") = false) (hb : fn.body.isNone = false) {K : Act → World → Prop}
    (hc : Calls P fid (u ++ args.toList.map a.eval ++ v).toArray w fun e w' => ∃ c, e = .returned c ∧ K (a.put o.dst c) w') : o.wp P a w K Q := by
  have hr : (execOp a.eval o).run P w = .ok (.enter fid (u ++ args.toList.map a.eval ++ v).toArray) w := by
    have e1 : u.toArray ++ args.map a.eval ++ v.toArray = (u ++ args.toList.map a.eval ++ v).toArray := by apply Array.ext'; simp
    simp only [execOp, hop, resolve, hfv, Deferred.ofValue, Sem.run_bind, Sem.run_pure, Result.andThen_ok, invoke, e1]
    exact run_callFunc hf hn hb _ w
  unfold Oper.wp
  rw [hr]
  refine hc.mono fun e w' he => ?_
  obtain ⟨c, rfl, hk⟩ := he
  exact hk

theorem call_run (h : Rst E S φ st a w) (hd : ∀ d, o.dst = some d → d < a.tmps.size) (hfr : Fresh S nid) {f : Operand} {args : Array Operand} {ts : Array TypeId} {fid : Nat} {x y : List PVal} (hop : o.op = .call ⟨.value f, args, ts⟩) (hcal : callee (st.evs f) = some (fid, x, y)) (hg : st.gds (f :: args.toList))
    {L : List Nat} {ps : List PVal} {hp : List (Nat × PObj)} {r : PVal} {h' : List (Nat × PObj)} {give : Bool} (hc : callP P fid nid st (x ++ args.toList.map st.evs ++ y) L ps hp r h' give (· = e)) : o.wp P a w (After E S φ st a.tmps.size nid o.dst e) Q := by
  obtain ⟨c1, ⟨⟨fn, hf, hn, hb⟩, c2⟩, ⟨l1, l2, l3, l4⟩, ⟨hnd, hFL⟩, hgive, he⟩ := hc
  have hgm := gds_mem hg
  obtain ⟨uf, rf⟩ := h.evs f (hgm f (by simp))
  obtain ⟨u, v, hfv, r1, r2, u1, u2⟩ := callee_rep hcal rf uf
  obtain ⟨u3, r3⟩ := h.evL (l := args.toList) fun z hz => hgm z (by simp [hz])
  have hpas : Passed st L (rename L nid) hp := ⟨l1, l2, l3, l4⟩
  have hE := h.enter hpas hfr hFL
  obtain ⟨ua, ra⟩ := h.args hpas hfr hFL c1 (fun i hi => hi) (undL_append (undL_append u1 u3) u2) ((r1.append r3).append r2)
  refine wp_call hop hfv hf hn hb ?_
  refine (c2 (callEnv h L (frozen (x ++ args.toList.map st.evs ++ y) ps) hFL) (callS L S (rename L nid)) _ _ ?_ (fun k v hs => Nat.lt_of_lt_of_le hs.1 l2) hE ua ra).mono ?_
  · rintro b ⟨i, oi, hi, ho, hbk⟩
    obtain ⟨k, hk⟩ := List.getElem?_of_mem hi
    have hlt := (List.getElem?_eq_some_iff.1 hk).1
    obtain ⟨o', ho'⟩ := hpas.mem hlt
    have h2 := rename_lt (nid := nid) hlt l2
    rw [hk] at h2; cases h2
    have h3 := (hpas.get ho').2
    rw [ho] at h3; cases h3
    exact ⟨k, o', ho', by rw [blk_call hpas]; exact hbk⟩
  · rintro en w' ⟨c, φ', S', rfl, g1, g2, g3, g4, g5⟩
    refine ⟨c, rfl, ?_⟩
    obtain ⟨φ'', S'', q1, q2, q3, q4, q5⟩ := h.leave (G := if give = true then frozen (x ++ args.toList.map st.evs ++ y) ps else []) hpas hfr hFL g1 g2 g3 hnd g4 g5 (by
      cases give with
      | true => left; intro i; simp
      | false =>
        rcases hgive with hg | hg | hg
        · cases hg
        · exact .inr (.inl ⟨hg, by simp⟩)
        · exact .inr (.inr ⟨hg.1, hg.2, by simp⟩))
    subst he
    exact Rst.after q1 hd q4 q5 q2 q3

theorem row_of_find {id ver off len s n : Nat} {e s' : Nat} {room : Option Nat} {els : List D} (h : Rst E S φ st a w) (hf : find id st.heap = some (.arr e s ver room els)) {c : Value} (hr : PRep w (Held E φ st.heap) φ (.own id ver s 0 len) c) :
    ∃ ob n cs, OldRow w e s len ob n cs c ∧ (∀ b, ob = some b → blk φ id (.arr e s ver room els) = some b) ∧ (len = 0 ∨ ∃ b, len * s ≤ cs.length ∧ (∀ j v, cs[j]? = some v → w.cell? ⟨b, j, none⟩ = some v) ∧ DRepE w (Held E φ st.heap) b s els 0) := by
  have ho := (h.objs id _ hf).2.2.2.2
  simp only [PRep, ORep] at hr ho
  rcases hr with ⟨p1, _, p3, p4⟩ | ⟨b, n, ad, p1, p2, p3, p4⟩
  · subst p4
    exact ⟨none, 0, [], .nil p3, by simp, .inl p3⟩
  · obtain ⟨b', n', cs, q1, q2, q3, q4, q5, q6, q7⟩ := ho.resolve_left (by intro hh; rw [hh.1] at p1; cases p1)
    rw [p1] at q1
    simp only [Option.some.injEq, Prod.mk.injEq] at q1
    obtain ⟨rfl, rfl⟩ := q1
    subst p3
    refine ⟨some b, n, cs, .some b n ad cs (by simpa using p4) (by omega) q3 q5 q6, fun b' hb' => by cases hb'; simp [blk, p1], .inr ⟨b, ?_, fun j v hj => ?_, q7⟩⟩
    · rw [q6]; exact Nat.mul_le_mul_right _ (by omega)
    · rw [cell_of_row _ _ _ _ _ _ q5]; simpa using hj

theorem copy_run_cells {t t' ty el s : Nat} {i : TypeInfo} (ht : P.underlying t = some (.slice el)) (hi : P.info? el = some i) (hs : i.size = s) {g off dLen dCap sLen sCap : Nat} {ad ax : Option Addr} {cur cs : List Value} {e : Nat}
    (hg : w.heap[g]? = some (.cells cur.toArray e (0, 0))) (had : min sLen dLen = 0 ∨ ad = some ⟨g, off, none⟩) (hax : min sLen dLen = 0 ∨ ∃ a, ax = some a ∧ ∀ j v, cs[j]? = some v → w.cell? (a.add j) = some v)
    (hl : cs.length = min sLen dLen * s) (hfit : off + cs.length ≤ cur.length) (h1 : ∀ v ∈ cs, v.oneCell' = true) :
    (Builtin.copy_ #[t, t'] ty #[.slice ad dLen dCap, .slice ax sLen sCap]).run P w = .ok (goInt ((min sLen dLen : Nat) : Int)) (w.setRow g (splice cur off cs).toArray) := by
  subst hs
  by_cases h0 : min sLen dLen = 0
  · have hn : cs = [] := List.eq_nil_of_length_eq_zero (by rw [hl, h0]; simp)
    subst hn
    have e1 : splice cur off ([] : List Value) = cur := by simp [splice]
    have e2 : w.setRow g cur.toArray = w := setRow_self w g cur.toArray e (0, 0) hg
    rw [e1, e2]
    have h0' : Nat.min sLen dLen = 0 := h0
    cases ad <;> cases ax <;> simp [Builtin.copy_, run_underlying ht, Builtin.lenOf, Builtin.firstCells, sizeOf, typeInfo, hi, h0', h0, storeCells, loadCells, loadCellsFrom]
  · obtain rfl := had.resolve_left h0
    obtain ⟨a, rfl, hsrc⟩ := hax.resolve_left h0
    have hld := run_loadCells_list (P := P) w a cs hsrc
    have hst := run_storeCells_at P g off e cs 0 cur.toArray w hg (by simpa using hfit) h1
    rw [hl] at hld
    have hm : Nat.min sLen dLen = min sLen dLen := rfl
    simp only [Nat.add_zero, List.toList_toArray] at hst
    simp [Builtin.copy_, run_underlying ht, Builtin.lenOf, Builtin.firstCells, sizeOf, typeInfo, hi, hm, hld, hst, splice]

theorem row_room {id ver len s n : Nat} {e r : Nat} {els : List D} (h : Rst E S φ st a w) (hf : find id st.heap = some (.arr e s ver (some r) els)) {c : Value} (hr : PRep w (Held E φ st.heap) φ (.own id ver s 0 len) c) {ob : Option Nat} {cs : List Value} (ho : OldRow w e s len ob n cs c) : n ≤ r := by
  have h4 := (h.objs id _ hf).2.2.2.2
  simp only [PRep, ORep] at hr h4
  rcases hr with ⟨p1, _, p3, rfl⟩ | ⟨b, m, ad, p1, p2, rfl, p4⟩
  · cases ho with
    | nil _ => omega
    | some b n ad cs g1 g2 g3 g4 g5 => omega
  · obtain ⟨b', n', cs', q1, q2, q3, q4, q5, q6, q7⟩ := h4.resolve_left (by intro hh; rw [hh.1] at p1; cases p1)
    rw [p1] at q1
    simp only [Option.some.injEq, Prod.mk.injEq] at q1
    obtain ⟨rfl, rfl⟩ := q1
    have := q4 r rfl
    subst this
    have hv : ∀ c, OldRow w e s len ob n cs c → c = .slice ad len (r - 0) → n ≤ r := by
      intro c ho hc
      cases ho with
      | nil _ => omega
      | some b n ad cs g1 g2 g3 g4 g5 => simp only [Value.slice.injEq] at hc; omega
    exact hv _ ho rfl

theorem srcP_rep (h : Rst E S φ st a w) {s n : Nat} {p : PVal} {src : List D} {c : Value} (hs : srcP st.heap s p = some (src, n)) (hr : PRep w (Held E φ st.heap) φ p c) :
    ∃ ax cap, c = .slice ax n cap ∧ (src = [] ∨ ∃ b off, ax = some ⟨b, off, none⟩ ∧ DRepE w (Held E φ st.heap) b s src off) := by
  have other : (asSlc s p).map (fun els => (els, els.length)) = some (src, n) → ∃ ax cap, c = .slice ax n cap ∧ (src = [] ∨ ∃ b off, ax = some ⟨b, off, none⟩ ∧ DRepE w (Held E φ st.heap) b s src off) := by
    intro hs
    obtain ⟨els, h0, h1⟩ := Option.map_eq_some_iff.1 hs
    simp only [Prod.mk.injEq] at h1
    obtain ⟨rfl, rfl⟩ := h1
    obtain ⟨ax, cap, h1, _, h2⟩ := asSlc_rep h0 hr
    exact ⟨ax, cap, h1, h2.imp id fun ⟨b, off, h3, _, _, h4⟩ => ⟨b, off, h3, h4⟩⟩
  cases p with
  | own id ver s' off len =>
    simp only [srcP] at hs
    split at hs
    · rename_i e s'' ver' room els hf
      split at hs
      · rename_i hc
        obtain ⟨rfl, rfl, rfl⟩ := hc
        simp only [Option.some.injEq, Prod.mk.injEq] at hs
        obtain ⟨rfl, rfl⟩ := hs
        have ho := (h.objs id _ hf).2.2.2.2
        simp only [PRep, ORep] at hr ho
        rcases hr with ⟨_, _, rfl, rfl⟩ | ⟨b, n, ad, hφ, hln, rfl, had⟩
        · exact ⟨none, 0, rfl, .inl (by simp)⟩
        · refine ⟨ad, _, rfl, ?_⟩
          obtain ⟨b', n', cs, q1, q2, q3, q4, q5, q6, q7⟩ := ho.resolve_left (by intro hh; rw [hh.1] at hφ; cases hφ)
          rw [hφ] at q1
          simp only [Option.some.injEq, Prod.mk.injEq] at q1
          obtain ⟨rfl, rfl⟩ := q1
          by_cases h0 : len = 0
          · subst h0; exact .inl (by simp)
          · obtain rfl := had.resolve_left (by omega)
            have := (q7.drop off).take len
            rw [Nat.zero_add] at this
            exact .inr ⟨b, _, rfl, this⟩
      · cases hs
    · cases hs
  | _ => exact other hs

/-- Elements written into a row of one's own, in the place of others or behind them. -/
theorem row_write {id ver s off b n e0 : Nat} {room : Option Nat} {els src : List D} (h : Rst E S φ st a w) (hf : find id st.heap = some (.arr e0 s ver room els)) (g1 : φ id ver = some (b, n)) (hoff : off ≤ els.length) (hin : off + src.length ≤ n)
    {cs : List Value} (c1 : cs.length = src.length * s) (c4 : ∀ i y, src[i]? = some y → ∃ c, DRep w (Held E φ st.heap) y c ∧ c.cells.size = s ∧ ∀ j v, c.cells.toList[j]? = some v → cs[i * s + j]? = some v) :
    ∃ cur, w.heap[b]? = some (.cells cur.toArray e0 (0, 0)) ∧ cur.length = n * s ∧ off * s + cs.length ≤ cur.length ∧
      Rst E S φ { st with heap := upd id (.arr e0 s ver room (els.take off ++ src ++ els.drop (off + src.length))) st.heap } a (w.setRow b (splice cur (off * s) cs).toArray) := by
  obtain ⟨h1, h1', h2, h3, h4⟩ := h.objs id _ hf
  simp only [ORep] at h4
  obtain ⟨b', n', cur, q1, q2, q3, q4, q5, q6, q7⟩ := h4.resolve_left (by intro hh; rw [hh.1] at g1; cases g1)
  rw [g1] at q1
  simp only [Option.some.injEq, Prod.mk.injEq] at q1
  obtain ⟨rfl, rfl⟩ := q1
  have hfit : off * s + cs.length ≤ cur.length := by
    rw [c1, q6, ← Nat.add_mul]; exact Nat.mul_le_mul_right _ hin
  refine ⟨cur, q5, q6, hfit, ?_⟩
  have hlenE : (els.take off ++ src ++ els.drop (off + src.length)).length = off + src.length + (els.length - (off + src.length)) := by
    simp; omega
  obtain ⟨m1, m2, m3, m4⟩ := setRow_mods w b (splice cur (off * s) cs).toArray
  have hblk' : ∀ els', blk φ id (.arr e0 s ver room els') = some b := fun _ => by simp [blk, g1]
  have hobj := setRow_heap w b cur.toArray (splice cur (off * s) cs).toArray e0 (0, 0) q5
  refine h.set (w' := w.setRow b (splice cur (off * s) cs).toArray) (id := id) (o' := .arr e0 s ver room (els.take off ++ src ++ els.drop (off + src.length))) (S' := S) (φ' := φ) m1 m2 m3 (by rw [m4]; exact Nat.le_refl _)
    (fun c hc hno => setRow_other w b c _ fun e => hno _ hf (e ▸ hblk' els)) (fun _ _ h => h) (fun _ _ _ => rfl) h1 h1' (fun _ _ _ h => h) (by simp only [PObj.und])
    (fun c hc => by rw [hblk'] at hc; cases hc; exact ⟨by rw [m4]; exact (h3 b (hblk' els)).1, .inr ⟨_, hf, hblk' els⟩⟩) ?_
  have hO := held_set (o' := .arr e0 s ver room (els.take off ++ src ++ els.drop (off + src.length))) (φ' := φ) h (fun _ _ _ => rfl) (fun c hc => by rw [hblk'] at hc; cases hc; exact .inr ⟨_, hf, hblk' els⟩)
  have hkp : Keeps (Held E φ st.heap) w (w.setRow b (splice cur (off * s) cs).toArray) := ⟨by rw [m4]; exact Nat.le_refl _, fun c hlt hc => setRow_other w b c _ fun e => hc (.inr ⟨id, _, hf, e ▸ hblk' els⟩)⟩
  simp only [ORep]
  refine .inr ⟨b, n, _, g1, by rw [hlenE]; omega, q3, q4, hobj, by rw [length_splice' _ _ _ hfit]; exact q6, DRepE.of fun j y hy => ?_⟩
  rw [Nat.zero_add]
  have old : ∀ i, els[i]? = some y → i = j → (i < off ∨ off + src.length ≤ i) → ∃ c, DRep (w.setRow b (splice cur (off * s) cs).toArray) (Held E φ (upd id (.arr e0 s ver room (els.take off ++ src ++ els.drop (off + src.length))) st.heap)) y c ∧ c.cells.size = s ∧ CellsAt (w.setRow b (splice cur (off * s) cs).toArray) b (j * s) c.cells.toList := by
    intro i hi e hout
    subst e
    obtain ⟨c', r1, r2, r3⟩ := q7.get hi
    refine ⟨c', DRep.keep hkp hO _ _ r1, r2, fun m hm => ?_⟩
    have := r3 m hm
    rw [Nat.zero_add, cell_of_row _ _ _ _ _ _ q5] at this
    rw [cell_of_row _ _ _ _ _ _ hobj, List.getElem?_toArray, splice_get _ _ _ _ hfit, ← this]
    have hms : m < s := by rw [Array.length_toList, r2] at hm; exact hm
    rw [if_neg ?_]
    · simp
    · rw [c1]
      rcases hout with h | h
      · have : (i + 1) * s ≤ off * s := Nat.mul_le_mul_right _ h
        rw [Nat.add_mul] at this; omega
      · have : (off + src.length) * s ≤ i * s := Nat.mul_le_mul_right _ h
        rw [Nat.add_mul] at this; omega
  have htl : (els.take off).length = off := by simp; omega
  by_cases hj1 : j < off
  · rw [List.append_assoc, List.getElem?_append_left (by omega), List.getElem?_take, if_pos hj1] at hy
    exact old j hy rfl (.inl hj1)
  · by_cases hj2 : j < off + src.length
    · rw [List.append_assoc, List.getElem?_append_right (by omega), htl, List.getElem?_append_left (by omega)] at hy
      obtain ⟨c', r1, r2, r3⟩ := c4 _ y hy
      refine ⟨c', DRep.keep hkp hO _ _ r1, r2, fun m hm => ?_⟩
      have hms : m < s := by rw [Array.length_toList, r2] at hm; exact hm
      rw [cell_of_row _ _ _ _ _ _ hobj, List.getElem?_toArray, splice_get _ _ _ _ hfit]
      have hmul : off * s ≤ j * s := Nat.mul_le_mul_right _ (by omega)
      have hmul2 : (j + 1) * s ≤ (off + src.length) * s := Nat.mul_le_mul_right _ hj2
      rw [Nat.add_mul, Nat.add_mul] at hmul2
      rw [if_pos (by rw [c1]; omega), ← r3 m _ (List.getElem?_eq_getElem hm)]
      congr 1
      rw [Nat.sub_mul]; omega
    · rw [List.getElem?_append_right (by simp; omega)] at hy
      simp only [List.length_append, htl] at hy
      rw [List.getElem?_drop] at hy
      exact old _ hy (by omega) (.inr (by omega))

/-- The same of a row that has no place. -/
theorem row_none {id ver s e0 : Nat} {room : Option Nat} {els : List D} (h : Rst E S φ st a w) (hf : find id st.heap = some (.arr e0 s ver room els)) (g1 : φ id ver = none) : els = [] ∧ Rst E S φ { st with heap := upd id (.arr e0 s ver room []) st.heap } a w := by
  obtain ⟨h1, h1', h2, h3, h4⟩ := h.objs id _ hf
  simp only [ORep] at h4
  obtain ⟨_, h5, h6⟩ := h4.resolve_right (by rintro ⟨b, n, cs, q, _⟩; rw [g1] at q; cases q)
  subst h5
  exact ⟨rfl, h.set (w' := w) (id := id) (o' := .arr e0 s ver room []) (S' := S) (φ' := φ) rfl rfl rfl (Nat.le_refl _) (fun _ _ _ => rfl) (fun _ _ h => h) (fun _ _ _ => rfl) h1 h1' (fun _ _ _ h => h) (by simp only [PObj.und])
    (fun c hc => by simp [blk, g1] at hc) (by simp only [ORep]; exact .inl ⟨g1, trivial, h6⟩)⟩

include hk in
theorem appendSame_run (h : Rst E S φ st a w) (hd : ∀ d, o.dst = some d → d < a.tmps.size) {t el id ver len : Nat} {te : TI} {s x : Operand} {room : Option Nat} {els src : List D} (hop : o.op = .call ⟨.builtin .append, #[s, x], #[t, t]⟩)
    (hkd : kindOf T t = some (.slice el)) (ht : T el = some te) (hes : st.evs s = .own id ver te.size 0 len) (hf : find id st.heap = some (.arr el te.size ver room els)) (hsrc : srcP st.heap te.size (st.evs x) = some (src, src.length))
    (hle : len + src.length ≤ els.length) (hpos : 0 < te.size) (hone : ∀ d ∈ src, d.cells.all D.one = true) (hg : st.gds [s, x])
    (he : e = ⟨.own id ver te.size 0 (len + src.length), [], [(id, .arr el te.size ver room (els.take len ++ src ++ els.drop (len + src.length)))]⟩) : o.wp P a w (After E S φ st a.tmps.size nid o.dst e) Q := by
  subst he
  have hun : P.underlying t = some (.slice el) := desc_of hk.tb hkd
  obtain ⟨inf, hi, hs, hb, hz⟩ := (hk.tb el te ht).info
  obtain ⟨gu, gd⟩ := h.evs s (gds_mem hg s (by simp))
  rw [hes] at gd gu
  obtain ⟨ax, cx, hxv, hxe⟩ := srcP_rep h hsrc (h.evs x (gds_mem hg x (by simp))).2
  have hcells : ∃ cs : List Value, cs.length = src.length * te.size ∧ (src.length = 0 ∨ ∃ ad, ax = some ad ∧ ∀ j v, cs[j]? = some v → w.cell? (ad.add j) = some v) ∧ (∀ v ∈ cs, v.oneCell' = true) ∧
      (∀ i y, src[i]? = some y → ∃ c, DRep w (Held E φ st.heap) y c ∧ c.cells.size = te.size ∧ ∀ j v, c.cells.toList[j]? = some v → cs[i * te.size + j]? = some v) := by
    rcases hxe with h0 | ⟨b, o2, rfl, hE⟩
    · subst h0; exact ⟨[], by simp, .inl (by simp), by simp, by simp⟩
    · obtain ⟨cs, q1, q2, q3, q4⟩ := hE.cells hone
      exact ⟨cs, q1, .inr ⟨_, rfl, fun j v hj => getElem?_cells q2 hj⟩, q3, q4⟩
  obtain ⟨cs, c1, c2, c3, c4⟩ := hcells
  have hex : ∀ {c : Value} {w' : World}, (Builtin.append_ #[t, t] o.type #[a.eval s, a.eval x]).run P w = .ok c w' → (execOp a.eval o).run P w = .ok (.value c) w' := by
    intro c w' hr
    simp only [execOp, hop, resolve, invoke, builtin, Sem.run_bind, Sem.run_pure, Result.andThen_ok, List.map_toArray, List.map_cons, List.map_nil, hr]
  simp only [PRep] at gd
  rcases gd with ⟨g1, g2, g3, g4⟩ | ⟨b, n, ad, g1, g2, g3, g4⟩
  · obtain ⟨h5, hr⟩ := row_none h hf g1
    subst h5; subst g3
    obtain rfl : src = [] := List.eq_nil_of_length_eq_zero (by simpa using hle)
    refine wp_value (c := .slice none 0 0) (w' := w) (hex ?_) ?_
    · rw [g4, hxv]; exact run_append_none t o.type el hun hi none ax 0 0 cx (Nat.le_refl _)
    · refine Rst.after (by simpa [updAll, delAll] using hr) hd (by simpa only [PVal.und] using gu) ?_ (fun _ _ h => ⟨h, rfl⟩) (fun i v hv => .inl ⟨v, hv⟩)
      simp only [PRep, List.length_nil, Nat.add_zero]; exact .inl ⟨g1, by simp [g4]⟩
  · obtain ⟨h1, h1', h2, h3, h4⟩ := h.objs id _ hf
    simp only [ORep] at h4
    obtain ⟨b', n', cur', q1, q2, q3, q4, q5', q6', q7⟩ := h4.resolve_left (by intro hh; rw [hh.1] at g1; cases g1)
    rw [g1] at q1
    simp only [Option.some.injEq, Prod.mk.injEq] at q1
    obtain ⟨rfl, rfl⟩ := q1
    obtain ⟨cur, q5, q6, hfit, hr⟩ := row_write h hf g1 (off := len) (src := src) (by omega) (by omega) c1 c4
    have hrun : (Builtin.append_ #[t, t] o.type #[a.eval s, a.eval x]).run P w = .ok (.slice ad (len + src.length) n) (w.setRow b (splice cur (len * te.size) cs).toArray) := by
      rw [g3, hxv, Nat.sub_zero]
      by_cases h0 : src.length = 0
      · have hn : cs = [] := List.eq_nil_of_length_eq_zero (by rw [c1, h0]; simp)
        subst hn
        have e1 : splice cur (len * te.size) ([] : List Value) = cur := by simp [splice]
        have e2 : w.setRow b cur.toArray = w := setRow_self w b cur.toArray el (0, 0) q5
        rw [e1, e2, h0]
        exact run_append_none t o.type el hun hi ad ax len n cx (by omega)
      · obtain ⟨adx, rfl, hnews⟩ := c2.resolve_left h0
        obtain rfl := g4.resolve_left (by omega)
        rw [Nat.zero_mul]
        have := run_append_room (P := P) w t o.type el inf hun hi b len n cur.toArray (by rw [q5]) adx src.length cx cs (by rw [hs]; exact c1) hnews c3 (by omega) (by simpa [hs] using hfit)
        rw [this, hs]
        simp [splice]
    refine wp_value (hex hrun) ?_
    refine Rst.after (by simpa [updAll, delAll] using hr) hd (by simpa only [PVal.und] using gu) ?_ (fun _ _ h => ⟨h, rfl⟩) (fun i v hv => .inl ⟨v, hv⟩)
    simp only [PRep]; exact .inr ⟨b, n, ad, g1, by omega, by simp, by simpa using g4⟩

include hk in
theorem clear_run (h : Rst E S φ st a w) (hd : ∀ d, o.dst = some d → d < a.tmps.size) {t el id ver off len : Nat} {te : TI} {x : Operand} {e0 : Nat} {room : Option Nat} {els : List D} (hop : o.op = .call ⟨.builtin .clear, #[x], #[t]⟩)
    (hkd : kindOf T t = some (.slice el)) (ht : T el = some te) (hes : st.evs x = .own id ver te.size off len) (hf : find id st.heap = some (.arr e0 te.size ver room els))
    (hle : off ≤ els.length) (hpos : 0 < te.size) (hone : (ofV te.zero).cells.all D.one = true) (hg : st.gds [x])
    (he : e = ⟨.d (.tup []), [], [(id, .arr e0 te.size ver room (els.take off ++ List.replicate len (ofV te.zero) ++ els.drop (off + len)))]⟩) : o.wp P a w (After E S φ st a.tmps.size nid o.dst e) Q := by
  subst he
  have hun : P.underlying t = some (.slice el) := desc_of hk.tb hkd
  obtain ⟨inf, hi, hs, hb, hz⟩ := (hk.tb el te ht).info
  have hzs := (hk.tb el te ht).zsize
  obtain ⟨gu, gd⟩ := h.evs x (gds_mem hg x (by simp))
  rw [hes] at gd gu
  have hex : ∀ {w' : World}, (Builtin.clear_ #[t] o.type #[a.eval x]).run P w = .ok (.tuple #[]) w' → (execOp a.eval o).run P w = .ok (.value (.tuple #[])) w' := by
    intro w' hr
    simp only [execOp, hop, resolve, invoke, builtin, Sem.run_bind, Sem.run_pure, Result.andThen_ok, List.map_toArray, List.map_cons, List.map_nil, hr]
  have hp : ∀ {w' : World} {O : Nat → Prop}, PRep w' O φ (.d (.tup [])) (.tuple #[]) := by
    intro w' O; simp only [PRep, DRep, DRepL]; exact ⟨[], rfl, rfl⟩
  simp only [PRep] at gd
  rcases gd with ⟨g1, g2, g3, g4⟩ | ⟨b, n, ad, g1, g2, g3, g4⟩
  · obtain ⟨h5, hr⟩ := row_none h hf g1
    subst h5; subst g3
    refine wp_value (c := .tuple #[]) (w' := w) (hex ?_) ?_
    · rw [g4]; simp [Builtin.clear_, run_underlying hun]
    · exact Rst.after (by simpa [updAll, delAll] using hr) hd (by simp only [PVal.und]) hp (fun _ _ h => ⟨h, rfl⟩) (fun i v hv => .inl ⟨v, hv⟩)
  · have hcl : (Builtin.zeroCells te.zero.cells len).toList.length = (List.replicate len (ofV te.zero)).length * te.size := by
      rw [Array.length_toList, size_zeroCells, hzs, List.length_replicate]
    obtain ⟨cur, q5, q6, hfit, hr⟩ := row_write h hf g1 (off := off) (src := List.replicate len (ofV te.zero)) (cs := (Builtin.zeroCells te.zero.cells len).toList) hle (by simpa using g2) hcl (by
      intro i y hy
      obtain ⟨hil, rfl⟩ := by simpa using List.getElem?_eq_some_iff.1 hy
      refine ⟨te.zero, DRep.ofV _, hzs, fun j v hj => ?_⟩
      have hjl : j < te.size := by have := (List.getElem?_eq_some_iff.1 hj).1; simpa [hzs] using this
      have hlt : i * te.size + j < len * te.size := by
        have : (i + 1) * te.size ≤ len * te.size := Nat.mul_le_mul_right _ (by omega)
        rw [Nat.add_mul] at this; omega
      simp only [Builtin.zeroCells, Array.toList_map, List.getElem?_map, Array.toList_range, hzs, List.getElem?_range hlt, Option.map_some]
      have hmd : (i * te.size + j) % te.size = j := by rw [Nat.add_comm, Nat.add_mul_mod_self_right, Nat.mod_eq_of_lt hjl]
      rw [hmd]
      have : te.zero.cells[j]? = some v := by simpa using hj
      rw [getElem!_def, this])
    have hone' : ∀ v ∈ (Builtin.zeroCells te.zero.cells len).toList, v.oneCell' = true := by
      have h2 : ∀ v ∈ te.zero.cells.toList, v.oneCell' = true := DRepL.ones (DRep.ofV (w := w) (O := fun _ => False) te.zero).cells hone
      intro v hv
      obtain ⟨i, rfl⟩ : ∃ i, v = te.zero.cells[i % te.zero.cells.size]! := by
        simp only [Builtin.zeroCells, Array.toList_map, List.mem_map] at hv
        obtain ⟨i, _, rfl⟩ := hv
        exact ⟨i, rfl⟩
      have hz0 : 0 < te.zero.cells.size := by rw [hzs]; exact hpos
      have hlt : i % te.zero.cells.size < te.zero.cells.size := Nat.mod_lt _ hz0
      rw [getElem!_pos te.zero.cells _ hlt]
      exact h2 _ (by simp)
    have hrun : (Builtin.clear_ #[t] o.type #[a.eval x]).run P w = .ok (.tuple #[]) (w.setRow b (splice cur (off * te.size) (Builtin.zeroCells te.zero.cells len).toList).toArray) := by
      rw [g3]
      by_cases h0 : len = 0
      · subst h0
        have hn : (Builtin.zeroCells te.zero.cells 0).toList = [] := List.eq_nil_of_length_eq_zero (by rw [hcl]; simp)
        have e1 : splice cur (off * te.size) ([] : List Value) = cur := by simp [splice]
        have e2 : w.setRow b cur.toArray = w := setRow_self w b cur.toArray e0 (0, 0) q5
        rw [hn, e1, e2]
        cases ad <;> simp [Builtin.clear_, run_underlying hun]
      · obtain rfl := g4.resolve_left (by omega)
        have hst := run_storeCells_at P b (off * te.size) e0 (Builtin.zeroCells te.zero.cells len).toList 0 cur.toArray w q5 (by simpa using hfit) hone'
        simp only [Nat.add_zero, List.toList_toArray] at hst
        obtain ⟨m, rfl⟩ : ∃ m, len = m + 1 := ⟨len - 1, by omega⟩
        simp [Builtin.clear_, run_underlying hun, zeroValue, typeInfo, hi, hz, hst, splice]
    refine wp_value (hex hrun) ?_
    exact Rst.after (by simpa [updAll, delAll] using hr) hd (by simp only [PVal.und]) hp (fun _ _ h => ⟨h, rfl⟩) (fun i v hv => .inl ⟨v, hv⟩)

include hk in
theorem copy_run (h : Rst E S φ st a w) (hd : ∀ d, o.dst = some d → d < a.tmps.size) {t t' el id ver off len : Nat} {te : TI} {d x : Operand} {e0 n0 : Nat} {room : Option Nat} {els src : List D} (hop : o.op = .call ⟨.builtin .copy, #[d, x], #[t, t']⟩)
    (hkd : kindOf T t = some (.slice el)) (ht : T el = some te) (hed : st.evs d = .own id ver te.size off len) (hf : find id st.heap = some (.arr e0 te.size ver room els)) (hsrc : srcP st.heap te.size (st.evs x) = some (src, n0)) (hmin : min n0 len ≤ src.length)
    (hoff : off ≤ els.length) (hpos : 0 < te.size) (hone : ∀ d ∈ src, d.cells.all D.one = true) (hg : st.gds [d, x])
    (he : e = ⟨pint .i64 ((min n0 len : Nat) : Int), [], [(id, .arr e0 te.size ver room (els.take off ++ src.take (min n0 len) ++ els.drop (off + min n0 len)))]⟩) : o.wp P a w (After E S φ st a.tmps.size nid o.dst e) Q := by
  subst he
  have hkl : min n0 len ≤ len := Nat.min_le_right _ _
  generalize hkk : min n0 len = kk at hmin hkl ⊢
  have hun : P.underlying t = some (.slice el) := desc_of hk.tb hkd
  obtain ⟨inf, hi, hs, hb, hz⟩ := (hk.tb el te ht).info
  have gd := (h.evs d (gds_mem hg d (by simp))).2
  rw [hed] at gd
  obtain ⟨ax, cx, hxv, hxe⟩ := srcP_rep h hsrc (h.evs x (gds_mem hg x (by simp))).2
  obtain ⟨h1, h1', h2, h3, h4⟩ := h.objs id _ hf
  simp only [PRep, ORep] at gd h4
  -- the cells of the source's first elements
  have hcells : ∃ cs : List Value, cs.length = kk * te.size ∧ (kk = 0 ∨ ∃ ad, ax = some ad ∧ ∀ j v, cs[j]? = some v → w.cell? (ad.add j) = some v) ∧ (∀ v ∈ cs, v.oneCell' = true) ∧
      (∀ i y, (src.take (kk))[i]? = some y → ∃ c, DRep w (Held E φ st.heap) y c ∧ c.cells.size = te.size ∧ ∀ j v, c.cells.toList[j]? = some v → cs[i * te.size + j]? = some v) := by
    rcases hxe with h0 | ⟨b, o2, rfl, hE⟩
    · subst h0
      have hz : kk = 0 := by simpa using hmin
      exact ⟨[], by rw [hz]; simp, .inl hz, by simp, by rw [hz]; simp⟩
    · obtain ⟨cs, q1, q2, q3, q4⟩ := (hE.take (kk)).cells (fun d hd => hone d (List.mem_of_mem_take hd))
      refine ⟨cs, by rw [q1, List.length_take]; congr 1; omega, .inr ⟨_, rfl, fun j v hj => getElem?_cells q2 hj⟩, q3, q4⟩
  obtain ⟨cs, c1, c2, c3, c4⟩ := hcells
  have hrun : ∀ {b : Nat} {cur : List Value} {ad : Option Addr} {dc : Nat}, a.eval d = .slice ad len dc → w.heap[b]? = some (.cells cur.toArray e0 (0, 0)) → (kk = 0 ∨ ad = some ⟨b, off * te.size, none⟩) → off * te.size + cs.length ≤ cur.length →
      (execOp a.eval o).run P w = .ok (.value (.int .i64 ((kk : Nat) : Int))) (w.setRow b (splice cur (off * te.size) cs).toArray) := by
    intro b cur ad dc hdv hgb had hfit
    have := copy_run_cells (P := P) (t' := t') (ty := o.type) (dCap := dc) (sCap := cx) hun hi hs hgb (by rw [hkk]; exact had) (by rw [hkk]; exact c2) (by rw [hkk]; exact c1) hfit c3
    rw [hkk] at this
    simp only [execOp, hop, resolve, invoke, builtin, Sem.run_bind, Sem.run_pure, Result.andThen_ok, List.map_toArray, List.map_cons, List.map_nil, hdv, hxv, this]
    rfl
  have hlenE : (els.take off ++ src.take (kk) ++ els.drop (off + kk)).length = off + kk + (els.length - (off + kk)) := by
    simp; omega
  rcases gd with ⟨g1, g2, g3, g4⟩ | ⟨b, n, ad, g1, g2, g3, g4⟩
  · subst g2; subst g3
    obtain rfl : kk = 0 := by rw [← hkk]; simp
    obtain ⟨_, h5, h6⟩ := h4.resolve_right (by rintro ⟨b, n, cs, q, _⟩; rw [g1] at q; cases q)
    subst h5
    have hrun0 : (execOp a.eval o).run P w = .ok (.value (.int .i64 ((0 : Nat) : Int))) w := by
      simp only [execOp, hop, resolve, invoke, builtin, Sem.run_bind, Sem.run_pure, Result.andThen_ok, List.map_toArray, List.map_cons, List.map_nil, g4, hxv]
      cases ax <;> simp [Builtin.copy_, run_underlying hun, Builtin.lenOf, Builtin.firstCells, sizeOf, typeInfo, hi, loadCells, loadCellsFrom, goInt]
    refine wp_value hrun0 ?_
    have hset := h.set (w' := w) (id := id) (o' := .arr e0 te.size ver room []) (S' := S) (φ' := φ) rfl rfl rfl (Nat.le_refl _) (fun _ _ _ => rfl) (fun _ _ h => h) (fun _ _ _ => rfl) h1 h1' (fun _ _ _ h => h) (by simp only [PObj.und])
      (fun c hc => by simp [blk, g1] at hc) (by simp only [ORep]; exact .inl ⟨g1, trivial, h6⟩)
    refine Rst.after (c := .int .i64 ((0 : Nat) : Int)) (by simpa [updAll, delAll] using hset) hd (by simp only [PVal.und]) (by simp only [PRep, DRep]) (fun _ _ h => ⟨h, rfl⟩) (fun i v hv => .inl ⟨v, hv⟩)
  · obtain ⟨b', n', cur, q1, q2, q3, q4, q5, q6, q7⟩ := h4.resolve_left (by intro hh; rw [hh.1] at g1; cases g1)
    rw [g1] at q1
    simp only [Option.some.injEq, Prod.mk.injEq] at q1
    obtain ⟨rfl, rfl⟩ := q1
    have hfit : off * te.size + cs.length ≤ cur.length := by
      rw [c1, q6, ← Nat.add_mul]; exact Nat.mul_le_mul_right _ (by omega)
    have hr := hrun g3 q5 (g4.imp (fun h => by omega) fun h => h) hfit
    refine wp_value hr ?_
    obtain ⟨m1, m2, m3, m4⟩ := setRow_mods w b (splice cur (off * te.size) cs).toArray
    have hblk' : ∀ els', blk φ id (.arr e0 te.size ver room els') = some b := fun _ => by simp [blk, g1]
    have hobj := setRow_heap w b cur.toArray (splice cur (off * te.size) cs).toArray e0 (0, 0) q5
    have hset := h.set (w' := w.setRow b (splice cur (off * te.size) cs).toArray) (id := id) (o' := .arr e0 te.size ver room (els.take off ++ src.take (kk) ++ els.drop (off + kk))) (S' := S) (φ' := φ) m1 m2 m3 (by rw [m4]; exact Nat.le_refl _)
      (fun c hc hno => setRow_other w b c _ fun e => hno _ hf (e ▸ hblk' els)) (fun _ _ h => h) (fun _ _ _ => rfl) h1 h1' (fun _ _ _ h => h) (by simp only [PObj.und])
      (fun c hc => by rw [hblk'] at hc; cases hc; exact ⟨by rw [m4]; exact (h3 b (hblk' els)).1, .inr ⟨_, hf, hblk' els⟩⟩) ?_
    · refine Rst.after (c := .int .i64 ((kk : Nat) : Int)) (by simpa [updAll, delAll] using hset) hd (by simp only [PVal.und]) (by simp only [PRep, DRep]) (fun _ _ h => ⟨h, rfl⟩) (fun i v hv => .inl ⟨v, hv⟩)
    · have hO := held_set (o' := .arr e0 te.size ver room (els.take off ++ src.take (kk) ++ els.drop (off + kk))) (φ' := φ) h (fun _ _ _ => rfl) (fun c hc => by rw [hblk'] at hc; cases hc; exact .inr ⟨_, hf, hblk' els⟩)
      have hkp : Keeps (Held E φ st.heap) w (w.setRow b (splice cur (off * te.size) cs).toArray) := ⟨by rw [m4]; exact Nat.le_refl _, fun c hlt hc => setRow_other w b c _ fun e => hc (.inr ⟨id, _, hf, e ▸ hblk' els⟩)⟩
      simp only [ORep]
      refine .inr ⟨b, n, _, g1, by rw [hlenE]; omega, q3, q4, hobj, by rw [length_splice' _ _ _ hfit]; exact q6, DRepE.of fun j y hy => ?_⟩
      rw [Nat.zero_add]
      have old : ∀ i, els[i]? = some y → i = j → (i < off ∨ off + kk ≤ i) → ∃ c, DRep (w.setRow b (splice cur (off * te.size) cs).toArray) (Held E φ (upd id (.arr e0 te.size ver room (els.take off ++ src.take (kk) ++ els.drop (off + kk))) st.heap)) y c ∧ c.cells.size = te.size ∧ CellsAt (w.setRow b (splice cur (off * te.size) cs).toArray) b (j * te.size) c.cells.toList := by
        intro i hi e hout
        subst e
        obtain ⟨c', r1, r2, r3⟩ := q7.get hi
        refine ⟨c', DRep.keep hkp hO _ _ r1, r2, fun m hm => ?_⟩
        have := r3 m hm
        rw [Nat.zero_add, cell_of_row _ _ _ _ _ _ q5] at this
        rw [cell_of_row _ _ _ _ _ _ hobj, List.getElem?_toArray, splice_get _ _ _ _ hfit, ← this]
        have hms : m < te.size := by rw [Array.length_toList, r2] at hm; exact hm
        rw [if_neg ?_]
        · simp
        · rw [c1]
          rcases hout with h | h
          · have : (i + 1) * te.size ≤ off * te.size := Nat.mul_le_mul_right _ h
            rw [Nat.add_mul] at this; omega
          · have : (off + kk) * te.size ≤ i * te.size := Nat.mul_le_mul_right _ h
            rw [Nat.add_mul] at this; omega
      have htl : (els.take off).length = off := by simp; omega
      have hsl : (src.take (kk)).length = kk := by simp; omega
      by_cases hj1 : j < off
      · rw [List.append_assoc, List.getElem?_append_left (by omega), List.getElem?_take, if_pos hj1] at hy
        exact old j hy rfl (.inl hj1)
      · by_cases hj2 : j < off + kk
        · rw [List.append_assoc, List.getElem?_append_right (by omega), htl, List.getElem?_append_left (by omega)] at hy
          obtain ⟨c', r1, r2, r3⟩ := c4 _ y hy
          refine ⟨c', DRep.keep hkp hO _ _ r1, r2, fun m hm => ?_⟩
          have hms : m < te.size := by rw [Array.length_toList, r2] at hm; exact hm
          rw [cell_of_row _ _ _ _ _ _ hobj, List.getElem?_toArray, splice_get _ _ _ _ hfit]
          have hmul : off * te.size ≤ j * te.size := Nat.mul_le_mul_right _ (by omega)
          have hmul2 : (j + 1) * te.size ≤ (off + kk) * te.size := Nat.mul_le_mul_right _ hj2
          rw [Nat.add_mul, Nat.add_mul] at hmul2
          rw [if_pos (by rw [c1]; omega), ← r3 m _ (List.getElem?_eq_getElem hm)]
          congr 1
          rw [Nat.sub_mul]; omega
        · rw [List.getElem?_append_right (by simp; omega)] at hy
          simp only [List.length_append, htl, hsl] at hy
          rw [List.getElem?_drop] at hy
          exact old _ hy (by omega) (.inr (by omega))

include hk in
theorem appendMake_run (h : Rst E S φ st a w) (hd : ∀ d, o.dst = some d → d < a.tmps.size) (hfr : Fresh S nid) {t t' el id ver len r : Nat} {m : Int} {te : TI} {s x : Operand} {els : List D} (hop : o.op = .call ⟨.builtin .append, #[s, x], #[t, t']⟩)
    (hkd : kindOf T t = some (.slice el)) (hkd' : kindOf T t' = some (.int .i64)) (ht : T el = some te) (hes : st.evs s = .own id ver te.size 0 len) (hex : asInt (st.evs x) = some (.i64, m)) (hf : find id st.heap = some (.arr el te.size ver (some r) els))
    (hle : len ≤ els.length) (hne : 0 < els.length) (hm : 0 < m) (hsz : 0 < te.size) (hr : r < len + m.toNat) (h63 : len + m.toNat ≤ maxLen) (hby : (len + m.toNat) * te.bytes ≤ 140737488355328) (hg : st.gds [s, x])
    (he : e = ⟨.own (nid 0) 0 te.size 0 (len + m.toNat), [], [(nid 0, .arr el te.size 0 none (els.take len ++ List.replicate m.toNat (ofV te.zero)))]⟩) : o.wp P a w (After E S φ st a.tmps.size nid o.dst e) Q := by
  subst he
  have hun : P.underlying t = some (.slice el) := desc_of hk.tb hkd
  have hun' : P.underlying t' = some (.int .i64) := desc_of hk.tb hkd'
  obtain ⟨inf, hi, hs, hb, hz⟩ := (hk.tb el te ht).info
  have hzs := (hk.tb el te ht).zsize
  have gs := (h.evs s (gds_mem hg s (by simp))).2
  have gx := asInt_rep hex (h.evs x (gds_mem hg x (by simp))).2
  rw [hes] at gs
  have ho := (h.objs id _ hf).2.2.2.2
  simp only [PRep, ORep] at gs ho
  obtain ⟨b, n, cs, q1, q2, q3, q4, q5, q6, q7⟩ := ho.resolve_left (by rintro ⟨_, h2, _⟩; rw [h2] at hne; simp at hne)
  obtain ⟨b', n', ad, g1, g2, g3, g4⟩ := gs.resolve_left (by rintro ⟨h2, _⟩; rw [q1] at h2; cases h2)
  rw [q1] at g1
  simp only [Option.some.injEq, Prod.mk.injEq] at g1
  obtain ⟨rfl, rfl⟩ := g1
  have hrn := q4 r rfl
  subst hrn
  obtain rfl := g4.resolve_left (by omega)
  rw [Nat.zero_mul, Nat.sub_zero] at g3
  have hmn : ((m.toNat : Nat) : Int) = m := Int.toNat_of_nonneg (Int.le_of_lt hm)
  have hbig : ((len + m.toNat : Nat) : Int) ≤ 9223372036854775807 := by simp only [maxLen] at h63; omega
  have hol : (cs.take (len * te.size)).length = len * te.size := by
    rw [List.length_take, q6, Nat.min_eq_left (Nat.mul_le_mul_right _ (by omega))]
  have holds : ∀ j v, (cs.take (len * te.size))[j]? = some v → w.cell? ((⟨b, 0, none⟩ : Addr).add j) = some v := by
    intro j v hj
    rw [addr_add, cell_of_row _ _ _ _ _ _ q5, Nat.zero_add]
    rw [List.getElem?_take] at hj
    split at hj
    · simpa using hj
    · cases hj
  have hmb : ((m.toNat : Nat) : Int) * inf.bytes ≤ 281474976710656 := by
    have : m.toNat * te.bytes ≤ (len + m.toNat) * te.bytes := Nat.mul_le_mul_right _ (by omega)
    rw [hb]
    have h2 : ((m.toNat * te.bytes : Nat) : Int) ≤ 281474976710656 := by omega
    rwa [Int.natCast_mul] at h2
  have hrun := run_append_make (P := P) (w := w) t t' o.type el inf te.zero hun hun' hi hz ⟨b, 0, none⟩ len r (cs.take (len * te.size)) (by rw [hol, hs]) holds m.toNat (by rw [hs]; exact Nat.ne_of_gt (Nat.mul_pos (by omega) hsz)) hmb hr hbig (by rw [hb]; exact growslice_fits (by omega) hby)
  rw [hmn] at hrun
  have hge := grownCap_ge w (len + m.toNat) r el
  have hzl : (Builtin.zeroCells te.zero.cells m.toNat).size = m.toNat * te.size := by rw [size_zeroCells, hzs]
  have htake : ((cs.take (len * te.size)).toArray ++ Builtin.zeroCells te.zero.cells m.toNat ++ Builtin.zeroCells te.zero.cells (grownCap w (len + m.toNat) r el - (len + m.toNat))).toList.take ((len + (List.replicate m.toNat (ofV te.zero)).length) * te.size) = cs.take (len * te.size) ++ (Builtin.zeroCells te.zero.cells m.toNat).toList := by
    simp only [Array.toList_append, List.length_replicate, List.append_assoc]
    rw [← List.append_assoc, show (len + m.toNat) * te.size = (cs.take (len * te.size) ++ (Builtin.zeroCells te.zero.cells m.toNat).toList).length by rw [List.length_append, hol, Array.length_toList, hzl, Nat.add_mul]]
    exact List.take_left
  have hj := rows_join (w := w) (O := Held E φ st.heap) (b := b) (els := els) (new := List.replicate m.toNat (ofV te.zero)) (news := (Builtin.zeroCells te.zero.cells m.toNat).toList) hsz (.inr ⟨by rw [q6]; exact Nat.mul_le_mul_right _ (by omega), fun j v hj => by rw [cell_of_row _ _ _ _ _ _ q5]; simpa using hj, q7⟩) hle (by
    intro i y hy
    obtain ⟨hil, rfl⟩ := by simpa using List.getElem?_eq_some_iff.1 hy
    refine ⟨te.zero, DRep.ofV _, hzs, fun j v hj => ?_⟩
    have hjl : j < te.size := by have := (List.getElem?_eq_some_iff.1 hj).1; simpa [hzs] using this
    have hlt : i * te.size + j < m.toNat * te.size := by
      have : (i + 1) * te.size ≤ m.toNat * te.size := Nat.mul_le_mul_right _ (by omega)
      rw [Nat.add_mul] at this; omega
    simp only [Builtin.zeroCells, Array.toList_map, List.getElem?_map, Array.toList_range, hzs, List.getElem?_range hlt, Option.map_some]
    have hmd : (i * te.size + j) % te.size = j := by rw [Nat.add_comm, Nat.add_mul_mod_self_right, Nat.mod_eq_of_lt hjl]
    rw [hmd]
    have : te.zero.cells[j]? = some v := by simpa using hj
    rw [getElem!_def, this]) htake
  have hAs : ((cs.take (len * te.size)).toArray ++ Builtin.zeroCells te.zero.cells m.toNat ++ Builtin.zeroCells te.zero.cells (grownCap w (len + m.toNat) r el - (len + m.toNat))).size = grownCap w (len + m.toNat) r el * te.size := by
    rw [Array.size_append, Array.size_append, List.size_toArray, hol, size_zeroCells, size_zeroCells, hzs, ← Nat.add_mul, ← Nat.add_mul]
    congr 1; exact Nat.add_sub_cancel' hge
  generalize hA : (cs.take (len * te.size)).toArray ++ Builtin.zeroCells te.zero.cells m.toNat ++ Builtin.zeroCells te.zero.cells (grownCap w (len + m.toNat) r el - (len + m.toNat)) = A at hAs hj hrun
  have hor : OldRow (w.drew.alloc (.cells A el)) el te.size (len + m.toNat) (some w.heap.size) (grownCap w (len + m.toNat) r el) A.toList (.slice (some ⟨w.heap.size, 0, none⟩) (len + m.toNat) (grownCap w (len + m.toNat) r el)) :=
    .some w.heap.size _ _ A.toList (.inr rfl) hge (grownCap_le_maxLen w _ r el h63) (heap_alloc_new w.drew _) (by rw [Array.length_toList]; exact hAs)
  obtain ⟨φ', k0, k1, k2⟩ := row_of_old (ob := none) h (w' := w.drew.alloc (.cells A el)) rfl rfl rfl (by simp) (fun c hc _ => heap_alloc_old w.drew _ c hc) (by simp) (id := nid 0) (ver := 0) (fun v hv => absurd hv (hfr.new 0 v)) hor (by simp) (fun c hc => by cases hc; exact ⟨by simp, .inl (Nat.le_refl _)⟩) (els' := els.take len ++ List.replicate m.toNat (ofV te.zero)) (by simp; omega) hj
  refine wp_value (c := .slice (some ⟨w.heap.size, 0, none⟩) (len + m.toNat) (grownCap w (len + m.toNat) r el)) (w' := w.drew.alloc (.cells A el)) ?_ ?_
  · simp only [execOp, hop, resolve, invoke, builtin, Sem.run_bind, Sem.run_pure, Result.andThen_ok, List.map_toArray, List.map_cons, List.map_nil, g3, gx, hrun]
  · exact Rst.after (by simpa [updAll, delAll] using k1) hd (by simp only [PVal.und]; exact .inr ⟨rfl, rfl⟩) (by simpa [updAll, delAll] using k2) (fun i v h => ⟨.inl h, k0 i v h⟩) (also_new (.inr ⟨0, by omega, rfl⟩))

include hk in
theorem over_run (h : Rst E S φ st a w) (hd : ∀ d, o.dst = some d → d < a.tmps.size) {f : Operand} {args : Array Operand} {ts : Array TypeId} {fid : Nat} {x y : List PVal} (hop : o.op = .call ⟨.value f, args, ts⟩) (hcal : callee (st.evs f) = some (fid, x, y)) (hg : st.gds (f :: args.toList))
    (hc : OverK P T fid st (x ++ args.toList.map st.evs ++ y) (· = e)) : o.wp P a w (After E S φ st a.tmps.size nid o.dst e) Q := by
  obtain ⟨tS, el, te, id1, v1, o1, l1, id2, v2, o2, l2, e1, r1, els1, e2, r2, els2, ⟨⟨fn, tR, f1, f2, f3, f4, f5⟩, hkd, ht, hpos⟩, hqs, hne, ⟨hf1, hf2, hn1, hn2⟩, he⟩ := hc
  subst he
  have hun : P.underlying tS = some (.slice el) := desc_of hk.tb hkd
  obtain ⟨inf, hi, hs, hb, hz⟩ := (hk.tb el te ht).info
  have hgm := gds_mem hg
  obtain ⟨uf, rf⟩ := h.evs f (hgm f (by simp))
  obtain ⟨u, v, hfv, q1, q2, u1, u2⟩ := callee_rep hcal rf uf
  obtain ⟨u3, q3⟩ := h.evL (l := args.toList) fun z hz => hgm z (by simp [hz])
  have hr := (q1.append q3).append q2
  rw [hqs] at hr
  obtain ⟨c1, cs1, hcs, g1, c2, cs2, rfl, g2, rfl⟩ := hr
  have hsize : ∀ w, (Go.sizeOf el).run P w = .ok te.size w := by intro w; simp [sizeOf, typeInfo, hi, hs]
  have hover : (Extern.SlicesOverlaps.overlaps #[tS, tS] #[tR] #[c1, c2]).run P w = .ok (.bool false) w := by
    obtain ⟨_, _, _, _, h5⟩ := h.objs id1 _ hf1
    obtain ⟨_, _, _, _, h6⟩ := h.objs id2 _ hf2
    simp only [ORep] at h5 h6
    simp only [PRep] at g1 g2
    obtain ⟨b1, n1, ad1, a1, p2, rfl, p4⟩ := g1.resolve_left (by intro hh; omega)
    obtain ⟨b2, n2, ad2, d1, t2, rfl, t4⟩ := g2.resolve_left (by intro hh; omega)
    obtain ⟨b1', n1', k1, p1, a2, a3, a4, a5, a6, a7⟩ := h5.resolve_left (by intro hh; rw [a1] at hh; cases hh.1)
    obtain ⟨b2', n2', k2, t1, d2, d3, d4, d5, d6, d7⟩ := h6.resolve_left (by intro hh; rw [d1] at hh; cases hh.1)
    rw [a1] at p1; rw [d1] at t1
    simp only [Option.some.injEq, Prod.mk.injEq] at p1 t1
    obtain ⟨rfl, rfl⟩ := p1
    obtain ⟨rfl, rfl⟩ := t1
    have hbn : b1 ≠ b2 := fun e => hne (h.inj id1 id2 _ _ b1 hf1 hf2 (by simp [blk, a1]) (by simp [blk, d1, e]))
    obtain rfl := p4.resolve_left (by omega)
    obtain rfl := t4.resolve_left (by omega)
    have hk2 : k2.length ≠ 0 := by
      rw [d6]; exact Nat.ne_of_gt (Nat.mul_pos (by omega) hpos)
    exact Lib.run_overlaps_apart w tS tR el hun te.size hsize ⟨b1, o1 * te.size, none⟩ ⟨b2, o2 * te.size, none⟩ l1 (n1 - o1) l2 (n2 - o2) hbn e1 e2 k1.length k2.length
      (by simp [World.shape?, a5]) (by simp [World.shape?, d5]) hk2 (by simp [World.frozen?, a5]) (by simp [World.frozen?, a5])
  have hrun : (execOp a.eval o).run P w = .ok (.value (.bool false)) w := by
    have e1 : u.toArray ++ args.map a.eval ++ v.toArray = #[c1, c2] := by
      apply Array.ext'
      rw [← hcs]; simp
    simp only [execOp, hop, resolve, hfv, Deferred.ofValue, Sem.run_bind, Sem.run_pure, Result.andThen_ok, invoke, e1]
    rw [run_callFunc_extern f1 f2 f3 f4 f5, hover]
    rfl
  exact wp_value hrun (Rst.after (c := .bool false) (by simpa [updAll, delAll] using h) hd (by simp only [pbool, PVal.und]) (by simp only [pbool, PRep, DRep]) (fun _ _ h => ⟨h, rfl⟩) (fun i v hv => .inl ⟨v, hv⟩))

include hk in
theorem step_run (h : Rst E S φ st a w) (hd : ∀ d, o.dst = some d → d < a.tmps.size) (hfr : Fresh S nid) (hs : stepP P T eqt nid o.op st (· = e)) : o.wp P a w (After E S φ st a.tmps.size nid o.dst e) Q := by
  have compute : ∀ p pre, computeP T eqt st o.op = some (p, pre) → pre → e = ⟨p, [], []⟩ → o.wp P a w (After E S φ st a.tmps.size nid o.dst e) Q := by
    intro p pre hc hp he
    subst he
    obtain ⟨c, g1, g2, g3⟩ := compute_run hk h hc hp
    exact wp_value g1 (Rst.after (by simpa [updAll, delAll] using h) hd g2 g3 (fun _ _ h => ⟨h, rfl⟩) (fun i v hv => .inl ⟨v, hv⟩))
  have fallback : (match computeP T eqt st o.op with
    | some (p, pre) => pre ∧ (⟨p, [], []⟩ : Eff) = e
    | none => False) → o.wp P a w (After E S φ st a.tmps.size nid o.dst e) Q := by
    intro hs
    split at hs
    · rename_i p pre hc
      exact compute p pre hc hs.1 hs.2.symm
    · exact hs.elim
  cases hop : o.op with
  | alloc t =>
    rw [hop] at hs
    simp only [stepP] at hs
    split at hs
    · rename_i ti ht
      exact alloc_run hk h hd hfr.new hop ht hs.symm
    · exact hs.elim
  | box t x =>
    rw [hop] at hs
    simp only [stepP] at hs
    split at hs
    · rename_i ti ht
      exact box_run hk h hd hfr.new hop ht hs.1.1 hs.1.2 hs.2.symm
    · exact hs.elim
  | buildSlice t len parts =>
    rw [hop] at hs
    simp only [stepP] at hs
    split at hs
    · rename_i el hkd
      split at hs
      · rename_i te ds ht hds
        obtain ⟨⟨h1, h2, h3, h4, h5⟩, h6⟩ := hs
        exact buildSlice_run hk h hd hfr.new hop hkd ht hds h1 h2 h4 h5 h3 h6.symm
      · exact hs.elim
    · exact hs.elim
  | makeSlice t l c =>
    rw [hop] at hs
    simp only [stepP] at hs
    split at hs
    · rename_i el kl l' kc c' hkd hl hc
      split at hs
      · rename_i te ht
        obtain ⟨⟨h1, h2, h3, h4, h5⟩, h6⟩ := hs
        exact makeSlice_run hk h hd hfr.new hop hkd ht hl hc h1 h2 h3 h4 h5 h6.symm
      · exact hs.elim
    · exact hs.elim
  | store t ad x =>
    rw [hop] at hs
    simp only [stepP] at hs
    split at hs
    · rename_i ti id k ht ha
      split at hs
      · rename_i cells hf
        obtain ⟨⟨h1, h2, h3, h4⟩, h5⟩ := hs
        exact storeRef_run hk h hd hop ht ha hf h1 h2 h3 h4 h5.symm
      · exact hs.elim
    · rename_i ti id ver s i k ht ha
      split at hs
      · rename_i ob d hf hxd
        split at hs
        · rename_i ob' hse
          obtain ⟨⟨h1, h2, h3, h4⟩, h5⟩ := hs
          exact storeElem_run hk h hd hop ht ha hf hxd hse h1 h2 h3 h4 h5.symm
        · exact hs.elim
      · exact hs.elim
    · exact hs.elim
  | call cl =>
    obtain ⟨cal, args, ts⟩ := cl
    cases cal with
    | value f =>
      rw [hop] at hs
      simp only [stepP] at hs
      split at hs
      · rename_i fid x y hcal
        obtain ⟨hg, ⟨L, ps, hp, r, h', give, hc⟩ | hc⟩ := hs
        · exact call_run h hd hfr hop hcal hg hc
        · exact over_run hk h hd hop hcal hg hc
      · exact hs.elim
    | invoke r m =>
      rw [hop] at hs
      simp only [stepP, computeP] at hs
    | builtin b =>
      cases b with
      | append =>
        rw [hop] at hs
        simp only [stepP] at hs
        split at hs
        · rename_i s x t t' e1 e2
          split at hs
          · rename_i el hkd hkd'
            split at hs
            · rename_i te id ver s' off len m ht hes hex
              split at hs
              · rename_i e' s'' ver' r els hf
                obtain ⟨⟨rfl, rfl, rfl, rfl, rfl, h6, h7, h8, h9, h10, h11, h12, h13⟩, h14⟩ := hs
                have ha : args = #[s, x] := by apply Array.ext'; simpa using e1
                have htt : ts = #[t, t'] := by apply Array.ext'; simpa using e2
                subst ha; subst htt
                exact appendMake_run hk h hd hfr hop hkd hkd' ht hes hex hf h6 h7 h8 h9 h10 h11 h12 h13 h14.symm
              · exact hs.elim
            · exact hs.elim
          · rename_i el hkd _
            split at hs
            · rename_i te dx ht hxd
              split at hs
              · rename_i new hnew
                obtain ⟨⟨rfl, hg, hsz, hone⟩, hs⟩ := hs
                have ha : args = #[s, x] := by apply Array.ext'; simpa using e1
                have htt : ts = #[t, t] := by apply Array.ext'; simpa using e2
                subst ha; subst htt
                have hse := h.evs s (gds_mem hg s (by simp))
                split at hs
                · rename_i es
                  obtain ⟨⟨h1, h2⟩, h3⟩ := hs
                  have hv : a.eval s = .slice none 0 0 := by have := hse.2; rw [es] at this; simpa only [PRep, DRep] using this
                  refine append_run hk h hd (len := 0) (ver := 0) (els := []) hop hkd ht hxd hnew hg hsz hone (fun v hv => absurd hv (hfr.new 0 v)) (.inr ⟨0, by omega, rfl⟩) (by simpa using h1) (by simpa using h2) (by simp) ?_ (by simpa using h3.symm)
                  refine ⟨none, 0, [], by rw [hv]; exact .nil rfl, .inl (by simp), .inl rfl⟩
                · rename_i id ver s' off len es
                  split at hs
                  · rename_i e' s'' ver' room els hf
                    rcases hs with hs | hs
                    rotate_left
                    · split at hs
                      · rename_i src n hsrc
                        obtain ⟨⟨rfl, rfl, rfl, rfl, rfl, rfl, h4, h5⟩, h6⟩ := hs
                        exact appendSame_run hk h hd hop hkd ht es hf hsrc h4 hsz h5 hg h6.symm
                      · exact hs.elim
                    obtain ⟨⟨rfl, rfl, rfl, rfl, rfl, hle, h63, hby, hid⟩, h3⟩ := hs
                    have h1 := h.give (st.evs x).ids
                    have hf1 : find id (delAll (st.evs x).ids st.heap) = some (.arr e' te.size ver' room els) := by
                      rw [find_delAll, if_neg (by simpa using hid)]; exact hf
                    have hr2 : PRep w (Held E φ (delAll (st.evs x).ids st.heap)) φ (.own id ver' te.size 0 len) (a.eval s) := by
                      have := hse.2; rw [es] at this; simpa only [PRep] using this
                    obtain ⟨ob, n, cs, q1, q2, q3⟩ := row_of_find (off := 0) (n := 0) (s' := 0) h1 hf1 hr2
                    rcases h3 with h3 | ⟨hroom, h3⟩
                    · refine append_run hk h hd (ver := ver' + 1) hop hkd ht hxd hnew hg hsz hone (fun v hv => Nat.lt_succ_of_le ((h.objs id _ hf).2.1 v hv)) (.inl ⟨_, (h.objs id _ hf).1⟩) h63 hby hle ?_ h3.symm
                      exact ⟨ob, n, cs, q1, .inl fun b hb => ⟨_, hf1, q2 b hb⟩, q3⟩
                    · refine append_run hk h hd (id := nid 0) (ver := 0) hop hkd ht hxd hnew hg hsz hone (fun v hv => absurd hv (hfr.new 0 v)) (.inr ⟨0, by omega, rfl⟩) h63 hby hle ?_ h3.symm
                      refine ⟨ob, n, cs, q1, .inr ?_, q3⟩
                      split at hroom
                      · rename_i r
                        have hn := row_room h1 hf1 hr2 q1
                        omega
                      · exact hroom.elim
                  · exact hs.elim
                · exact hs.elim
              · exact hs.elim
            · exact hs.elim
          · exact hs.elim
        · exact hs.elim
      | copy =>
        rw [hop] at hs
        simp only [stepP] at hs
        split at hs
        · rename_i d x t t' e1 e2
          split at hs
          · rename_i el hkd
            split at hs
            · rename_i te id ver s' off len ht hed
              split at hs
              · rename_i e' s'' ver' room els src n hf hsrc
                obtain ⟨⟨h0, rfl, rfl, rfl, h4, h5, h6, h7⟩, h8⟩ := hs
                have ha : args = #[d, x] := by apply Array.ext'; simpa using e1
                have htt : ts = #[t, t'] := by apply Array.ext'; simpa using e2
                subst ha; subst htt
                exact copy_run hk h hd hop hkd ht hed hf hsrc h0 h4 h5 h6 h7 h8.symm
              · exact hs.elim
            · exact hs.elim
          · exact hs.elim
        · exact hs.elim
      | clear =>
        rw [hop] at hs
        simp only [stepP] at hs
        split at hs
        · rename_i x t e1 e2
          split at hs
          · rename_i el hkd
            split at hs
            · rename_i te id ver s' off len ht hed
              split at hs
              · rename_i e' s'' ver' room els hf
                obtain ⟨⟨rfl, rfl, rfl, h4, h5, h6, h7⟩, h8⟩ := hs
                have ha : args = #[x] := by apply Array.ext'; simpa using e1
                have htt : ts = #[t] := by apply Array.ext'; simpa using e2
                subst ha; subst htt
                exact clear_run hk h hd hop hkd ht hed hf h4 h5 h6 h7 h8.symm
              · exact hs.elim
            · exact hs.elim
          · exact hs.elim
        · exact hs.elim
      | _ => rw [hop] at hs fallback; exact fallback hs
  | _ => rw [hop] at hs fallback; exact fallback hs
end

end Go.Proofs.Ytdodgbhodkcckaa.Pv
