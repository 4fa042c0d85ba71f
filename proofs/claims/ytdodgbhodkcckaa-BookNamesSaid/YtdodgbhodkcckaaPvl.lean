/- Appending to a row of one's own: the machine does what is told of it. No program is in sight here. -/
import Derived.Test.YtdodgbhodkcckaaPvk
set_option linter.unusedVariables false
set_option linter.unusedSectionVars false
set_option linter.unusedSimpArgs false
set_option autoImplicit false
namespace Go.Proofs.Ytdodgbhodkcckaa.Pv
open Go Go.RowKit

section
variable {P : Program} {w : World}

theorem run_append_none (t ty e : TypeId) (ht : P.underlying t = some (.slice e)) {i : TypeInfo} (hi : P.info? e = some i) (ad ax : Option Addr) (len n cx : Nat) (h : len ≤ n) :
    (Builtin.append_ #[t, t] ty #[.slice ad len n, .slice ax 0 cx]).run P w = .ok (.slice ad len n) w := by
  cases ax <;> cases ad <;> simp [Builtin.append_, run_underlying ht, sizeOf, typeInfo, hi, Builtin.lenOf, Builtin.firstCells, h, storeCells, loadCells, loadCellsFrom]

theorem run_append_make (t u ty e : TypeId) (i : TypeInfo) (z : Value) (ht : P.underlying t = some (.slice e)) (hu : P.underlying u = some (.int .i64)) (hi : P.info? e = some i) (hz : i.zero = some z)
    (b : Addr) (sLen sCap : Nat) (olds : List Value) (hlo : olds.length = sLen * i.size) (holds : ∀ j v, olds[j]? = some v → w.cell? (b.add j) = some v)
    (n : Nat) (hpos : n * i.size ≠ 0) (hb : (n : Int) * i.bytes ≤ 281474976710656) (hg : sCap < sLen + n) (h63 : ((sLen + n : Nat) : Int) ≤ 9223372036854775807) (hfit : Builtin.nextslicecap (sLen + n) sCap * i.bytes ≤ 281474976710656) :
    (Builtin.append_ #[t, u] ty #[.slice (some b) sLen sCap, .int .i64 n]).run P w =
      .ok (.slice (some ⟨w.heap.size, 0, none⟩) (sLen + n) (grownCap w (sLen + n) sCap e))
        (w.drew.alloc (.cells (olds.toArray ++ Builtin.zeroCells z.cells n ++ Builtin.zeroCells z.cells (grownCap w (sLen + n) sCap e - (sLen + n))) e)) := by
  have hn : ¬ (sLen + n ≤ sCap) := by omega
  have h63' : ¬ (9223372036854775807 < ((sLen : Int) + (n : Int))) := by omega
  have h48' : ¬ (281474976710656 < Builtin.nextslicecap (sLen + n) sCap * i.bytes) := by omega
  have h48'' : ¬ (281474976710656 < (n : Int) * i.bytes) := by omega
  have hw : IntKind.i64.wrap (n : Int) = n := by rw [IntKind.wrap_i64]; omega
  have hfo := run_firstCells_some (P := P) w.drew i.size sLen b sLen sCap olds hlo (by simpa using holds)
  have hneg : ¬ ((n : Int) < 0) := by omega
  have hp : ¬ (n = 0 ∨ i.size = 0) := by intro h; apply hpos; rcases h with h | h <;> simp [h]
  simp [Builtin.append_, run_underlying ht, run_underlying hu, sizeOf, typeInfo, zeroValue, hi, hz, Go.asInt, Go.asIntOf, hw, hn, h63', h48', h48'', Question.forced, hfo, newRow, grownCap, hpos, hneg]

/-- What a slice of one's own, from its row's first element on, is to the machine: its block, its room, the row's cells. -/
inductive OldRow (w : World) (e s len : Nat) : Option Nat → Nat → List Value → Value → Prop where
  | nil : len = 0 → OldRow w e s len none 0 [] (.slice none 0 0)
  | some (b n : Nat) (ad : Option Addr) (cs : List Value) : (n = 0 ∨ ad = some ⟨b, 0, none⟩) → len ≤ n → n ≤ maxLen → w.heap[b]? = some (.cells cs.toArray e (0, 0)) → cs.length = n * s → OldRow w e s len (some b) n cs (.slice ad len n)

theorem append_world {t ty e s : Nat} {i : TypeInfo} {z : Value} (ht : P.underlying t = some (.slice e)) (hi : P.info? e = some i) (hz : i.zero = some z) (hs : i.size = s) (hzs : z.cells.size = s) (hsz : 0 < s)
    {len n m cx : Nat} {ob : Option Nat} {cs news : List Value} {c : Value} {ax : Option Addr} (ho : OldRow w e s len ob n cs c) (hax : m = 0 ∨ ∃ ad, ax = some ad ∧ ∀ j v, news[j]? = some v → w.cell? (ad.add j) = some v)
    (hl : news.length = m * s) (h1 : ∀ v ∈ news, v.oneCell' = true) (h63 : len + m ≤ maxLen) (hby : (len + m) * i.bytes ≤ 140737488355328) :
    ∃ c' w', (Builtin.append_ #[t, t] ty #[c, .slice ax m cx]).run P w = .ok c' w' ∧ w'.os = w.os ∧ w'.tape = w.tape ∧ w'.output = w.output ∧ w.heap.size ≤ w'.heap.size ∧ (∀ b, b < w.heap.size → ob ≠ some b → w'.heap[b]? = w.heap[b]?) ∧
      ∃ ob' n' cs', OldRow w' e s (len + m) ob' n' cs' c' ∧ (ob' = none → ob = none) ∧ (∀ b, ob' = some b → b < w'.heap.size ∧ (w.heap.size ≤ b ∨ ob = some b)) ∧ cs'.take ((len + m) * s) = cs.take (len * s) ++ news ∧ (n < len + m → (∀ b, b < w.heap.size → w'.heap[b]? = w.heap[b]?) ∧ ∀ b, ob' = some b → w.heap.size ≤ b) := by
  subst hs
  by_cases hm : m = 0
  · subst hm
    have hn : news = [] := List.eq_nil_of_length_eq_zero (by simpa using hl)
    subst hn
    cases ho with
    | nil h0 =>
      refine ⟨_, w, run_append_none t ty e ht hi none ax 0 0 cx (Nat.le_refl _), rfl, rfl, rfl, Nat.le_refl _, fun _ _ _ => rfl, none, 0, [], ?_, fun h => h, by simp, by simp, fun hlt => by omega⟩
      exact .nil (by omega)
    | some b n ad cs had hln hnm hb hcs =>
      refine ⟨_, w, run_append_none t ty e ht hi ad ax len n cx hln, rfl, rfl, rfl, Nat.le_refl _, fun _ _ _ => rfl, _, n, cs, .some b n ad cs had hln hnm hb hcs, fun h => h, fun b' hb' => ?_, by simp, fun hlt => by omega⟩
      cases hb'
      exact ⟨(Array.getElem?_eq_some_iff.1 hb).1, .inr rfl⟩
  · obtain ⟨adx, rfl, hnews⟩ := hax.resolve_left hm
    have hbig : ((len + m : Nat) : Int) ≤ 9223372036854775807 := by simp only [maxLen] at h63; omega
    have grown : ∀ (old : Nat), ∀ olds : List Value, olds.length = len * i.size → ∃ cs' : List Value,
        OldRow (w.drew.alloc (.cells (olds.toArray ++ news.toArray ++ Builtin.zeroCells z.cells (grownCap w (len + m) old e - (len + m))) e)) e i.size (len + m) (some w.heap.size) (grownCap w (len + m) old e) cs' (.slice (some ⟨w.heap.size, 0, none⟩) (len + m) (grownCap w (len + m) old e)) ∧
        cs'.take ((len + m) * i.size) = olds ++ news := by
      intro old olds hol
      have hge := grownCap_ge w (len + m) old e
      refine ⟨(olds.toArray ++ news.toArray ++ Builtin.zeroCells z.cells (grownCap w (len + m) old e - (len + m))).toList, ?_, ?_⟩
      · refine .some w.heap.size _ _ _ (.inr rfl) hge (grownCap_le_maxLen w _ old e h63) (heap_alloc_new w.drew _) ?_
        rw [Array.length_toList]
        simp only [Array.size_append, List.size_toArray, size_zeroCells, hzs, hol, hl, ← Nat.add_mul]
        congr 1; omega
      · simp only [Array.toList_append, List.append_assoc]
        rw [← List.append_assoc, show (len + m) * i.size = (olds ++ news).length by rw [List.length_append, hol, hl, Nat.add_mul]]
        exact List.take_left
    have wnew : ∀ (A : Array Value), ∀ b, b < w.heap.size → (w.drew.alloc (.cells A e)).heap[b]? = w.heap[b]? := fun A b hb => heap_alloc_old w.drew _ b hb
    have nilcase : c = .slice none 0 0 → len = 0 → cs.take (len * i.size) = [] → ∃ c' w', (Builtin.append_ #[t, t] ty #[c, .slice (some adx) m cx]).run P w = .ok c' w' ∧ w'.os = w.os ∧ w'.tape = w.tape ∧ w'.output = w.output ∧ w.heap.size ≤ w'.heap.size ∧ (∀ b, b < w.heap.size → ob ≠ some b → w'.heap[b]? = w.heap[b]?) ∧
      ∃ ob' n' cs', OldRow w' e i.size (len + m) ob' n' cs' c' ∧ (ob' = none → ob = none) ∧ (∀ b, ob' = some b → b < w'.heap.size ∧ (w.heap.size ≤ b ∨ ob = some b)) ∧ cs'.take ((len + m) * i.size) = cs.take (len * i.size) ++ news ∧ (n < len + m → (∀ b, b < w.heap.size → w'.heap[b]? = w.heap[b]?) ∧ ∀ b, ob' = some b → w.heap.size ≤ b) := by
      intro hc h0 hcs
      subst hc; subst h0
      obtain ⟨cs', g1, g2⟩ := grown 0 [] (by simp)
      have hr := run_append_nil (P := P) w t ty e i z ht hi hz adx m cx news hl hnews (by omega) (by omega) (by simp only [Nat.zero_add] at hby; omega)
      have he : ([] : List Value).toArray ++ news.toArray = news.toArray := by simp
      rw [he] at g1
      simp only [Nat.zero_add] at g1 g2 hr ⊢
      refine ⟨_, _, hr, rfl, rfl, rfl, by simp, fun b hb _ => wnew _ b hb, some w.heap.size, _, cs', g1, by simp, fun b hb => ?_, by rw [g2]; simp, fun _ => ⟨fun b hb => wnew _ b hb, fun b hb => by cases hb; exact Nat.le_refl _⟩⟩
      cases hb; exact ⟨by simp, .inl (Nat.le_refl _)⟩
    cases ho with
    | nil h0 => exact nilcase rfl h0 (by simp)
    | some b n ad cs had hln hnm hb hcs =>
      have hblt := (Array.getElem?_eq_some_iff.1 hb).1
      by_cases hroom : len + m ≤ n
      · obtain rfl := had.resolve_left (by omega)
        have hfit : len * i.size + news.length ≤ cs.toArray.size := by simp only [List.size_toArray]; rw [hl, hcs, ← Nat.add_mul]; exact Nat.mul_le_mul_right _ hroom
        have hr := run_append_room (P := P) w t ty e i ht hi b len n cs.toArray hb adx m cx news hl hnews h1 hroom hfit
        have hsr := setRow_heap w b cs.toArray (cs.take (len * i.size) ++ news ++ cs.drop (len * i.size + news.length)).toArray e (0, 0) hb
        obtain ⟨m1, m2, m3, m4⟩ := setRow_mods w b (cs.take (len * i.size) ++ news ++ cs.drop (len * i.size + news.length)).toArray
        simp only [List.size_toArray] at hfit
        refine ⟨_, _, hr, m1, m2, m3, Nat.le_of_eq m4.symm, fun k _ hne => setRow_other w b k _ fun e => hne (by rw [e]), some b, n, _, .some b n _ _ (.inr rfl) hroom hnm hsr ?_, by simp, fun b' hb' => ?_, ?_, fun hlt => by omega⟩
        · simp only [List.length_append, List.length_take, List.length_drop]; omega
        · cases hb'; exact ⟨by rw [m4]; exact hblt, .inr rfl⟩
        · have hlen : (len + m) * i.size = (cs.take (len * i.size) ++ news).length := by
            rw [List.length_append, List.length_take, Nat.min_eq_left (by omega), hl, Nat.add_mul]
          rw [hlen]; exact List.take_left
      · cases ad with
        | none =>
          have hn0 : n = 0 := by rcases had with h | h; · exact h
                                 · cases h
          subst hn0
          have hl0 : len = 0 := by omega
          subst hl0
          exact nilcase rfl rfl (by simp)
        | some p =>
          have hol : (cs.take (len * i.size)).length = len * i.size := by
            rw [List.length_take, hcs, Nat.min_eq_left (Nat.mul_le_mul_right _ hln)]
          obtain ⟨cs', g1, g2⟩ := grown n (cs.take (len * i.size)) hol
          have holds : ∀ j v, (cs.take (len * i.size))[j]? = some v → w.cell? (p.add j) = some v := by
            intro j v hj
            rcases had with h0 | hp
            · subst h0
              have : len = 0 := by omega
              subst this; simp at hj
            · cases hp
              rw [addr_add, cell_of_row _ _ _ _ _ _ hb, Nat.zero_add]
              rw [List.getElem?_take] at hj
              split at hj
              · simpa using hj
              · cases hj
          have hr := run_append_grow (P := P) w t ty e i z ht hi hz p len n (cs.take (len * i.size)) hol holds adx m cx news hl hnews (by omega) hbig (growslice_fits (by omega) hby)
          refine ⟨_, _, hr, rfl, rfl, rfl, by simp, fun k hk _ => wnew _ k hk, some w.heap.size, _, cs', g1, by simp, fun b' hb' => ?_, g2, fun _ => ⟨fun b hb => wnew _ b hb, fun b hb => by cases hb; exact Nat.le_refl _⟩⟩
          cases hb'; exact ⟨by simp, .inl (Nat.le_refl _)⟩
end

section
variable {P : Program} {T : Nat → Option TI} {eqt : Nat → Option (List CK)} (hk : Kit P T eqt) {E : Env} {S : Nat → Nat → Prop} {φ : Nat → Nat → Option (Nat × Nat)} {st : St} {a : Act} {w : World} {o : Oper} {nid : Nat → Nat} {e : Eff} {Q : Exit → Act → World → Prop}

/-- Elements of a row whose first cells are those of old elements and of new ones. -/
theorem rows_join {O : Nat → Prop} {s b len : Nat} {els new : List D} {cs cs' news : List Value} (hs : 0 < s) (hold : len = 0 ∨ (len * s ≤ cs.length ∧ (∀ j v, cs[j]? = some v → w.cell? ⟨b, j, none⟩ = some v) ∧ DRepE w O b s els 0)) (hle : len ≤ els.length)
    (hnew : ∀ i x, new[i]? = some x → ∃ c, DRep w O x c ∧ c.cells.size = s ∧ ∀ j v, c.cells.toList[j]? = some v → news[i * s + j]? = some v) (hcs : cs'.take ((len + new.length) * s) = cs.take (len * s) ++ news) :
    ∀ i x, (els.take len ++ new)[i]? = some x → ∃ c, DRep w O x c ∧ c.cells.size = s ∧ ∀ j v, c.cells.toList[j]? = some v → cs'[i * s + j]? = some v := by
  have key : ∀ (i : Nat) (v : Value), (cs.take (len * s) ++ news)[i]? = some v → cs'[i]? = some v := by
    intro i v hi
    rw [← hcs, List.getElem?_take] at hi
    split at hi
    · exact hi
    · cases hi
  intro i x hi
  have htl : (els.take len).length = len := by simp; omega
  by_cases hil : i < len
  · rw [List.getElem?_append_left (by omega), List.getElem?_take, if_pos hil] at hi
    obtain ⟨hcl, hc1, hc2⟩ := hold.resolve_left (by omega)
    obtain ⟨c, g1, g2, g3⟩ := hc2.get hi
    refine ⟨c, g1, g2, fun j v hj => ?_⟩
    have hjl : j < s := by have := (List.getElem?_eq_some_iff.1 hj).1; simpa [g2] using this
    have hlt : i * s + j < len * s := by
      have : (i + 1) * s ≤ len * s := Nat.mul_le_mul_right _ hil
      rw [Nat.add_mul] at this; omega
    refine key _ _ ?_
    rw [List.getElem?_append_left (by rw [List.length_take]; omega), List.getElem?_take, if_pos hlt]
    have h1 := g3 j (by simpa [g2] using hjl)
    rw [Nat.zero_add] at h1
    have h2 := hc1 (i * s + j) _ (List.getElem?_eq_getElem (by omega))
    rw [h1] at h2
    obtain ⟨_, hv⟩ := List.getElem?_eq_some_iff.1 hj
    rw [List.getElem?_eq_getElem (by omega), ← hv]
    exact congrArg some (Option.some.inj h2).symm
  · rw [List.getElem?_append_right (by omega), htl] at hi
    obtain ⟨c, g1, g2, g3⟩ := hnew _ x hi
    refine ⟨c, g1, g2, fun j v hj => key _ _ ?_⟩
    have hlc : (cs.take (len * s)).length = len * s := by
      rcases hold with h0 | h0
      · subst h0; simp
      · rw [List.length_take, Nat.min_eq_left h0.1]
    have hmul : len * s ≤ i * s := Nat.mul_le_mul_right _ (by omega)
    rw [List.getElem?_append_right (by omega), hlc, ← g3 j v hj]
    congr 1
    rw [Nat.sub_mul]; omega

theorem row_of_old (h : Rst E S φ st a w) {w' : World} {id ver e s len' n' : Nat} {els' : List D} {ob ob' : Option Nat} {cs' : List Value} {c' : Value} (hos : w'.os = w.os) (htape : w'.tape = w.tape) (hout : w'.output = w.output) (hsize : w.heap.size ≤ w'.heap.size)
    (hblock : ∀ b, b < w.heap.size → ob ≠ some b → w'.heap[b]? = w.heap[b]?) (hob : ∀ b, ob = some b → ∃ o, find id st.heap = some o ∧ blk φ id o = some b) (hver : ∀ v, S id v → v < ver)
    (hold : OldRow w' e s len' ob' n' cs' c') (hnone : ob' = none → ob = none) (hb : ∀ b, ob' = some b → b < w'.heap.size ∧ (w.heap.size ≤ b ∨ ob = some b)) (hlen : els'.length = len')
    (hr : ∀ i x, els'[i]? = some x → ∃ c, DRep w (Held E φ st.heap) x c ∧ c.cells.size = s ∧ ∀ j v, c.cells.toList[j]? = some v → cs'[i * s + j]? = some v) :
    ∃ φ', (∀ i v, S i v → φ' i v = φ i v) ∧ Rst E (also S id ver) φ' { st with heap := upd id (.arr e s ver none els') st.heap } a w' ∧ PRep w' (Held E φ' (upd id (.arr e s ver none els') st.heap)) φ' (.own id ver s 0 len') c' := by
  cases hold with
  | nil h0 =>
    have hob0 := hnone rfl
    subst hob0
    have : els' = [] := List.eq_nil_of_length_eq_zero (by omega)
    subst this
    have hg : Rst E S φ st a w' := h.grow ⟨hos, htape, hout, hsize, fun b hb => hblock b hb (by simp)⟩
    refine ⟨_, phi_old (fun hc => Nat.lt_irrefl _ (hver _ hc)), hg.nilRow hver e s, ?_⟩
    simp only [PRep]
    exact .inl ⟨phi_same .., trivial, h0, trivial⟩
  | some b n ad cs had hln hnm hobj hcs =>
    obtain ⟨hb1, hb2⟩ := hb b rfl
    refine ⟨_, phi_old (fun hc => Nat.lt_irrefl _ (hver _ hc)), h.row (ver := ver) (b := b) (n := n') (room := none) (els := els') hos htape hout hsize (fun c hc hno => hblock c hc fun e => ?_) hver hb1 ?_ hobj (by omega) hnm (by simp) hcs hr, ?_⟩
    · obtain ⟨o, h1, h2⟩ := hob c e
      exact hno o h1 h2
    · rcases hb2 with h1 | h1
      · exact .inl h1
      · exact .inr (hob b h1)
    · simp only [PRep]
      refine .inr ⟨b, n', ad, phi_same .., by omega, by simp, ?_⟩
      rw [Nat.zero_mul]
      rcases had with h1 | h1
      · exact .inl (by omega)
      · exact .inr h1

include hk in
theorem append_run (h : Rst E S φ st a w) (hd : ∀ d, o.dst = some d → d < a.tmps.size) {t el id ver len : Nat} {te : TI} {s x : Operand} {dx : D} {new els : List D} (hop : o.op = .call ⟨.builtin .append, #[s, x], #[t, t]⟩)
    (hkd : kindOf T t = some (.slice el)) (ht : T el = some te) (hxd : (st.evs x).toD st.heap = some dx) (hnew : asSlc te.size (.d dx) = some new) (hg : st.gds [s, x]) (hsz : 0 < te.size) (hone : ∀ d ∈ new, d.cells.all D.one = true)
    (hver : ∀ v, S id v → v < ver) (hfree : (∃ v, S id v) ∨ ∃ j, j < 4 ∧ id = nid j) (h63 : len + new.length ≤ maxLen) (hby : (len + new.length) * te.bytes ≤ 140737488355328) (hle : len ≤ els.length)
    (hold : ∃ ob n cs, OldRow w el te.size len ob n cs (a.eval s) ∧ ((∀ b, ob = some b → ∃ o, find id (delAll (st.evs x).ids st.heap) = some o ∧ blk φ id o = some b) ∨ n < len + new.length) ∧
      (len = 0 ∨ ∃ b, len * te.size ≤ cs.length ∧ (∀ j v, cs[j]? = some v → w.cell? ⟨b, j, none⟩ = some v) ∧ DRepE w (Held E φ (delAll (st.evs x).ids st.heap)) b te.size els 0))
    (he : e = ⟨.own id ver te.size 0 (len + new.length), (st.evs x).ids, [(id, .arr el te.size ver none (els.take len ++ new))]⟩) : o.wp P a w (After E S φ st a.tmps.size nid o.dst e) Q := by
  subst he
  have hun : P.underlying t = some (.slice el) := desc_of hk.tb hkd
  obtain ⟨inf, hi, hs, hb, hz⟩ := (hk.tb el te ht).info
  have hzs := (hk.tb el te ht).zsize
  obtain ⟨ux, rx⟩ := h.evs x (gds_mem hg x (by simp))
  have rd := h.giveD (ids := (st.evs x).ids) (fun i hi => hi) hxd rx
  have h1 := h.give (st.evs x).ids
  obtain ⟨ax, cx, hxv, hcx, hxe⟩ := asSlc_rep (w := w) (O := Held E φ (delAll (st.evs x).ids st.heap)) (φ := φ) (p := .d dx) hnew (by simpa only [PRep] using rd)
  obtain ⟨ob, n, cs, hold, hob, hels⟩ := hold
  have hnews : ∃ news : List Value, news.length = new.length * te.size ∧ (new.length = 0 ∨ ∃ ad, ax = some ad ∧ ∀ j v, news[j]? = some v → w.cell? (ad.add j) = some v) ∧ (∀ v ∈ news, v.oneCell' = true) ∧
      (∀ i y, new[i]? = some y → ∃ c, DRep w (Held E φ (delAll (st.evs x).ids st.heap)) y c ∧ c.cells.size = te.size ∧ ∀ j v, c.cells.toList[j]? = some v → news[i * te.size + j]? = some v) := by
    rcases hxe with h0 | ⟨b, off, hax, _, _, hE⟩
    · exact ⟨[], by simp [h0], .inl (by simp [h0]), by simp, by simp [h0]⟩
    · obtain ⟨news, q1, q2, q3, q4⟩ := hE.cells hone
      exact ⟨news, q1, .inr ⟨_, hax, fun j v hj => getElem?_cells q2 hj⟩, q3, q4⟩
  obtain ⟨news, q1, q2, q3, q4⟩ := hnews
  obtain ⟨c', w', r1, r2, r3, r4, r5, r6, ob', n', cs', r7, r8, r9, r10, r11⟩ := append_world (P := P) (ty := o.type) (cx := cx) hun hi hz hs hzs hsz hold q2 q1 q3 h63 (by rw [hb]; exact hby)
  have hj : ∀ i y, (els.take len ++ new)[i]? = some y → ∃ c, DRep w (Held E φ (delAll (st.evs x).ids st.heap)) y c ∧ c.cells.size = te.size ∧ ∀ j v, c.cells.toList[j]? = some v → cs'[i * te.size + j]? = some v := by
    rcases hels with h0 | ⟨b, hels⟩
    · exact rows_join (b := 0) hsz (.inl h0) hle q4 r10
    · exact rows_join hsz (.inr hels) hle q4 r10
  have hrow : ∃ φ', (∀ i v, S i v → φ' i v = φ i v) ∧ Rst E (also S id ver) φ' { st with heap := upd id (.arr el te.size ver none (els.take len ++ new)) (delAll (st.evs x).ids st.heap) } a w' ∧ PRep w' (Held E φ' (upd id (.arr el te.size ver none (els.take len ++ new)) (delAll (st.evs x).ids st.heap))) φ' (.own id ver te.size 0 (len + new.length)) c' := by
    rcases hob with hob | hlt
    · exact row_of_old h1 r2 r3 r4 r5 r6 hob hver r7 r8 r9 (by simp; omega) hj
    · exact row_of_old (ob := none) h1 r2 r3 r4 r5 (fun b hb _ => (r11 hlt).1 b hb) (by simp) hver r7 (fun _ => rfl) (fun b hb => ⟨(r9 b hb).1, .inl ((r11 hlt).2 b hb)⟩) (by simp; omega) hj
  obtain ⟨φ', g0, g1, g2⟩ := hrow
  refine wp_value (c := c') (w' := w') ?_ ?_
  · simp only [execOp, hop, resolve, invoke, builtin, Sem.run_bind, Sem.run_pure, Result.andThen_ok, List.map_toArray, List.map_cons, List.map_nil, hxv, r1]
  · refine Rst.after (by simpa [updAll] using g1) hd ?_ (by simpa [updAll] using g2) (fun i v h => ⟨.inl h, g0 i v h⟩) (also_new hfree)
    simp only [PVal.und]; exact .inr ⟨rfl, rfl⟩
end

end Go.Proofs.Ytdodgbhodkcckaa.Pv
