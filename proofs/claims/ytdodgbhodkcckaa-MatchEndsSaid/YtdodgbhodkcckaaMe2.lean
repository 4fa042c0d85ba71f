/- A part of the proof: the machine of plain values and walks of functions. -/
import Derived.Lib.Overlaps
import Derived.Test.YtdodgbhodkcckaaMe1
section
section
set_option linter.unusedVariables false
set_option linter.unusedSectionVars false
set_option linter.unusedSimpArgs false
set_option autoImplicit false
namespace Go.Proofs.Ytdodgbhodkcckaa.Pv
open Go Go.RowKit
section
variable {P : Program} {w : World}
theorem run_append_none (t ty e : TypeId) (ht : P.underlying t = some (.slice e)) {i : TypeInfo} (hi : P.info? e = some i) (ad ax : Option Addr) (len n cx : Nat) (h : len ≤ n) :
    (Builtin.append_ #[t, t] ty #[.slice ad len n, .slice ax 0 cx]).run P w = .ok (.slice ad len n) w := by
  cases ax <;> cases ad <;> simp [Builtin.append_, run_underlying ht, sizeOf, typeInfo, hi, Builtin.lenOf, Builtin.firstCells, h, storeCells, loadCells, loadCellsFrom]
theorem run_append_make (t u ty e : TypeId) (i : TypeInfo) (z : Value) (ht : P.underlying t = some (.slice e)) (hu : P.underlying u = some (.int .i64)) (hi : P.info? e = some i) (hz : i.zero = some z)
    (b : Addr) (sLen sCap : Nat) (olds : List Value) (hlo : olds.length = sLen * i.size) (holds : ∀ j v, olds[j]? = some v → w.cell? (b.add j) = some v)
    (n : Nat) (hpos : n * i.size ≠ 0) (hb : (n : Int) * i.bytes ≤ 281474976710656) (hg : sCap < sLen + n) (h63 : ((sLen + n : Nat) : Int) ≤ 9223372036854775807) (hfit : Builtin.nextslicecap (sLen + n) sCap * i.bytes ≤ 281474976710656) :
    (Builtin.append_ #[t, u] ty #[.slice (some b) sLen sCap, .int .i64 n]).run P w =
      .ok (.slice (some ⟨w.heap.size, 0, none⟩) (sLen + n) (grownCap w (sLen + n) sCap e))
        (w.drew.alloc (.cells (olds.toArray ++ Builtin.zeroCells z.cells n ++ Builtin.zeroCells z.cells (grownCap w (sLen + n) sCap e - (sLen + n))) e)) := by
  have hn : ¬ (sLen + n ≤ sCap) := by omega
  have h63' : ¬ (9223372036854775807 < ((sLen : Int) + (n : Int))) := by omega
  have h48' : ¬ (281474976710656 < Builtin.nextslicecap (sLen + n) sCap * i.bytes) := by omega
  have h48'' : ¬ (281474976710656 < (n : Int) * i.bytes) := by omega
  have hw : IntKind.i64.wrap (n : Int) = n := by rw [IntKind.wrap_i64]; omega
  have hfo := run_firstCells_some (P := P) w.drew i.size sLen b sLen sCap olds hlo (by simpa using holds)
  have hneg : ¬ ((n : Int) < 0) := by omega
  have hp : ¬ (n = 0 ∨ i.size = 0) := by intro h; apply hpos; rcases h with h | h <;> simp [h]
  simp [Builtin.append_, run_underlying ht, run_underlying hu, sizeOf, typeInfo, zeroValue, hi, hz, Go.asInt, Go.asIntOf, hw, hn, h63', h48', h48'', Question.forced, hfo, newRow, grownCap, hpos, hneg]
inductive OldRow (w : World) (e s len : Nat) : Option Nat → Nat → List Value → Value → Prop where
  | nil : len = 0 → OldRow w e s len none 0 [] (.slice none 0 0)
  | some (b n : Nat) (ad : Option Addr) (cs : List Value) : (n = 0 ∨ ad = some ⟨b, 0, none⟩) → len ≤ n → n ≤ maxLen → w.heap[b]? = some (.cells cs.toArray e (0, 0)) → cs.length = n * s → OldRow w e s len (some b) n cs (.slice ad len n)
theorem append_world {t ty e s : Nat} {i : TypeInfo} {z : Value} (ht : P.underlying t = some (.slice e)) (hi : P.info? e = some i) (hz : i.zero = some z) (hs : i.size = s) (hzs : z.cells.size = s) (hsz : 0 < s)
    {len n m cx : Nat} {ob : Option Nat} {cs news : List Value} {c : Value} {ax : Option Addr} (ho : OldRow w e s len ob n cs c) (hax : m = 0 ∨ ∃ ad, ax = some ad ∧ ∀ j v, news[j]? = some v → w.cell? (ad.add j) = some v)
    (hl : news.length = m * s) (h1 : ∀ v ∈ news, v.oneCell' = true) (h63 : len + m ≤ maxLen) (hby : (len + m) * i.bytes ≤ 140737488355328) :
    ∃ c' w', (Builtin.append_ #[t, t] ty #[c, .slice ax m cx]).run P w = .ok c' w' ∧ w'.os = w.os ∧ w'.tape = w.tape ∧ w'.output = w.output ∧ w.heap.size ≤ w'.heap.size ∧ (∀ b, b < w.heap.size → ob ≠ some b → w'.heap[b]? = w.heap[b]?) ∧
      ∃ ob' n' cs', OldRow w' e s (len + m) ob' n' cs' c' ∧ (ob' = none → ob = none) ∧ (∀ b, ob' = some b → b < w'.heap.size ∧ (w.heap.size ≤ b ∨ ob = some b)) ∧ cs'.take ((len + m) * s) = cs.take (len * s) ++ news ∧ (n < len + m → (∀ b, b < w.heap.size → w'.heap[b]? = w.heap[b]?) ∧ ∀ b, ob' = some b → w.heap.size ≤ b) := by
  subst hs
  by_cases hm : m = 0
  · subst hm
    have hn : news = [] := List.eq_nil_of_length_eq_zero (by simpa using hl)
    subst hn
    cases ho with
    | nil h0 =>
      refine ⟨_, w, run_append_none t ty e ht hi none ax 0 0 cx (Nat.le_refl _), rfl, rfl, rfl, Nat.le_refl _, fun _ _ _ => rfl, none, 0, [], ?_, fun h => h, by simp, by simp, fun hlt => by omega⟩
      exact .nil (by omega)
    | some b n ad cs had hln hnm hb hcs =>
      refine ⟨_, w, run_append_none t ty e ht hi ad ax len n cx hln, rfl, rfl, rfl, Nat.le_refl _, fun _ _ _ => rfl, _, n, cs, .some b n ad cs had hln hnm hb hcs, fun h => h, fun b' hb' => ?_, by simp, fun hlt => by omega⟩
      cases hb'
      exact ⟨(Array.getElem?_eq_some_iff.1 hb).1, .inr rfl⟩
  · obtain ⟨adx, rfl, hnews⟩ := hax.resolve_left hm
    have hbig : ((len + m : Nat) : Int) ≤ 9223372036854775807 := by simp only [maxLen] at h63; omega
    have grown : ∀ (old : Nat), ∀ olds : List Value, olds.length = len * i.size → ∃ cs' : List Value,
        OldRow (w.drew.alloc (.cells (olds.toArray ++ news.toArray ++ Builtin.zeroCells z.cells (grownCap w (len + m) old e - (len + m))) e)) e i.size (len + m) (some w.heap.size) (grownCap w (len + m) old e) cs' (.slice (some ⟨w.heap.size, 0, none⟩) (len + m) (grownCap w (len + m) old e)) ∧
        cs'.take ((len + m) * i.size) = olds ++ news := by
      intro old olds hol
      have hge := grownCap_ge w (len + m) old e
      refine ⟨(olds.toArray ++ news.toArray ++ Builtin.zeroCells z.cells (grownCap w (len + m) old e - (len + m))).toList, ?_, ?_⟩
      · refine .some w.heap.size _ _ _ (.inr rfl) hge (grownCap_le_maxLen w _ old e h63) (heap_alloc_new w.drew _) ?_
        rw [Array.length_toList]
        simp only [Array.size_append, List.size_toArray, size_zeroCells, hzs, hol, hl, ← Nat.add_mul]
        congr 1; omega
      · simp only [Array.toList_append, List.append_assoc]
        rw [← List.append_assoc, show (len + m) * i.size = (olds ++ news).length by rw [List.length_append, hol, hl, Nat.add_mul]]
        exact List.take_left
    have wnew : ∀ (A : Array Value), ∀ b, b < w.heap.size → (w.drew.alloc (.cells A e)).heap[b]? = w.heap[b]? := fun A b hb => heap_alloc_old w.drew _ b hb
    have nilcase : c = .slice none 0 0 → len = 0 → cs.take (len * i.size) = [] → ∃ c' w', (Builtin.append_ #[t, t] ty #[c, .slice (some adx) m cx]).run P w = .ok c' w' ∧ w'.os = w.os ∧ w'.tape = w.tape ∧ w'.output = w.output ∧ w.heap.size ≤ w'.heap.size ∧ (∀ b, b < w.heap.size → ob ≠ some b → w'.heap[b]? = w.heap[b]?) ∧
      ∃ ob' n' cs', OldRow w' e i.size (len + m) ob' n' cs' c' ∧ (ob' = none → ob = none) ∧ (∀ b, ob' = some b → b < w'.heap.size ∧ (w.heap.size ≤ b ∨ ob = some b)) ∧ cs'.take ((len + m) * i.size) = cs.take (len * i.size) ++ news ∧ (n < len + m → (∀ b, b < w.heap.size → w'.heap[b]? = w.heap[b]?) ∧ ∀ b, ob' = some b → w.heap.size ≤ b) := by
      intro hc h0 hcs
      subst hc; subst h0
      obtain ⟨cs', g1, g2⟩ := grown 0 [] (by simp)
      have hr := run_append_nil (P := P) w t ty e i z ht hi hz adx m cx news hl hnews (by omega) (by omega) (by simp only [Nat.zero_add] at hby; omega)
      have he : ([] : List Value).toArray ++ news.toArray = news.toArray := by simp
      rw [he] at g1
      simp only [Nat.zero_add] at g1 g2 hr ⊢
      refine ⟨_, _, hr, rfl, rfl, rfl, by simp, fun b hb _ => wnew _ b hb, some w.heap.size, _, cs', g1, by simp, fun b hb => ?_, by rw [g2]; simp, fun _ => ⟨fun b hb => wnew _ b hb, fun b hb => by cases hb; exact Nat.le_refl _⟩⟩
      cases hb; exact ⟨by simp, .inl (Nat.le_refl _)⟩
    cases ho with
    | nil h0 => exact nilcase rfl h0 (by simp)
    | some b n ad cs had hln hnm hb hcs =>
      have hblt := (Array.getElem?_eq_some_iff.1 hb).1
      by_cases hroom : len + m ≤ n
      · obtain rfl := had.resolve_left (by omega)
        have hfit : len * i.size + news.length ≤ cs.toArray.size := by simp only [List.size_toArray]; rw [hl, hcs, ← Nat.add_mul]; exact Nat.mul_le_mul_right _ hroom
        have hr := run_append_room (P := P) w t ty e i ht hi b len n cs.toArray hb adx m cx news hl hnews h1 hroom hfit
        have hsr := setRow_heap w b cs.toArray (cs.take (len * i.size) ++ news ++ cs.drop (len * i.size + news.length)).toArray e (0, 0) hb
        obtain ⟨m1, m2, m3, m4⟩ := setRow_mods w b (cs.take (len * i.size) ++ news ++ cs.drop (len * i.size + news.length)).toArray
        simp only [List.size_toArray] at hfit
        refine ⟨_, _, hr, m1, m2, m3, Nat.le_of_eq m4.symm, fun k _ hne => setRow_other w b k _ fun e => hne (by rw [e]), some b, n, _, .some b n _ _ (.inr rfl) hroom hnm hsr ?_, by simp, fun b' hb' => ?_, ?_, fun hlt => by omega⟩
        · simp only [List.length_append, List.length_take, List.length_drop]; omega
        · cases hb'; exact ⟨by rw [m4]; exact hblt, .inr rfl⟩
        · have hlen : (len + m) * i.size = (cs.take (len * i.size) ++ news).length := by
            rw [List.length_append, List.length_take, Nat.min_eq_left (by omega), hl, Nat.add_mul]
          rw [hlen]; exact List.take_left
      · cases ad with
        | none =>
          have hn0 : n = 0 := by rcases had with h | h; · exact h
                                 · cases h
          subst hn0
          have hl0 : len = 0 := by omega
          subst hl0
          exact nilcase rfl rfl (by simp)
        | some p =>
          have hol : (cs.take (len * i.size)).length = len * i.size := by
            rw [List.length_take, hcs, Nat.min_eq_left (Nat.mul_le_mul_right _ hln)]
          obtain ⟨cs', g1, g2⟩ := grown n (cs.take (len * i.size)) hol
          have holds : ∀ j v, (cs.take (len * i.size))[j]? = some v → w.cell? (p.add j) = some v := by
            intro j v hj
            rcases had with h0 | hp
            · subst h0
              have : len = 0 := by omega
              subst this; simp at hj
            · cases hp
              rw [addr_add, cell_of_row _ _ _ _ _ _ hb, Nat.zero_add]
              rw [List.getElem?_take] at hj
              split at hj
              · simpa using hj
              · cases hj
          have hr := run_append_grow (P := P) w t ty e i z ht hi hz p len n (cs.take (len * i.size)) hol holds adx m cx news hl hnews (by omega) hbig (growslice_fits (by omega) hby)
          refine ⟨_, _, hr, rfl, rfl, rfl, by simp, fun k hk _ => wnew _ k hk, some w.heap.size, _, cs', g1, by simp, fun b' hb' => ?_, g2, fun _ => ⟨fun b hb => wnew _ b hb, fun b hb => by cases hb; exact Nat.le_refl _⟩⟩
          cases hb'; exact ⟨by simp, .inl (Nat.le_refl _)⟩
end
section
variable {P : Program} {w : World}
theorem run_append_room_off (t ty e : TypeId) (i : TypeInfo) (ht : P.underlying t = some (.slice e)) (hi : P.info? e = some i)
    (g off sLen sCap : Nat) (cur : Array Value) (hg : w.heap[g]? = some (.cells cur e (0, 0)))
    (a : Addr) (m c : Nat) (news : List Value) (hl : news.length = m * i.size) (hnews : ∀ j u, news[j]? = some u → w.cell? (a.add j) = some u) (h1 : ∀ u ∈ news, u.oneCell' = true)
    (hroom : sLen + m ≤ sCap) (hfit : off + sLen * i.size + news.length ≤ cur.size) :
    (Builtin.append_ #[t, t] ty #[.slice (some ⟨g, off, none⟩) sLen sCap, .slice (some a) m c]).run P w =
      .ok (.slice (some ⟨g, off, none⟩) (sLen + m) sCap) (w.setRow g (cur.toList.take (off + sLen * i.size) ++ news ++ cur.toList.drop (off + sLen * i.size + news.length)).toArray) := by
  have hf := run_firstCells_some (P := P) w i.size m a m c news hl hnews
  have hst := run_storeCells_at P g (off + sLen * i.size) e news 0 cur w hg (by simpa using hfit) h1
  simp only [Nat.add_zero] at hst
  simp [Builtin.append_, run_underlying ht, sizeOf, typeInfo, hi, Builtin.lenOf, hroom, hf, Addr.add_lit, hst]
theorem append_world_new {t ty e s : Nat} {i : TypeInfo} {z : Value} (ht : P.underlying t = some (.slice e)) (hi : P.info? e = some i) (hz : i.zero = some z) (hs : i.size = s) (hzs : z.cells.size = s) (hsz : 0 < s)
    {len cap m cx : Nat} {olds news : List Value} {ad ax : Option Addr} (hlc : len ≤ cap) (hcap : cap < len + m) (hcm : cap ≤ maxLen) (hol : olds.length = len * s) (hold : len = 0 ∨ ∃ p, ad = some p ∧ ∀ j v, olds[j]? = some v → w.cell? (p.add j) = some v)
    (hc0 : ad = none → cap = 0) (hax : m = 0 ∨ ∃ ad, ax = some ad ∧ ∀ j v, news[j]? = some v → w.cell? (ad.add j) = some v)
    (hl : news.length = m * s) (h1 : ∀ v ∈ news, v.oneCell' = true) (h63 : len + m ≤ maxLen) (hby : (len + m) * i.bytes ≤ 140737488355328) :
    ∃ c' w', (Builtin.append_ #[t, t] ty #[.slice ad len cap, .slice ax m cx]).run P w = .ok c' w' ∧ w'.os = w.os ∧ w'.tape = w.tape ∧ w'.output = w.output ∧ w.heap.size ≤ w'.heap.size ∧ (∀ b, b < w.heap.size → w'.heap[b]? = w.heap[b]?) ∧
      ∃ b' n' cs', OldRow w' e s (len + m) (some b') n' cs' c' ∧ w.heap.size ≤ b' ∧ b' < w'.heap.size ∧ cs'.take ((len + m) * s) = olds ++ news := by
  subst hs
  have hm : m ≠ 0 := by omega
  obtain ⟨adx, rfl, hnews⟩ := hax.resolve_left hm
  have hbig : ((len + m : Nat) : Int) ≤ 9223372036854775807 := by simp only [maxLen] at h63; omega
  have grown : ∀ (old : Nat), ∃ cs' : List Value,
      OldRow (w.drew.alloc (.cells (olds.toArray ++ news.toArray ++ Builtin.zeroCells z.cells (grownCap w (len + m) old e - (len + m))) e)) e i.size (len + m) (some w.heap.size) (grownCap w (len + m) old e) cs' (.slice (some ⟨w.heap.size, 0, none⟩) (len + m) (grownCap w (len + m) old e)) ∧
      cs'.take ((len + m) * i.size) = olds ++ news := by
    intro old
    have hge := grownCap_ge w (len + m) old e
    refine ⟨(olds.toArray ++ news.toArray ++ Builtin.zeroCells z.cells (grownCap w (len + m) old e - (len + m))).toList, ?_, ?_⟩
    · refine .some w.heap.size _ _ _ (.inr rfl) hge (grownCap_le_maxLen w _ old e h63) (heap_alloc_new w.drew _) ?_
      rw [Array.length_toList]
      simp only [Array.size_append, List.size_toArray, size_zeroCells, hzs, hol, hl, ← Nat.add_mul]
      congr 1; omega
    · simp only [Array.toList_append, List.append_assoc]
      rw [← List.append_assoc, show (len + m) * i.size = (olds ++ news).length by rw [List.length_append, hol, hl, Nat.add_mul]]
      exact List.take_left
  have wnew : ∀ (A : Array Value), ∀ b, b < w.heap.size → (w.drew.alloc (.cells A e)).heap[b]? = w.heap[b]? := fun A b hb => heap_alloc_old w.drew _ b hb
  cases ad with
  | none =>
    have h0 := hc0 rfl
    subst h0
    obtain rfl : len = 0 := by omega
    obtain rfl : olds = [] := List.eq_nil_of_length_eq_zero (by simpa using hol)
    obtain ⟨cs', g1, g2⟩ := grown 0
    have hr := run_append_nil (P := P) w t ty e i z ht hi hz adx m cx news hl hnews (by omega) (by omega) (by simp only [Nat.zero_add] at hby; omega)
    have he : ([] : List Value).toArray ++ news.toArray = news.toArray := by simp
    rw [he] at g1
    simp only [Nat.zero_add] at g1 g2 hr ⊢
    exact ⟨_, _, hr, rfl, rfl, rfl, by simp, fun b hb => wnew _ b hb, w.heap.size, _, cs', g1, Nat.le_refl _, by simp, by rw [g2]⟩
  | some p =>
    obtain ⟨cs', g1, g2⟩ := grown cap
    have holds : ∀ j v, olds[j]? = some v → w.cell? (p.add j) = some v := by
      rcases hold with h0 | ⟨q, hq, h⟩
      · subst h0
        obtain rfl : olds = [] := List.eq_nil_of_length_eq_zero (by simpa using hol)
        simp
      · cases hq; exact h
    have hr := run_append_grow (P := P) w t ty e i z ht hi hz p len cap olds hol holds adx m cx news hl hnews hcap hbig (growslice_fits (by omega) hby)
    exact ⟨_, _, hr, rfl, rfl, rfl, by simp, fun k hk => wnew _ k hk, w.heap.size, _, cs', g1, Nat.le_refl _, by simp, g2⟩
end
section
variable {P : Program} {T : Nat → Option TI} {eqt : Nat → Option (List CK)} (hk : Kit P T eqt) {E : Env} {S : Nat → Nat → Prop} {φ : Nat → Nat → Option (Nat × Nat)} {st : St} {a : Act} {w : World} {o : Oper} {nid : Nat → Nat} {e : Eff} {Q : Exit → Act → World → Prop}
theorem rows_join {O : Nat → Prop} {s b len : Nat} {els new : List D} {cs cs' news : List Value} (hs : 0 < s) (hold : len = 0 ∨ (len * s ≤ cs.length ∧ (∀ j v, cs[j]? = some v → w.cell? ⟨b, j, none⟩ = some v) ∧ DRepE w O b s els 0)) (hle : len ≤ els.length)
    (hnew : ∀ i x, new[i]? = some x → ∃ c, DRep w O x c ∧ c.cells.size = s ∧ ∀ j v, c.cells.toList[j]? = some v → news[i * s + j]? = some v) (hcs : cs'.take ((len + new.length) * s) = cs.take (len * s) ++ news) :
    ∀ i x, (els.take len ++ new)[i]? = some x → ∃ c, DRep w O x c ∧ c.cells.size = s ∧ ∀ j v, c.cells.toList[j]? = some v → cs'[i * s + j]? = some v := by
  have key : ∀ (i : Nat) (v : Value), (cs.take (len * s) ++ news)[i]? = some v → cs'[i]? = some v := by
    intro i v hi
    rw [← hcs, List.getElem?_take] at hi
    split at hi
    · exact hi
    · cases hi
  intro i x hi
  have htl : (els.take len).length = len := by simp; omega
  by_cases hil : i < len
  · rw [List.getElem?_append_left (by omega), List.getElem?_take, if_pos hil] at hi
    obtain ⟨hcl, hc1, hc2⟩ := hold.resolve_left (by omega)
    obtain ⟨c, g1, g2, g3⟩ := hc2.get hi
    refine ⟨c, g1, g2, fun j v hj => ?_⟩
    have hjl : j < s := by have := (List.getElem?_eq_some_iff.1 hj).1; simpa [g2] using this
    have hlt : i * s + j < len * s := by
      have : (i + 1) * s ≤ len * s := Nat.mul_le_mul_right _ hil
      rw [Nat.add_mul] at this; omega
    refine key _ _ ?_
    rw [List.getElem?_append_left (by rw [List.length_take]; omega), List.getElem?_take, if_pos hlt]
    have h1 := g3 j (by simpa [g2] using hjl)
    rw [Nat.zero_add] at h1
    have h2 := hc1 (i * s + j) _ (List.getElem?_eq_getElem (by omega))
    rw [h1] at h2
    obtain ⟨_, hv⟩ := List.getElem?_eq_some_iff.1 hj
    rw [List.getElem?_eq_getElem (by omega), ← hv]
    exact congrArg some (Option.some.inj h2).symm
  · rw [List.getElem?_append_right (by omega), htl] at hi
    obtain ⟨c, g1, g2, g3⟩ := hnew _ x hi
    refine ⟨c, g1, g2, fun j v hj => key _ _ ?_⟩
    have hlc : (cs.take (len * s)).length = len * s := by
      rcases hold with h0 | h0
      · subst h0; simp
      · rw [List.length_take, Nat.min_eq_left h0.1]
    have hmul : len * s ≤ i * s := Nat.mul_le_mul_right _ (by omega)
    rw [List.getElem?_append_right (by omega), hlc, ← g3 j v hj]
    congr 1
    rw [Nat.sub_mul]; omega
theorem row_of_old (h : Rst E S φ st a w) {w' : World} {id ver e s len' n' : Nat} {els' : List D} {ob ob' : Option Nat} {cs' : List Value} {c' : Value} (hos : w'.os = w.os) (htape : w'.tape = w.tape) (hout : w'.output = w.output) (hsize : w.heap.size ≤ w'.heap.size)
    (hblock : ∀ b, b < w.heap.size → ob ≠ some b → w'.heap[b]? = w.heap[b]?) (hob : ∀ b, ob = some b → ∃ o, find id st.heap = some o ∧ blk φ id o = some b) (hver : ∀ v, S id v → v < ver)
    (hold : OldRow w' e s len' ob' n' cs' c') (hnone : ob' = none → ob = none) (hb : ∀ b, ob' = some b → b < w'.heap.size ∧ (w.heap.size ≤ b ∨ ob = some b)) (hlen : els'.length = len')
    (hr : ∀ i x, els'[i]? = some x → ∃ c, DRep w (Held E φ st.heap) x c ∧ c.cells.size = s ∧ ∀ j v, c.cells.toList[j]? = some v → cs'[i * s + j]? = some v) :
    ∃ φ', (∀ i v, S i v → φ' i v = φ i v) ∧ Rst E (also S id ver) φ' { st with heap := upd id (.arr e s ver none els') st.heap } a w' ∧ PRep w' (Held E φ' (upd id (.arr e s ver none els') st.heap)) φ' (.own id ver s 0 len') c' := by
  cases hold with
  | nil h0 =>
    have hob0 := hnone rfl
    subst hob0
    have : els' = [] := List.eq_nil_of_length_eq_zero (by omega)
    subst this
    have hg : Rst E S φ st a w' := h.grow ⟨hos, htape, hout, hsize, fun b hb => hblock b hb (by simp)⟩
    refine ⟨_, phi_old (fun hc => Nat.lt_irrefl _ (hver _ hc)), hg.nilRow hver e s, ?_⟩
    simp only [PRep]
    exact .inl ⟨phi_same .., trivial, h0, trivial⟩
  | some b n ad cs had hln hnm hobj hcs =>
    obtain ⟨hb1, hb2⟩ := hb b rfl
    refine ⟨_, phi_old (fun hc => Nat.lt_irrefl _ (hver _ hc)), h.row (ver := ver) (b := b) (n := n') (room := none) (els := els') hos htape hout hsize (fun c hc hno => hblock c hc fun e => ?_) hver hb1 ?_ hobj (by omega) hnm (by simp) hcs hr, ?_⟩
    · obtain ⟨o, h1, h2⟩ := hob c e
      exact hno o h1 h2
    · rcases hb2 with h1 | h1
      · exact .inl h1
      · exact .inr (hob b h1)
    · simp only [PRep]
      refine .inr ⟨b, n', ad, phi_same .., by omega, by simp, ?_⟩
      rw [Nat.zero_mul]
      rcases had with h1 | h1
      · exact .inl (by omega)
      · exact .inr h1
include hk in
theorem append_run (h : Rst E S φ st a w) (hd : ∀ d, o.dst = some d → d < a.tmps.size) {t el id ver len : Nat} {te : TI} {s x : Operand} {dx : D} {new els : List D} (hop : o.op = .call ⟨.builtin .append, #[s, x], #[t, t]⟩)
    (hkd : kindOf T t = some (.slice el)) (ht : T el = some te) (hxd : (st.evs x).toD st.heap = some dx) (hnew : asSlc te.size (.d dx) = some new) (hg : st.gds [s, x]) (hsz : 0 < te.size) (hone : ∀ d ∈ new, d.cells.all D.one = true)
    (hver : ∀ v, S id v → v < ver) (hfree : (∃ v, S id v) ∨ ∃ j, j < 4 ∧ id = nid j) (h63 : len + new.length ≤ maxLen) (hby : (len + new.length) * te.bytes ≤ 140737488355328) (hle : len ≤ els.length)
    (hold : ∃ ob n cs, OldRow w el te.size len ob n cs (a.eval s) ∧ ((∀ b, ob = some b → ∃ o, find id (delAll (st.evs x).ids st.heap) = some o ∧ blk φ id o = some b) ∨ n < len + new.length) ∧
      (len = 0 ∨ ∃ b, len * te.size ≤ cs.length ∧ (∀ j v, cs[j]? = some v → w.cell? ⟨b, j, none⟩ = some v) ∧ DRepE w (Held E φ (delAll (st.evs x).ids st.heap)) b te.size els 0))
    (he : e = ⟨.own id ver te.size 0 (len + new.length), (st.evs x).ids, [(id, .arr el te.size ver none (els.take len ++ new))]⟩) : o.wp P a w (After E S φ st a.tmps.size nid o.dst e) Q := by
  subst he
  have hun : P.underlying t = some (.slice el) := desc_of hk.tb hkd
  obtain ⟨inf, hi, hs, hb, hz⟩ := (hk.tb el te ht).info
  have hzs := (hk.tb el te ht).zsize
  obtain ⟨ux, rx⟩ := h.evs x (gds_mem hg x (by simp))
  have rd := h.giveD (ids := (st.evs x).ids) (fun i hi => hi) hxd rx
  have h1 := h.give (st.evs x).ids
  obtain ⟨ax, cx, hxv, hcx, hxe⟩ := asSlc_rep (w := w) (O := Held E φ (delAll (st.evs x).ids st.heap)) (φ := φ) (p := .d dx) hnew (by simpa only [PRep] using rd)
  obtain ⟨ob, n, cs, hold, hob, hels⟩ := hold
  have hnews : ∃ news : List Value, news.length = new.length * te.size ∧ (new.length = 0 ∨ ∃ ad, ax = some ad ∧ ∀ j v, news[j]? = some v → w.cell? (ad.add j) = some v) ∧ (∀ v ∈ news, v.oneCell' = true) ∧
      (∀ i y, new[i]? = some y → ∃ c, DRep w (Held E φ (delAll (st.evs x).ids st.heap)) y c ∧ c.cells.size = te.size ∧ ∀ j v, c.cells.toList[j]? = some v → news[i * te.size + j]? = some v) := by
    rcases hxe with h0 | ⟨b, off, hax, _, _, hE⟩
    · exact ⟨[], by simp [h0], .inl (by simp [h0]), by simp, by simp [h0]⟩
    · obtain ⟨news, q1, q2, q3, q4⟩ := hE.cells hone
      exact ⟨news, q1, .inr ⟨_, hax, fun j v hj => getElem?_cells q2 hj⟩, q3, q4⟩
  obtain ⟨news, q1, q2, q3, q4⟩ := hnews
  obtain ⟨c', w', r1, r2, r3, r4, r5, r6, ob', n', cs', r7, r8, r9, r10, r11⟩ := append_world (P := P) (ty := o.type) (cx := cx) hun hi hz hs hzs hsz hold q2 q1 q3 h63 (by rw [hb]; exact hby)
  have hj : ∀ i y, (els.take len ++ new)[i]? = some y → ∃ c, DRep w (Held E φ (delAll (st.evs x).ids st.heap)) y c ∧ c.cells.size = te.size ∧ ∀ j v, c.cells.toList[j]? = some v → cs'[i * te.size + j]? = some v := by
    rcases hels with h0 | ⟨b, hels⟩
    · exact rows_join (b := 0) hsz (.inl h0) hle q4 r10
    · exact rows_join hsz (.inr hels) hle q4 r10
  have hrow : ∃ φ', (∀ i v, S i v → φ' i v = φ i v) ∧ Rst E (also S id ver) φ' { st with heap := upd id (.arr el te.size ver none (els.take len ++ new)) (delAll (st.evs x).ids st.heap) } a w' ∧ PRep w' (Held E φ' (upd id (.arr el te.size ver none (els.take len ++ new)) (delAll (st.evs x).ids st.heap))) φ' (.own id ver te.size 0 (len + new.length)) c' := by
    rcases hob with hob | hlt
    · exact row_of_old h1 r2 r3 r4 r5 r6 hob hver r7 r8 r9 (by simp; omega) hj
    · exact row_of_old (ob := none) h1 r2 r3 r4 r5 (fun b hb _ => (r11 hlt).1 b hb) (by simp) hver r7 (fun _ => rfl) (fun b hb => ⟨(r9 b hb).1, .inl ((r11 hlt).2 b hb)⟩) (by simp; omega) hj
  obtain ⟨φ', g0, g1, g2⟩ := hrow
  refine wp_value (c := c') (w' := w') ?_ ?_
  · simp only [execOp, hop, resolve, invoke, builtin, Sem.run_bind, Sem.run_pure, Result.andThen_ok, List.map_toArray, List.map_cons, List.map_nil, hxv, r1]
  · refine Rst.after (by simpa [updAll] using g1) hd ?_ (by simpa [updAll] using g2) (fun i v h => ⟨.inl h, g0 i v h⟩) (also_new hfree)
    simp only [PVal.und]; exact .inr ⟨rfl, rfl⟩
end
end Go.Proofs.Ytdodgbhodkcckaa.Pv
end
section
set_option linter.unusedVariables false
set_option linter.unusedSectionVars false
set_option linter.unusedSimpArgs false
set_option autoImplicit false
namespace Go.Proofs.Ytdodgbhodkcckaa.Pv
open Go Go.RowKit
mutual
theorem shift_id : ∀ p : PVal, p.shift (fun k => k) = p
  | .agg ps | .tup ps => by simp only [PVal.shift, shiftL_id ps]
  | .clo _ a b => by simp only [PVal.shift, shiftL_id a, shiftL_id b]
  | .ifc _ p | .gd _ p => by simp only [PVal.shift, shift_id p]
  | .d _ | .ref _ _ | .refE _ _ _ _ _ | .own _ _ _ _ _ | .mp _ | .dead => by simp only [PVal.shift]
theorem shiftL_id : ∀ ps : List PVal, shiftL (fun k => k) ps = ps
  | [] => by simp only [shiftL]
  | p :: ps => by simp only [shiftL, shift_id p, shiftL_id ps]
end
section
variable {w : World} {O : Nat → Prop} {φ1 φ2 : Nat → Nat → Option (Nat × Nat)} {ρ σ : Nat → Nat} {n : Nat → Nat → Prop}
mutual
theorem PRep.turn (hφ : ∀ k v, n k v → φ2 (σ k) v = φ1 (ρ k) v) : ∀ (p : PVal) (c : Value), p.und n → PRep w O φ1 (p.shift ρ) c → PRep w O φ2 (p.shift σ) c
  | .d x, c, _, h => by simp only [PVal.shift, PRep] at h ⊢; exact h
  | .agg ps, c, hu, h => by
    simp only [PVal.shift, PRep, PVal.und] at h hu ⊢
    obtain ⟨cs, e, h⟩ := h
    exact ⟨cs, e, PRepL.turn hφ ps cs hu h⟩
  | .tup ps, c, hu, h => by
    simp only [PVal.shift, PRep, PVal.und] at h hu ⊢
    obtain ⟨cs, e, h⟩ := h
    exact ⟨cs, e, PRepL.turn hφ ps cs hu h⟩
  | .ref id k, c, hu, h => by simp only [PVal.shift, PRep, PVal.und] at h hu ⊢; rw [hφ _ _ hu]; exact h
  | .refE id ver s i k, c, hu, h => by simp only [PVal.shift, PRep, PVal.und] at h hu ⊢; rw [hφ _ _ hu]; exact h
  | .own id ver s off len, c, hu, h => by simp only [PVal.shift, PRep, PVal.und] at h hu ⊢; rw [hφ _ _ hu]; exact h
  | .mp id, c, hu, h => by simp only [PVal.shift, PRep, PVal.und] at h hu ⊢; rw [hφ _ _ hu]; exact h
  | .clo f a b, c, hu, h => by
    simp only [PVal.shift, PRep, PVal.und] at h hu ⊢
    obtain ⟨x, y, e, h1, h2⟩ := h
    exact ⟨x, y, e, PRepL.turn hφ a x hu.1 h1, PRepL.turn hφ b y hu.2 h2⟩
  | .ifc t p, c, hu, h => by
    simp only [PVal.shift, PRep, PVal.und] at h hu ⊢
    obtain ⟨x, e, h⟩ := h
    exact ⟨x, e, PRep.turn hφ p x hu h⟩
  | .gd b p, c, hu, h => by
    simp only [PVal.shift, PRep, PVal.und] at h hu ⊢
    exact ⟨fun e => PRep.turn hφ p c (hu e) (h.1 e), h.2⟩
  | .dead, _, _, _ => by simp only [PVal.shift, PRep]
theorem PRepL.turn (hφ : ∀ k v, n k v → φ2 (σ k) v = φ1 (ρ k) v) : ∀ (ps : List PVal) (cs : List Value), undL n ps → PRepL w O φ1 (shiftL ρ ps) cs → PRepL w O φ2 (shiftL σ ps) cs
  | [], cs, _, h => by simp only [shiftL, PRepL] at h ⊢; exact h
  | p :: ps, cs, hu, h => by
    simp only [shiftL, PRepL, undL] at h hu ⊢
    obtain ⟨c, cs', e, h1, h2⟩ := h
    exact ⟨c, cs', e, PRep.turn hφ p c hu.1 h1, PRepL.turn hφ ps cs' hu.2 h2⟩
end
end
section
variable {ρ : Nat → Nat} {n m : Nat → Nat → Prop}
mutual
theorem und_shift (h : ∀ k v, n k v → m (ρ k) v) : ∀ p : PVal, p.und n → (p.shift ρ).und m
  | .agg ps, hu | .tup ps, hu => by simp only [PVal.shift, PVal.und] at hu ⊢; exact undL_shift h ps hu
  | .clo _ a b, hu => by simp only [PVal.shift, PVal.und] at hu ⊢; exact ⟨undL_shift h a hu.1, undL_shift h b hu.2⟩
  | .ifc _ p, hu => by simp only [PVal.shift, PVal.und] at hu ⊢; exact und_shift h p hu
  | .gd _ p, hu => by simp only [PVal.shift, PVal.und] at hu ⊢; exact fun e => und_shift h p (hu e)
  | .ref _ _, hu | .refE _ _ _ _ _, hu | .own _ _ _ _ _, hu | .mp _, hu => by simp only [PVal.shift, PVal.und] at hu ⊢; exact h _ _ hu
  | .d _, _ | .dead, _ => by simp only [PVal.shift, PVal.und]
theorem undL_shift (h : ∀ k v, n k v → m (ρ k) v) : ∀ ps : List PVal, undL n ps → undL m (shiftL ρ ps)
  | [], _ => by simp only [shiftL, undL]
  | p :: ps, hu => by simp only [shiftL, undL] at hu ⊢; exact ⟨und_shift h p hu.1, undL_shift h ps hu.2⟩
theorem und_unshift (h : ∀ k v, m (ρ k) v → n k v) : ∀ p : PVal, (p.shift ρ).und m → p.und n
  | .agg ps, hu | .tup ps, hu => by simp only [PVal.shift, PVal.und] at hu ⊢; exact undL_unshift h ps hu
  | .clo _ a b, hu => by simp only [PVal.shift, PVal.und] at hu ⊢; exact ⟨undL_unshift h a hu.1, undL_unshift h b hu.2⟩
  | .ifc _ p, hu => by simp only [PVal.shift, PVal.und] at hu ⊢; exact und_unshift h p hu
  | .gd _ p, hu => by simp only [PVal.shift, PVal.und] at hu ⊢; exact fun e => und_unshift h p (hu e)
  | .ref _ _, hu | .refE _ _ _ _ _, hu | .own _ _ _ _ _, hu | .mp _, hu => by simp only [PVal.shift, PVal.und] at hu ⊢; exact h _ _ hu
  | .d _, _ | .dead, _ => by simp only [PVal.und]
theorem undL_unshift (h : ∀ k v, m (ρ k) v → n k v) : ∀ ps : List PVal, undL m (shiftL ρ ps) → undL n ps
  | [], _ => by simp only [undL]
  | p :: ps, hu => by simp only [shiftL, undL] at hu ⊢; exact ⟨und_unshift h p hu.1, undL_unshift h ps hu.2⟩
end
end
theorem ver_shift (ρ : Nat → Nat) (o : PObj) : (o.shift ρ).ver = o.ver := by cases o <;> rfl
theorem blk_shift (φ : Nat → Nat → Option (Nat × Nat)) (i : Nat) (ρ : Nat → Nat) (o : PObj) : blk φ i (o.shift ρ) = blk φ i o := by cases o <;> rfl
theorem obj_shift_id (o : PObj) : o.shift (fun k => k) = o := by cases o <;> simp only [PObj.shift, shiftL_id]
theorem blk_turn {φ1 φ2 : Nat → Nat → Option (Nat × Nat)} {i j : Nat} {o : PObj} (h : φ2 i o.ver = φ1 j o.ver) : blk φ2 i o = blk φ1 j o := by
  cases o <;> simp only [blk, PObj.ver] at * <;> rw [h]
theorem obj_und_shift {ρ : Nat → Nat} {n m : Nat → Nat → Prop} (h : ∀ k v, n k v → m (ρ k) v) {o : PObj} (hu : o.und n) : (o.shift ρ).und m := by
  cases o <;> simp only [PObj.shift, PObj.und] at hu ⊢ <;> first | exact undL_shift h _ hu | exact h _ _ hu
theorem obj_und_unshift {ρ : Nat → Nat} {n m : Nat → Nat → Prop} (h : ∀ k v, m (ρ k) v → n k v) {o : PObj} (hu : (o.shift ρ).und m) : o.und n := by
  cases o <;> simp only [PObj.shift, PObj.und] at hu ⊢ <;> first | exact undL_unshift h _ hu | exact h _ _ hu
theorem ORep.turn {w : World} {O : Nat → Prop} {φ1 φ2 : Nat → Nat → Option (Nat × Nat)} {ρ σ : Nat → Nat} {n : Nat → Nat → Prop} (hφ : ∀ k v, n k v → φ2 (σ k) v = φ1 (ρ k) v) {k : Nat} {o : PObj} (hk : n k o.ver) (hu : o.und n)
    (h : ORep w O φ1 (ρ k) (o.shift ρ)) : ORep w O φ2 (σ k) (o.shift σ) := by
  cases o with
  | box ps =>
    simp only [PObj.shift, ORep, PObj.und, PObj.ver] at *
    obtain ⟨b, m, cs, ty, h1, h2, h3⟩ := h
    exact ⟨b, m, cs, ty, (hφ _ _ hk).trans h1, h2, PRepL.turn hφ ps cs hu h3⟩
  | arr e s ver room els => simp only [PObj.shift, ORep, PObj.und, PObj.ver] at *; rw [hφ _ _ hk]; exact h
  | map es => simp only [PObj.shift, ORep, PObj.und, PObj.ver] at *; rw [hφ _ _ hk]; exact h
  | mapg es b c => simp only [PObj.shift, ORep, PObj.und, PObj.ver] at *; rw [hφ _ _ hk]; exact h
  | iter m c s => simp only [PObj.shift, ORep, PObj.und, PObj.ver] at *; rw [hφ _ _ hk, hφ _ _ hu]; exact h
  | siter s c => simp only [PObj.shift, ORep, PObj.und, PObj.ver] at *; rw [hφ _ _ hk]; exact h
theorem find_shiftH (ρ : Nat → Nat) : ∀ (h : List (Nat × PObj)) (i : Nat) (o : PObj), find i (shiftH ρ h) = some o → ∃ k o', find k h = some o' ∧ i = ρ k ∧ o = o'.shift ρ
  | [], i, o, hf => by simp [shiftH, find] at hf
  | (id, x) :: h, i, o, hf => by
    simp only [shiftH, find] at hf
    split at hf
    · rename_i e; cases hf; exact ⟨id, x, by simp [find], e, rfl⟩
    · rename_i e
      obtain ⟨k, o', h1, h2, h3⟩ := find_shiftH ρ h i o hf
      refine ⟨k, o', ?_, h2, h3⟩
      simp only [find]; rw [if_neg (fun ek => e (by rw [h2, ek]))]; exact h1
theorem find_updAll : ∀ (l h : List (Nat × PObj)) (i : Nat), (l.map (·.1)).Nodup → find i (updAll l h) = match find i l with | some o => some o | none => find i h
  | [], h, i, _ => by simp [updAll, find]
  | (id, o) :: l, h, i, hn => by
    simp only [List.map_cons, List.nodup_cons] at hn
    simp only [updAll]
    rw [find_updAll l _ i hn.2]
    by_cases e : i = id
    · subst e
      have : find i l = none := by
        cases hf : find i l with
        | none => rfl
        | some x =>
          exfalso; apply hn.1
          clear hn
          induction l with
          | nil => simp [find] at hf
          | cons a l ih =>
            obtain ⟨j, y⟩ := a
            simp only [find] at hf
            split at hf
            · rename_i e; simp [e]
            · simp only [List.map_cons, List.mem_cons]; exact .inr (ih hf)
      rw [this]
      simp [find, find_upd_same]
    · simp only [find, e, if_false]
      cases find i l with
      | some x => rfl
      | none => simp [find_upd_other e]
theorem subV_rep {w : World} {O : Nat → Prop} {x c : Value} {y : D} (h : subV x y) (hr : c = x) : DRep w O y c := by
  subst hr
  unfold subV at h
  split at h
  · subst h; simp only [DRep]; exact ⟨none, 0, by simp, by simp, by simp⟩
  · subst h; simp only [DRep]
theorem subL_len : ∀ (xs ys : List D), subL xs ys → ys.length = xs.length
  | [], ys, h => by simp only [subL] at h; subst h; rfl
  | x :: xs, ys, h => by
    simp only [subL] at h
    split at h
    · exact h.elim
    · simp only [List.length_cons, subL_len xs _ h.2]
mutual
theorem subD_rep {w : World} {O : Nat → Prop} : ∀ (x y : D) (c : Value), subD x y → DRep w O x c → DRep w O y c
  | .agg xs, y, c, h, hr => by
    simp only [subD] at h
    split at h
    · simp only [DRep] at hr ⊢
      obtain ⟨cs, e, hr⟩ := hr
      exact ⟨cs, e, subL_rep xs _ cs h hr⟩
    · exact h.elim
  | .tup xs, y, c, h, hr => by
    simp only [subD] at h
    split at h
    · simp only [DRep] at hr ⊢
      obtain ⟨cs, e, hr⟩ := hr
      exact ⟨cs, e, subL_rep xs _ cs h hr⟩
    · exact h.elim
  | .v x, y, c, h, hr => by simp only [subD] at h; simp only [DRep] at hr; exact subV_rep h hr
  | .slc s es, y, c, h, hr => by
    simp only [subD] at h
    split at h
    · rename_i s' es'
      obtain ⟨rfl, h⟩ := h
      have hl := subL_len es es' h
      simp only [DRep] at hr ⊢
      obtain ⟨a, cap, e, h1, h2⟩ := hr
      refine ⟨a, cap, by rw [hl]; exact e, by rw [hl]; exact h1, ?_⟩
      rcases h2 with rfl | ⟨b, off, g1, g2, g3, g4⟩
      · exact .inl (List.eq_nil_of_length_eq_zero hl)
      · exact .inr ⟨b, off, g1, g2, g3, subE_rep es es' b _ off h g4⟩
    · exact h.elim
  | .ifc t p, y, c, h, hr => by simp only [subD] at h; subst h; exact hr
  | .fn f a b, y, c, h, hr => by simp only [subD] at h; subst h; exact hr
  | .ptr cs, y, c, h, hr => by simp only [subD] at h; subst h; exact hr
theorem subL_rep {w : World} {O : Nat → Prop} : ∀ (xs ys : List D) (cs : List Value), subL xs ys → DRepL w O xs cs → DRepL w O ys cs
  | [], ys, cs, h, hr => by simp only [subL] at h; subst h; exact hr
  | x :: xs, ys, cs, h, hr => by
    simp only [subL] at h
    split at h
    · exact h.elim
    · simp only [DRepL] at hr ⊢
      obtain ⟨c, cs', e, h1, h2⟩ := hr
      exact ⟨c, cs', e, subD_rep x _ c h.1 h1, subL_rep xs _ cs' h.2 h2⟩
theorem subE_rep {w : World} {O : Nat → Prop} : ∀ (xs ys : List D) (b s off : Nat), subL xs ys → DRepE w O b s xs off → DRepE w O b s ys off
  | [], ys, b, s, off, h, hr => by simp only [subL] at h; subst h; exact hr
  | x :: xs, ys, b, s, off, h, hr => by
    simp only [subL] at h
    split at h
    · exact h.elim
    · simp only [DRepE] at hr ⊢
      obtain ⟨⟨c, h1, h2⟩, h3⟩ := hr
      exact ⟨⟨c, subD_rep x _ c h.1 h1, h2⟩, subE_rep xs _ b s _ h.2 h3⟩
end
end Go.Proofs.Ytdodgbhodkcckaa.Pv
end
section
set_option linter.unusedVariables false
set_option linter.unusedSectionVars false
set_option linter.unusedSimpArgs false
set_option autoImplicit false
namespace Go.Proofs.Ytdodgbhodkcckaa.Pv
open Go Go.RowKit
structure Fresh (S : Nat → Nat → Prop) (nid : Nat → Nat) : Prop where
  new : ∀ j v, ¬ S (nid j) v
  inj : ∀ j j', nid j = nid j' → j = j'
structure Passed (st : St) (L : List Nat) (ρ : Nat → Nat) (h : List (Nat × PObj)) : Prop where
  nodup : L.Nodup
  len : L.length ≤ 8
  ids : h.map (·.1) = List.range L.length
  objs : (h.map fun q => some (q.2.shift ρ)) = L.map fun i => find i st.heap
theorem mem_of_find {i : Nat} {o : PObj} : ∀ {l : List (Nat × PObj)}, find i l = some o → (i, o) ∈ l
  | [], h => by simp [find] at h
  | (j, x) :: l, h => by
    simp only [find] at h
    split at h
    · rename_i e; cases h; simp [e]
    · simp [mem_of_find h]
theorem find_of_mem {j : Nat} {y : PObj} : ∀ {l : List (Nat × PObj)}, (j, y) ∈ l → ∃ z, find j l = some z
  | [], h => by simp at h
  | (j', y') :: l, h => by
    simp only [find]
    by_cases e : j = j'
    · exact ⟨y', by simp [e]⟩
    · rw [if_neg e]
      rcases List.mem_cons.1 h with h | h
      · simp only [Prod.mk.injEq] at h; exact absurd h.1 e
      · exact find_of_mem h
theorem map_fst_shiftH (ρ : Nat → Nat) : ∀ h : List (Nat × PObj), (shiftH ρ h).map (·.1) = (h.map (·.1)).map ρ
  | [] => rfl
  | (i, o) :: h => by simp only [shiftH, List.map_cons, map_fst_shiftH ρ h]
theorem nodup_map {ρ : Nat → Nat} {n : Nat → Prop} (hρ : ∀ k k', n k → n k' → ρ k = ρ k' → k = k') : ∀ {l : List Nat}, l.Nodup → (∀ x ∈ l, n x) → (l.map ρ).Nodup
  | [], _, _ => by simp
  | x :: l, hn, hl => by
    simp only [List.nodup_cons, List.map_cons] at hn ⊢
    refine ⟨fun hm => ?_, nodup_map hρ hn.2 fun y hy => hl y (by simp [hy])⟩
    obtain ⟨y, hy, e⟩ := List.mem_map.1 hm
    exact hn.1 (hρ y x (hl y (by simp [hy])) (hl x (by simp)) e ▸ hy)
section
variable {E : Env} {S : Nat → Nat → Prop} {φ : Nat → Nat → Option (Nat × Nat)} {st : St} {a : Act} {w : World} {L : List Nat} {nid : Nat → Nat} {h : List (Nat × PObj)}
theorem rename_lt {k : Nat} (hk : k < L.length) (hl : L.length ≤ 8) : L[k]? = some (rename L nid k) := by
  have : k < 8 := by omega
  simp only [rename, this, if_true, List.getD_eq_getElem?_getD, List.getElem?_eq_getElem hk, Option.getD_some]
theorem rename_ge {k : Nat} (hk : L.length ≤ k) : ∃ j, rename L nid k = nid j := by
  by_cases h8 : k < 8
  · refine ⟨k + 4, ?_⟩
    simp only [rename, h8, if_true, List.getD_eq_getElem?_getD, List.getElem?_eq_none hk, Option.getD_none]
  · exact ⟨k - 8, by simp only [rename, h8, if_false]⟩
theorem Passed.get (hp : Passed st L (rename L nid) h) {k : Nat} {o : PObj} (hf : find k h = some o) : k < L.length ∧ find (rename L nid k) st.heap = some (o.shift (rename L nid)) := by
  obtain ⟨i, hi⟩ := List.getElem?_of_mem (mem_of_find hf)
  have h1 : (h.map (·.1))[i]? = some k := by simp [hi]
  rw [hp.ids] at h1
  obtain ⟨hlt, h2⟩ := List.getElem?_eq_some_iff.1 h1
  simp at hlt h2
  subst h2
  have h3 : (h.map fun q => some (q.2.shift (rename L nid)))[i]? = some (some (o.shift (rename L nid))) := by simp [hi]
  rw [hp.objs, List.getElem?_map, rename_lt hlt hp.len] at h3
  simp at h3
  exact ⟨hlt, h3⟩
theorem Passed.mem (hp : Passed st L (rename L nid) h) {k : Nat} (hk : k < L.length) : ∃ o, find k h = some o := by
  have hm : k ∈ h.map (·.1) := by rw [hp.ids]; simp [hk]
  obtain ⟨⟨j, x⟩, h1, h2⟩ := List.mem_map.1 hm
  simp at h2; subst h2
  clear hm hp
  induction h with
  | nil => simp at h1
  | cons a l ih =>
    obtain ⟨j', y⟩ := a
    simp only [find]
    by_cases e : j = j'
    · exact ⟨y, by simp [e]⟩
    · rw [if_neg e]
      refine ih ?_
      rcases List.mem_cons.1 h1 with h | h
      · simp only [Prod.mk.injEq] at h; exact absurd h.1 e
      · exact h
theorem Passed.inS (hp : Passed st L (rename L nid) h) (hr : Rst E S φ st a w) {i : Nat} (hi : i ∈ L) : ∃ o, find i st.heap = some o ∧ S i o.ver := by
  obtain ⟨k, hk⟩ := List.getElem?_of_mem hi
  have hlt := (List.getElem?_eq_some_iff.1 hk).1
  obtain ⟨o, ho⟩ := hp.mem hlt
  have h1 := (hp.get ho).2
  have h2 := rename_lt (nid := nid) hlt hp.len
  rw [hk] at h2; cases h2
  exact ⟨_, h1, (hr.objs _ _ h1).1⟩
theorem rename_inj (hp : Passed st L (rename L nid) h) (hr : Rst E S φ st a w) (hf : Fresh S nid) {k k' : Nat} (hk : k < 12) (hk' : k' < 12) (e : rename L nid k = rename L nid k') : k = k' := by
  have notin : ∀ j, nid j ∉ L := fun j hj => by
    obtain ⟨o, _, h2⟩ := hp.inS hr hj
    exact hf.new j _ h2
  have hlen := hp.len
  by_cases h1 : k < L.length
  · have e1 := rename_lt (nid := nid) h1 hlen
    by_cases h2 : k' < L.length
    · have e2 := rename_lt (nid := nid) h2 hlen
      rw [← e, ← e1] at e2
      exact ((List.getElem?_inj h2 hp.nodup).1 e2).symm
    · obtain ⟨j, hj⟩ := rename_ge (nid := nid) (L := L) (k := k') (by omega)
      rw [e, hj] at e1
      exact absurd (List.mem_of_getElem? e1) (notin j)
  · by_cases h2 : k' < L.length
    · have e2 := rename_lt (nid := nid) h2 hlen
      obtain ⟨j, hj⟩ := rename_ge (nid := nid) (L := L) (k := k) (by omega)
      rw [← e, hj] at e2
      exact absurd (List.mem_of_getElem? e2) (notin j)
    · have val : ∀ m, L.length ≤ m → rename L nid m = nid (if m < 8 then m + 4 else m - 8) := by
        intro m hm
        by_cases h8 : m < 8
        · simp only [rename, h8, if_true, List.getD_eq_getElem?_getD, List.getElem?_eq_none hm, Option.getD_none]
        · simp only [rename, h8, if_false]
      rw [val k (by omega), val k' (by omega)] at e
      have := hf.inj _ _ e
      split at this <;> split at this <;> omega
def callS (L : List Nat) (S : Nat → Nat → Prop) (ρ : Nat → Nat) : Nat → Nat → Prop := fun k v => k < L.length ∧ S (ρ k) v
theorem callS_of (hf : Fresh S nid) {k v : Nat} (hs : S (rename L nid k) v) : callS L S (rename L nid) k v := by
  by_cases h1 : k < L.length
  · exact ⟨h1, hs⟩
  · obtain ⟨j, hj⟩ := rename_ge (nid := nid) (L := L) (k := k) (by omega)
    rw [hj] at hs
    exact absurd hs (hf.new j v)
def callEnv (hr : Rst E S φ st a w) (L F : List Nat) (hFL : ∀ i ∈ F, i ∉ L) : Env where
  w0 := w
  pass b := ∃ i o, i ∈ L ∧ find i st.heap = some o ∧ blk φ i o = some b
  out b := E.out b ∨ ∃ i o, i ∉ L ∧ i ∉ F ∧ find i st.heap = some o ∧ blk φ i o = some b
  apart := by
    rintro b ⟨i, o, hi, ho, hb⟩ (hx | ⟨i', o', hi', _, ho', hb'⟩)
    · exact hr.notOut ho hb hx
    · exact hi' (hr.inj i i' o o' b ho ho' hb hb' ▸ hi)
  under := by
    rintro b (hx | ⟨i, o, _, _, ho, hb⟩)
    · exact Nat.lt_of_lt_of_le (E.under b hx) hr.size
    · exact ((hr.objs i o ho).2.2.2.1 b hb).1
theorem blk_call (hp : Passed st L (rename L nid) h) {k : Nat} {o : PObj} : blk (fun k v => φ (rename L nid k) v) k o = blk φ (rename L nid k) (o.shift (rename L nid)) := by
  rw [blk_shift]; exact blk_turn rfl
theorem held_call (hp : Passed st L (rename L nid) h) (hr : Rst E S φ st a w) {F : List Nat} (hFL : ∀ i ∈ F, i ∉ L) {b : Nat} (hb : Held (callEnv hr L F hFL) (fun k v => φ (rename L nid k) v) h b) : Held E φ st.heap b := by
  rcases hb with (hx | ⟨i, o, _, _, ho, hb⟩) | ⟨k, o, ho, hb⟩
  · exact .inl hx
  · exact .inr ⟨i, o, ho, hb⟩
  · exact .inr ⟨_, _, (hp.get ho).2, by rw [← blk_call hp]; exact hb⟩
theorem Rst.enter (hr : Rst E S φ st a w) (hp : Passed st L (rename L nid) h) (hf : Fresh S nid) {F : List Nat} (hFL : ∀ i ∈ F, i ∉ L) :
    Rst (callEnv hr L F hFL) (callS L S (rename L nid)) (fun k v => φ (rename L nid k) v) (.only h) Act.none w := by
  refine { os := rfl, tape := rfl, output := rfl, size := Nat.le_refl _, old := fun _ _ _ => rfl, defers := rfl, tmps := ?_, objs := ?_, inj := ?_ }
  · intro t p ht; simp [St.only, find] at ht
  · intro k o ho
    obtain ⟨hk, hf'⟩ := hp.get ho
    obtain ⟨h1, h1', h2, h3, h4⟩ := hr.objs _ _ hf'
    rw [ver_shift] at h1 h1'
    have hun : o.und (callS L S (rename L nid)) := obj_und_unshift (n := callS L S (rename L nid)) (m := S) (fun k v hs => callS_of hf hs) h2
    refine ⟨⟨hk, h1⟩, fun v hv => h1' v hv.2, hun, fun b hb => ?_, ?_⟩
    · rw [blk_call hp] at hb
      exact ⟨(h3 b hb).1, .inr ⟨_, _, List.mem_of_getElem? (rename_lt hk hp.len), hf', hb⟩⟩
    · have := ORep.turn (φ2 := fun k v => φ (rename L nid k) v) (σ := fun k => k) (n := callS L S (rename L nid)) (fun _ _ _ => rfl) ⟨hk, h1⟩ hun h4
      rw [obj_shift_id] at this
      exact ORep.keep (φ' := fun k v => φ (rename L nid k) v) (Keeps.same _ _) (fun b _ hb => held_call hp hr hFL hb) (n := callS L S (rename L nid)) (fun _ _ _ => rfl) ⟨hk, h1⟩ hun (fun _ _ => rfl) this
  · intro i j oi oj b hi hj hbi hbj
    obtain ⟨k1, f1⟩ := hp.get hi
    obtain ⟨k2, f2⟩ := hp.get hj
    rw [blk_call hp] at hbi hbj
    have hl := hp.len
    exact rename_inj hp hr hf (by omega) (by omega) (hr.inj _ _ _ _ b f1 f2 hbi hbj)
theorem Rst.args (hr : Rst E S φ st a w) (hp : Passed st L (rename L nid) h) (hf : Fresh S nid) {F : List Nat} (hFL : ∀ i ∈ F, i ∉ L) : ∀ {qs ps : List PVal} {cs : List Value}, argsP st.heap (rename L nid) qs ps → (∀ i ∈ frozen qs ps, i ∈ F) → undL S qs → PRepL w (Held E φ st.heap) φ qs cs →
    undL (callS L S (rename L nid)) ps ∧ PRepL w (Held (callEnv hr L F hFL) (fun k v => φ (rename L nid k) v) h) (fun k v => φ (rename L nid k) v) ps cs
  | [], [], cs, _, _, _, hx => by simp only [PRepL, undL] at *; exact ⟨trivial, hx⟩
  | [], p :: ps, cs, ha, _, _, _ => by simp [argsP] at ha
  | q :: qs, [], cs, ha, _, _, _ => by simp [argsP] at ha
  | q :: qs, p :: ps, cs, ha, hF, hu, hx => by
    simp only [argsP, PRepL, undL] at ha hx hu ⊢
    obtain ⟨c, cs', rfl, h1, h2⟩ := hx
    have hFr : ∀ i ∈ frozen qs ps, i ∈ F := by
      intro i hi; apply hF
      cases p <;> simp only [frozen] <;> first | exact hi | exact List.mem_append_right _ hi
    obtain ⟨g1, g2⟩ := Rst.args hr hp hf hFL ha.2 hFr hu.2 h2
    have key : p.und (callS L S (rename L nid)) ∧ PRep w (Held (callEnv hr L F hFL) (fun k v => φ (rename L nid k) v) h) (fun k v => φ (rename L nid k) v) p c := by
      have other : q = p.shift (rename L nid) → p.und (callS L S (rename L nid)) ∧ PRep w (Held (callEnv hr L F hFL) (fun k v => φ (rename L nid k) v) h) (fun k v => φ (rename L nid k) v) p c := by
        intro e
        rw [e] at h1 hu
        have hun : p.und (callS L S (rename L nid)) := und_unshift (n := callS L S (rename L nid)) (m := S) (fun k v hs => callS_of hf hs) p hu.1
        refine ⟨hun, ?_⟩
        have := PRep.turn (φ2 := fun k v => φ (rename L nid k) v) (σ := fun k => k) (n := callS L S (rename L nid)) (fun _ _ _ => rfl) p c hun h1
        rw [shift_id] at this
        exact PRep.keep (φ' := fun k v => φ (rename L nid k) v) (Keeps.same _ _) (fun b _ hb => held_call hp hr hFL hb) (n := callS L S (rename L nid)) (fun _ _ _ => rfl) p c hun this
      cases p with
      | d y =>
        have ha1 := ha.1
        simp only [argP] at ha1
        split at ha1
        · rename_i x hx
          refine ⟨by simp only [PVal.und], ?_⟩
          simp only [PRep]
          refine subD_rep x y c ha1 (toD_rep hr.objs' (fun b hb => held_call hp hr hFL hb) q x c hx (fun i o b hi ho hb hh => ?_) h1)
          have hiF : i ∈ F := hF i (by simp only [frozen]; exact List.mem_append_left _ hi)
          rcases hh with (hx | ⟨i', o', hi', hiF', ho', hb'⟩) | ⟨k, o', ho', hb'⟩
          · exact hr.notOut ho hb hx
          · exact hiF' (hr.inj i i' o o' b ho ho' hb hb' ▸ hiF)
          · rw [blk_call hp] at hb'
            obtain ⟨k1, k2⟩ := hp.get ho'
            have := hr.inj _ _ _ _ b ho k2 hb hb'
            exact hFL i hiF (this ▸ List.mem_of_getElem? (rename_lt k1 hp.len))
        · exact ha1.elim
      | _ => exact other ha.1
    exact ⟨⟨key.1, g1⟩, c, cs', rfl, key.2, g2⟩
def unname (L : List Nat) (nid : Nat → Nat) (i : Nat) : Option Nat := (List.range 12).find? fun k => rename L nid k == i
theorem unname_some {i k : Nat} (h : unname L nid i = some k) : k < 12 ∧ rename L nid k = i := by
  have h1 := List.find?_some h
  have h2 := List.mem_of_find?_eq_some h
  simp at h1 h2
  exact ⟨h2, h1⟩
theorem unname_of (hp : Passed st L (rename L nid) h) (hr : Rst E S φ st a w) (hf : Fresh S nid) {k : Nat} (hk : k < 12) : unname L nid (rename L nid k) = some k := by
  cases e : unname L nid (rename L nid k) with
  | none =>
    have := List.find?_eq_none.1 e k (by simp [hk])
    simp at this
  | some j =>
    obtain ⟨h1, h2⟩ := unname_some e
    rw [rename_inj hp hr hf h1 hk h2]
theorem Rst.leave (hr : Rst E S φ st a w) (hp : Passed st L (rename L nid) h) (hf : Fresh S nid) {F G : List Nat} (hFL : ∀ i ∈ F, i ∉ L) {w' : World} {φ' : Nat → Nat → Option (Nat × Nat)} {S' : Nat → Nat → Prop} {h' : List (Nat × PObj)} {r : PVal} {c : Value}
    (hl : Rst (callEnv hr L F hFL) S' φ' (.only h') Act.none w') (hSn : ∀ k v, S' k v → (∃ v', callS L S (rename L nid) k v') ∨ (8 ≤ k ∧ k < 12)) (hSS : ∀ k v, callS L S (rename L nid) k v → S' k v ∧ φ' k v = φ (rename L nid k) v) (hnd : (h'.map (·.1)).Nodup)
    (hu : r.und S') (hrr : PRep w' (Held (callEnv hr L F hFL) φ' h') φ' r c) (hG : (∀ i, i ∈ G ↔ i ∈ F) ∨ F = [] ∧ G = [] ∨ (r.flat = true ∧ h' = [] ∧ G = [])) :
    ∃ φ'' S'', Rst E S'' φ'' { st with heap := updAll (shiftH (rename L nid) h') (delAll (L ++ G) st.heap) } a w' ∧ (∀ i v, S i v → S'' i v ∧ φ'' i v = φ i v) ∧ (∀ i v, S'' i v → (∃ v', S i v') ∨ ∃ j, j < 4 ∧ i = nid j) ∧
      (r.shift (rename L nid)).und S'' ∧ PRep w' (Held E φ'' (updAll (shiftH (rename L nid) h') (delAll (L ++ G) st.heap))) φ'' (r.shift (rename L nid)) c := by
  let ρ := rename L nid
  let φ'' : Nat → Nat → Option (Nat × Nat) := fun i v => match unname L nid i with | some k => φ' k v | none => φ i v
  let S'' : Nat → Nat → Prop := fun i v => S i v ∨ ∃ k, k < 12 ∧ i = ρ k ∧ S' k v
  have hS12 : ∀ k v, S' k v → k < 12 := by
    intro k v hs
    rcases hSn k v hs with ⟨v', h1⟩ | ⟨_, h1⟩
    · have := h1.1; have := hp.len; omega
    · exact h1
  have hρ : ∀ k k', k < 12 → k' < 12 → ρ k = ρ k' → k = k' := fun k k' hk hk' e => rename_inj hp hr hf hk hk' e
  have hφS : ∀ i v, S i v → φ'' i v = φ i v := by
    intro i v hs
    show (match unname L nid i with | some k => φ' k v | none => φ i v) = φ i v
    cases e : unname L nid i with
    | none => rfl
    | some k =>
      obtain ⟨hk, rfl⟩ := unname_some e
      exact (hSS k v (callS_of hf hs)).2
  have hφS' : ∀ k v, S' k v → φ'' (ρ k) v = φ' k v := by
    intro k v hs
    show (match unname L nid (rename L nid k) with | some k => φ' k v | none => φ (rename L nid k) v) = φ' k v
    rw [unname_of hp hr hf (hS12 k v hs)]
  have hid12 : ∀ x ∈ h'.map (·.1), x < 12 := by
    intro x hx
    obtain ⟨⟨j, y⟩, h1, rfl⟩ := List.mem_map.1 hx
    obtain ⟨z, hz⟩ := find_of_mem h1
    exact hS12 _ _ (hl.objs j z hz).1
  have hnd' : ((shiftH ρ h').map (·.1)).Nodup := by rw [map_fst_shiftH]; exact nodup_map (n := (· < 12)) hρ hnd hid12
  have hfind : ∀ i o, find i (updAll (shiftH ρ h') (delAll (L ++ G) st.heap)) = some o → (∃ k o', find k h' = some o' ∧ i = ρ k ∧ o = o'.shift ρ) ∨ (i ∉ L ∧ i ∉ G ∧ find i st.heap = some o) := by
    intro i o hi
    rw [find_updAll _ _ _ hnd'] at hi
    cases e : find i (shiftH ρ h') with
    | some x =>
      rw [e] at hi; cases hi
      exact .inl (find_shiftH ρ h' i o e)
    | none =>
      rw [e] at hi
      obtain ⟨h1, h2⟩ := find_delAll_some hi
      simp only [List.mem_append, not_or] at h1
      exact .inr ⟨h1.1, h1.2, h2⟩
  have hblkN : ∀ k o', find k h' = some o' → blk φ'' (ρ k) (o'.shift ρ) = blk φ' k o' := fun k o' ho => by
    rw [blk_shift]; exact blk_turn (hφS' _ _ (hl.objs k o' ho).1)
  have hblkO : ∀ i o, find i st.heap = some o → blk φ'' i o = blk φ i o := fun i o ho => blk_congr (hφS _ _ (hr.objs i o ho).1)
  have hpass : ∀ b, (callEnv hr L F hFL).pass b → ∃ i o, i ∈ L ∧ find i st.heap = some o ∧ blk φ i o = some b := fun b hb => hb
  have hkeep : Keeps (Held E φ st.heap) w w' := ⟨hl.size, fun b hlt hb => hl.old b hlt fun hx => by
    obtain ⟨i, o, _, ho, hbk⟩ := hpass b hx
    exact hb (.inr ⟨i, o, ho, hbk⟩)⟩
  have hO : ∀ b, b < w.heap.size → Held E φ'' (updAll (shiftH ρ h') (delAll (L ++ G) st.heap)) b → Held E φ st.heap b := by
    rintro b hlt (hx | ⟨i, o, hi, hb⟩)
    · exact .inl hx
    · rcases hfind i o hi with ⟨k, o', hk, rfl, rfl⟩ | ⟨_, _, ho⟩
      · rw [hblkN k o' hk] at hb
        rcases ((hl.objs k o' hk).2.2.2.1 b hb).2 with h1 | h1
        · exact absurd h1 (Nat.not_le.2 hlt)
        · obtain ⟨i, o, _, ho, hbk⟩ := hpass b h1
          exact .inr ⟨i, o, ho, hbk⟩
      · rw [hblkO i o ho] at hb
        exact .inr ⟨i, o, ho, hb⟩
  have hcase : (∀ i, i ∉ G → i ∉ F) ∨ (r.flat = true ∧ h' = []) := by
    rcases hG with h1 | ⟨h1, h2⟩ | ⟨h1, h2, _⟩
    · exact .inl fun i hi hF => hi ((h1 i).2 hF)
    · exact .inl fun i _ => by rw [h1]; simp
    · exact .inr ⟨h1, h2⟩
  have hO2 : (∀ i, i ∉ G → i ∉ F) → ∀ b, Held E φ'' (updAll (shiftH ρ h') (delAll (L ++ G) st.heap)) b → Held (callEnv hr L F hFL) φ' h' b := by
    rintro hGF b (hx | ⟨i, o, hi, hb⟩)
    · exact .inl (.inl hx)
    · rcases hfind i o hi with ⟨k, o', hk, rfl, rfl⟩ | ⟨h1, h2, ho⟩
      · rw [hblkN k o' hk] at hb
        exact .inr ⟨k, o', hk, hb⟩
      · rw [hblkO i o ho] at hb
        exact .inl (.inr ⟨i, o, h1, hGF i h2, ho, hb⟩)
  have hnotL : ∀ i o k, find i st.heap = some o → i ∉ L → i = ρ k → False := by
    intro i o k ho hiL e
    by_cases hk : k < L.length
    · exact hiL (e ▸ List.mem_of_getElem? (rename_lt hk hp.len))
    · obtain ⟨j, hj⟩ := rename_ge (nid := nid) (L := L) (k := k) (by omega)
      have h1 := (hr.objs i o ho).1
      rw [e] at h1
      rw [show ρ k = nid j from hj] at h1
      exact hf.new j _ h1
  have hblkL : ∀ i o b, i ∉ L → find i st.heap = some o → blk φ i o = some b → ¬ (callEnv hr L F hFL).pass b := by
    intro i o b hi ho hb hx
    obtain ⟨j, oj, hj, hoj, hbj⟩ := hpass b hx
    exact hi (hr.inj i j o oj b ho hoj hb hbj ▸ hj)
  refine ⟨φ'', S'', ?_, fun i v hs => ⟨.inl hs, hφS i v hs⟩, ?_, ?_, ?_⟩
  · refine { os := Eq.trans hl.os hr.os, tape := Eq.trans hl.tape hr.tape, output := Eq.trans hl.output hr.output, size := Nat.le_trans hr.size hl.size, old := ?_, defers := hr.defers, tmps := ?_, objs := ?_, inj := ?_ }
    · intro b hb hp'
      refine Eq.trans (hl.old b (Nat.lt_of_lt_of_le hb hr.size) fun hx => ?_) (hr.old b hb hp')
      obtain ⟨i, o, _, ho, hbk⟩ := hpass b hx
      rcases ((hr.objs i o ho).2.2.2.1 b hbk).2 with h1 | h1
      · omega
      · exact hp' h1
    · intro t p ht
      obtain ⟨h1, h2⟩ := hr.tmps t p ht
      exact ⟨PVal.und_mono (fun i v hs => .inl hs) p h1, PRep.keep hkeep hO hφS p _ h1 h2⟩
    · intro i o hi
      rcases hfind i o hi with ⟨k, o', hk, rfl, rfl⟩ | ⟨hiL, hiG, ho⟩
      · obtain ⟨s1, s2, s3, s4, s5⟩ := hl.objs k o' hk
        have hk12 := hS12 _ _ s1
        have hund : (o'.shift ρ).und S'' := obj_und_shift (fun k v hs => .inr ⟨k, hS12 _ _ hs, rfl, hs⟩) s3
        refine ⟨.inr ⟨k, hk12, rfl, by rw [ver_shift]; exact s1⟩, ?_, hund, ?_, ?_⟩
        · rw [ver_shift]
          rintro v (hv | ⟨k2, hk2, e, hv⟩)
          · exact s2 v (hSS k v (callS_of hf hv)).1
          · rw [← hρ k k2 hk12 hk2 e] at hv; exact s2 v hv
        · intro b hb
          rw [hblkN k o' hk] at hb
          refine ⟨(s4 b hb).1, ?_⟩
          rcases (s4 b hb).2 with h1 | h1
          · exact .inl (Nat.le_trans hr.size h1)
          · obtain ⟨i, o, _, ho, hbk⟩ := hpass b h1
            exact ((hr.objs i o ho).2.2.2.1 b hbk).2
        · rcases hcase with hc | ⟨_, hc⟩
          · have s6 : ORep w' (Held (callEnv hr L F hFL) φ' h') φ' ((fun k => k) k) (o'.shift fun k => k) := by rw [obj_shift_id]; exact s5
            have := ORep.turn (φ2 := φ'') (σ := ρ) (n := S') hφS' s1 s3 s6
            exact ORep.keep (φ' := φ'') (n := S'') (Keeps.same _ _) (fun b _ hb => hO2 hc b hb) (fun _ _ _ => rfl) (.inr ⟨k, hk12, rfl, by rw [ver_shift]; exact s1⟩) hund (fun _ _ => rfl) this
          · rw [hc] at hk; simp [find] at hk
      · obtain ⟨h1, h1', h2, h3, h4⟩ := hr.objs i o ho
        refine ⟨.inl h1, ?_, PObj.und_mono (fun i v hs => .inl hs) h2, ?_, ORep.keep hkeep hO hφS h1 h2 (fun b hb => hl.old b (h3 b hb).1 (hblkL i o b hiL ho hb)) h4⟩
        · rintro v (hv | ⟨k, _, e, _⟩)
          · exact h1' v hv
          · exact (hnotL i o k ho hiL e).elim
        · intro b hb
          rw [hblkO i o ho] at hb
          exact ⟨Nat.lt_of_lt_of_le (h3 b hb).1 hl.size, (h3 b hb).2⟩
    · have mixed : ∀ k o' i o b, find k h' = some o' → i ∉ L → find i st.heap = some o → blk φ' k o' = some b → blk φ i o = some b → False := by
        intro k o' i o b hk hiL ho hb hb'
        rcases ((hl.objs k o' hk).2.2.2.1 b hb).2 with h1 | h1
        · exact absurd ((hr.objs i o ho).2.2.2.1 b hb').1 (Nat.not_lt.2 h1)
        · exact hblkL i o b hiL ho hb' h1
      intro i j oi oj b hi hj hbi hbj
      rcases hfind i oi hi with ⟨k, o', hk, rfl, rfl⟩ | ⟨hiL, _, ho⟩
      · rw [hblkN k o' hk] at hbi
        rcases hfind j oj hj with ⟨k2, o2, hk2, rfl, rfl⟩ | ⟨hjL, _, hoj⟩
        · rw [hblkN k2 o2 hk2] at hbj
          rw [hl.inj k k2 o' o2 b hk hk2 hbi hbj]
        · rw [hblkO j oj hoj] at hbj
          exact (mixed k o' j oj b hk hjL hoj hbi hbj).elim
      · rw [hblkO i oi ho] at hbi
        rcases hfind j oj hj with ⟨k2, o2, hk2, rfl, rfl⟩ | ⟨hjL, _, hoj⟩
        · rw [hblkN k2 o2 hk2] at hbj
          exact (mixed k2 o2 i oi b hk2 hiL ho hbj hbi).elim
        · rw [hblkO j oj hoj] at hbj
          exact hr.inj i j oi oj b ho hoj hbi hbj
  · rintro i v (hs | ⟨k, hk, rfl, hs⟩)
    · exact .inl ⟨v, hs⟩
    · rcases hSn k v hs with ⟨v', h1⟩ | ⟨h1, h2⟩
      · exact .inl ⟨v', h1.2⟩
      · refine .inr ⟨k - 8, by omega, ?_⟩
        show rename L nid k = nid (k - 8)
        simp only [rename, Nat.not_lt.2 h1, if_false]
  · exact und_shift (fun k v hs => .inr ⟨k, hS12 _ _ hs, rfl, hs⟩) r hu
  · rcases hcase with hc | ⟨hfl, _⟩
    · have h1 : PRep w' (Held (callEnv hr L F hFL) φ' h') φ' (r.shift fun k => k) c := by rw [shift_id]; exact hrr
      have h2 := PRep.turn (φ2 := φ'') (σ := ρ) (n := S') hφS' r c hu h1
      exact PRep.keep (φ' := φ'') (n := S'') (Keeps.same _ _) (fun b _ hb => hO2 hc b hb) (fun _ _ _ => rfl) _ c (und_shift (fun k v hs => .inr ⟨k, hS12 _ _ hs, rfl, hs⟩) r hu) h2
    · cases r with
      | d x =>
        simp only [PVal.flat] at hfl
        simp only [PVal.shift, PRep] at hrr ⊢
        exact DRep.flat x c hfl hrr
      | _ => simp [PVal.flat] at hfl
end
end Go.Proofs.Ytdodgbhodkcckaa.Pv
end
section
set_option linter.unusedVariables false
set_option linter.unusedSectionVars false
set_option linter.unusedSimpArgs false
set_option autoImplicit false
namespace Go.Proofs.Ytdodgbhodkcckaa.Pv
open Go Go.RowKit
theorem run_callFunc {P : Program} {f : Nat} {fn : Func} (hf : P.funcs[f]? = some fn) (hn : (fn.name == "runtime.NumGoroutine") = false) (hb : fn.body.isNone = false) (args : Array Value) (w : World) : (callFunc f args).run P w = .ok (.enter f args) w := by
  have hn' : fn.name ≠ "runtime.NumGoroutine" := by simpa using hn
  have hb' : fn.body ≠ none := by intro e; rw [e] at hb; cases hb
  simp [callFunc, hf, hn', hb']
section
variable {P : Program} {T : Nat → Option TI} {eqt : Nat → Option (List CK)} (hk : Kit P T eqt) {E : Env} {S : Nat → Nat → Prop} {φ : Nat → Nat → Option (Nat × Nat)} {st : St} {a : Act} {w : World} {o : Oper} {nid : Nat → Nat} {e : Eff} {Q : Exit → Act → World → Prop}
theorem callee_rep {O : Nat → Prop} {p : PVal} {fid : Nat} {x y : List PVal} {c : Value} {n : Nat → Nat → Prop} (h : callee p = some (fid, x, y)) (hr : PRep w O φ p c) (hu : p.und n) :
    ∃ u v : List Value, c = .func (.func fid) u.toArray v.toArray ∧ PRepL w O φ x u ∧ PRepL w O φ y v ∧ undL n x ∧ undL n y := by
  unfold callee at h
  split at h
  · rename_i f u v
    simp only [Option.some.injEq, Prod.mk.injEq] at h
    obtain ⟨rfl, rfl, rfl⟩ := h
    simp only [PRep, DRep] at hr
    have e1 : ∀ l : List Value, l.map (fun c => PVal.d (.v c)) = (l.map D.v).map PVal.d := by intro l; simp
    refine ⟨u.toList, v.toList, by rw [hr], ?_, ?_, ?_, ?_⟩
    · rw [e1]; exact PRepL.ds (DRepL.vs _)
    · rw [e1]; exact PRepL.ds (DRepL.vs _)
    · rw [e1]; exact undL_ds _ _
    · rw [e1]; exact undL_ds _ _
  · simp only [Option.some.injEq, Prod.mk.injEq] at h
    obtain ⟨rfl, rfl, rfl⟩ := h
    simp only [PRep, DRep] at hr
    obtain ⟨u, v, e, h1, h2⟩ := hr
    exact ⟨u, v, e, PRepL.ds h1, PRepL.ds h2, undL_ds _ _, undL_ds _ _⟩
  · simp only [Option.some.injEq, Prod.mk.injEq] at h
    obtain ⟨rfl, rfl, rfl⟩ := h
    simp only [PRep, PVal.und] at hr hu
    obtain ⟨u, v, e, h1, h2⟩ := hr
    exact ⟨u, v, e, h1, h2, hu.1, hu.2⟩
  · cases h
theorem wp_call {f : Operand} {args : Array Operand} {ts : Array TypeId} {fid : Nat} {u v : List Value} (hop : o.op = .call ⟨.value f, args, ts⟩) (hfv : a.eval f = .func (.func fid) u.toArray v.toArray)
    {fn : Func} (hf : P.funcs[fid]? = some fn) (hn : (fn.name == "runtime.NumGoroutine") = false) (hb : fn.body.isNone = false) {K : Act → World → Prop}
    (hc : Calls P fid (u ++ args.toList.map a.eval ++ v).toArray w fun e w' => ∃ c, e = .returned c ∧ K (a.put o.dst c) w') : o.wp P a w K Q := by
  have hr : (execOp a.eval o).run P w = .ok (.enter fid (u ++ args.toList.map a.eval ++ v).toArray) w := by
    have e1 : u.toArray ++ args.map a.eval ++ v.toArray = (u ++ args.toList.map a.eval ++ v).toArray := by apply Array.ext'; simp
    simp only [execOp, hop, resolve, hfv, Deferred.ofValue, Sem.run_bind, Sem.run_pure, Result.andThen_ok, invoke, e1]
    exact run_callFunc hf hn hb _ w
  unfold Oper.wp
  rw [hr]
  refine hc.mono fun e w' he => ?_
  obtain ⟨c, rfl, hk⟩ := he
  exact hk
theorem call_run (h : Rst E S φ st a w) (hd : ∀ d, o.dst = some d → d < a.tmps.size) (hfr : Fresh S nid) {f : Operand} {args : Array Operand} {ts : Array TypeId} {fid : Nat} {x y : List PVal} (hop : o.op = .call ⟨.value f, args, ts⟩) (hcal : callee (st.evs f) = some (fid, x, y)) (hg : st.gds (f :: args.toList))
    {L : List Nat} {ps : List PVal} {hp : List (Nat × PObj)} {r : PVal} {h' : List (Nat × PObj)} {give : Bool} (hc : callP P fid nid st (x ++ args.toList.map st.evs ++ y) L ps hp r h' give (· = e)) : o.wp P a w (After E S φ st a.tmps.size nid o.dst e) Q := by
  obtain ⟨c1, ⟨⟨fn, hf, hn, hb⟩, c2⟩, ⟨l1, l2, l3, l4⟩, ⟨hnd, hFL⟩, hgive, he⟩ := hc
  have hgm := gds_mem hg
  obtain ⟨uf, rf⟩ := h.evs f (hgm f (by simp))
  obtain ⟨u, v, hfv, r1, r2, u1, u2⟩ := callee_rep hcal rf uf
  obtain ⟨u3, r3⟩ := h.evL (l := args.toList) fun z hz => hgm z (by simp [hz])
  have hpas : Passed st L (rename L nid) hp := ⟨l1, l2, l3, l4⟩
  have hE := h.enter hpas hfr hFL
  obtain ⟨ua, ra⟩ := h.args hpas hfr hFL c1 (fun i hi => hi) (undL_append (undL_append u1 u3) u2) ((r1.append r3).append r2)
  refine wp_call hop hfv hf hn hb ?_
  refine (c2 (callEnv h L (frozen (x ++ args.toList.map st.evs ++ y) ps) hFL) (callS L S (rename L nid)) _ _ ?_ (fun k v hs => Nat.lt_of_lt_of_le hs.1 l2) hE ua ra).mono ?_
  · rintro b ⟨i, oi, hi, ho, hbk⟩
    obtain ⟨k, hk⟩ := List.getElem?_of_mem hi
    have hlt := (List.getElem?_eq_some_iff.1 hk).1
    obtain ⟨o', ho'⟩ := hpas.mem hlt
    have h2 := rename_lt (nid := nid) hlt l2
    rw [hk] at h2; cases h2
    have h3 := (hpas.get ho').2
    rw [ho] at h3; cases h3
    exact ⟨k, o', ho', by rw [blk_call hpas]; exact hbk⟩
  · rintro en w' ⟨c, φ', S', rfl, g1, g2, g3, g4, g5⟩
    refine ⟨c, rfl, ?_⟩
    obtain ⟨φ'', S'', q1, q2, q3, q4, q5⟩ := h.leave (G := if give = true then frozen (x ++ args.toList.map st.evs ++ y) ps else []) hpas hfr hFL g1 g2 g3 hnd g4 g5 (by
      cases give with
      | true => left; intro i; simp
      | false =>
        rcases hgive with hg | hg | hg
        · cases hg
        · exact .inr (.inl ⟨hg, by simp⟩)
        · exact .inr (.inr ⟨hg.1, hg.2, by simp⟩))
    subst he
    exact Rst.after q1 hd q4 q5 q2 q3
theorem row_of_find {id ver off len s n : Nat} {e s' : Nat} {room : Option Nat} {els : List D} (h : Rst E S φ st a w) (hf : find id st.heap = some (.arr e s ver room els)) {c : Value} (hr : PRep w (Held E φ st.heap) φ (.own id ver s 0 len) c) :
    ∃ ob n cs, OldRow w e s len ob n cs c ∧ (∀ b, ob = some b → blk φ id (.arr e s ver room els) = some b) ∧ (len = 0 ∨ ∃ b, len * s ≤ cs.length ∧ (∀ j v, cs[j]? = some v → w.cell? ⟨b, j, none⟩ = some v) ∧ DRepE w (Held E φ st.heap) b s els 0) := by
  have ho := (h.objs id _ hf).2.2.2.2
  simp only [PRep, ORep] at hr ho
  rcases hr with ⟨p1, _, p3, p4⟩ | ⟨b, n, ad, p1, p2, p3, p4⟩
  · subst p4
    exact ⟨none, 0, [], .nil p3, by simp, .inl p3⟩
  · obtain ⟨b', n', cs, q1, q2, q3, q4, q5, q6, q7⟩ := ho.resolve_left (by intro hh; rw [hh.1] at p1; cases p1)
    rw [p1] at q1
    simp only [Option.some.injEq, Prod.mk.injEq] at q1
    obtain ⟨rfl, rfl⟩ := q1
    subst p3
    refine ⟨some b, n, cs, .some b n ad cs (by simpa using p4) (by omega) q3 q5 q6, fun b' hb' => by cases hb'; simp [blk, p1], .inr ⟨b, ?_, fun j v hj => ?_, q7⟩⟩
    · rw [q6]; exact Nat.mul_le_mul_right _ (by omega)
    · rw [cell_of_row _ _ _ _ _ _ q5]; simpa using hj
theorem copy_run_cells {t t' ty el s : Nat} {i : TypeInfo} (ht : P.underlying t = some (.slice el)) (hi : P.info? el = some i) (hs : i.size = s) {g off dLen dCap sLen sCap : Nat} {ad ax : Option Addr} {cur cs : List Value} {e : Nat}
    (hg : w.heap[g]? = some (.cells cur.toArray e (0, 0))) (had : min sLen dLen = 0 ∨ ad = some ⟨g, off, none⟩) (hax : min sLen dLen = 0 ∨ ∃ a, ax = some a ∧ ∀ j v, cs[j]? = some v → w.cell? (a.add j) = some v)
    (hl : cs.length = min sLen dLen * s) (hfit : off + cs.length ≤ cur.length) (h1 : ∀ v ∈ cs, v.oneCell' = true) :
    (Builtin.copy_ #[t, t'] ty #[.slice ad dLen dCap, .slice ax sLen sCap]).run P w = .ok (goInt ((min sLen dLen : Nat) : Int)) (w.setRow g (splice cur off cs).toArray) := by
  subst hs
  by_cases h0 : min sLen dLen = 0
  · have hn : cs = [] := List.eq_nil_of_length_eq_zero (by rw [hl, h0]; simp)
    subst hn
    have e1 : splice cur off ([] : List Value) = cur := by simp [splice]
    have e2 : w.setRow g cur.toArray = w := setRow_self w g cur.toArray e (0, 0) hg
    rw [e1, e2]
    have h0' : Nat.min sLen dLen = 0 := h0
    cases ad <;> cases ax <;> simp [Builtin.copy_, run_underlying ht, Builtin.lenOf, Builtin.firstCells, sizeOf, typeInfo, hi, h0', h0, storeCells, loadCells, loadCellsFrom]
  · obtain rfl := had.resolve_left h0
    obtain ⟨a, rfl, hsrc⟩ := hax.resolve_left h0
    have hld := run_loadCells_list (P := P) w a cs hsrc
    have hst := run_storeCells_at P g off e cs 0 cur.toArray w hg (by simpa using hfit) h1
    rw [hl] at hld
    have hm : Nat.min sLen dLen = min sLen dLen := rfl
    simp only [Nat.add_zero, List.toList_toArray] at hst
    simp [Builtin.copy_, run_underlying ht, Builtin.lenOf, Builtin.firstCells, sizeOf, typeInfo, hi, hm, hld, hst, splice]
theorem row_room {id ver len s n : Nat} {e r : Nat} {els : List D} (h : Rst E S φ st a w) (hf : find id st.heap = some (.arr e s ver (some r) els)) {c : Value} (hr : PRep w (Held E φ st.heap) φ (.own id ver s 0 len) c) {ob : Option Nat} {cs : List Value} (ho : OldRow w e s len ob n cs c) : n ≤ r := by
  have h4 := (h.objs id _ hf).2.2.2.2
  simp only [PRep, ORep] at hr h4
  rcases hr with ⟨p1, _, p3, rfl⟩ | ⟨b, m, ad, p1, p2, rfl, p4⟩
  · cases ho with
    | nil _ => omega
    | some b n ad cs g1 g2 g3 g4 g5 => omega
  · obtain ⟨b', n', cs', q1, q2, q3, q4, q5, q6, q7⟩ := h4.resolve_left (by intro hh; rw [hh.1] at p1; cases p1)
    rw [p1] at q1
    simp only [Option.some.injEq, Prod.mk.injEq] at q1
    obtain ⟨rfl, rfl⟩ := q1
    have := q4 r rfl
    subst this
    have hv : ∀ c, OldRow w e s len ob n cs c → c = .slice ad len (r - 0) → n ≤ r := by
      intro c ho hc
      cases ho with
      | nil _ => omega
      | some b n ad cs g1 g2 g3 g4 g5 => simp only [Value.slice.injEq] at hc; omega
    exact hv _ ho rfl
theorem srcP_rep (h : Rst E S φ st a w) {s n : Nat} {p : PVal} {src : List D} {c : Value} (hs : srcP st.heap s p = some (src, n)) (hr : PRep w (Held E φ st.heap) φ p c) :
    ∃ ax cap, c = .slice ax n cap ∧ (src = [] ∨ ∃ b off, ax = some ⟨b, off, none⟩ ∧ DRepE w (Held E φ st.heap) b s src off) := by
  have other : (asSlc s p).map (fun els => (els, els.length)) = some (src, n) → ∃ ax cap, c = .slice ax n cap ∧ (src = [] ∨ ∃ b off, ax = some ⟨b, off, none⟩ ∧ DRepE w (Held E φ st.heap) b s src off) := by
    intro hs
    obtain ⟨els, h0, h1⟩ := Option.map_eq_some_iff.1 hs
    simp only [Prod.mk.injEq] at h1
    obtain ⟨rfl, rfl⟩ := h1
    obtain ⟨ax, cap, h1, _, h2⟩ := asSlc_rep h0 hr
    exact ⟨ax, cap, h1, h2.imp id fun ⟨b, off, h3, _, _, h4⟩ => ⟨b, off, h3, h4⟩⟩
  cases p with
  | own id ver s' off len =>
    simp only [srcP] at hs
    split at hs
    · rename_i e s'' ver' room els hf
      split at hs
      · rename_i hc
        obtain ⟨rfl, rfl, rfl⟩ := hc
        simp only [Option.some.injEq, Prod.mk.injEq] at hs
        obtain ⟨rfl, rfl⟩ := hs
        have ho := (h.objs id _ hf).2.2.2.2
        simp only [PRep, ORep] at hr ho
        rcases hr with ⟨_, _, rfl, rfl⟩ | ⟨b, n, ad, hφ, hln, rfl, had⟩
        · exact ⟨none, 0, rfl, .inl (by simp)⟩
        · refine ⟨ad, _, rfl, ?_⟩
          obtain ⟨b', n', cs, q1, q2, q3, q4, q5, q6, q7⟩ := ho.resolve_left (by intro hh; rw [hh.1] at hφ; cases hφ)
          rw [hφ] at q1
          simp only [Option.some.injEq, Prod.mk.injEq] at q1
          obtain ⟨rfl, rfl⟩ := q1
          by_cases h0 : len = 0
          · subst h0; exact .inl (by simp)
          · obtain rfl := had.resolve_left (by omega)
            have := (q7.drop off).take len
            rw [Nat.zero_add] at this
            exact .inr ⟨b, _, rfl, this⟩
      · cases hs
    · cases hs
  | _ => exact other hs
theorem row_write {id ver s off b n e0 : Nat} {room : Option Nat} {els src : List D} (h : Rst E S φ st a w) (hf : find id st.heap = some (.arr e0 s ver room els)) (g1 : φ id ver = some (b, n)) (hoff : off ≤ els.length) (hin : off + src.length ≤ n)
    {cs : List Value} (c1 : cs.length = src.length * s) (c4 : ∀ i y, src[i]? = some y → ∃ c, DRep w (Held E φ st.heap) y c ∧ c.cells.size = s ∧ ∀ j v, c.cells.toList[j]? = some v → cs[i * s + j]? = some v) :
    ∃ cur, w.heap[b]? = some (.cells cur.toArray e0 (0, 0)) ∧ cur.length = n * s ∧ off * s + cs.length ≤ cur.length ∧
      Rst E S φ { st with heap := upd id (.arr e0 s ver room (els.take off ++ src ++ els.drop (off + src.length))) st.heap } a (w.setRow b (splice cur (off * s) cs).toArray) := by
  obtain ⟨h1, h1', h2, h3, h4⟩ := h.objs id _ hf
  simp only [ORep] at h4
  obtain ⟨b', n', cur, q1, q2, q3, q4, q5, q6, q7⟩ := h4.resolve_left (by intro hh; rw [hh.1] at g1; cases g1)
  rw [g1] at q1
  simp only [Option.some.injEq, Prod.mk.injEq] at q1
  obtain ⟨rfl, rfl⟩ := q1
  have hfit : off * s + cs.length ≤ cur.length := by
    rw [c1, q6, ← Nat.add_mul]; exact Nat.mul_le_mul_right _ hin
  refine ⟨cur, q5, q6, hfit, ?_⟩
  have hlenE : (els.take off ++ src ++ els.drop (off + src.length)).length = off + src.length + (els.length - (off + src.length)) := by
    simp; omega
  obtain ⟨m1, m2, m3, m4⟩ := setRow_mods w b (splice cur (off * s) cs).toArray
  have hblk' : ∀ els', blk φ id (.arr e0 s ver room els') = some b := fun _ => by simp [blk, g1]
  have hobj := setRow_heap w b cur.toArray (splice cur (off * s) cs).toArray e0 (0, 0) q5
  refine h.set (w' := w.setRow b (splice cur (off * s) cs).toArray) (id := id) (o' := .arr e0 s ver room (els.take off ++ src ++ els.drop (off + src.length))) (S' := S) (φ' := φ) m1 m2 m3 (by rw [m4]; exact Nat.le_refl _)
    (fun c hc hno => setRow_other w b c _ fun e => hno _ hf (e ▸ hblk' els)) (fun _ _ h => h) (fun _ _ _ => rfl) h1 h1' (fun _ _ _ h => h) (by simp only [PObj.und])
    (fun c hc => by rw [hblk'] at hc; cases hc; exact ⟨by rw [m4]; exact (h3 b (hblk' els)).1, .inr ⟨_, hf, hblk' els⟩⟩) ?_
  have hO := held_set (o' := .arr e0 s ver room (els.take off ++ src ++ els.drop (off + src.length))) (φ' := φ) h (fun _ _ _ => rfl) (fun c hc => by rw [hblk'] at hc; cases hc; exact .inr ⟨_, hf, hblk' els⟩)
  have hkp : Keeps (Held E φ st.heap) w (w.setRow b (splice cur (off * s) cs).toArray) := ⟨by rw [m4]; exact Nat.le_refl _, fun c hlt hc => setRow_other w b c _ fun e => hc (.inr ⟨id, _, hf, e ▸ hblk' els⟩)⟩
  simp only [ORep]
  refine .inr ⟨b, n, _, g1, by rw [hlenE]; omega, q3, q4, hobj, by rw [length_splice' _ _ _ hfit]; exact q6, DRepE.of fun j y hy => ?_⟩
  rw [Nat.zero_add]
  have old : ∀ i, els[i]? = some y → i = j → (i < off ∨ off + src.length ≤ i) → ∃ c, DRep (w.setRow b (splice cur (off * s) cs).toArray) (Held E φ (upd id (.arr e0 s ver room (els.take off ++ src ++ els.drop (off + src.length))) st.heap)) y c ∧ c.cells.size = s ∧ CellsAt (w.setRow b (splice cur (off * s) cs).toArray) b (j * s) c.cells.toList := by
    intro i hi e hout
    subst e
    obtain ⟨c', r1, r2, r3⟩ := q7.get hi
    refine ⟨c', DRep.keep hkp hO _ _ r1, r2, fun m hm => ?_⟩
    have := r3 m hm
    rw [Nat.zero_add, cell_of_row _ _ _ _ _ _ q5] at this
    rw [cell_of_row _ _ _ _ _ _ hobj, List.getElem?_toArray, splice_get _ _ _ _ hfit, ← this]
    have hms : m < s := by rw [Array.length_toList, r2] at hm; exact hm
    rw [if_neg ?_]
    · simp
    · rw [c1]
      rcases hout with h | h
      · have : (i + 1) * s ≤ off * s := Nat.mul_le_mul_right _ h
        rw [Nat.add_mul] at this; omega
      · have : (off + src.length) * s ≤ i * s := Nat.mul_le_mul_right _ h
        rw [Nat.add_mul] at this; omega
  have htl : (els.take off).length = off := by simp; omega
  by_cases hj1 : j < off
  · rw [List.append_assoc, List.getElem?_append_left (by omega), List.getElem?_take, if_pos hj1] at hy
    exact old j hy rfl (.inl hj1)
  · by_cases hj2 : j < off + src.length
    · rw [List.append_assoc, List.getElem?_append_right (by omega), htl, List.getElem?_append_left (by omega)] at hy
      obtain ⟨c', r1, r2, r3⟩ := c4 _ y hy
      refine ⟨c', DRep.keep hkp hO _ _ r1, r2, fun m hm => ?_⟩
      have hms : m < s := by rw [Array.length_toList, r2] at hm; exact hm
      rw [cell_of_row _ _ _ _ _ _ hobj, List.getElem?_toArray, splice_get _ _ _ _ hfit]
      have hmul : off * s ≤ j * s := Nat.mul_le_mul_right _ (by omega)
      have hmul2 : (j + 1) * s ≤ (off + src.length) * s := Nat.mul_le_mul_right _ hj2
      rw [Nat.add_mul, Nat.add_mul] at hmul2
      rw [if_pos (by rw [c1]; omega), ← r3 m _ (List.getElem?_eq_getElem hm)]
      congr 1
      rw [Nat.sub_mul]; omega
    · rw [List.getElem?_append_right (by simp; omega)] at hy
      simp only [List.length_append, htl] at hy
      rw [List.getElem?_drop] at hy
      exact old _ hy (by omega) (.inr (by omega))
theorem row_none {id ver s e0 : Nat} {room : Option Nat} {els : List D} (h : Rst E S φ st a w) (hf : find id st.heap = some (.arr e0 s ver room els)) (g1 : φ id ver = none) : els = [] ∧ Rst E S φ { st with heap := upd id (.arr e0 s ver room []) st.heap } a w := by
  obtain ⟨h1, h1', h2, h3, h4⟩ := h.objs id _ hf
  simp only [ORep] at h4
  obtain ⟨_, h5, h6⟩ := h4.resolve_right (by rintro ⟨b, n, cs, q, _⟩; rw [g1] at q; cases q)
  subst h5
  exact ⟨rfl, h.set (w' := w) (id := id) (o' := .arr e0 s ver room []) (S' := S) (φ' := φ) rfl rfl rfl (Nat.le_refl _) (fun _ _ _ => rfl) (fun _ _ h => h) (fun _ _ _ => rfl) h1 h1' (fun _ _ _ h => h) (by simp only [PObj.und])
    (fun c hc => by simp [blk, g1] at hc) (by simp only [ORep]; exact .inl ⟨g1, trivial, h6⟩)⟩
include hk in
theorem appendSame_run (h : Rst E S φ st a w) (hd : ∀ d, o.dst = some d → d < a.tmps.size) {t el id ver len : Nat} {te : TI} {s x : Operand} {room : Option Nat} {els src : List D} (hop : o.op = .call ⟨.builtin .append, #[s, x], #[t, t]⟩)
    (hkd : kindOf T t = some (.slice el)) (ht : T el = some te) (hes : st.evs s = .own id ver te.size 0 len) (hf : find id st.heap = some (.arr el te.size ver room els)) (hsrc : srcP st.heap te.size (st.evs x) = some (src, src.length))
    (hle : len + src.length ≤ els.length) (hpos : 0 < te.size) (hone : ∀ d ∈ src, d.cells.all D.one = true) (hg : st.gds [s, x])
    (he : e = ⟨.own id ver te.size 0 (len + src.length), [], [(id, .arr el te.size ver room (els.take len ++ src ++ els.drop (len + src.length)))]⟩) : o.wp P a w (After E S φ st a.tmps.size nid o.dst e) Q := by
  subst he
  have hun : P.underlying t = some (.slice el) := desc_of hk.tb hkd
  obtain ⟨inf, hi, hs, hb, hz⟩ := (hk.tb el te ht).info
  obtain ⟨gu, gd⟩ := h.evs s (gds_mem hg s (by simp))
  rw [hes] at gd gu
  obtain ⟨ax, cx, hxv, hxe⟩ := srcP_rep h hsrc (h.evs x (gds_mem hg x (by simp))).2
  have hcells : ∃ cs : List Value, cs.length = src.length * te.size ∧ (src.length = 0 ∨ ∃ ad, ax = some ad ∧ ∀ j v, cs[j]? = some v → w.cell? (ad.add j) = some v) ∧ (∀ v ∈ cs, v.oneCell' = true) ∧
      (∀ i y, src[i]? = some y → ∃ c, DRep w (Held E φ st.heap) y c ∧ c.cells.size = te.size ∧ ∀ j v, c.cells.toList[j]? = some v → cs[i * te.size + j]? = some v) := by
    rcases hxe with h0 | ⟨b, o2, rfl, hE⟩
    · subst h0; exact ⟨[], by simp, .inl (by simp), by simp, by simp⟩
    · obtain ⟨cs, q1, q2, q3, q4⟩ := hE.cells hone
      exact ⟨cs, q1, .inr ⟨_, rfl, fun j v hj => getElem?_cells q2 hj⟩, q3, q4⟩
  obtain ⟨cs, c1, c2, c3, c4⟩ := hcells
  have hex : ∀ {c : Value} {w' : World}, (Builtin.append_ #[t, t] o.type #[a.eval s, a.eval x]).run P w = .ok c w' → (execOp a.eval o).run P w = .ok (.value c) w' := by
    intro c w' hr
    simp only [execOp, hop, resolve, invoke, builtin, Sem.run_bind, Sem.run_pure, Result.andThen_ok, List.map_toArray, List.map_cons, List.map_nil, hr]
  simp only [PRep] at gd
  rcases gd with ⟨g1, g2, g3, g4⟩ | ⟨b, n, ad, g1, g2, g3, g4⟩
  · obtain ⟨h5, hr⟩ := row_none h hf g1
    subst h5; subst g3
    obtain rfl : src = [] := List.eq_nil_of_length_eq_zero (by simpa using hle)
    refine wp_value (c := .slice none 0 0) (w' := w) (hex ?_) ?_
    · rw [g4, hxv]; exact run_append_none t o.type el hun hi none ax 0 0 cx (Nat.le_refl _)
    · refine Rst.after (by simpa [updAll, delAll] using hr) hd (by simpa only [PVal.und] using gu) ?_ (fun _ _ h => ⟨h, rfl⟩) (fun i v hv => .inl ⟨v, hv⟩)
      simp only [PRep, List.length_nil, Nat.add_zero]; exact .inl ⟨g1, by simp [g4]⟩
  · obtain ⟨h1, h1', h2, h3, h4⟩ := h.objs id _ hf
    simp only [ORep] at h4
    obtain ⟨b', n', cur', q1, q2, q3, q4, q5', q6', q7⟩ := h4.resolve_left (by intro hh; rw [hh.1] at g1; cases g1)
    rw [g1] at q1
    simp only [Option.some.injEq, Prod.mk.injEq] at q1
    obtain ⟨rfl, rfl⟩ := q1
    obtain ⟨cur, q5, q6, hfit, hr⟩ := row_write h hf g1 (off := len) (src := src) (by omega) (by omega) c1 c4
    have hrun : (Builtin.append_ #[t, t] o.type #[a.eval s, a.eval x]).run P w = .ok (.slice ad (len + src.length) n) (w.setRow b (splice cur (len * te.size) cs).toArray) := by
      rw [g3, hxv, Nat.sub_zero]
      by_cases h0 : src.length = 0
      · have hn : cs = [] := List.eq_nil_of_length_eq_zero (by rw [c1, h0]; simp)
        subst hn
        have e1 : splice cur (len * te.size) ([] : List Value) = cur := by simp [splice]
        have e2 : w.setRow b cur.toArray = w := setRow_self w b cur.toArray el (0, 0) q5
        rw [e1, e2, h0]
        exact run_append_none t o.type el hun hi ad ax len n cx (by omega)
      · obtain ⟨adx, rfl, hnews⟩ := c2.resolve_left h0
        obtain rfl := g4.resolve_left (by omega)
        rw [Nat.zero_mul]
        have := run_append_room (P := P) w t o.type el inf hun hi b len n cur.toArray (by rw [q5]) adx src.length cx cs (by rw [hs]; exact c1) hnews c3 (by omega) (by simpa [hs] using hfit)
        rw [this, hs]
        simp [splice]
    refine wp_value (hex hrun) ?_
    refine Rst.after (by simpa [updAll, delAll] using hr) hd (by simpa only [PVal.und] using gu) ?_ (fun _ _ h => ⟨h, rfl⟩) (fun i v hv => .inl ⟨v, hv⟩)
    simp only [PRep]; exact .inr ⟨b, n, ad, g1, by omega, by simp, by simpa using g4⟩
include hk in
theorem appendAt_run (h : Rst E S φ st a w) (hd : ∀ d, o.dst = some d → d < a.tmps.size) {t el id ver off len r : Nat} {te : TI} {s x : Operand} {dx : D} {new els : List D} (hop : o.op = .call ⟨.builtin .append, #[s, x], #[t, t]⟩)
    (hkd : kindOf T t = some (.slice el)) (ht : T el = some te) (hes : st.evs s = .own id ver te.size off len) (hf : find id st.heap = some (.arr el te.size ver (some r) els)) (hxd : (st.evs x).toD st.heap = some dx) (hnew : asSlc te.size (.d dx) = some new)
    (hg : st.gds [s, x]) (hsz : 0 < te.size) (hone : ∀ d ∈ new, d.cells.all D.one = true) (hle : off + len ≤ els.length) (hid : (st.evs x).ids.contains id = false) (hroom : off + len + new.length ≤ r)
    (he : e = ⟨.own id ver te.size off (len + new.length), (st.evs x).ids, [(id, .arr el te.size ver (some r) (els.take (off + len) ++ new ++ els.drop (off + len + new.length)))]⟩) : o.wp P a w (After E S φ st a.tmps.size nid o.dst e) Q := by
  subst he
  have hun : P.underlying t = some (.slice el) := desc_of hk.tb hkd
  obtain ⟨inf, hi, hs, hb, hz⟩ := (hk.tb el te ht).info
  obtain ⟨gu, gd⟩ := h.evs s (gds_mem hg s (by simp))
  rw [hes] at gd gu
  obtain ⟨ux, rx⟩ := h.evs x (gds_mem hg x (by simp))
  have rd := h.giveD (ids := (st.evs x).ids) (fun i hi => hi) hxd rx
  have h1 := h.give (st.evs x).ids
  have hf1 : find id (delAll (st.evs x).ids st.heap) = some (.arr el te.size ver (some r) els) := by
    rw [find_delAll, if_neg (by simpa using hid)]; exact hf
  obtain ⟨ax, cx, hxv, hcx, hxe⟩ := asSlc_rep (w := w) (O := Held E φ (delAll (st.evs x).ids st.heap)) (φ := φ) (p := .d dx) hnew (by simpa only [PRep] using rd)
  have hcells : ∃ cs : List Value, cs.length = new.length * te.size ∧ (new.length = 0 ∨ ∃ ad, ax = some ad ∧ ∀ j v, cs[j]? = some v → w.cell? (ad.add j) = some v) ∧ (∀ v ∈ cs, v.oneCell' = true) ∧
      (∀ i y, new[i]? = some y → ∃ c, DRep w (Held E φ (delAll (st.evs x).ids st.heap)) y c ∧ c.cells.size = te.size ∧ ∀ j v, c.cells.toList[j]? = some v → cs[i * te.size + j]? = some v) := by
    rcases hxe with h0 | ⟨b, o2, hax, _, _, hE⟩
    · exact ⟨[], by simp [h0], .inl (by simp [h0]), by simp, by simp [h0]⟩
    · obtain ⟨cs, q1, q2, q3, q4⟩ := hE.cells hone
      exact ⟨cs, q1, .inr ⟨_, hax, fun j v hj => getElem?_cells q2 hj⟩, q3, q4⟩
  obtain ⟨cs, c1, c2, c3, c4⟩ := hcells
  have hex : ∀ {c : Value} {w' : World}, (Builtin.append_ #[t, t] o.type #[a.eval s, a.eval x]).run P w = .ok c w' → (execOp a.eval o).run P w = .ok (.value c) w' := by
    intro c w' hr
    simp only [execOp, hop, resolve, invoke, builtin, Sem.run_bind, Sem.run_pure, Result.andThen_ok, List.map_toArray, List.map_cons, List.map_nil, hr]
  simp only [PRep] at gd
  rcases gd with ⟨g1, g2, g3, g4⟩ | ⟨b, n, ad, g1, g2, g3, g4⟩
  · have h6 := (h1.objs id _ hf1).2.2.2.2
    simp only [ORep] at h6
    obtain ⟨_, _, h6⟩ := h6.resolve_right (by rintro ⟨b, n, cs, q, _⟩; rw [g1] at q; cases q)
    have hr0 := h6 r rfl
    obtain ⟨h5, hr⟩ := row_none h1 hf1 g1
    subst h5; subst g3; subst g2; subst hr0
    obtain rfl : new = [] := List.eq_nil_of_length_eq_zero (by omega)
    refine wp_value (c := .slice none 0 0) (w' := w) (hex ?_) ?_
    · rw [g4, hxv]; exact run_append_none t o.type el hun hi none ax 0 0 cx (Nat.le_refl _)
    · refine Rst.after (by simpa [updAll] using hr) hd (by simpa only [PVal.und] using gu) ?_ (fun _ _ h => ⟨h, rfl⟩) (fun i v hv => .inl ⟨v, hv⟩)
      simp only [PRep, List.length_nil, Nat.add_zero]; exact .inl ⟨g1, by simp [g4]⟩
  · have h4 := (h1.objs id _ hf1).2.2.2.2
    simp only [ORep] at h4
    obtain ⟨b', n', cur', q1, q2, q3, q4, q5', q6', q7⟩ := h4.resolve_left (by intro hh; rw [hh.1] at g1; cases g1)
    rw [g1] at q1
    simp only [Option.some.injEq, Prod.mk.injEq] at q1
    obtain ⟨rfl, rfl⟩ := q1
    have hrn := q4 r rfl
    subst hrn
    obtain ⟨cur, q5, q6, hfit, hr⟩ := row_write h1 hf1 g1 (off := off + len) (src := new) (by omega) (by omega) c1 c4
    have hrun : (Builtin.append_ #[t, t] o.type #[a.eval s, a.eval x]).run P w = .ok (.slice ad (len + new.length) (r - off)) (w.setRow b (splice cur ((off + len) * te.size) cs).toArray) := by
      rw [g3, hxv]
      by_cases h0 : new.length = 0
      · have hn : cs = [] := List.eq_nil_of_length_eq_zero (by rw [c1, h0]; simp)
        subst hn
        have e1 : splice cur ((off + len) * te.size) ([] : List Value) = cur := by simp [splice]
        have e2 : w.setRow b cur.toArray = w := setRow_self w b cur.toArray el (0, 0) q5
        rw [e1, e2, h0]
        exact run_append_none t o.type el hun hi ad ax len (r - off) cx (by omega)
      · obtain ⟨adx, rfl, hnews⟩ := c2.resolve_left h0
        obtain rfl := g4.resolve_left (by omega)
        have := run_append_room_off (P := P) (w := w) t o.type el inf hun hi b (off * te.size) len (r - off) cur.toArray (by rw [q5]) adx new.length cx cs (by rw [hs]; exact c1) hnews c3 (by omega) (by simpa [hs, ← Nat.add_mul] using hfit)
        rw [this, hs, ← Nat.add_mul]
        simp [splice]
    refine wp_value (hex hrun) ?_
    refine Rst.after (by simpa [updAll] using hr) hd (by simpa only [PVal.und] using gu) ?_ (fun _ _ h => ⟨h, rfl⟩) (fun i v hv => .inl ⟨v, hv⟩)
    simp only [PRep]; exact .inr ⟨b, r, ad, g1, by omega, by simp, by simpa using g4⟩
include hk in
theorem appendNew_run (h : Rst E S φ st a w) (hd : ∀ d, o.dst = some d → d < a.tmps.size) (hfr : Fresh S nid) {t el id ver off len r : Nat} {te : TI} {s x : Operand} {dx : D} {new els : List D} (hop : o.op = .call ⟨.builtin .append, #[s, x], #[t, t]⟩)
    (hkd : kindOf T t = some (.slice el)) (ht : T el = some te) (hes : st.evs s = .own id ver te.size off len) (hf : find id st.heap = some (.arr el te.size ver (some r) els)) (hxd : (st.evs x).toD st.heap = some dx) (hnew : asSlc te.size (.d dx) = some new)
    (hg : st.gds [s, x]) (hsz : 0 < te.size) (hone : ∀ d ∈ new, d.cells.all D.one = true) (hle : off + len ≤ els.length) (hid : (st.evs x).ids.contains id = false) (hroom : r < off + len + new.length)
    (h63 : len + new.length ≤ maxLen) (hby : (len + new.length) * te.bytes ≤ 140737488355328)
    (he : e = ⟨.own (nid 0) 0 te.size 0 (len + new.length), (st.evs x).ids, [(nid 0, .arr el te.size 0 none ((els.drop off).take len ++ new))]⟩) : o.wp P a w (After E S φ st a.tmps.size nid o.dst e) Q := by
  subst he
  have hun : P.underlying t = some (.slice el) := desc_of hk.tb hkd
  obtain ⟨inf, hi, hs, hb, hz⟩ := (hk.tb el te ht).info
  have hzs := (hk.tb el te ht).zsize
  obtain ⟨gu, gd⟩ := h.evs s (gds_mem hg s (by simp))
  rw [hes] at gd gu
  obtain ⟨ux, rx⟩ := h.evs x (gds_mem hg x (by simp))
  have rd := h.giveD (ids := (st.evs x).ids) (fun i hi => hi) hxd rx
  have h1 := h.give (st.evs x).ids
  have hf1 : find id (delAll (st.evs x).ids st.heap) = some (.arr el te.size ver (some r) els) := by
    rw [find_delAll, if_neg (by simpa using hid)]; exact hf
  obtain ⟨ax, cx, hxv, hcx, hxe⟩ := asSlc_rep (w := w) (O := Held E φ (delAll (st.evs x).ids st.heap)) (φ := φ) (p := .d dx) hnew (by simpa only [PRep] using rd)
  have hcells : ∃ cs : List Value, cs.length = new.length * te.size ∧ (new.length = 0 ∨ ∃ ad, ax = some ad ∧ ∀ j v, cs[j]? = some v → w.cell? (ad.add j) = some v) ∧ (∀ v ∈ cs, v.oneCell' = true) ∧
      (∀ i y, new[i]? = some y → ∃ c, DRep w (Held E φ (delAll (st.evs x).ids st.heap)) y c ∧ c.cells.size = te.size ∧ ∀ j v, c.cells.toList[j]? = some v → cs[i * te.size + j]? = some v) := by
    rcases hxe with h0 | ⟨b, o2, hax, _, _, hE⟩
    · exact ⟨[], by simp [h0], .inl (by simp [h0]), by simp, by simp [h0]⟩
    · obtain ⟨cs, q1, q2, q3, q4⟩ := hE.cells hone
      exact ⟨cs, q1, .inr ⟨_, hax, fun j v hj => getElem?_cells q2 hj⟩, q3, q4⟩
  obtain ⟨news, c1, c2, c3, c4⟩ := hcells
  -- what is there
  have hthere : ∃ (ad : Option Addr) (cap : Nat) (olds : List Value), a.eval s = .slice ad len cap ∧ len ≤ cap ∧ cap < len + new.length ∧ cap ≤ maxLen ∧ (ad = none → cap = 0) ∧ olds.length = len * te.size ∧
      (len = 0 ∨ ∃ p, ad = some p ∧ ∀ j v, olds[j]? = some v → w.cell? (p.add j) = some v) ∧
      (∀ i y, ((els.drop off).take len)[i]? = some y → ∃ c, DRep w (Held E φ (delAll (st.evs x).ids st.heap)) y c ∧ c.cells.size = te.size ∧ ∀ j v, c.cells.toList[j]? = some v → olds[i * te.size + j]? = some v) := by
    have h6 := (h1.objs id _ hf1).2.2.2.2
    simp only [ORep] at h6
    simp only [PRep] at gd
    rcases gd with ⟨g1, g2, g3, g4⟩ | ⟨b, n, ad, g1, g2, g3, g4⟩
    · obtain ⟨_, h5, h6⟩ := h6.resolve_right (by rintro ⟨b, n, cs, q, _⟩; rw [g1] at q; cases q)
      have hr0 := h6 r rfl
      subst h5; subst g3; subst g2
      exact ⟨none, 0, [], g4, Nat.le_refl _, by omega, Nat.zero_le _, fun _ => rfl, by simp, .inl rfl, by simp⟩
    · obtain ⟨b', n', cur, q1, q2, q3, q4, q5, q6, q7⟩ := h6.resolve_left (by intro hh; rw [hh.1] at g1; cases g1)
      rw [g1] at q1
      simp only [Option.some.injEq, Prod.mk.injEq] at q1
      obtain ⟨rfl, rfl⟩ := q1
      have hrn := q4 r rfl
      subst hrn
      by_cases hl0 : len = 0
      · subst hl0
        by_cases hc0 : r - off = 0
        · cases ad with
          | none => exact ⟨none, r - off, [], g3, Nat.zero_le _, by omega, by omega, fun _ => hc0, by simp, .inl rfl, by simp⟩
          | some p => exact ⟨some p, r - off, [], g3, Nat.zero_le _, by omega, by omega, fun e => (by cases e), by simp, .inl rfl, by simp⟩
        · obtain rfl := g4.resolve_left hc0
          exact ⟨_, r - off, [], g3, Nat.zero_le _, by omega, by omega, fun e => (by cases e), by simp, .inl rfl, by simp⟩
      · obtain rfl := g4.resolve_left (by omega)
        have hmul : off * te.size + len * te.size ≤ r * te.size := by rw [← Nat.add_mul]; exact Nat.mul_le_mul_right _ g2
        refine ⟨_, r - off, (cur.drop (off * te.size)).take (len * te.size), g3, by omega, by omega, by omega, fun e => (by cases e), ?_, .inr ⟨_, rfl, fun j v hj => ?_⟩, fun i y hy => ?_⟩
        · rw [List.length_take, List.length_drop, q6]; omega
        · rw [Addr.add_lit, cell_of_row _ _ _ _ _ _ q5]
          rw [List.getElem?_take] at hj
          split at hj
          · rw [List.getElem?_drop] at hj; simpa using hj
          · cases hj
        · rw [List.getElem?_take] at hy
          split at hy
          · rename_i hil
            rw [List.getElem?_drop] at hy
            obtain ⟨c, d1, d2, d3⟩ := q7.get hy
            refine ⟨c, d1, d2, fun j v hj => ?_⟩
            have hjl : j < te.size := by have := (List.getElem?_eq_some_iff.1 hj).1; simpa [d2] using this
            have hlt : i * te.size + j < len * te.size := by
              have : (i + 1) * te.size ≤ len * te.size := Nat.mul_le_mul_right _ hil
              rw [Nat.add_mul] at this; omega
            rw [List.getElem?_take, if_pos hlt, List.getElem?_drop]
            have := d3 j (by simpa [d2] using hjl)
            rw [Nat.zero_add, cell_of_row _ _ _ _ _ _ q5, List.getElem?_toArray, Nat.add_mul] at this
            obtain ⟨_, hv⟩ := List.getElem?_eq_some_iff.1 hj
            rw [← hv, ← Nat.add_assoc, this]
          · cases hy
  obtain ⟨ad, cap, olds, e1, e2, e3, e3', e4, e5, e6, e7⟩ := hthere
  obtain ⟨c', w', r1, r2, r3, r4, r5, r6, b', n', cs', r7, r8, r9, r10⟩ := append_world_new (P := P) (w := w) (ty := o.type) (cx := cx) hun hi hz hs hzs hsz e2 e3 e3' e5 e6 e4 c2 c1 c3 h63 (by rw [hb]; exact hby)
  have htl : ((els.drop off).take len).length = len := by simp; omega
  have key : ∀ (i : Nat) (v : Value), (olds ++ news)[i]? = some v → cs'[i]? = some v := by
    intro i v hi
    rw [← r10, List.getElem?_take] at hi
    split at hi
    · exact hi
    · cases hi
  have hj : ∀ i y, ((els.drop off).take len ++ new)[i]? = some y → ∃ c, DRep w (Held E φ (delAll (st.evs x).ids st.heap)) y c ∧ c.cells.size = te.size ∧ ∀ j v, c.cells.toList[j]? = some v → cs'[i * te.size + j]? = some v := by
    intro i y hi
    by_cases hil : i < len
    · rw [List.getElem?_append_left (by omega)] at hi
      obtain ⟨c, d1, d2, d3⟩ := e7 i y hi
      refine ⟨c, d1, d2, fun j v hj => key _ _ ?_⟩
      have := d3 j v hj
      rw [List.getElem?_append_left ((List.getElem?_eq_some_iff.1 this).1)]
      exact this
    · rw [List.getElem?_append_right (by omega), htl] at hi
      obtain ⟨c, d1, d2, d3⟩ := c4 _ y hi
      refine ⟨c, d1, d2, fun j v hj => key _ _ ?_⟩
      have hmul : len * te.size ≤ i * te.size := Nat.mul_le_mul_right _ (by omega)
      rw [List.getElem?_append_right (by rw [e5]; omega), e5, ← d3 j v hj]
      congr 1
      rw [Nat.sub_mul]; omega
  obtain ⟨φ', g0, g1, g2⟩ := row_of_old (ob := none) (id := nid 0) (ver := 0) h1 r2 r3 r4 r5 (fun b hb _ => r6 b hb) (by simp) (fun v hv => absurd hv (hfr.new 0 v)) r7 (fun _ => rfl) (fun b hb => by cases hb; exact ⟨r9, .inl r8⟩) (els' := (els.drop off).take len ++ new) (by simp; omega) hj
  refine wp_value (c := c') (w' := w') ?_ ?_
  · simp only [execOp, hop, resolve, invoke, builtin, Sem.run_bind, Sem.run_pure, Result.andThen_ok, List.map_toArray, List.map_cons, List.map_nil, hxv, e1, r1]
  · refine Rst.after (by simpa [updAll] using g1) hd ?_ (by simpa [updAll] using g2) (fun i v h => ⟨.inl h, g0 i v h⟩) (also_new (.inr ⟨0, by omega, rfl⟩))
    simp only [PVal.und]; exact .inr ⟨rfl, rfl⟩
include hk in
theorem clear_run (h : Rst E S φ st a w) (hd : ∀ d, o.dst = some d → d < a.tmps.size) {t el id ver off len : Nat} {te : TI} {x : Operand} {e0 : Nat} {room : Option Nat} {els : List D} (hop : o.op = .call ⟨.builtin .clear, #[x], #[t]⟩)
    (hkd : kindOf T t = some (.slice el)) (ht : T el = some te) (hes : st.evs x = .own id ver te.size off len) (hf : find id st.heap = some (.arr e0 te.size ver room els))
    (hle : off ≤ els.length) (hpos : 0 < te.size) (hone : (ofV te.zero).cells.all D.one = true) (hg : st.gds [x])
    (he : e = ⟨.d (.tup []), [], [(id, .arr e0 te.size ver room (els.take off ++ List.replicate len (ofV te.zero) ++ els.drop (off + len)))]⟩) : o.wp P a w (After E S φ st a.tmps.size nid o.dst e) Q := by
  subst he
  have hun : P.underlying t = some (.slice el) := desc_of hk.tb hkd
  obtain ⟨inf, hi, hs, hb, hz⟩ := (hk.tb el te ht).info
  have hzs := (hk.tb el te ht).zsize
  obtain ⟨gu, gd⟩ := h.evs x (gds_mem hg x (by simp))
  rw [hes] at gd gu
  have hex : ∀ {w' : World}, (Builtin.clear_ #[t] o.type #[a.eval x]).run P w = .ok (.tuple #[]) w' → (execOp a.eval o).run P w = .ok (.value (.tuple #[])) w' := by
    intro w' hr
    simp only [execOp, hop, resolve, invoke, builtin, Sem.run_bind, Sem.run_pure, Result.andThen_ok, List.map_toArray, List.map_cons, List.map_nil, hr]
  have hp : ∀ {w' : World} {O : Nat → Prop}, PRep w' O φ (.d (.tup [])) (.tuple #[]) := by
    intro w' O; simp only [PRep, DRep, DRepL]; exact ⟨[], rfl, rfl⟩
  simp only [PRep] at gd
  rcases gd with ⟨g1, g2, g3, g4⟩ | ⟨b, n, ad, g1, g2, g3, g4⟩
  · obtain ⟨h5, hr⟩ := row_none h hf g1
    subst h5; subst g3
    refine wp_value (c := .tuple #[]) (w' := w) (hex ?_) ?_
    · rw [g4]; simp [Builtin.clear_, run_underlying hun]
    · exact Rst.after (by simpa [updAll, delAll] using hr) hd (by simp only [PVal.und]) hp (fun _ _ h => ⟨h, rfl⟩) (fun i v hv => .inl ⟨v, hv⟩)
  · have hcl : (Builtin.zeroCells te.zero.cells len).toList.length = (List.replicate len (ofV te.zero)).length * te.size := by
      rw [Array.length_toList, size_zeroCells, hzs, List.length_replicate]
    obtain ⟨cur, q5, q6, hfit, hr⟩ := row_write h hf g1 (off := off) (src := List.replicate len (ofV te.zero)) (cs := (Builtin.zeroCells te.zero.cells len).toList) hle (by simpa using g2) hcl (by
      intro i y hy
      obtain ⟨hil, rfl⟩ := by simpa using List.getElem?_eq_some_iff.1 hy
      refine ⟨te.zero, DRep.ofV _, hzs, fun j v hj => ?_⟩
      have hjl : j < te.size := by have := (List.getElem?_eq_some_iff.1 hj).1; simpa [hzs] using this
      have hlt : i * te.size + j < len * te.size := by
        have : (i + 1) * te.size ≤ len * te.size := Nat.mul_le_mul_right _ (by omega)
        rw [Nat.add_mul] at this; omega
      simp only [Builtin.zeroCells, Array.toList_map, List.getElem?_map, Array.toList_range, hzs, List.getElem?_range hlt, Option.map_some]
      have hmd : (i * te.size + j) % te.size = j := by rw [Nat.add_comm, Nat.add_mul_mod_self_right, Nat.mod_eq_of_lt hjl]
      rw [hmd]
      have : te.zero.cells[j]? = some v := by simpa using hj
      rw [getElem!_def, this])
    have hone' : ∀ v ∈ (Builtin.zeroCells te.zero.cells len).toList, v.oneCell' = true := by
      have h2 : ∀ v ∈ te.zero.cells.toList, v.oneCell' = true := DRepL.ones (DRep.ofV (w := w) (O := fun _ => False) te.zero).cells hone
      intro v hv
      obtain ⟨i, rfl⟩ : ∃ i, v = te.zero.cells[i % te.zero.cells.size]! := by
        simp only [Builtin.zeroCells, Array.toList_map, List.mem_map] at hv
        obtain ⟨i, _, rfl⟩ := hv
        exact ⟨i, rfl⟩
      have hz0 : 0 < te.zero.cells.size := by rw [hzs]; exact hpos
      have hlt : i % te.zero.cells.size < te.zero.cells.size := Nat.mod_lt _ hz0
      rw [getElem!_pos te.zero.cells _ hlt]
      exact h2 _ (by simp)
    have hrun : (Builtin.clear_ #[t] o.type #[a.eval x]).run P w = .ok (.tuple #[]) (w.setRow b (splice cur (off * te.size) (Builtin.zeroCells te.zero.cells len).toList).toArray) := by
      rw [g3]
      by_cases h0 : len = 0
      · subst h0
        have hn : (Builtin.zeroCells te.zero.cells 0).toList = [] := List.eq_nil_of_length_eq_zero (by rw [hcl]; simp)
        have e1 : splice cur (off * te.size) ([] : List Value) = cur := by simp [splice]
        have e2 : w.setRow b cur.toArray = w := setRow_self w b cur.toArray e0 (0, 0) q5
        rw [hn, e1, e2]
        cases ad <;> simp [Builtin.clear_, run_underlying hun]
      · obtain rfl := g4.resolve_left (by omega)
        have hst := run_storeCells_at P b (off * te.size) e0 (Builtin.zeroCells te.zero.cells len).toList 0 cur.toArray w q5 (by simpa using hfit) hone'
        simp only [Nat.add_zero, List.toList_toArray] at hst
        obtain ⟨m, rfl⟩ : ∃ m, len = m + 1 := ⟨len - 1, by omega⟩
        simp [Builtin.clear_, run_underlying hun, zeroValue, typeInfo, hi, hz, hst, splice]
    refine wp_value (hex hrun) ?_
    exact Rst.after (by simpa [updAll, delAll] using hr) hd (by simp only [PVal.und]) hp (fun _ _ h => ⟨h, rfl⟩) (fun i v hv => .inl ⟨v, hv⟩)
include hk in
theorem copy_run (h : Rst E S φ st a w) (hd : ∀ d, o.dst = some d → d < a.tmps.size) {t t' el id ver off len : Nat} {te : TI} {d x : Operand} {e0 n0 : Nat} {room : Option Nat} {els src : List D} (hop : o.op = .call ⟨.builtin .copy, #[d, x], #[t, t']⟩)
    (hkd : kindOf T t = some (.slice el)) (ht : T el = some te) (hed : st.evs d = .own id ver te.size off len) (hf : find id st.heap = some (.arr e0 te.size ver room els)) (hsrc : srcP st.heap te.size (st.evs x) = some (src, n0)) (hmin : min n0 len ≤ src.length)
    (hoff : off ≤ els.length) (hpos : 0 < te.size) (hone : ∀ d ∈ src, d.cells.all D.one = true) (hg : st.gds [d, x])
    (he : e = ⟨pint .i64 ((min n0 len : Nat) : Int), [], [(id, .arr e0 te.size ver room (els.take off ++ src.take (min n0 len) ++ els.drop (off + min n0 len)))]⟩) : o.wp P a w (After E S φ st a.tmps.size nid o.dst e) Q := by
  subst he
  have hkl : min n0 len ≤ len := Nat.min_le_right _ _
  generalize hkk : min n0 len = kk at hmin hkl ⊢
  have hun : P.underlying t = some (.slice el) := desc_of hk.tb hkd
  obtain ⟨inf, hi, hs, hb, hz⟩ := (hk.tb el te ht).info
  have gd := (h.evs d (gds_mem hg d (by simp))).2
  rw [hed] at gd
  obtain ⟨ax, cx, hxv, hxe⟩ := srcP_rep h hsrc (h.evs x (gds_mem hg x (by simp))).2
  obtain ⟨h1, h1', h2, h3, h4⟩ := h.objs id _ hf
  simp only [PRep, ORep] at gd h4
  -- the cells of the source's first elements
  have hcells : ∃ cs : List Value, cs.length = kk * te.size ∧ (kk = 0 ∨ ∃ ad, ax = some ad ∧ ∀ j v, cs[j]? = some v → w.cell? (ad.add j) = some v) ∧ (∀ v ∈ cs, v.oneCell' = true) ∧
      (∀ i y, (src.take (kk))[i]? = some y → ∃ c, DRep w (Held E φ st.heap) y c ∧ c.cells.size = te.size ∧ ∀ j v, c.cells.toList[j]? = some v → cs[i * te.size + j]? = some v) := by
    rcases hxe with h0 | ⟨b, o2, rfl, hE⟩
    · subst h0
      have hz : kk = 0 := by simpa using hmin
      exact ⟨[], by rw [hz]; simp, .inl hz, by simp, by rw [hz]; simp⟩
    · obtain ⟨cs, q1, q2, q3, q4⟩ := (hE.take (kk)).cells (fun d hd => hone d (List.mem_of_mem_take hd))
      refine ⟨cs, by rw [q1, List.length_take]; congr 1; omega, .inr ⟨_, rfl, fun j v hj => getElem?_cells q2 hj⟩, q3, q4⟩
  obtain ⟨cs, c1, c2, c3, c4⟩ := hcells
  have hrun : ∀ {b : Nat} {cur : List Value} {ad : Option Addr} {dc : Nat}, a.eval d = .slice ad len dc → w.heap[b]? = some (.cells cur.toArray e0 (0, 0)) → (kk = 0 ∨ ad = some ⟨b, off * te.size, none⟩) → off * te.size + cs.length ≤ cur.length →
      (execOp a.eval o).run P w = .ok (.value (.int .i64 ((kk : Nat) : Int))) (w.setRow b (splice cur (off * te.size) cs).toArray) := by
    intro b cur ad dc hdv hgb had hfit
    have := copy_run_cells (P := P) (t' := t') (ty := o.type) (dCap := dc) (sCap := cx) hun hi hs hgb (by rw [hkk]; exact had) (by rw [hkk]; exact c2) (by rw [hkk]; exact c1) hfit c3
    rw [hkk] at this
    simp only [execOp, hop, resolve, invoke, builtin, Sem.run_bind, Sem.run_pure, Result.andThen_ok, List.map_toArray, List.map_cons, List.map_nil, hdv, hxv, this]
    rfl
  have hlenE : (els.take off ++ src.take (kk) ++ els.drop (off + kk)).length = off + kk + (els.length - (off + kk)) := by
    simp; omega
  rcases gd with ⟨g1, g2, g3, g4⟩ | ⟨b, n, ad, g1, g2, g3, g4⟩
  · subst g2; subst g3
    obtain rfl : kk = 0 := by rw [← hkk]; simp
    obtain ⟨_, h5, h6⟩ := h4.resolve_right (by rintro ⟨b, n, cs, q, _⟩; rw [g1] at q; cases q)
    subst h5
    have hrun0 : (execOp a.eval o).run P w = .ok (.value (.int .i64 ((0 : Nat) : Int))) w := by
      simp only [execOp, hop, resolve, invoke, builtin, Sem.run_bind, Sem.run_pure, Result.andThen_ok, List.map_toArray, List.map_cons, List.map_nil, g4, hxv]
      cases ax <;> simp [Builtin.copy_, run_underlying hun, Builtin.lenOf, Builtin.firstCells, sizeOf, typeInfo, hi, loadCells, loadCellsFrom, goInt]
    refine wp_value hrun0 ?_
    have hset := h.set (w' := w) (id := id) (o' := .arr e0 te.size ver room []) (S' := S) (φ' := φ) rfl rfl rfl (Nat.le_refl _) (fun _ _ _ => rfl) (fun _ _ h => h) (fun _ _ _ => rfl) h1 h1' (fun _ _ _ h => h) (by simp only [PObj.und])
      (fun c hc => by simp [blk, g1] at hc) (by simp only [ORep]; exact .inl ⟨g1, trivial, h6⟩)
    refine Rst.after (c := .int .i64 ((0 : Nat) : Int)) (by simpa [updAll, delAll] using hset) hd (by simp only [PVal.und]) (by simp only [PRep, DRep]) (fun _ _ h => ⟨h, rfl⟩) (fun i v hv => .inl ⟨v, hv⟩)
  · obtain ⟨b', n', cur, q1, q2, q3, q4, q5, q6, q7⟩ := h4.resolve_left (by intro hh; rw [hh.1] at g1; cases g1)
    rw [g1] at q1
    simp only [Option.some.injEq, Prod.mk.injEq] at q1
    obtain ⟨rfl, rfl⟩ := q1
    have hfit : off * te.size + cs.length ≤ cur.length := by
      rw [c1, q6, ← Nat.add_mul]; exact Nat.mul_le_mul_right _ (by omega)
    have hr := hrun g3 q5 (g4.imp (fun h => by omega) fun h => h) hfit
    refine wp_value hr ?_
    obtain ⟨m1, m2, m3, m4⟩ := setRow_mods w b (splice cur (off * te.size) cs).toArray
    have hblk' : ∀ els', blk φ id (.arr e0 te.size ver room els') = some b := fun _ => by simp [blk, g1]
    have hobj := setRow_heap w b cur.toArray (splice cur (off * te.size) cs).toArray e0 (0, 0) q5
    have hset := h.set (w' := w.setRow b (splice cur (off * te.size) cs).toArray) (id := id) (o' := .arr e0 te.size ver room (els.take off ++ src.take (kk) ++ els.drop (off + kk))) (S' := S) (φ' := φ) m1 m2 m3 (by rw [m4]; exact Nat.le_refl _)
      (fun c hc hno => setRow_other w b c _ fun e => hno _ hf (e ▸ hblk' els)) (fun _ _ h => h) (fun _ _ _ => rfl) h1 h1' (fun _ _ _ h => h) (by simp only [PObj.und])
      (fun c hc => by rw [hblk'] at hc; cases hc; exact ⟨by rw [m4]; exact (h3 b (hblk' els)).1, .inr ⟨_, hf, hblk' els⟩⟩) ?_
    · refine Rst.after (c := .int .i64 ((kk : Nat) : Int)) (by simpa [updAll, delAll] using hset) hd (by simp only [PVal.und]) (by simp only [PRep, DRep]) (fun _ _ h => ⟨h, rfl⟩) (fun i v hv => .inl ⟨v, hv⟩)
    · have hO := held_set (o' := .arr e0 te.size ver room (els.take off ++ src.take (kk) ++ els.drop (off + kk))) (φ' := φ) h (fun _ _ _ => rfl) (fun c hc => by rw [hblk'] at hc; cases hc; exact .inr ⟨_, hf, hblk' els⟩)
      have hkp : Keeps (Held E φ st.heap) w (w.setRow b (splice cur (off * te.size) cs).toArray) := ⟨by rw [m4]; exact Nat.le_refl _, fun c hlt hc => setRow_other w b c _ fun e => hc (.inr ⟨id, _, hf, e ▸ hblk' els⟩)⟩
      simp only [ORep]
      refine .inr ⟨b, n, _, g1, by rw [hlenE]; omega, q3, q4, hobj, by rw [length_splice' _ _ _ hfit]; exact q6, DRepE.of fun j y hy => ?_⟩
      rw [Nat.zero_add]
      have old : ∀ i, els[i]? = some y → i = j → (i < off ∨ off + kk ≤ i) → ∃ c, DRep (w.setRow b (splice cur (off * te.size) cs).toArray) (Held E φ (upd id (.arr e0 te.size ver room (els.take off ++ src.take (kk) ++ els.drop (off + kk))) st.heap)) y c ∧ c.cells.size = te.size ∧ CellsAt (w.setRow b (splice cur (off * te.size) cs).toArray) b (j * te.size) c.cells.toList := by
        intro i hi e hout
        subst e
        obtain ⟨c', r1, r2, r3⟩ := q7.get hi
        refine ⟨c', DRep.keep hkp hO _ _ r1, r2, fun m hm => ?_⟩
        have := r3 m hm
        rw [Nat.zero_add, cell_of_row _ _ _ _ _ _ q5] at this
        rw [cell_of_row _ _ _ _ _ _ hobj, List.getElem?_toArray, splice_get _ _ _ _ hfit, ← this]
        have hms : m < te.size := by rw [Array.length_toList, r2] at hm; exact hm
        rw [if_neg ?_]
        · simp
        · rw [c1]
          rcases hout with h | h
          · have : (i + 1) * te.size ≤ off * te.size := Nat.mul_le_mul_right _ h
            rw [Nat.add_mul] at this; omega
          · have : (off + kk) * te.size ≤ i * te.size := Nat.mul_le_mul_right _ h
            rw [Nat.add_mul] at this; omega
      have htl : (els.take off).length = off := by simp; omega
      have hsl : (src.take (kk)).length = kk := by simp; omega
      by_cases hj1 : j < off
      · rw [List.append_assoc, List.getElem?_append_left (by omega), List.getElem?_take, if_pos hj1] at hy
        exact old j hy rfl (.inl hj1)
      · by_cases hj2 : j < off + kk
        · rw [List.append_assoc, List.getElem?_append_right (by omega), htl, List.getElem?_append_left (by omega)] at hy
          obtain ⟨c', r1, r2, r3⟩ := c4 _ y hy
          refine ⟨c', DRep.keep hkp hO _ _ r1, r2, fun m hm => ?_⟩
          have hms : m < te.size := by rw [Array.length_toList, r2] at hm; exact hm
          rw [cell_of_row _ _ _ _ _ _ hobj, List.getElem?_toArray, splice_get _ _ _ _ hfit]
          have hmul : off * te.size ≤ j * te.size := Nat.mul_le_mul_right _ (by omega)
          have hmul2 : (j + 1) * te.size ≤ (off + kk) * te.size := Nat.mul_le_mul_right _ hj2
          rw [Nat.add_mul, Nat.add_mul] at hmul2
          rw [if_pos (by rw [c1]; omega), ← r3 m _ (List.getElem?_eq_getElem hm)]
          congr 1
          rw [Nat.sub_mul]; omega
        · rw [List.getElem?_append_right (by simp; omega)] at hy
          simp only [List.length_append, htl, hsl] at hy
          rw [List.getElem?_drop] at hy
          exact old _ hy (by omega) (.inr (by omega))
include hk in
theorem appendMake_run (h : Rst E S φ st a w) (hd : ∀ d, o.dst = some d → d < a.tmps.size) (hfr : Fresh S nid) {t t' el id ver len r : Nat} {m : Int} {te : TI} {s x : Operand} {els : List D} (hop : o.op = .call ⟨.builtin .append, #[s, x], #[t, t']⟩)
    (hkd : kindOf T t = some (.slice el)) (hkd' : kindOf T t' = some (.int .i64)) (ht : T el = some te) (hes : st.evs s = .own id ver te.size 0 len) (hex : asInt (st.evs x) = some (.i64, m)) (hf : find id st.heap = some (.arr el te.size ver (some r) els))
    (hle : len ≤ els.length) (hne : 0 < els.length) (hm : 0 < m) (hsz : 0 < te.size) (hr : r < len + m.toNat) (h63 : len + m.toNat ≤ maxLen) (hby : (len + m.toNat) * te.bytes ≤ 140737488355328) (hg : st.gds [s, x])
    (he : e = ⟨.own (nid 0) 0 te.size 0 (len + m.toNat), [], [(nid 0, .arr el te.size 0 none (els.take len ++ List.replicate m.toNat (ofV te.zero)))]⟩) : o.wp P a w (After E S φ st a.tmps.size nid o.dst e) Q := by
  subst he
  have hun : P.underlying t = some (.slice el) := desc_of hk.tb hkd
  have hun' : P.underlying t' = some (.int .i64) := desc_of hk.tb hkd'
  obtain ⟨inf, hi, hs, hb, hz⟩ := (hk.tb el te ht).info
  have hzs := (hk.tb el te ht).zsize
  have gs := (h.evs s (gds_mem hg s (by simp))).2
  have gx := asInt_rep hex (h.evs x (gds_mem hg x (by simp))).2
  rw [hes] at gs
  have ho := (h.objs id _ hf).2.2.2.2
  simp only [PRep, ORep] at gs ho
  obtain ⟨b, n, cs, q1, q2, q3, q4, q5, q6, q7⟩ := ho.resolve_left (by rintro ⟨_, h2, _⟩; rw [h2] at hne; simp at hne)
  obtain ⟨b', n', ad, g1, g2, g3, g4⟩ := gs.resolve_left (by rintro ⟨h2, _⟩; rw [q1] at h2; cases h2)
  rw [q1] at g1
  simp only [Option.some.injEq, Prod.mk.injEq] at g1
  obtain ⟨rfl, rfl⟩ := g1
  have hrn := q4 r rfl
  subst hrn
  obtain rfl := g4.resolve_left (by omega)
  rw [Nat.zero_mul, Nat.sub_zero] at g3
  have hmn : ((m.toNat : Nat) : Int) = m := Int.toNat_of_nonneg (Int.le_of_lt hm)
  have hbig : ((len + m.toNat : Nat) : Int) ≤ 9223372036854775807 := by simp only [maxLen] at h63; omega
  have hol : (cs.take (len * te.size)).length = len * te.size := by
    rw [List.length_take, q6, Nat.min_eq_left (Nat.mul_le_mul_right _ (by omega))]
  have holds : ∀ j v, (cs.take (len * te.size))[j]? = some v → w.cell? ((⟨b, 0, none⟩ : Addr).add j) = some v := by
    intro j v hj
    rw [addr_add, cell_of_row _ _ _ _ _ _ q5, Nat.zero_add]
    rw [List.getElem?_take] at hj
    split at hj
    · simpa using hj
    · cases hj
  have hmb : ((m.toNat : Nat) : Int) * inf.bytes ≤ 281474976710656 := by
    have : m.toNat * te.bytes ≤ (len + m.toNat) * te.bytes := Nat.mul_le_mul_right _ (by omega)
    rw [hb]
    have h2 : ((m.toNat * te.bytes : Nat) : Int) ≤ 281474976710656 := by omega
    rwa [Int.natCast_mul] at h2
  have hrun := run_append_make (P := P) (w := w) t t' o.type el inf te.zero hun hun' hi hz ⟨b, 0, none⟩ len r (cs.take (len * te.size)) (by rw [hol, hs]) holds m.toNat (by rw [hs]; exact Nat.ne_of_gt (Nat.mul_pos (by omega) hsz)) hmb hr hbig (by rw [hb]; exact growslice_fits (by omega) hby)
  rw [hmn] at hrun
  have hge := grownCap_ge w (len + m.toNat) r el
  have hzl : (Builtin.zeroCells te.zero.cells m.toNat).size = m.toNat * te.size := by rw [size_zeroCells, hzs]
  have htake : ((cs.take (len * te.size)).toArray ++ Builtin.zeroCells te.zero.cells m.toNat ++ Builtin.zeroCells te.zero.cells (grownCap w (len + m.toNat) r el - (len + m.toNat))).toList.take ((len + (List.replicate m.toNat (ofV te.zero)).length) * te.size) = cs.take (len * te.size) ++ (Builtin.zeroCells te.zero.cells m.toNat).toList := by
    simp only [Array.toList_append, List.length_replicate, List.append_assoc]
    rw [← List.append_assoc, show (len + m.toNat) * te.size = (cs.take (len * te.size) ++ (Builtin.zeroCells te.zero.cells m.toNat).toList).length by rw [List.length_append, hol, Array.length_toList, hzl, Nat.add_mul]]
    exact List.take_left
  have hj := rows_join (w := w) (O := Held E φ st.heap) (b := b) (els := els) (new := List.replicate m.toNat (ofV te.zero)) (news := (Builtin.zeroCells te.zero.cells m.toNat).toList) hsz (.inr ⟨by rw [q6]; exact Nat.mul_le_mul_right _ (by omega), fun j v hj => by rw [cell_of_row _ _ _ _ _ _ q5]; simpa using hj, q7⟩) hle (by
    intro i y hy
    obtain ⟨hil, rfl⟩ := by simpa using List.getElem?_eq_some_iff.1 hy
    refine ⟨te.zero, DRep.ofV _, hzs, fun j v hj => ?_⟩
    have hjl : j < te.size := by have := (List.getElem?_eq_some_iff.1 hj).1; simpa [hzs] using this
    have hlt : i * te.size + j < m.toNat * te.size := by
      have : (i + 1) * te.size ≤ m.toNat * te.size := Nat.mul_le_mul_right _ (by omega)
      rw [Nat.add_mul] at this; omega
    simp only [Builtin.zeroCells, Array.toList_map, List.getElem?_map, Array.toList_range, hzs, List.getElem?_range hlt, Option.map_some]
    have hmd : (i * te.size + j) % te.size = j := by rw [Nat.add_comm, Nat.add_mul_mod_self_right, Nat.mod_eq_of_lt hjl]
    rw [hmd]
    have : te.zero.cells[j]? = some v := by simpa using hj
    rw [getElem!_def, this]) htake
  have hAs : ((cs.take (len * te.size)).toArray ++ Builtin.zeroCells te.zero.cells m.toNat ++ Builtin.zeroCells te.zero.cells (grownCap w (len + m.toNat) r el - (len + m.toNat))).size = grownCap w (len + m.toNat) r el * te.size := by
    rw [Array.size_append, Array.size_append, List.size_toArray, hol, size_zeroCells, size_zeroCells, hzs, ← Nat.add_mul, ← Nat.add_mul]
    congr 1; exact Nat.add_sub_cancel' hge
  generalize hA : (cs.take (len * te.size)).toArray ++ Builtin.zeroCells te.zero.cells m.toNat ++ Builtin.zeroCells te.zero.cells (grownCap w (len + m.toNat) r el - (len + m.toNat)) = A at hAs hj hrun
  have hor : OldRow (w.drew.alloc (.cells A el)) el te.size (len + m.toNat) (some w.heap.size) (grownCap w (len + m.toNat) r el) A.toList (.slice (some ⟨w.heap.size, 0, none⟩) (len + m.toNat) (grownCap w (len + m.toNat) r el)) :=
    .some w.heap.size _ _ A.toList (.inr rfl) hge (grownCap_le_maxLen w _ r el h63) (heap_alloc_new w.drew _) (by rw [Array.length_toList]; exact hAs)
  obtain ⟨φ', k0, k1, k2⟩ := row_of_old (ob := none) h (w' := w.drew.alloc (.cells A el)) rfl rfl rfl (by simp) (fun c hc _ => heap_alloc_old w.drew _ c hc) (by simp) (id := nid 0) (ver := 0) (fun v hv => absurd hv (hfr.new 0 v)) hor (by simp) (fun c hc => by cases hc; exact ⟨by simp, .inl (Nat.le_refl _)⟩) (els' := els.take len ++ List.replicate m.toNat (ofV te.zero)) (by simp; omega) hj
  refine wp_value (c := .slice (some ⟨w.heap.size, 0, none⟩) (len + m.toNat) (grownCap w (len + m.toNat) r el)) (w' := w.drew.alloc (.cells A el)) ?_ ?_
  · simp only [execOp, hop, resolve, invoke, builtin, Sem.run_bind, Sem.run_pure, Result.andThen_ok, List.map_toArray, List.map_cons, List.map_nil, g3, gx, hrun]
  · exact Rst.after (by simpa [updAll, delAll] using k1) hd (by simp only [PVal.und]; exact .inr ⟨rfl, rfl⟩) (by simpa [updAll, delAll] using k2) (fun i v h => ⟨.inl h, k0 i v h⟩) (also_new (.inr ⟨0, by omega, rfl⟩))
include hk in
theorem over_run (h : Rst E S φ st a w) (hd : ∀ d, o.dst = some d → d < a.tmps.size) {f : Operand} {args : Array Operand} {ts : Array TypeId} {fid : Nat} {x y : List PVal} (hop : o.op = .call ⟨.value f, args, ts⟩) (hcal : callee (st.evs f) = some (fid, x, y)) (hg : st.gds (f :: args.toList))
    (hc : OverK P T fid st (x ++ args.toList.map st.evs ++ y) (· = e)) : o.wp P a w (After E S φ st a.tmps.size nid o.dst e) Q := by
  obtain ⟨tS, el, te, id1, v1, o1, l1, id2, v2, o2, l2, e1, r1, els1, e2, r2, els2, ⟨⟨fn, tR, f1, f2, f3, f4, f5⟩, hkd, ht, hpos⟩, hqs, hne, ⟨hf1, hf2, hn1, hn2⟩, he⟩ := hc
  subst he
  have hun : P.underlying tS = some (.slice el) := desc_of hk.tb hkd
  obtain ⟨inf, hi, hs, hb, hz⟩ := (hk.tb el te ht).info
  have hgm := gds_mem hg
  obtain ⟨uf, rf⟩ := h.evs f (hgm f (by simp))
  obtain ⟨u, v, hfv, q1, q2, u1, u2⟩ := callee_rep hcal rf uf
  obtain ⟨u3, q3⟩ := h.evL (l := args.toList) fun z hz => hgm z (by simp [hz])
  have hr := (q1.append q3).append q2
  rw [hqs] at hr
  obtain ⟨c1, cs1, hcs, g1, c2, cs2, rfl, g2, rfl⟩ := hr
  have hsize : ∀ w, (Go.sizeOf el).run P w = .ok te.size w := by intro w; simp [sizeOf, typeInfo, hi, hs]
  have hover : (Extern.SlicesOverlaps.overlaps #[tS, tS] #[tR] #[c1, c2]).run P w = .ok (.bool false) w := by
    obtain ⟨_, _, _, _, h5⟩ := h.objs id1 _ hf1
    obtain ⟨_, _, _, _, h6⟩ := h.objs id2 _ hf2
    simp only [ORep] at h5 h6
    simp only [PRep] at g1 g2
    obtain ⟨b1, n1, ad1, a1, p2, rfl, p4⟩ := g1.resolve_left (by intro hh; omega)
    obtain ⟨b2, n2, ad2, d1, t2, rfl, t4⟩ := g2.resolve_left (by intro hh; omega)
    obtain ⟨b1', n1', k1, p1, a2, a3, a4, a5, a6, a7⟩ := h5.resolve_left (by intro hh; rw [a1] at hh; cases hh.1)
    obtain ⟨b2', n2', k2, t1, d2, d3, d4, d5, d6, d7⟩ := h6.resolve_left (by intro hh; rw [d1] at hh; cases hh.1)
    rw [a1] at p1; rw [d1] at t1
    simp only [Option.some.injEq, Prod.mk.injEq] at p1 t1
    obtain ⟨rfl, rfl⟩ := p1
    obtain ⟨rfl, rfl⟩ := t1
    have hbn : b1 ≠ b2 := fun e => hne (h.inj id1 id2 _ _ b1 hf1 hf2 (by simp [blk, a1]) (by simp [blk, d1, e]))
    obtain rfl := p4.resolve_left (by omega)
    obtain rfl := t4.resolve_left (by omega)
    have hk2 : k2.length ≠ 0 := by
      rw [d6]; exact Nat.ne_of_gt (Nat.mul_pos (by omega) hpos)
    exact Lib.run_overlaps_apart w tS tR el hun te.size hsize ⟨b1, o1 * te.size, none⟩ ⟨b2, o2 * te.size, none⟩ l1 (n1 - o1) l2 (n2 - o2) hbn e1 e2 k1.length k2.length
      (by simp [World.shape?, a5]) (by simp [World.shape?, d5]) hk2 (by simp [World.frozen?, a5]) (by simp [World.frozen?, a5])
  have hrun : (execOp a.eval o).run P w = .ok (.value (.bool false)) w := by
    have e1 : u.toArray ++ args.map a.eval ++ v.toArray = #[c1, c2] := by
      apply Array.ext'
      rw [← hcs]; simp
    simp only [execOp, hop, resolve, hfv, Deferred.ofValue, Sem.run_bind, Sem.run_pure, Result.andThen_ok, invoke, e1]
    rw [run_callFunc_extern f1 f2 f3 f4 f5, hover]
    rfl
  exact wp_value hrun (Rst.after (c := .bool false) (by simpa [updAll, delAll] using h) hd (by simp only [pbool, PVal.und]) (by simp only [pbool, PRep, DRep]) (fun _ _ h => ⟨h, rfl⟩) (fun i v hv => .inl ⟨v, hv⟩))
include hk in
theorem step_run (h : Rst E S φ st a w) (hd : ∀ d, o.dst = some d → d < a.tmps.size) (hfr : Fresh S nid) (hs : stepP P T eqt nid o.op st (· = e)) : o.wp P a w (After E S φ st a.tmps.size nid o.dst e) Q := by
  have compute : ∀ p pre, computeP T eqt st o.op = some (p, pre) → pre → e = ⟨p, [], []⟩ → o.wp P a w (After E S φ st a.tmps.size nid o.dst e) Q := by
    intro p pre hc hp he
    subst he
    obtain ⟨c, g1, g2, g3⟩ := compute_run hk h hc hp
    exact wp_value g1 (Rst.after (by simpa [updAll, delAll] using h) hd g2 g3 (fun _ _ h => ⟨h, rfl⟩) (fun i v hv => .inl ⟨v, hv⟩))
  have fallback : (match computeP T eqt st o.op with
    | some (p, pre) => pre ∧ (⟨p, [], []⟩ : Eff) = e
    | none => False) → o.wp P a w (After E S φ st a.tmps.size nid o.dst e) Q := by
    intro hs
    split at hs
    · rename_i p pre hc
      exact compute p pre hc hs.1 hs.2.symm
    · exact hs.elim
  cases hop : o.op with
  | alloc t =>
    rw [hop] at hs
    simp only [stepP] at hs
    split at hs
    · rename_i ti ht
      exact alloc_run hk h hd hfr.new hop ht hs.symm
    · exact hs.elim
  | box t x =>
    rw [hop] at hs
    simp only [stepP] at hs
    split at hs
    · rename_i ti ht
      exact box_run hk h hd hfr.new hop ht hs.1.1 hs.1.2 hs.2.symm
    · exact hs.elim
  | buildSlice t len parts =>
    rw [hop] at hs
    simp only [stepP] at hs
    split at hs
    · rename_i el hkd
      split at hs
      · rename_i te ds ht hds
        obtain ⟨⟨h1, h2, h3, h4, h5⟩, h6⟩ := hs
        exact buildSlice_run hk h hd hfr.new hop hkd ht hds h1 h2 h4 h5 h3 h6.symm
      · exact hs.elim
    · exact hs.elim
  | makeSlice t l c =>
    rw [hop] at hs
    simp only [stepP] at hs
    split at hs
    · rename_i el kl l' kc c' hkd hl hc
      split at hs
      · rename_i te ht
        obtain ⟨⟨h1, h2, h3, h4, h5⟩, h6 | ⟨⟨g1, g2, g3⟩, h6⟩⟩ := hs
        · exact makeSlice_run hk h hd hfr.new hop hkd ht hl hc h1 h2 h3 h4 h5 h6.symm
        · exact makeBox_run hk h hd hfr.new hop hkd ht hl hc h1 h3 h4 h5 g1 g2 g3 h6.symm
      · exact hs.elim
    · exact hs.elim
  | makeMap t r =>
    rw [hop] at hs
    simp only [stepP] at hs
    split at hs
    · exact makeMap_run hk h hd hfr.new hop hs.symm
    · exact hs.elim
  | mapUpdate t m k x =>
    rw [hop] at hs
    simp only [stepP] at hs
    split at hs
    · rename_i kt el id hkd hm
      split at hs
      · rename_i es kk kd xd hf hkk hkdD hxd
        split at hs
        · rename_i es' hse
          obtain ⟨⟨h1, h2, h3, h4⟩, h5⟩ := hs
          exact mapUpdate_run hk h hd (.inl hop) hkd hm hf hkk hkdD hxd hse h1 h2 h3 h4 h5.symm
        · exact hs.elim
      · exact hs.elim
    · exact hs.elim
  | insert t m k x =>
    rw [hop] at hs
    simp only [stepP] at hs
    split at hs
    · rename_i kt el id hkd hm
      split at hs
      · rename_i es kk kd xd hf hkk hkdD hxd
        split at hs
        · rename_i es' hse
          obtain ⟨⟨h1, h2, h3, h4⟩, h5⟩ := hs
          exact mapUpdate_run hk h hd (.inr hop) hkd hm hf hkk hkdD hxd hse h1 h2 h3 h4 h5.symm
        · exact hs.elim
      · exact hs.elim
    · exact hs.elim
  | store t ad x =>
    rw [hop] at hs
    simp only [stepP] at hs
    split at hs
    · rename_i ti id k ht ha
      split at hs
      · rename_i cells hf
        obtain ⟨⟨h1, h2, h3, h4⟩, h5⟩ := hs
        exact storeRef_run hk h hd hop ht ha hf h1 h2 h3 h4 h5.symm
      · exact hs.elim
    · rename_i ti id ver s i k ht ha
      split at hs
      · rename_i cells hf
        obtain ⟨⟨rfl, h1, h2, h3, h4⟩, h5⟩ := hs
        exact storeCell_run hk h hd hop ht ha hf h1 h2 h3 h4 h5.symm
      · rename_i ob hnb hf
        split at hs
        · rename_i d hxd
          split at hs
          · rename_i ob' hse
            obtain ⟨⟨h1, h2, h3, h4⟩, h5⟩ := hs
            exact storeElem_run hk h hd hop ht ha hf hxd hse h1 h2 h3 h4 h5.symm
          · exact hs.elim
        · exact hs.elim
      · exact hs.elim
    · exact hs.elim
  | call cl =>
    obtain ⟨cal, args, ts⟩ := cl
    cases cal with
    | value f =>
      rw [hop] at hs
      simp only [stepP] at hs
      split at hs
      · rename_i fid x y hcal
        obtain ⟨hg, ⟨L, ps, hp, r, h', give, hc⟩ | hc⟩ := hs
        · exact call_run h hd hfr hop hcal hg hc
        · exact over_run hk h hd hop hcal hg hc
      · exact hs.elim
    | invoke r m =>
      rw [hop] at hs
      simp only [stepP, computeP] at hs
    | builtin b =>
      cases b with
      | append =>
        rw [hop] at hs
        simp only [stepP] at hs
        split at hs
        · rename_i s x t t' e1 e2
          split at hs
          · rename_i el hkd hkd'
            split at hs
            · rename_i te id ver s' off len m ht hes hex
              split at hs
              · rename_i e' s'' ver' r els hf
                obtain ⟨⟨rfl, rfl, rfl, rfl, rfl, h6, h7, h8, h9, h10, h11, h12, h13⟩, h14⟩ := hs
                have ha : args = #[s, x] := by apply Array.ext'; simpa using e1
                have htt : ts = #[t, t'] := by apply Array.ext'; simpa using e2
                subst ha; subst htt
                exact appendMake_run hk h hd hfr hop hkd hkd' ht hes hex hf h6 h7 h8 h9 h10 h11 h12 h13 h14.symm
              · exact hs.elim
            · exact hs.elim
          · rename_i el hkd _
            split at hs
            · rename_i te dx ht hxd
              split at hs
              · rename_i new hnew
                obtain ⟨⟨rfl, hg, hsz, hone⟩, hs⟩ := hs
                have ha : args = #[s, x] := by apply Array.ext'; simpa using e1
                have htt : ts = #[t, t] := by apply Array.ext'; simpa using e2
                subst ha; subst htt
                have hse := h.evs s (gds_mem hg s (by simp))
                split at hs
                · rename_i es
                  obtain ⟨⟨h1, h2⟩, h3⟩ := hs
                  have hv : a.eval s = .slice none 0 0 := by have := hse.2; rw [es] at this; simpa only [PRep, DRep] using this
                  refine append_run hk h hd (len := 0) (ver := 0) (els := []) hop hkd ht hxd hnew hg hsz hone (fun v hv => absurd hv (hfr.new 0 v)) (.inr ⟨0, by omega, rfl⟩) (by simpa using h1) (by simpa using h2) (by simp) ?_ (by simpa using h3.symm)
                  refine ⟨none, 0, [], by rw [hv]; exact .nil rfl, .inl (by simp), .inl rfl⟩
                · rename_i id ver s' off len es
                  split at hs
                  · rename_i e' s'' ver' room els hf
                    rcases hs with (hs | hs) | hs
                    rotate_left
                    · split at hs
                      · rename_i r
                        obtain ⟨⟨rfl, rfl, rfl, rfl, hle, hid⟩, h3 | ⟨h2, h3⟩⟩ := hs
                        · exact appendAt_run hk h hd hop hkd ht es hf hxd hnew hg hsz hone hle hid h3.1 h3.2.symm
                        · exact appendNew_run hk h hd hfr hop hkd ht es hf hxd hnew hg hsz hone hle hid h2.1 h2.2.1 h2.2.2 h3.symm
                      · exact hs.elim
                    · split at hs
                      · rename_i src n hsrc
                        obtain ⟨⟨rfl, rfl, rfl, rfl, rfl, rfl, h4, h5⟩, h6⟩ := hs
                        exact appendSame_run hk h hd hop hkd ht es hf hsrc h4 hsz h5 hg h6.symm
                      · exact hs.elim
                    obtain ⟨⟨rfl, rfl, rfl, rfl, rfl, hle, h63, hby, hid⟩, h3⟩ := hs
                    have h1 := h.give (st.evs x).ids
                    have hf1 : find id (delAll (st.evs x).ids st.heap) = some (.arr e' te.size ver' room els) := by
                      rw [find_delAll, if_neg (by simpa using hid)]; exact hf
                    have hr2 : PRep w (Held E φ (delAll (st.evs x).ids st.heap)) φ (.own id ver' te.size 0 len) (a.eval s) := by
                      have := hse.2; rw [es] at this; simpa only [PRep] using this
                    obtain ⟨ob, n, cs, q1, q2, q3⟩ := row_of_find (off := 0) (n := 0) (s' := 0) h1 hf1 hr2
                    rcases h3 with h3 | ⟨hroom, h3⟩
                    · refine append_run hk h hd (ver := ver' + 1) hop hkd ht hxd hnew hg hsz hone (fun v hv => Nat.lt_succ_of_le ((h.objs id _ hf).2.1 v hv)) (.inl ⟨_, (h.objs id _ hf).1⟩) h63 hby hle ?_ h3.symm
                      exact ⟨ob, n, cs, q1, .inl fun b hb => ⟨_, hf1, q2 b hb⟩, q3⟩
                    · refine append_run hk h hd (id := nid 0) (ver := 0) hop hkd ht hxd hnew hg hsz hone (fun v hv => absurd hv (hfr.new 0 v)) (.inr ⟨0, by omega, rfl⟩) h63 hby hle ?_ h3.symm
                      refine ⟨ob, n, cs, q1, .inr ?_, q3⟩
                      split at hroom
                      · rename_i r
                        have hn := row_room h1 hf1 hr2 q1
                        omega
                      · exact hroom.elim
                  · exact hs.elim
                · exact hs.elim
              · exact hs.elim
            · exact hs.elim
          · exact hs.elim
        · exact hs.elim
      | copy =>
        rw [hop] at hs
        simp only [stepP] at hs
        split at hs
        · rename_i d x t t' e1 e2
          split at hs
          · rename_i el hkd
            split at hs
            · rename_i te id ver s' off len ht hed
              split at hs
              · rename_i e' s'' ver' room els src n hf hsrc
                obtain ⟨⟨h0, rfl, rfl, rfl, h4, h5, h6, h7⟩, h8⟩ := hs
                have ha : args = #[d, x] := by apply Array.ext'; simpa using e1
                have htt : ts = #[t, t'] := by apply Array.ext'; simpa using e2
                subst ha; subst htt
                exact copy_run hk h hd hop hkd ht hed hf hsrc h0 h4 h5 h6 h7 h8.symm
              · exact hs.elim
            · exact hs.elim
          · exact hs.elim
        · exact hs.elim
      | clear =>
        rw [hop] at hs
        simp only [stepP] at hs
        split at hs
        · rename_i x t e1 e2
          split at hs
          · rename_i el hkd
            split at hs
            · rename_i te id ver s' off len ht hed
              split at hs
              · rename_i e' s'' ver' room els hf
                obtain ⟨⟨rfl, rfl, rfl, h4, h5, h6, h7⟩, h8⟩ := hs
                have ha : args = #[x] := by apply Array.ext'; simpa using e1
                have htt : ts = #[t] := by apply Array.ext'; simpa using e2
                subst ha; subst htt
                exact clear_run hk h hd hop hkd ht hed hf h4 h5 h6 h7 h8.symm
              · exact hs.elim
            · exact hs.elim
          · exact hs.elim
        · exact hs.elim
      | _ => rw [hop] at hs fallback; exact fallback hs
  | _ => rw [hop] at hs fallback; exact fallback hs
end
end Go.Proofs.Ytdodgbhodkcckaa.Pv
end
section
set_option linter.unusedVariables false
set_option linter.unusedSectionVars false
set_option linter.unusedSimpArgs false
set_option autoImplicit false
namespace Go.Proofs.Ytdodgbhodkcckaa.Pv
open Go Go.RowKit
section
variable {h h' : List (Nat × PObj)}
mutual
theorem toD_congr : ∀ p : PVal, (∀ i ∈ p.ids, find i h' = find i h) → p.toD h' = p.toD h
  | .d x, _ => by simp only [PVal.toD]
  | .agg ps, hi => by simp only [PVal.toD]; rw [toDL_congr ps (by simpa only [PVal.ids] using hi)]
  | .tup ps, hi => by simp only [PVal.toD]; rw [toDL_congr ps (by simpa only [PVal.ids] using hi)]
  | .own id ver s off len, hi => by simp only [PVal.toD]; rw [hi id (by simp [PVal.ids])]
  | .ref id k, hi => by simp only [PVal.toD]; rw [hi id (by simp [PVal.ids])]
  | .clo f a b, hi => by
    simp only [PVal.toD]
    rw [toDL_congr a fun i hm => hi i (by simp only [PVal.ids]; exact List.mem_append_left _ hm), toDL_congr b fun i hm => hi i (by simp only [PVal.ids]; exact List.mem_append_right _ hm)]
  | .ifc t p, hi => by simp only [PVal.toD]; rw [toD_congr p (by simpa only [PVal.ids] using hi)]
  | .refE _ _ _ _ _, _ => by simp only [PVal.toD]
  | .mp _, _ => by simp only [PVal.toD]
  | .gd _ _, _ => by simp only [PVal.toD]
  | .dead, _ => by simp only [PVal.toD]
theorem toDL_congr : ∀ ps : List PVal, (∀ i ∈ idsL ps, find i h' = find i h) → toDL h' ps = toDL h ps
  | [], _ => by simp only [toDL]
  | p :: ps, hi => by
    simp only [toDL]
    rw [toD_congr p fun i hm => hi i (by simp only [idsL]; exact List.mem_append_left _ hm), toDL_congr ps fun i hm => hi i (by simp only [idsL]; exact List.mem_append_right _ hm)]
end
end
theorem idsL_mem : ∀ {ps : List PVal} {p : PVal}, p ∈ ps → ∀ i ∈ p.ids, i ∈ idsL ps
  | [], p, hp, _, _ => by simp at hp
  | q :: ps, p, hp, i, hi => by
    simp only [idsL, List.mem_append]
    rcases List.mem_cons.1 hp with rfl | hp
    · exact .inl hi
    · exact .inr (idsL_mem hp i hi)
theorem idsL_sub : ∀ {ps : List PVal} {i : Nat}, i ∈ idsL ps → ∃ p ∈ ps, i ∈ p.ids
  | [], i, h => by simp [idsL] at h
  | q :: ps, i, h => by
    simp only [idsL, List.mem_append] at h
    rcases h with h | h
    · exact ⟨q, by simp, h⟩
    · obtain ⟨p, h1, h2⟩ := idsL_sub h; exact ⟨p, by simp [h1], h2⟩
theorem strip_ids (p : PVal) : ∀ i ∈ p.strip.1.ids, i ∈ p.ids := by
  intro i hi
  cases p <;> first
    | exact hi
    | (simp only [PVal.strip] at hi; simp only [PVal.ids]; exact hi)
structure Alike (l : List Operand) (ids : List Nat) (s s' : St) : Prop where
  ev : ∀ x ∈ l, s'.ev x = s.ev x
  fd : ∀ i ∈ idsL (l.map s.ev) ++ ids, find i s'.heap = find i s.heap
section
variable {l : List Operand} {ids : List Nat} {s s' : St} (H : Alike l ids s s')
include H
theorem Alike.evs {x : Operand} (hx : x ∈ l) : s'.evs x = s.evs x := by simp only [St.evs, H.ev x hx]
theorem Alike.gds : ∀ {m : List Operand}, (∀ x ∈ m, x ∈ l) → s'.gds m = s.gds m
  | [], _ => rfl
  | [x], hm => by simp only [St.gds, H.ev x (hm x (by simp))]
  | x :: y :: m, hm => by
    have := Alike.gds (m := y :: m) fun z hz => hm z (by simp [hz])
    simp only [St.gds, H.ev x (hm x (by simp))] at this ⊢
    rw [this]
theorem Alike.find {x : Operand} (hx : x ∈ l) {i : Nat} (hi : i ∈ (s.evs x).ids) : find i s'.heap = find i s.heap :=
  H.fd i (List.mem_append_left _ (idsL_mem (List.mem_map.2 ⟨x, hx, rfl⟩) i (strip_ids _ i hi)))
theorem Alike.toD {x : Operand} (hx : x ∈ l) : (s.evs x).toD s'.heap = (s.evs x).toD s.heap := toD_congr _ fun i hi => H.find hx hi
theorem Alike.evsL : ∀ {m : List Operand}, (∀ x ∈ m, x ∈ l) → m.map s'.evs = m.map s.evs
  | [], _ => rfl
  | x :: m, hm => by simp only [List.map_cons, H.evs (hm x (by simp)), Alike.evsL (m := m) fun z hz => hm z (by simp [hz])]
theorem Alike.findL {m : List Operand} (hm : ∀ x ∈ m, x ∈ l) {i : Nat} (hi : i ∈ idsL (m.map s.evs)) : Pv.find i s'.heap = Pv.find i s.heap := by
  obtain ⟨p, h1, h2⟩ := idsL_sub hi
  obtain ⟨x, hx, rfl⟩ := List.mem_map.1 h1
  exact H.find (hm x hx) h2
theorem Alike.optInt {x : Option Operand} (hx : ∀ y, x = some y → y ∈ l) : optInt s' x = optInt s x := by
  cases x with
  | none => rfl
  | some y => simp only [Pv.optInt, H.ev y (hx y rfl)]
end
theorem roomOf_congr {h h' : List (Nat × PObj)} {p : PVal} (hi : ∀ i ∈ p.ids, find i h' = find i h) : roomOf h' p = roomOf h p := by
  cases p with
  | own id ver s' off len => simp only [roomOf]; rw [hi id (by simp [PVal.ids])]
  | _ => rfl
theorem compute_local {T : Nat → Option TI} {eqt : Nat → Option (List CK)} {op : Op} {ids : List Nat} {s s' : St} (H : Alike op.operands.toList ids s s') : computeP T eqt s' op = computeP T eqt s op := by
  cases op
  case call cl =>
    obtain ⟨cal, args, ts⟩ := cl
    cases cal with
    | value f => rfl
    | invoke r m => rfl
    | builtin b =>
      have hm : ∀ x ∈ args.toList, x ∈ (Op.call ⟨.builtin b, args, ts⟩).operands.toList := by intro x hx; simpa [Op.operands, Call.operands] using hx
      cases b with
      | cap =>
        simp only [computeP]
        split
        · rename_i x t e1 e2
          have hx := hm x (by rw [e1]; simp)
          rw [H.evs hx, H.gds (m := [x]) (by intro z hz; simp at hz; subst hz; exact hx)]
          split
          · rename_i e id ver s2 off len hk he
            rw [H.find hx (by rw [he]; simp [PVal.ids])]
          · rfl
        · rfl
      | len =>
        simp only [computeP]
        split
        · rename_i x t e1 e2
          have hx := hm x (by rw [e1]; simp)
          rw [H.evs hx, H.gds (m := [x]) (by intro z hz; simp at hz; subst hz; exact hx)]
          congr 1
          cases he : s.evs x with
          | mp id => simp only [lenMP]; rw [H.find hx (by rw [he]; simp [PVal.ids])]
          | _ => rfl
        · rfl
      | max =>
        simp only [computeP]
        split
        · rename_i x y e1
          have hx := hm x (by rw [e1]; simp)
          have hy := hm y (by rw [e1]; simp)
          rw [H.evs hx, H.evs hy, H.gds (m := [x, y]) (by intro z hz; simp at hz; rcases hz with rfl | rfl <;> assumption)]
        · rfl
      | min =>
        simp only [computeP]
        split
        · rename_i x y e1
          have hx := hm x (by rw [e1]; simp)
          have hy := hm y (by rw [e1]; simp)
          rw [H.evs hx, H.evs hy, H.gds (m := [x, y]) (by intro z hz; simp at hz; rcases hz with rfl | rfl <;> assumption)]
        · rfl
      | _ => rfl
  case move x => simp only [computeP, H.ev x (by simp [Op.operands])]
  case assign x => simp only [computeP, H.ev x (by simp [Op.operands])]
  case pick c a b =>
    have hc : c ∈ (Op.pick c a b).operands.toList := by simp [Op.operands]
    simp only [computeP, H.evs hc, H.ev a (by simp [Op.operands]), H.ev b (by simp [Op.operands]), H.gds (m := [c]) (by simp [Op.operands])]
  case unOp o t x => simp only [computeP, H.evs (x := x) (by simp [Op.operands]), H.gds (m := [x]) (by simp [Op.operands])]
  case binOp o t x y t' =>
    simp only [computeP, H.evs (x := x) (by simp [Op.operands]), H.evs (x := y) (by simp [Op.operands]), H.gds (m := [x, y]) (by simp [Op.operands])]
    unfold binP
    rw [H.toD (x := x) (by simp [Op.operands]), H.toD (x := y) (by simp [Op.operands])]
  case convert src dst x => simp only [computeP, H.evs (x := x) (by simp [Op.operands]), H.gds (m := [x]) (by simp [Op.operands])]
  case build t parts =>
    have e : (parts.toList.map fun q => (q.1, s'.evs q.2)) = parts.toList.map fun q => (q.1, s.evs q.2) := by
      refine List.map_congr_left fun q hq => ?_
      rw [H.evs (x := q.2) (by simp only [Op.operands]; exact List.mem_map.2 ⟨q, hq, rfl⟩)]
    simp only [computeP, e, H.gds (m := parts.toList.map (·.2)) (by intro x hx; simpa only [Op.operands] using hx)]
  case load t x =>
    simp only [computeP, H.evs (x := x) (by simp [Op.operands]), H.gds (m := [x]) (by simp [Op.operands])]
    congr 1
    unfold loadP
    split
    · rfl
    · split
      · split
        · rename_i id k he
          rw [H.find (x := x) (by simp [Op.operands]) (by rw [he]; simp [PVal.ids])]
        · rename_i id ver s2 i k he
          rw [H.find (x := x) (by simp [Op.operands]) (by rw [he]; simp [PVal.ids])]
        · rfl
        · rfl
      · rfl
  case fieldAddr t x f => simp only [computeP, H.evs (x := x) (by simp [Op.operands]), H.gds (m := [x]) (by simp [Op.operands])]
  case field t x f => simp only [computeP, H.evs (x := x) (by simp [Op.operands]), H.gds (m := [x]) (by simp [Op.operands])]
  case indexAddr t x i => simp only [computeP, H.evs (x := x) (by simp [Op.operands]), H.evs (x := i) (by simp [Op.operands]), H.gds (m := [x, i]) (by simp [Op.operands])]
  case lookup t x ix ok =>
    have hx : x ∈ (Op.lookup t x ix ok).operands.toList := by simp [Op.operands]
    have hi : ix ∈ (Op.lookup t x ix ok).operands.toList := by simp [Op.operands]
    simp only [computeP, H.evs hx, H.evs hi, H.gds (m := [x, ix]) (by simp [Op.operands])]
    congr 1
    unfold lookupP
    split
    · rename_i kt el id hkd he
      rw [H.find hx (by rw [he]; simp [PVal.ids]), H.toD hi]
    · rfl
  case index t x i => simp only [computeP, H.evs (x := x) (by simp [Op.operands]), H.evs (x := i) (by simp [Op.operands]), H.gds (m := [x, i]) (by simp [Op.operands])]
  case slice t x lo hi mx =>
    simp only [computeP, roomOf_congr fun i hi => H.find (x := x) (by simp [Op.operands]) hi, H.evs (x := x) (by simp [Op.operands]), H.gds (m := [x]) (by simp [Op.operands]),
      H.optInt (x := lo) (by rintro y rfl; simp [Op.operands]), H.optInt (x := hi) (by rintro y rfl; simp [Op.operands]), H.optInt (x := mx) (by rintro y rfl; simp [Op.operands])]
  case extract x i => simp only [computeP, H.ev x (by simp [Op.operands])]
  case nilCheck x => simp only [computeP, H.evs (x := x) (by simp [Op.operands]), H.gds (m := [x]) (by simp [Op.operands])]
  case makeFunc fn first cap =>
    simp only [computeP, H.evsL (m := first.toList) (by intro x hx; simp [Op.operands]; exact .inl (by simpa using hx)), H.evsL (m := cap.toList) (by intro x hx; simp [Op.operands]; exact .inr (by simpa using hx)),
      H.gds (m := first.toList ++ cap.toList) (by intro x hx; simpa [Op.operands] using hx)]
  case makeInterface t x => simp only [computeP, H.evs (x := x) (by simp [Op.operands]), H.gds (m := [x]) (by simp [Op.operands])]
  all_goals rfl
theorem argsP_congr {h h' : List (Nat × PObj)} {ρ : Nat → Nat} : ∀ {qs ps : List PVal}, (∀ i ∈ idsL qs, find i h' = find i h) → argsP h ρ qs ps → argsP h' ρ qs ps
  | [], [], _, _ => trivial
  | [], p :: ps, _, ha => by simp [argsP] at ha
  | q :: qs, [], _, ha => by simp [argsP] at ha
  | q :: qs, p :: ps, hi, ha => by
    simp only [argsP] at ha ⊢
    refine ⟨?_, argsP_congr (fun i hm => hi i (by simp only [idsL]; exact List.mem_append_right _ hm)) ha.2⟩
    cases p with
    | d y =>
      have h1 := ha.1
      simp only [argP] at h1 ⊢
      rw [toD_congr q fun i hm => hi i (by simp only [idsL]; exact List.mem_append_left _ hm)]
      exact h1
    | _ => exact ha.1
theorem idsL_append : ∀ {ps qs : List PVal}, idsL (ps ++ qs) = idsL ps ++ idsL qs
  | [], qs => by simp [idsL]
  | p :: ps, qs => by simp only [List.cons_append, idsL, idsL_append (ps := ps), List.append_assoc]
theorem idsL_ds : ∀ ds : List D, idsL (ds.map .d) = []
  | [] => rfl
  | d :: ds => by simp only [List.map_cons, idsL, PVal.ids, List.nil_append, idsL_ds ds]
theorem callee_ids {p : PVal} {fid : Nat} {x y : List PVal} (h : callee p = some (fid, x, y)) : ∀ i ∈ idsL x ++ idsL y, i ∈ p.ids := by
  unfold callee at h
  have e1 : ∀ l : List Value, l.map (fun c => PVal.d (.v c)) = (l.map D.v).map PVal.d := by intro l; simp
  split at h
  · simp only [Option.some.injEq, Prod.mk.injEq] at h
    obtain ⟨rfl, rfl, rfl⟩ := h
    intro i hi
    rw [e1, e1, idsL_ds, idsL_ds] at hi
    simp at hi
  · simp only [Option.some.injEq, Prod.mk.injEq] at h
    obtain ⟨rfl, rfl, rfl⟩ := h
    intro i hi
    rw [idsL_ds, idsL_ds] at hi
    simp at hi
  · simp only [Option.some.injEq, Prod.mk.injEq] at h
    obtain ⟨rfl, rfl, rfl⟩ := h
    intro i hi
    simpa only [PVal.ids] using hi
  · cases h
theorem srcP_congr {h h' : List (Nat × PObj)} {s : Nat} {p : PVal} (hi : ∀ i ∈ p.ids, find i h' = find i h) : srcP h' s p = srcP h s p := by
  cases p with
  | own id ver s' off len => simp only [srcP]; rw [hi id (by simp [PVal.ids])]
  | _ => rfl
section
variable {P : Program} {T : Nat → Option TI} {eqt : Nat → Option (List CK)} {nid : Nat → Nat} {s s' : St} {e : Eff}
theorem step_local {op : Op} (H : Alike op.operands.toList (e.dels ++ e.upds.map (·.1)) s s') (hs : stepP P T eqt nid op s (· = e)) : stepP P T eqt nid op s' (· = e) := by
  have fallback : (match computeP T eqt s op with
    | some (p, pre) => pre ∧ (⟨p, [], []⟩ : Eff) = e
    | none => False) → (match computeP T eqt s' op with
    | some (p, pre) => pre ∧ (⟨p, [], []⟩ : Eff) = e
    | none => False) := by rw [compute_local H]; exact fun h => h
  cases op with
  | alloc t => exact hs
  | box t x =>
    simp only [stepP] at hs ⊢
    rw [H.evs (x := x) (by simp [Op.operands]), H.gds (m := [x]) (by simp [Op.operands])]; exact hs
  | buildSlice t len parts =>
    have hm : ∀ x ∈ parts.toList.map (·.2), x ∈ (Op.buildSlice t len parts).operands.toList := by intro x hx; simpa only [Op.operands] using hx
    have e1 : (parts.toList.map fun q => s'.evs q.2) = parts.toList.map fun q => s.evs q.2 := by
      have := H.evsL hm
      simpa [List.map_map, Function.comp_def] using this
    have e2 : toDL s'.heap (parts.toList.map fun q => s.evs q.2) = toDL s.heap (parts.toList.map fun q => s.evs q.2) := by
      refine toDL_congr _ fun i hi => H.findL hm ?_
      simpa [List.map_map, Function.comp_def] using hi
    simp only [stepP] at hs ⊢
    rw [e1, e2, H.gds hm]; exact hs
  | makeSlice t l c =>
    simp only [stepP] at hs ⊢
    rw [H.evs (x := l) (by simp [Op.operands]), H.evs (x := c) (by simp [Op.operands]), H.gds (m := [l, c]) (by simp [Op.operands])]; exact hs
  | makeMap t r =>
    simp only [stepP] at hs ⊢
    exact hs
  | mapUpdate t m k x =>
    have hm : m ∈ (Op.mapUpdate t m k x).operands.toList := by simp [Op.operands]
    have hk : k ∈ (Op.mapUpdate t m k x).operands.toList := by simp [Op.operands]
    have hx : x ∈ (Op.mapUpdate t m k x).operands.toList := by simp [Op.operands]
    simp only [stepP] at hs ⊢
    rw [H.evs hm, H.evs hk, H.evs hx, H.gds (m := [m, k, x]) (by intro z hz; simp at hz; rcases hz with rfl | rfl | rfl <;> assumption), H.toD hx, H.toD hk]
    split at hs
    · rename_i kt el id hkd he
      rw [H.find hm (by rw [he]; simp [PVal.ids])]; exact hs
    · exact hs.elim
  | insert t m k x =>
    have hm : m ∈ (Op.insert t m k x).operands.toList := by simp [Op.operands]
    have hk : k ∈ (Op.insert t m k x).operands.toList := by simp [Op.operands]
    have hx : x ∈ (Op.insert t m k x).operands.toList := by simp [Op.operands]
    simp only [stepP] at hs ⊢
    rw [H.evs hm, H.evs hk, H.evs hx, H.gds (m := [m, k, x]) (by intro z hz; simp at hz; rcases hz with rfl | rfl | rfl <;> assumption), H.toD hx, H.toD hk]
    split at hs
    · rename_i kt el id hkd he
      rw [H.find hm (by rw [he]; simp [PVal.ids])]; exact hs
    · exact hs.elim
  | store t ad x =>
    have ha : ad ∈ (Op.store t ad x).operands.toList := by simp [Op.operands]
    have hx : x ∈ (Op.store t ad x).operands.toList := by simp [Op.operands]
    simp only [stepP] at hs ⊢
    rw [H.evs ha, H.evs hx, H.gds (m := [ad, x]) (by intro z hz; simp at hz; rcases hz with rfl | rfl <;> assumption), H.toD hx]
    split at hs
    · rename_i ti id k ht he
      rw [H.find ha (by rw [he]; simp [PVal.ids])]; exact hs
    · rename_i ti id ver sz i k ht he
      rw [H.find ha (by rw [he]; simp [PVal.ids])]; exact hs
    · exact hs.elim
  | call cl =>
    obtain ⟨cal, args, ts⟩ := cl
    cases cal with
    | value f =>
      have hf : f ∈ (Op.call ⟨.value f, args, ts⟩).operands.toList := by simp [Op.operands, Call.operands]
      have hm : ∀ x ∈ args.toList, x ∈ (Op.call ⟨.value f, args, ts⟩).operands.toList := by intro x hx; simp [Op.operands, Call.operands]; exact .inr (by simpa using hx)
      have hfm : ∀ x ∈ f :: args.toList, x ∈ (Op.call ⟨.value f, args, ts⟩).operands.toList := by
        intro x hx
        rcases List.mem_cons.1 hx with e | hx
        · rw [e]; exact hf
        · exact hm x hx
      simp only [stepP] at hs ⊢
      rw [H.evs hf, H.evsL hm, H.gds (m := f :: args.toList) hfm]
      split at hs
      · rename_i fid x y hc
        try simp only [hc]
        have hids : ∀ i ∈ idsL (x ++ args.toList.map s.evs ++ y), find i s'.heap = find i s.heap := by
          intro i hi
          rw [idsL_append, idsL_append, List.append_assoc, List.mem_append, List.mem_append] at hi
          rcases hi with hi | hi | hi
          · exact H.find hf (callee_ids hc i (List.mem_append_left _ hi))
          · exact H.findL hm hi
          · exact H.find hf (callee_ids hc i (List.mem_append_right _ hi))
        obtain ⟨hg, ho⟩ := hs
        refine ⟨hg, ?_⟩
        rcases ho with ho | ⟨tS, el, te, id1, v1, o1, l1, id2, v2, o2, l2, e1, r1, els1, e2, r2, els2, k1, k2, k3, ⟨k4, k5, k6⟩, k7⟩
        rotate_left
        · rw [k2] at hids
          exact .inr ⟨tS, el, te, id1, v1, o1, l1, id2, v2, o2, l2, e1, r1, els1, e2, r2, els2, k1, k2, k3, ⟨by rw [hids id1 (by simp [idsL, PVal.ids])]; exact k4, by rw [hids id2 (by simp [idsL, PVal.ids])]; exact k5, k6⟩, k7⟩
        refine .inl ?_
        obtain ⟨L, ps, hp, r, h', give, c1, c2, ⟨c3, c4, c5, c6⟩, c7, c8, c9⟩ := ho
        have hL : L.map (fun i => find i s'.heap) = L.map fun i => find i s.heap := by
          refine List.map_congr_left fun i hi => H.fd i (List.mem_append_right _ ?_)
          rw [← c9]; simp [hi]
        exact ⟨L, ps, hp, r, h', give, argsP_congr (fun i hi => hids i hi) c1, c2, ⟨c3, c4, c5, by rw [hL]; exact c6⟩, c7, c8, c9⟩
      · exact hs.elim
    | invoke r m => exact fallback hs
    | builtin b =>
      cases b with
      | append =>
        have hm : ∀ x ∈ args.toList, x ∈ (Op.call ⟨.builtin .append, args, ts⟩).operands.toList := by intro x hx; simpa [Op.operands, Call.operands] using hx
        simp only [stepP] at hs ⊢
        split at hs
        · rename_i a x t t' e1 e2
          have ha := hm a (by rw [e1]; simp)
          have hx := hm x (by rw [e1]; simp)
          try simp only [e1, e2]
          rw [H.evs ha, H.evs hx, H.gds (m := [a, x]) (by intro z hz; simp at hz; rcases hz with rfl | rfl <;> assumption), H.toD hx]
          split at hs
          · rename_i el hkd hkd'
            try simp only [hkd, hkd']
            split at hs
            · rename_i te id ver sz off len m ht he hex
              try simp only [ht, he, hex]
              rw [H.find ha (by rw [he]; simp [PVal.ids])]
              exact hs
            · exact hs.elim
          · rename_i el hkd _
            try simp only [hkd]
            split at hs
            · rename_i te dx ht hxd
              try simp only [ht, hxd]
              split at hs
              · rename_i new hnew
                try simp only [hnew]
                refine ⟨hs.1, ?_⟩
                have h2 := hs.2
                split at h2
                · rename_i he; (try simp only [he]); exact h2
                · rename_i id ver s2 off len he
                  try simp only [he]
                  rw [H.find ha (by rw [he]; simp [PVal.ids]), srcP_congr (s := te.size) fun i hi => H.find hx hi]; exact h2
                · exact h2.elim
              · exact hs.elim
            · exact hs.elim
          · exact hs.elim
        · exact hs.elim
      | clear =>
        have hm : ∀ x ∈ args.toList, x ∈ (Op.call ⟨.builtin .clear, args, ts⟩).operands.toList := by intro x hx; simpa [Op.operands, Call.operands] using hx
        simp only [stepP] at hs ⊢
        split at hs
        · rename_i d t e1 e2
          have ha := hm d (by rw [e1]; simp)
          try simp only [e1, e2]
          rw [H.evs ha, H.gds (m := [d]) (by intro z hz; simp at hz; subst hz; exact ha)]
          split at hs
          · rename_i el hkd
            try simp only [hkd]
            split at hs
            · rename_i te id ver sz off len ht he
              try simp only [ht, he]
              rw [H.find ha (by rw [he]; simp [PVal.ids])]
              exact hs
            · exact hs.elim
          · exact hs.elim
        · exact hs.elim
      | copy =>
        have hm : ∀ x ∈ args.toList, x ∈ (Op.call ⟨.builtin .copy, args, ts⟩).operands.toList := by intro x hx; simpa [Op.operands, Call.operands] using hx
        simp only [stepP] at hs ⊢
        split at hs
        · rename_i d x t t' e1 e2
          have ha := hm d (by rw [e1]; simp)
          have hx := hm x (by rw [e1]; simp)
          try simp only [e1, e2]
          rw [H.evs ha, H.evs hx, H.gds (m := [d, x]) (by intro z hz; simp at hz; rcases hz with rfl | rfl <;> assumption)]
          split at hs
          · rename_i el hkd
            try simp only [hkd]
            split at hs
            · rename_i te id ver sz off len ht he
              try simp only [ht, he]
              rw [H.find ha (by rw [he]; simp [PVal.ids]), srcP_congr (s := te.size) fun i hi => H.find hx hi]
              exact hs
            · exact hs.elim
          · exact hs.elim
        · exact hs.elim
      | _ => exact fallback hs
  | _ => exact fallback hs
theorem stepG_local {op : Op} {g : Bool} (H : Alike op.operands.toList (e.dels ++ e.upds.map (·.1)) s s') (hs : stepG P T eqt nid g op s (· = e)) : stepG P T eqt nid g op s' (· = e) := by
  have fallback : (match computeP T eqt s op with
    | some (p, pre) => (g = true → pre) ∧ (⟨(match p with | .gd g' q => .gd (g && g') q | p => .gd g p), [], []⟩ : Eff) = e
    | none => g = false ∧ (⟨.gd false .dead, [], []⟩ : Eff) = e) → (match computeP T eqt s' op with
    | some (p, pre) => (g = true → pre) ∧ (⟨(match p with | .gd g' q => .gd (g && g') q | p => .gd g p), [], []⟩ : Eff) = e
    | none => g = false ∧ (⟨.gd false .dead, [], []⟩ : Eff) = e) := by rw [compute_local H]; exact fun h => h
  cases op with
  | buildSlice t len parts =>
    cases g with
    | true => exact step_local (P := P) (eqt := eqt) H hs
    | false => exact hs
  | call cl =>
    obtain ⟨cal, args, ts⟩ := cl
    cases cal with
    | value f =>
      have hf : f ∈ (Op.call ⟨.value f, args, ts⟩).operands.toList := by simp [Op.operands, Call.operands]
      have hm : ∀ x ∈ args.toList, x ∈ (Op.call ⟨.value f, args, ts⟩).operands.toList := by intro x hx; simp [Op.operands, Call.operands]; exact .inr (by simpa using hx)
      have hfm : ∀ x ∈ f :: args.toList, x ∈ (Op.call ⟨.value f, args, ts⟩).operands.toList := by
        intro x hx
        rcases List.mem_cons.1 hx with e | hx
        · rw [e]; exact hf
        · exact hm x hx
      simp only [stepG] at hs ⊢
      rw [H.evs hf, H.evsL hm, H.gds (m := f :: args.toList) hfm]
      split at hs
      · rename_i fid x y hc
        try simp only [hc]
        obtain ⟨ps, z, c1, c2, c3⟩ := hs
        refine ⟨ps, z, fun hg => ⟨argsP_congr (fun i hi => ?_) (c1 hg).1, (c1 hg).2⟩, c2, c3⟩
        rw [idsL_append, idsL_append, List.append_assoc, List.mem_append, List.mem_append] at hi
        rcases hi with hi | hi | hi
        · exact H.find hf (callee_ids hc i (List.mem_append_left _ hi))
        · exact H.findL hm hi
        · exact H.find hf (callee_ids hc i (List.mem_append_right _ hi))
      · exact hs.elim
    | invoke r m => exact fallback hs
    | builtin b => cases b <;> exact fallback hs
  | _ => exact fallback hs
theorem op_local {all : List Oper} {o : Oper} (H : Alike o.op.operands.toList (e.dels ++ e.upds.map (·.1)) s s') (hg : ∀ g want t, o.guard = some (g, want) → dstOf all g = some t → s'.ev (.tmp t) = s.ev (.tmp t)) (hs : opP P T eqt nid all o s (· = e)) : opP P T eqt nid all o s' (· = e) := by
  unfold opP at hs ⊢
  split at hs
  · rename_i hgd; (try simp only [hgd]); exact step_local H hs
  · rename_i g want hgd
    try simp only [hgd]
    split at hs
    · rename_i t ht
      try simp only [ht]
      rw [hg g want t hgd ht]
      split at hs
      · rename_i b hb; (try simp only [hb]); exact stepG_local H hs
      · exact hs.elim
    · exact hs.elim
end
def mvOf : Op → Option Operand
  | .move x | .assign x => some x
  | _ => none
theorem mvOf_mem {op : Op} {x : Operand} (h : mvOf op = some x) : x ∈ op.operands.toList := by
  cases op <;> simp only [mvOf, Option.some.injEq, reduceCtorEq] at h <;> (subst h; simp [Op.operands])
theorem op_local_mv {P : Program} {T : Nat → Option TI} {eqt : Nat → Option (List CK)} {nid : Nat → Nat} {all : List Oper} {o : Oper} {s s' : St} {e : Eff} {x : Operand} (hm : mvOf o.op = some x) (hx : s'.ev x = s.ev x) (hg : ∀ g want t, o.guard = some (g, want) → dstOf all g = some t → s'.ev (.tmp t) = s.ev (.tmp t)) (hs : opP P T eqt nid all o s (· = e)) : opP P T eqt nid all o s' (· = e) := by
  have both : stepP P T eqt nid o.op s' (· = e) = stepP P T eqt nid o.op s (· = e) ∧ ∀ b, stepG P T eqt nid b o.op s' (· = e) = stepG P T eqt nid b o.op s (· = e) := by
    cases hop : o.op <;> rw [hop] at hm <;> simp only [mvOf, Option.some.injEq, reduceCtorEq] at hm <;> subst hm <;> simp only [stepP, stepG, computeP, hx, implies_true, and_self]
  unfold opP at hs ⊢
  split at hs
  · rename_i hgd; (try simp only [hgd]); rw [both.1]; exact hs
  · rename_i g want hgd
    try simp only [hgd]
    split at hs
    · rename_i t ht
      try simp only [ht]
      rw [hg g want t hgd ht]
      split at hs
      · rename_i b hb; (try simp only [hb]); rw [both.2]; exact hs
      · exact hs.elim
    · exact hs.elim
end Go.Proofs.Ytdodgbhodkcckaa.Pv
end
section
set_option linter.unusedVariables false
set_option linter.unusedSectionVars false
set_option linter.unusedSimpArgs false
set_option autoImplicit false
namespace Go.Proofs.Ytdodgbhodkcckaa.Pv
open Go Go.RowKit
section
variable {E : Env} {S S' : Nat → Nat → Prop} {φ : Nat → Nat → Option (Nat × Nat)} {st s t : St} {a : Act} {w : World}
structure Eqv (s t : St) : Prop where
  tmps : ∀ i, find i s.tmps = find i t.tmps
  heap : ∀ i, find i s.heap = find i t.heap
theorem Eqv.refl (s : St) : Eqv s s := ⟨fun _ => rfl, fun _ => rfl⟩
theorem Eqv.symm (h : Eqv s t) : Eqv t s := ⟨fun i => (h.tmps i).symm, fun i => (h.heap i).symm⟩
theorem Eqv.trans {u : St} (h : Eqv s t) (k : Eqv t u) : Eqv s u := ⟨fun i => (h.tmps i).trans (k.tmps i), fun i => (h.heap i).trans (k.heap i)⟩
theorem Eqv.held (h : Eqv s t) : Held E φ s.heap = Held E φ t.heap := by
  funext b; simp only [Held, Owned, h.heap]
theorem Rst.congr (h : Rst E S φ s a w) (he : Eqv s t) : Rst E S φ t a w :=
  { os := h.os, tape := h.tape, output := h.output, size := h.size, old := h.old, defers := h.defers,
    tmps := fun i p hp => by rw [← he.held]; exact h.tmps i p (by rw [he.tmps]; exact hp),
    objs := fun i o ho => by rw [← he.held]; exact h.objs i o (by rw [he.heap]; exact ho),
    inj := fun i j oi oj b hi hj => h.inj i j oi oj b (by rw [he.heap]; exact hi) (by rw [he.heap]; exact hj) }
theorem Rst.drew (h : Rst E S φ st a w) : Rst E S φ st a { w with drawn := w.drawn + 1 } := by
  have : Below w.heap.size w w.drew := (Below.refl _ _).drew
  exact h.grow this
end
section
variable {P : Program} {T : Nat → Option TI} {eqt : Nat → Option (List CK)} (hk : Kit P T eqt) {E : Env} {S : Nat → Nat → Prop} {φ : Nat → Nat → Option (Nat × Nat)} {st : St} {a : Act} {w : World} {o : Oper} {nid : Nat → Nat} {e : Eff} {Q : Exit → Act → World → Prop} {ops : Array Oper}
theorem wanted_of (h : Rst E S φ st a w) {g t : Nat} {want b : Bool} (hg : o.guard = some (g, want)) (ht : dstOf ops.toList g = some t) (hb : guardP (st.ev (.tmp t)) want = some b) : Region.wanted o (yielded ops a.tmps) = b := by
  have hd : (ops[g]?).bind (·.dst) = some t := by
    unfold dstOf at ht
    rw [Array.getElem?_toList] at ht
    cases ho : ops[g]? with
    | none => simp [ho] at ht
    | some o' => simpa [ho] using ht
  have he := (h.ev (.tmp t)).2
  simp only [Act.eval] at he
  have plain : ∀ v, a.tmps.getD t undef = .bool v → yielded ops a.tmps g = some v := by
    intro v hv
    unfold yielded
    rw [hd]
    simp only [Option.bind_some]
    rw [Array.getD_eq_getD_getElem?] at hv
    cases hx : a.tmps[t]? with
    | none => rw [hx] at hv; cases hv
    | some x => rw [hx] at hv; simp at hv; subst hv; rfl
  have none' : a.tmps.getD t undef = undef → yielded ops a.tmps g = none := by
    intro hv
    unfold yielded
    rw [hd]
    simp only [Option.bind_some]
    rw [Array.getD_eq_getD_getElem?] at hv
    cases hx : a.tmps[t]? with
    | none => rfl
    | some x => rw [hx] at hv; simp at hv; subst hv; rfl
  unfold Region.wanted
  simp only [hg]
  have plainCase : ∀ q, (asBool q).map (fun v => v == want) = some b → PRep w (Held E φ st.heap) φ q (a.tmps.getD t undef) → (yielded ops a.tmps g == some want) = b := by
    intro q hq hr
    obtain ⟨v, h1, rfl⟩ := Option.map_eq_some_iff.1 hq
    rw [plain v (asBool_rep h1 hr)]
    cases v <;> cases want <;> rfl
  generalize st.ev (.tmp t) = p at hb he
  cases p with
  | gd c q =>
    simp only [guardP] at hb
    simp only [PRep] at he
    split at hb
    · rename_i v h1
      obtain rfl := Option.some.inj hb
      cases c with
      | true =>
        rw [plain v (asBool_rep h1 (he.1 rfl))]
        cases v <;> cases want <;> rfl
      | false =>
        rw [none' (he.2 rfl)]
        rfl
    · split at hb
      · cases hb
      · rename_i hc
        obtain rfl := Option.some.inj hb
        rw [none' (he.2 (by simpa using hc))]
        rfl
  | d x => exact plainCase (.d x) hb he
  | _ => simp [guardP, asBool] at hb
theorem After.retell {n : Nat} {dst : Option Nat} {p q : PVal} {dels : List Nat} {upds : List (Nat × PObj)} {a' : Act} {w' : World} (h : After E S φ st n nid dst ⟨p, dels, upds⟩ a' w') (hq : ∀ S O φ c, p.und S → PRep w' O φ p c → q.und S ∧ PRep w' O φ q c) : After E S φ st n nid dst ⟨q, dels, upds⟩ a' w' := by
  obtain ⟨h1, φ', S', h2, h3, h4⟩ := h
  refine ⟨h1, φ', S', ?_, h3, h4⟩
  cases dst with
  | none => exact h2
  | some d =>
    refine { h2 with tmps := ?_ }
    intro t r hr
    have h5 := h2.tmps
    simp only [St.app, St.put, find] at hr h5 ⊢
    split at hr
    · rename_i e
      cases hr
      have := h5 t p (by simp [e])
      exact hq _ _ _ _ this.1 this.2
    · rename_i e
      exact h5 t r (by simp [e]; exact hr)
theorem gd_true {w : World} {p : PVal} : ∀ S O φ c, p.und S → PRep w O φ p c → (match (generalizing := false) p with | .gd g' q => PVal.gd (true && g') q | p => .gd true p).und S ∧ PRep w O φ (match (generalizing := false) p with | .gd g' q => PVal.gd (true && g') q | p => .gd true p) c := by
  intro S O φ c hu hr
  cases p <;> first
    | exact ⟨hu, hr⟩
    | (simp only [PVal.und, PRep] at hu hr ⊢; simp; exact ⟨hu, hr⟩)
    | (refine ⟨fun _ => hu, ?_⟩; simp only [PRep] at hr ⊢; exact ⟨fun _ => hr, fun e => by cases e⟩)
include hk in
theorem op_run (h : Rst E S φ st a w) (hd : ∀ d, o.dst = some d → d < a.tmps.size) (hfr : Fresh S nid) {i : Nat} (ho : ops[i]? = some o) (hs : opP P T eqt nid ops.toList o st (· = e)) : wpOp P ops Q i (After E S φ st a.tmps.size nid o.dst e) a w := by
  unfold wpOp
  simp only [ho]
  unfold opP at hs
  split at hs
  · rename_i hg
    have hw : Region.wanted o (yielded ops a.tmps) = true := by simp [Region.wanted, hg]
    simp only [hw, if_true]
    exact .inl (step_run hk h hd hfr hs)
  · rename_i g want hg
    split at hs
    · rename_i t ht
      split at hs
      · rename_i b hb
        have hw := wanted_of h hg ht hb
        have skip : ∀ {q : PVal}, (∀ S, q.und S) → (∀ w O φ, PRep w O φ q undef) → e = ⟨q, [], []⟩ → After E S φ st a.tmps.size nid o.dst e (a.put o.dst undef) w := by
          intro q q1 q2 he
          subst he
          exact Rst.after (by simpa [updAll, delAll] using h) hd (q1 S) (q2 _ _ _) (fun _ _ h => ⟨h, rfl⟩) (fun i v hv => .inl ⟨v, hv⟩)
        cases b with
        | true =>
          simp only [hw, if_true]
          refine .inl ?_
          have compute : ∀ p pre, computeP T eqt st o.op = some (p, pre) → pre → (⟨(match (generalizing := false) p with | .gd g' q => .gd (true && g') q | p => .gd true p), [], []⟩ : Eff) = e → o.wp P a w (After E S φ st a.tmps.size nid o.dst e) Q := by
            intro p pre hc hp he
            subst he
            obtain ⟨c, g1, g2, g3⟩ := compute_run hk h hc hp
            have := gd_true S _ _ c g2 g3
            exact wp_value g1 (Rst.after (by simpa [updAll, delAll] using h) hd this.1 this.2 (fun _ _ h => ⟨h, rfl⟩) (fun i v hv => .inl ⟨v, hv⟩))
          have fallback : (match computeP T eqt st o.op with
              | some (p, pre) => (true = true → pre) ∧ (⟨(match (generalizing := false) p with | .gd g' q => .gd (true && g') q | p => .gd true p), [], []⟩ : Eff) = e
              | none => true = false ∧ (⟨.gd false .dead, [], []⟩ : Eff) = e) → o.wp P a w (After E S φ st a.tmps.size nid o.dst e) Q := by
            intro hs
            split at hs
            · rename_i p pre hc
              exact compute p pre hc (hs.1 rfl) hs.2
            · cases hs.1
          cases hop : o.op with
          | buildSlice t len parts =>
            rw [hop] at hs
            exact step_run hk h hd hfr (by rw [hop]; exact hs)
          | call cl =>
            obtain ⟨cal, args, ts⟩ := cl
            cases cal with
            | value f =>
              rw [hop] at hs
              simp only [stepG] at hs
              split at hs
              · rename_i fid x y hcal
                obtain ⟨ps, z, c1, c2, c3⟩ := hs
                obtain ⟨c4, c5, c6, c7⟩ := c1 rfl
                have hargs : ∀ (qs ps : List PVal), (∀ p ∈ ps, ∃ y, p = .d y) → argsP st.heap (fun k => k) qs ps → argsP st.heap (rename [] nid) qs ps := by
                  intro qs
                  induction qs with
                  | nil => intro ps _ ha; cases ps <;> simp_all [argsP]
                  | cons q qs ih =>
                    intro ps hps ha
                    cases ps with
                    | nil => simp [argsP] at ha
                    | cons p ps =>
                      simp only [argsP] at ha ⊢
                      obtain ⟨yy, rfl⟩ := hps p (by simp)
                      exact ⟨ha.1, ih ps (fun p hp => hps p (by simp [hp])) ha.2⟩
                have := call_run (e := ⟨.d z, [], []⟩) (Q := Q) h hd hfr hop hcal c7 (L := []) (hp := []) (r := .d z) (h' := []) (give := false) (ps := ps)
                  ⟨hargs _ _ c5 c4, c6, ⟨by simp, by simp, rfl, rfl⟩, ⟨by simp, by simp⟩, by rcases c2 with c2 | c2; exact .inr (.inl c2); exact .inr (.inr ⟨c2, rfl⟩), by simp [PVal.shift, shiftH]⟩
                subst c3
                refine Oper.wp_mono (fun a' w' ha => ?_) this
                refine ha.retell fun S O φ c hu hr => ?_
                simp only [PVal.und, PRep] at hr ⊢
                exact ⟨fun _ => trivial, fun _ => hr, fun e => by cases e⟩
              · exact hs.elim
            | invoke r m => rw [hop] at hs fallback; exact fallback hs
            | builtin b => rw [hop] at hs fallback; exact fallback hs
          | _ => rw [hop] at hs fallback; exact fallback hs
        | false =>
          simp only [hw, Bool.false_eq_true, if_false]
          have fallback : (match computeP T eqt st o.op with
              | some (p, pre) => (false = true → pre) ∧ (⟨(match (generalizing := false) p with | .gd g' q => .gd (false && g') q | p => .gd false p), [], []⟩ : Eff) = e
              | none => false = false ∧ (⟨.gd false .dead, [], []⟩ : Eff) = e) → After E S φ st a.tmps.size nid o.dst e (a.put o.dst undef) w := by
            intro hs
            split at hs
            · rename_i p pre hc
              refine skip (q := (match (generalizing := false) p with | .gd g' q => .gd (false && g') q | p => .gd false p)) ?_ ?_ hs.2.symm
              · intro S; cases p <;> simp [PVal.und]
              · intro w O φ; cases p <;> simp [PRep]
            · exact skip (q := .gd false .dead) (by intro S; simp [PVal.und]) (by intro w O φ; simp [PRep]) hs.2.symm
          cases hop : o.op with
          | buildSlice t len parts =>
            rw [hop] at hs
            exact skip (q := .dead) (by intro S; simp [PVal.und]) (by intro w O φ; simp [PRep]) hs.symm
          | call cl =>
            obtain ⟨cal, args, ts⟩ := cl
            cases cal with
            | value f =>
              rw [hop] at hs
              simp only [stepG] at hs
              split at hs
              · rename_i fid x y hcal
                obtain ⟨ps, z, c1, c2, c3⟩ := hs
                exact skip (q := .gd false (.d z)) (by intro S; simp [PVal.und]) (by intro w O φ; simp [PRep]) c3.symm
              · exact hs.elim
            | invoke r m => rw [hop] at hs fallback; exact fallback hs
            | builtin b => rw [hop] at hs fallback; exact fallback hs
          | _ => rw [hop] at hs fallback; exact fallback hs
      · exact hs.elim
    · exact hs.elim
end
end Go.Proofs.Ytdodgbhodkcckaa.Pv
end
section
set_option linter.unusedVariables false
set_option linter.unusedSectionVars false
set_option linter.unusedSimpArgs false
set_option autoImplicit false
namespace Go.Proofs.Ytdodgbhodkcckaa.Pv
open Go Go.RowKit
def rangeP (T : Nat → Option TI) (nid : Nat → Nat) (t : Nat) (x : Operand) (st : St) (K : Eff → Prop) : Prop := match kindOf T t, st.evs x with
  | some (.map _ _), .mp m => (match find m st.heap with
    | some (.map es) => st.gds [x] ∧ ∀ (born : List Nat) (clk : Nat), born.length = es.length → (∀ s ∈ born, s < clk) → K ⟨.ref (nid 0) 0, [], [(m, .mapg es born clk), (nid 0, .iter m clk [])]⟩
    | _ => False)
  | some .string, x' => (match asStr x' with
    | some s => st.gds [x] ∧ K ⟨.ref (nid 0) 0, [], [(nid 0, .siter s 0)]⟩
    | none => False)
  | _, _ => False
def nextS (x : Operand) (st : St) (K : Eff → Prop) : Prop := match st.evs x with
  | .ref id 0 => (match find id st.heap with
    | some (.siter s pos) => st.gds [x] ∧ (if pos < s.size then K ⟨.d (.tup [.v (.bool true), .v (.int .i64 pos), .v (.int .i32 (Utf8.decode s pos).1)]), [], [(id, .siter s (pos + (Utf8.decode s pos).2))]⟩
        else K ⟨.d (.tup [.v (.bool false)]), [], []⟩)
    | _ => False)
  | _ => False
def entryP (x : Operand) (st : St) (K : Eff → Prop) : Prop := match st.evs x with
  | .ref id 0 => (match find id st.heap with
    | some (.iter m clk (s :: seen)) => (match find m st.heap with
      | some (.mapg es born clk') => (clk = clk' ∧ s ∈ born ∧ st.gds [x]) ∧ ∀ (j : Nat) (e : D × D), es[j]? = some e → born[j]? = some s → K ⟨.d (.tup [e.1, e.2]), [], []⟩
      | _ => False)
    | _ => False)
  | _ => False
def nextP (x : Operand) (st : St) (K : Eff → Prop) : Prop := match st.evs x with
  | .ref id 0 => (match find id st.heap with
    | some (.iter m clk seen) => (match find m st.heap with
      | some (.mapg es born clk') => (clk = clk' ∧ st.gds [x]) ∧ (∀ (j : Nat) (e : D × D) (s : Nat), es[j]? = some e → born[j]? = some s → s ∉ seen → K ⟨.d (.tup [.v (.bool true), e.1, e.2]), [], [(id, .iter m clk (s :: seen))]⟩) ∧
          ((∀ s ∈ born, s ∈ seen) → K ⟨.d (.tup [.v (.bool false)]), [], []⟩)
      | _ => False)
    | _ => False)
  | _ => False
section
variable {P : Program} {w : World}
theorem run_range_at {t k e : TypeId} {bm : Nat} {es : Array MapEntry} {clock : Nat} (ht : P.underlying t = some (.map k e)) (hb : w.heap[bm]? = some (.map es clock)) :
    (Instr.range t (.map (some bm))).run P w = .ok (.pointer (some ⟨w.heap.size, 0, none⟩)) (w.alloc (.mapIter (some bm) clock #[] clock)) := by
  simp [Instr.range, run_underlying ht, MapKept.run_getObj_map hb]
theorem none_new {seen : Array Nat} {es : Array MapEntry} {c0 : Nat} (hold : ∀ x ∈ es.toList, x.born < c0) : (!seen.isEmpty && !es.isEmpty && es.all (fun x => decide (x.born ≥ c0))) = false := by
  rcases Nat.eq_zero_or_pos es.size with h0 | h0
  · have : es = #[] := Array.eq_empty_of_size_eq_zero h0
    subst this; simp
  · have : es.all (fun x => decide (x.born ≥ c0)) = false := by
      rw [Bool.eq_false_iff]
      intro h
      rw [Array.all_eq_true_iff_forall_mem] at h
      have h1 := h _ (Array.getElem_mem h0)
      have h2 := hold es[0] (by simp)
      simp at h1
      omega
    rw [this, Bool.and_false]
theorem run_entry_at {bm b clk sl : Nat} {seen : Array Nat} {es : Array MapEntry} {e : MapEntry} (hb : w.heap[bm]? = some (.map es clk)) (hi : w.heap[b]? = some (.mapIter (some bm) clk seen clk)) (hl : seen.back? = some sl) (hf : es.find? (fun x => x.born == sl) = some e) :
    (Instr.entry (.pointer (some ⟨b, 0, none⟩))).run P w = .ok (.tuple #[e.key, e.val]) w := by
  simp [Instr.entry, getObj, Sem.run, hi, hl, hb, hf, Result.andThen]
theorem run_next_at (ty bm b since : Nat) (seen : Array Nat) (es : Array MapEntry) (hb : w.heap[bm]? = some (.map es since)) (hi : w.heap[b]? = some (.mapIter (some bm) since seen since)) (hold : ∀ x ∈ es.toList, x.born < since) :
    ((∀ e ∈ es.toList, e.born ∈ seen.toList) ∧ (Instr.next (.pointer (some ⟨b, 0, none⟩)) false ty).run P w = .ok (.tuple #[.bool false]) w) ∨
    ∃ (e : MapEntry) (w1 : World), e ∈ es.toList ∧ e.born ∉ seen.toList ∧ w1.heap = w.heap ∧ w1.os = w.os ∧ w1.output = w.output ∧ w1.tape = w.tape ∧
      (Instr.next (.pointer (some ⟨b, 0, none⟩)) false ty).run P w = .ok (.tuple #[.bool true, e.key, e.val]) { w1 with heap := w1.heap.setIfInBounds b (.mapIter (some bm) since (seen.push e.born) since) } := by
  simp only [Instr.next, getObj, Sem.run_bind, Sem.run, hb, hi, Result.andThen, none_new (seen := seen) hold, Bool.false_eq_true, if_false]
  have hmem : ∀ x ∈ (Array.filter (fun e => !seen.contains e.born) es).toList, x ∈ es.toList ∧ x.born ∉ seen.toList ∧ x.born < since := fun x hx => by
    have h1 : x ∈ es ∧ x.born ∉ seen := by simpa using hx
    exact ⟨by simpa using h1.1, by simpa using h1.2, hold x (by simpa using h1.1)⟩
  have hnone : (Array.filter (fun e => !seen.contains e.born) es).size = 0 → ∀ e ∈ es.toList, e.born ∈ seen.toList := fun h0 e he => by
    have h1 := Array.eq_empty_of_size_eq_zero h0
    rw [Array.filter_eq_empty_iff] at h1
    have := h1 e (by simpa using he)
    simpa using this
  generalize Array.filter (fun e => !seen.contains e.born) es = L at hmem hnone ⊢
  have e1 : L.filter (fun x => decide (x.born < since)) = L := Array.filter_eq_self.2 (fun x hx => by simpa using (hmem x (by simpa using hx)).2.2)
  have e2 : L.filter (fun x => decide (x.born ≥ since)) = #[] := by
    rw [Array.filter_eq_empty_iff]
    intro x hx
    have := (hmem x (by simpa using hx)).2.2
    simp
    omega
  simp only [e1, e2, Array.append_empty]
  by_cases h0 : L.size = 0
  · left
    have : L = #[] := Array.eq_empty_of_size_eq_zero h0
    subst this
    refine ⟨hnone rfl, ?_⟩
    simp [choose, Sem.run, Question.forced]
  · right
    have hne : L.isEmpty = false := by simp [Array.isEmpty, h0]
    simp only [hne, Bool.false_eq_true, if_false, Array.empty_append, Array.size_map]
    have hch : ∃ (j : Nat) (w1 : World), j < L.size ∧ w1.heap = w.heap ∧ w1.os = w.os ∧ w1.output = w.output ∧ w1.tape = w.tape ∧ (choose (Question.mapNext L.size)).run P w = .ok j w1 := by
      by_cases hf : L.size ≤ 1
      · exact ⟨0, w, by omega, rfl, rfl, rfl, rfl, by simp [choose, Sem.run, Question.forced, hf]⟩
      · exact ⟨_, w.drew, Nat.mod_lt _ (by omega), rfl, rfl, rfl, rfl, by
          simp only [choose, Sem.run, Question.forced, decide_eq_true_eq, hf, if_false, Question.cut]
          rfl⟩
    obtain ⟨j, w1, hj, ha1, ha2, ha3, ha4, hrun⟩ := hch
    have hm := hmem L[j] (by simp)
    refine ⟨L[j], w1, hm.1, hm.2.1, ha1, ha2, ha3, ha4, ?_⟩
    have hset : ∀ (o' : Obj), (setObj b o').run P w1 = .ok () { w1 with heap := w1.heap.setIfInBounds b o' } := fun o' => by
      simp [setObj, Sem.run, ha1, hi]
    simp only [hrun, Array.getElem?_map, Array.getElem?_eq_getElem hj, Option.map_some, Sem.run_bind, hset, Result.andThen]
    rfl
end
section
variable {P : Program} {T : Nat → Option TI} {eqt : Nat → Option (List CK)} (hk : Kit P T eqt) {E : Env} {S : Nat → Nat → Prop} {φ : Nat → Nat → Option (Nat × Nat)} {st : St} {a : Act} {w : World} {o : Oper} {nid : Nat → Nat} {Q : Exit → Act → World → Prop} {K : Eff → Prop}
include hk in
theorem range_run (h : Rst E S φ st a w) (hd : ∀ d, o.dst = some d → d < a.tmps.size) (hfr : Fresh S nid) {t : Nat} {x : Operand} (hop : o.op = .range t x) (hs : rangeP T nid t x st K) :
    o.wp P a w (fun a' w' => ∃ e, K e ∧ After E S φ st a.tmps.size nid o.dst e a' w') Q := by
  unfold rangeP at hs
  split at hs
  · rename_i kt el m hkd hm
    split at hs
    · rename_i es hf
      obtain ⟨hg, hK⟩ := hs
      have hu : P.underlying t = some (.map kt el) := desc_of hk.tb hkd
      obtain ⟨gu, gx⟩ := h.evs x (gds_mem hg x (by simp))
      rw [hm] at gx gu
      simp only [PRep, PVal.und] at gx gu
      obtain ⟨b, n, hb, hmv⟩ := gx
      obtain ⟨h1, h1', h2, h3, h4⟩ := h.objs m _ hf
      simp only [ORep] at h4
      obtain ⟨b', n', arr, clock, g1, g2, g3, g4, g5⟩ := h4
      rw [hb] at g1
      simp only [Option.some.injEq, Prod.mk.injEq] at g1
      obtain ⟨rfl, rfl⟩ := g1
      have hlen : (arr.toList.map (·.born)).length = es.length := by have := g3.length; simp at this ⊢; omega
      have hA : Rst E S φ { st with heap := upd m (.mapg es (arr.toList.map (·.born)) clock) st.heap } a w := by
        refine h.set (w' := w) (id := m) (o' := .mapg es (arr.toList.map (·.born)) clock) (S' := S) (φ' := φ) rfl rfl rfl (Nat.le_refl _) (fun _ _ _ => rfl) (fun _ _ h => h) (fun _ _ _ => rfl) h1 h1' (fun _ _ _ h => h) (by simp only [PObj.und]) (fun c hc => ⟨(h3 c hc).1, .inr ⟨_, hf, hc⟩⟩) ?_
        have hO := held_set (o' := .mapg es (arr.toList.map (·.born)) clock) (φ' := φ) h (fun _ _ _ => rfl) (fun c hc => .inr ⟨_, hf, hc⟩)
        have hkp : Keeps (Held E φ st.heap) w w := ⟨Nat.le_refl _, fun _ _ _ => rfl⟩
        simp only [ORep]
        exact ⟨b, n, arr, hb, g2, DRepL.keep hkp hO _ _ g3, DRepL.keep hkp hO _ _ g4, g5, rfl⟩
      have hφ := phi_old (φ := φ) (x := some (w.heap.size, 0)) (hfr.new 0 0)
      have hblk : ∀ c, blk (phi φ (nid 0) 0 (some (w.heap.size, 0))) (nid 0) (.iter m clock []) = some c → c = w.heap.size := by
        intro c hc; simp only [blk, phi_same, Option.map_some, Option.some.injEq] at hc; exact hc.symm
      have hB : Rst E (also S (nid 0) 0) (phi φ (nid 0) 0 (some (w.heap.size, 0))) { st with heap := upd (nid 0) (.iter m clock []) (upd m (.mapg es (arr.toList.map (·.born)) clock) st.heap) } a (w.alloc (.mapIter (some b) clock #[] clock)) := by
        refine hA.set rfl rfl rfl (by simp) (fun c hc _ => heap_alloc_old w _ c hc) (fun i v h => .inl h) hφ (.inr ⟨rfl, rfl⟩) ?_ ?_ ?_ ?_ ?_
        · rintro v (hv | ⟨_, rfl⟩)
          · exact absurd hv (hfr.new 0 v)
          · exact Nat.le_refl _
        · rintro i v hne (hv | ⟨rfl, _⟩)
          · exact hv
          · exact absurd rfl hne
        · simp only [PObj.und]; exact .inl gu
        · intro c hc
          have := hblk c hc; subst this
          exact ⟨by simp, .inl (Nat.le_refl _)⟩
        · simp only [ORep]
          exact ⟨_, _, b, n, phi_same .., (hφ _ _ gu).trans hb, heap_new w _⟩
      refine wp_value (c := .pointer (some ⟨w.heap.size, 0, none⟩)) (w' := w.alloc (.mapIter (some b) clock #[] clock)) ?_ ?_
      · simp only [execOp, hop]
        refine run_v ?_
        rw [hmv]
        exact run_range_at hu g2
      · refine ⟨_, hK _ clock hlen (fun s hs => ?_), Rst.after (by simpa [updAll, delAll] using hB) hd ?_ ?_ (fun i v h => ⟨.inl h, hφ i v h⟩) (also_new (.inr ⟨0, by omega, rfl⟩))⟩
        · obtain ⟨x, hx, rfl⟩ := List.mem_map.1 hs
          exact g5 x hx
        · simp only [PVal.und]; exact .inr ⟨rfl, rfl⟩
        · simp only [PRep]; exact ⟨_, _, phi_same .., rfl⟩
    · exact hs.elim
  · rename_i hkd
    split at hs
    · rename_i s hstr
      obtain ⟨hg, hK⟩ := hs
      have hu : P.underlying t = some .string := desc_of hk.tb hkd
      obtain ⟨gu, gx⟩ := h.evs x (gds_mem hg x (by simp))
      have hv : a.eval x = .string s := by
        unfold asStr at hstr
        split at hstr
        · rename_i s' e'
          cases hstr
          rw [e'] at gx
          simpa only [PRep, DRep] using gx
        · cases hstr
      have hφ := phi_old (φ := φ) (x := some (w.heap.size, 0)) (hfr.new 0 0)
      have hblk : ∀ c, blk (phi φ (nid 0) 0 (some (w.heap.size, 0))) (nid 0) (.siter s 0) = some c → c = w.heap.size := by
        intro c hc; simp only [blk, phi_same, Option.map_some, Option.some.injEq] at hc; exact hc.symm
      have hB : Rst E (also S (nid 0) 0) (phi φ (nid 0) 0 (some (w.heap.size, 0))) { st with heap := upd (nid 0) (.siter s 0) st.heap } a (w.alloc (.stringIter s 0)) := by
        refine h.set rfl rfl rfl (by simp) (fun c hc _ => heap_alloc_old w _ c hc) (fun i v h => .inl h) hφ (.inr ⟨rfl, rfl⟩) ?_ ?_ ?_ ?_ ?_
        · rintro v (hv | ⟨_, rfl⟩)
          · exact absurd hv (hfr.new 0 v)
          · exact Nat.le_refl _
        · rintro i v hne (hv | ⟨rfl, _⟩)
          · exact hv
          · exact absurd rfl hne
        · simp only [PObj.und]
        · intro c hc
          have := hblk c hc; subst this
          exact ⟨by simp, .inl (Nat.le_refl _)⟩
        · simp only [ORep]
          exact ⟨_, _, phi_same .., heap_new w _⟩
      refine wp_value (c := .pointer (some ⟨w.heap.size, 0, none⟩)) (w' := w.alloc (.stringIter s 0)) ?_ ?_
      · simp only [execOp, hop]
        refine run_v ?_
        rw [hv]
        simp [Instr.range, run_underlying hu]
      · refine ⟨_, hK, Rst.after (by simpa [updAll, delAll] using hB) hd ?_ ?_ (fun i v h => ⟨.inl h, hφ i v h⟩) (also_new (.inr ⟨0, by omega, rfl⟩))⟩
        · simp only [PVal.und]; exact .inr ⟨rfl, rfl⟩
        · simp only [PRep]; exact ⟨_, _, phi_same .., rfl⟩
    · exact hs.elim
  · exact hs.elim
theorem nextS_run (h : Rst E S φ st a w) (hd : ∀ d, o.dst = some d → d < a.tmps.size) {x : Operand} (hop : o.op = .next x true) (hs : nextS x st K) :
    o.wp P a w (fun a' w' => ∃ e, K e ∧ After E S φ st a.tmps.size nid o.dst e a' w') Q := by
  unfold nextS at hs
  split at hs
  · rename_i id hx
    split at hs
    · rename_i s pos hf
      obtain ⟨hg, hK⟩ := hs
      obtain ⟨gu, gx⟩ := h.evs x (gds_mem hg x (by simp))
      rw [hx] at gx gu
      simp only [PRep, PVal.und] at gx gu
      obtain ⟨b, n, hb, hxv⟩ := gx
      obtain ⟨h1, h1', h2, h3, h4⟩ := h.objs id _ hf
      simp only [ORep] at h4
      obtain ⟨b', n', g1, g2⟩ := h4
      rw [hb] at g1
      simp only [Option.some.injEq, Prod.mk.injEq] at g1
      obtain ⟨rfl, rfl⟩ := g1
      by_cases hp : pos < s.size
      · rw [if_pos hp] at hK
        have hbk : blk φ id (.siter s pos) = some b := by simp [blk, hb]
        have hblk' : ∀ s', blk φ id (.siter s s') = some b := fun _ => by simp [blk, hb]
        have hR := h.set (w' := { w with heap := w.heap.setIfInBounds b (.stringIter s (pos + (Utf8.decode s pos).2)) }) (id := id) (o' := .siter s (pos + (Utf8.decode s pos).2)) (S' := S) (φ' := φ) rfl rfl rfl (by simp)
          (fun c hc hno => (MapKept.heap_set g2).2 c fun e' => hno _ hf (e' ▸ hbk)) (fun _ _ h => h) (fun _ _ _ => rfl) h1 h1' (fun _ _ _ h => h) (by simp only [PObj.und])
          (fun c hc => by rw [hblk'] at hc; cases hc; exact ⟨by simpa using (h3 b hbk).1, .inr ⟨_, hf, hbk⟩⟩)
          (by simp only [ORep]; exact ⟨b, n, hb, (MapKept.heap_set g2).1⟩)
        refine wp_value (c := .tuple #[.bool true, goInt pos, .int .i32 (Utf8.decode s pos).1]) (w' := { w with heap := w.heap.setIfInBounds b (.stringIter s (pos + (Utf8.decode s pos).2)) }) ?_ ⟨_, hK, Rst.after (by simpa [updAll, delAll] using hR) hd (by simp only [PVal.und]) ?_ (fun _ _ h => ⟨h, rfl⟩) (fun i v hv => .inl ⟨v, hv⟩)⟩
        · simp only [execOp, hop]
          refine run_v ?_
          rw [hxv]
          simp [Instr.next, getObj, setObj, Sem.run, g2, hp, Result.andThen]
        · simp only [PRep, DRep, DRepL]
          exact ⟨[.bool true, .int .i64 pos, .int .i32 (Utf8.decode s pos).1], rfl, _, _, rfl, rfl, _, _, rfl, rfl, _, _, rfl, rfl, rfl⟩
      · rw [if_neg hp] at hK
        refine wp_value (c := .tuple #[.bool false]) (w' := w) ?_ ⟨_, hK, Rst.after (by simpa [updAll, delAll] using h) hd (by simp only [PVal.und]) ?_ (fun _ _ h => ⟨h, rfl⟩) (fun i v hv => .inl ⟨v, hv⟩)⟩
        · simp only [execOp, hop]
          refine run_v ?_
          rw [hxv]
          simp [Instr.next, getObj, Sem.run, g2, hp, Result.andThen]
        · simp only [PRep, DRep, DRepL]
          exact ⟨[.bool false], rfl, _, _, rfl, rfl, rfl⟩
    · exact hs.elim
  · exact hs.elim
theorem entry_run (h : Rst E S φ st a w) (hd : ∀ d, o.dst = some d → d < a.tmps.size) {x : Operand} (hop : o.op = .entry x) (hs : entryP x st K) :
    o.wp P a w (fun a' w' => ∃ e, K e ∧ After E S φ st a.tmps.size nid o.dst e a' w') Q := by
  unfold entryP at hs
  split at hs
  · rename_i id hx
    split at hs
    · rename_i m clk sl seen hf
      split at hs
      · rename_i es born clk' hfm
        obtain ⟨⟨rfl, hsb, hg⟩, hK⟩ := hs
        obtain ⟨gu, gx⟩ := h.evs x (gds_mem hg x (by simp))
        rw [hx] at gx gu
        simp only [PRep, PVal.und] at gx gu
        obtain ⟨b, n, hb, hxv⟩ := gx
        have h4 := (h.objs id _ hf).2.2.2.2
        have h5 := (h.objs m _ hfm).2.2.2.2
        simp only [ORep] at h4 h5
        obtain ⟨b', n', bm, nm, g1, g2, g3⟩ := h4
        rw [hb] at g1
        simp only [Option.some.injEq, Prod.mk.injEq] at g1
        obtain ⟨rfl, rfl⟩ := g1
        obtain ⟨bm', nm', arr, k1, k2, k3, k4, k5, k6⟩ := h5
        rw [g2] at k1
        simp only [Option.some.injEq, Prod.mk.injEq] at k1
        obtain ⟨rfl, rfl⟩ := k1
        obtain ⟨e, q1, q2⟩ : ∃ e, arr.find? (fun x => x.born == sl) = some e ∧ e.born = sl := by
          cases hfi : arr.find? (fun x => x.born == sl) with
          | some e => exact ⟨e, rfl, by simpa using Array.find?_some hfi⟩
          | none =>
            rw [Array.find?_eq_none] at hfi
            rw [← k6] at hsb
            obtain ⟨y, hy, rfl⟩ := List.mem_map.1 hsb
            exact (hfi y (by simpa using hy) (by simp)).elim
        obtain ⟨j, hj⟩ := List.mem_iff_getElem?.1 (show e ∈ arr.toList by simpa using Array.mem_of_find?_eq_some q1)
        obtain ⟨kd, r1, r2⟩ : ∃ kd, (es.map (·.1))[j]? = some kd ∧ DRep w (Held E φ st.heap) kd e.key := by
          have hl := k3.length
          have hjl : j < (es.map (·.1)).length := by rw [← hl]; simpa using (List.getElem?_eq_some_iff.1 hj).1
          obtain ⟨c, c1, c2⟩ := k3.get (i := j) (List.getElem?_eq_getElem hjl)
          rw [List.getElem?_map, hj] at c1
          cases c1
          exact ⟨_, List.getElem?_eq_getElem hjl, c2⟩
        obtain ⟨vd, r3, r4⟩ : ∃ vd, (es.map (·.2))[j]? = some vd ∧ DRep w (Held E φ st.heap) vd e.val := by
          have hl := k4.length
          have hjl : j < (es.map (·.2)).length := by rw [← hl]; simpa using (List.getElem?_eq_some_iff.1 hj).1
          obtain ⟨c, c1, c2⟩ := k4.get (i := j) (List.getElem?_eq_getElem hjl)
          rw [List.getElem?_map, hj] at c1
          cases c1
          exact ⟨_, List.getElem?_eq_getElem hjl, c2⟩
        rw [List.getElem?_map] at r1 r3
        obtain ⟨ent, he1, rfl⟩ := Option.map_eq_some_iff.1 r1
        rw [he1] at r3
        simp only [Option.map_some, Option.some.injEq] at r3
        subst r3
        have hbj : born[j]? = some sl := by rw [← k6, List.getElem?_map, hj, ← q2]; rfl
        refine wp_value (c := .tuple #[e.key, e.val]) (w' := w) ?_ ⟨_, hK j ent he1 hbj, Rst.after (by simpa [updAll, delAll] using h) hd (by simp only [PVal.und]) ?_ (fun _ _ h => ⟨h, rfl⟩) (fun i v hv => .inl ⟨v, hv⟩)⟩
        · simp only [execOp, hop]
          refine run_v ?_
          rw [hxv]
          exact run_entry_at k2 g3 (by simp) q1
        · simp only [PRep, DRep, DRepL]
          exact ⟨[e.key, e.val], rfl, _, _, rfl, r2, _, _, rfl, r4, rfl⟩
      · exact hs.elim
    · exact hs.elim
  · exact hs.elim
theorem next_run (h : Rst E S φ st a w) (hd : ∀ d, o.dst = some d → d < a.tmps.size) {x : Operand} (hop : o.op = .next x false) (hs : nextP x st K) :
    o.wp P a w (fun a' w' => ∃ e, K e ∧ After E S φ st a.tmps.size nid o.dst e a' w') Q := by
  unfold nextP at hs
  split at hs
  · rename_i id hx
    split at hs
    · rename_i m clk seen hf
      split at hs
      · rename_i es born clk' hfm
        obtain ⟨⟨rfl, hg⟩, hK1, hK2⟩ := hs
        obtain ⟨gu, gx⟩ := h.evs x (gds_mem hg x (by simp))
        rw [hx] at gx gu
        simp only [PRep, PVal.und] at gx gu
        obtain ⟨b, n, hb, hxv⟩ := gx
        obtain ⟨h1, h1', h2, h3, h4⟩ := h.objs id _ hf
        have h5 := (h.objs m _ hfm).2.2.2.2
        have hbm' := (h.objs m _ hfm).2.2.2.1
        simp only [ORep] at h4 h5
        obtain ⟨b', n', bm, nm, g1, g2, g3⟩ := h4
        rw [hb] at g1
        simp only [Option.some.injEq, Prod.mk.injEq] at g1
        obtain ⟨rfl, rfl⟩ := g1
        obtain ⟨bm', nm', arr, k1, k2, k3, k4, k5, k6⟩ := h5
        rw [g2] at k1
        simp only [Option.some.injEq, Prod.mk.injEq] at k1
        obtain ⟨rfl, rfl⟩ := k1
        rcases run_next_at (P := P) o.type bm b clk seen.reverse.toArray arr k2 g3 k5 with ⟨q1, q2⟩ | ⟨e, w1, q1, q2, q3, q4, q5, q6, q7⟩
        · refine wp_value (c := .tuple #[.bool false]) (w' := w) ?_ ⟨_, hK2 fun s hs => ?_, Rst.after (by simpa [updAll, delAll] using h) hd (by simp only [PVal.und]) ?_ (fun _ _ h => ⟨h, rfl⟩) (fun i v hv => .inl ⟨v, hv⟩)⟩
          · simp only [execOp, hop]
            refine run_v ?_
            rw [hxv]; exact q2
          · rw [← k6] at hs
            obtain ⟨y, hy, rfl⟩ := List.mem_map.1 hs
            simpa using q1 y hy
          · simp only [PRep, DRep, DRepL]
            exact ⟨[.bool false], rfl, _, _, rfl, rfl, rfl⟩
        · obtain ⟨j, hj⟩ := List.mem_iff_getElem?.1 q1
          obtain ⟨kd, r1, r2⟩ : ∃ kd, (es.map (·.1))[j]? = some kd ∧ DRep w (Held E φ st.heap) kd e.key := by
            have hl := k3.length
            have hjl : j < (es.map (·.1)).length := by rw [← hl]; simpa using (List.getElem?_eq_some_iff.1 hj).1
            obtain ⟨c, c1, c2⟩ := k3.get (i := j) (List.getElem?_eq_getElem hjl)
            rw [List.getElem?_map, hj] at c1
            cases c1
            exact ⟨_, List.getElem?_eq_getElem hjl, c2⟩
          obtain ⟨vd, r3, r4⟩ : ∃ vd, (es.map (·.2))[j]? = some vd ∧ DRep w (Held E φ st.heap) vd e.val := by
            have hl := k4.length
            have hjl : j < (es.map (·.2)).length := by rw [← hl]; simpa using (List.getElem?_eq_some_iff.1 hj).1
            obtain ⟨c, c1, c2⟩ := k4.get (i := j) (List.getElem?_eq_getElem hjl)
            rw [List.getElem?_map, hj] at c1
            cases c1
            exact ⟨_, List.getElem?_eq_getElem hjl, c2⟩
          rw [List.getElem?_map] at r1 r3
          obtain ⟨ent, he1, rfl⟩ := Option.map_eq_some_iff.1 r1
          rw [he1] at r3
          simp only [Option.map_some, Option.some.injEq] at r3
          subst r3
          have hbj : born[j]? = some e.born := by rw [← k6, List.getElem?_map, hj]; rfl
          have hbk : blk φ id (.iter m clk seen) = some b := by simp [blk, hb]
          have hblk' : ∀ s', blk φ id (.iter m clk s') = some b := fun _ => by simp [blk, hb]
          have hne : b ≠ bm := by
            intro e'; subst e'
            rw [g3] at k2; cases k2
          have hset : ({ w1 with heap := w1.heap.setIfInBounds b (.mapIter (some bm) clk (seen.reverse.toArray.push e.born) clk) } : World).heap = w.heap.setIfInBounds b (.mapIter (some bm) clk (seen.reverse.toArray.push e.born) clk) := by rw [← q3]
          generalize hw2 : ({ w1 with heap := w1.heap.setIfInBounds b (.mapIter (some bm) clk (seen.reverse.toArray.push e.born) clk) } : World) = w2 at *
          have hos : w2.os = w.os := by rw [← hw2]; exact q4
          have hout : w2.output = w.output := by rw [← hw2]; exact q5
          have htape : w2.tape = w.tape := by rw [← hw2]; exact q6
          have hoth : ∀ c, c ≠ b → w2.heap[c]? = w.heap[c]? := fun c hc => by rw [hset]; exact (MapKept.heap_set g3).2 c hc
          have hself : w2.heap[b]? = some (.mapIter (some bm) clk (seen.reverse.toArray.push e.born) clk) := by rw [hset]; exact (MapKept.heap_set g3).1
          have hsz : w2.heap.size = w.heap.size := by rw [hset]; simp
          have hR := h.set (w' := w2) (id := id) (o' := .iter m clk (e.born :: seen)) (S' := S) (φ' := φ) hos htape hout (by rw [hsz]; exact Nat.le_refl _)
            (fun c hc hno => hoth c fun e' => hno _ hf (e' ▸ hbk)) (fun _ _ h => h) (fun _ _ _ => rfl) h1 h1' (fun _ _ _ h => h) (by simpa only [PObj.und] using h2)
            (fun c hc => by rw [hblk'] at hc; cases hc; exact ⟨by rw [hsz]; exact (h3 b hbk).1, .inr ⟨_, hf, hbk⟩⟩)
            (by simp only [ORep]; exact ⟨b, n, bm, nm, hb, g2, by rw [hself]; simp⟩)
          have hO := held_set (o' := .iter m clk (e.born :: seen)) (φ' := φ) h (fun _ _ _ => rfl) (fun c hc => by rw [hblk'] at hc; cases hc; exact .inr ⟨_, hf, hbk⟩)
          have hkp : Keeps (Held E φ st.heap) w w2 := ⟨by rw [hsz]; exact Nat.le_refl _, fun c hlt hc => hoth c fun e' => hc (.inr ⟨id, _, hf, e' ▸ hbk⟩)⟩
          refine wp_value (c := .tuple #[.bool true, e.key, e.val]) (w' := w2) ?_ ⟨_, hK1 j ent e.born he1 hbj (by simpa using q2), Rst.after (by simpa [updAll, delAll] using hR) hd (by simp only [PVal.und]) ?_ (fun _ _ h => ⟨h, rfl⟩) (fun i v hv => .inl ⟨v, hv⟩)⟩
          · simp only [execOp, hop]
            refine run_v ?_
            rw [hxv]; exact q7
          · simp only [PRep, DRep, DRepL]
            exact ⟨[.bool true, e.key, e.val], rfl, _, _, rfl, rfl, _, _, rfl, DRep.keep hkp hO _ _ r2, _, _, rfl, DRep.keep hkp hO _ _ r4, rfl⟩
      · exact hs.elim
    · exact hs.elim
  · exact hs.elim
end
end Go.Proofs.Ytdodgbhodkcckaa.Pv
end
section
set_option linter.unusedVariables false
set_option linter.unusedSectionVars false
set_option linter.unusedSimpArgs false
set_option autoImplicit false
namespace Go.Proofs.Ytdodgbhodkcckaa.Pv
open Go Go.RowKit
def nidOf (base L i : Nat) (j : Nat) : Nat := base + i + j * L
structure Foot where
  rd : List Nat
  wr : List Nat
def footOf (o : Oper) (st : St) (e : Eff) : Foot := ⟨(match mvOf o.op with
  | some _ => []
  | none => idsL (o.op.operands.toList.map st.ev)), e.dels ++ e.upds.map (·.1)⟩
def opN (P : Program) (T : Nat → Option TI) (eqt : Nat → Option (List CK)) (nid : Nat → Nat) (all : List Oper) (o : Oper) (st : St) (K : Eff → Prop) : Prop := match o.op, o.guard with
  | .range t x, none => rangeP T nid t x st K
  | .next x false, none => nextP x st K
  | .next x true, none => nextS x st K
  | .entry x, none => entryP x st K
  | _, _ => opP P T eqt nid all o st K
def opsP (P : Program) (T : Nat → Option TI) (eqt : Nat → Option (List CK)) (all : List Oper) (L base : Nat) : Nat → List Oper → St → (St → Prop) → Prop
  | _, [], st, K => K { st with next := base + 4 * L }
  | i, o :: rest, st, K => opN P T eqt (nidOf base L i) all o st fun e => opsP P T eqt all L base (i + 1) rest (st.app o.dst e) K
def opsD (P : Program) (T : Nat → Option TI) (eqt : Nat → Option (List CK)) (all : List Oper) (L base : Nat) : Nat → List Oper → St → List Foot → (St → List Foot → Prop) → Prop
  | _, [], st, tr, K => K { st with next := base + 4 * L } tr
  | i, o :: rest, st, tr, K => opP P T eqt (nidOf base L i) all o st fun e => opsD P T eqt all L base (i + 1) rest (st.app o.dst e) (tr ++ [footOf o st e]) K
section
variable {P : Program} {T : Nat → Option TI} {eqt : Nat → Option (List CK)} {nid : Nat → Nat} {st : St} {K : Eff → Prop}
theorem compute_pull {op : Op} (h : match computeP T eqt st op with
    | some (p, pre) => pre ∧ K ⟨p, [], []⟩
    | none => False) : ∃ e, (match computeP T eqt st op with
    | some (p, pre) => pre ∧ (⟨p, [], []⟩ : Eff) = e
    | none => False) ∧ K e := by
  split at h
  · exact ⟨_, ⟨h.1, rfl⟩, h.2⟩
  · exact h.elim
theorem step_pull {op : Op} (h : stepP P T eqt nid op st K) : ∃ e, stepP P T eqt nid op st (· = e) ∧ K e := by
  have fallback : (match computeP T eqt st op with
    | some (p, pre) => pre ∧ K ⟨p, [], []⟩
    | none => False) → ∃ e, (match computeP T eqt st op with
    | some (p, pre) => pre ∧ (⟨p, [], []⟩ : Eff) = e
    | none => False) ∧ K e := compute_pull
  cases op with
  | alloc t =>
    simp only [stepP] at h ⊢
    split at h
    · exact ⟨_, rfl, h⟩
    · exact h.elim
  | box t x =>
    simp only [stepP] at h ⊢
    split at h
    · exact ⟨_, ⟨h.1, rfl⟩, h.2⟩
    · exact h.elim
  | buildSlice t len parts =>
    simp only [stepP] at h ⊢
    split at h
    · split at h
      · exact ⟨_, ⟨h.1, rfl⟩, h.2⟩
      · exact h.elim
    · exact h.elim
  | makeSlice t l c =>
    simp only [stepP] at h ⊢
    split at h
    · split at h
      · rcases h.2 with h2 | h2
        · exact ⟨_, ⟨h.1, .inl rfl⟩, h2⟩
        · exact ⟨_, ⟨h.1, .inr ⟨h2.1, rfl⟩⟩, h2.2⟩
      · exact h.elim
    · exact h.elim
  | makeMap t r =>
    simp only [stepP] at h ⊢
    split at h
    · exact ⟨_, rfl, h⟩
    · exact h.elim
  | mapUpdate t m k x =>
    simp only [stepP] at h ⊢
    split at h
    · split at h
      · split at h
        · exact ⟨_, ⟨h.1, rfl⟩, h.2⟩
        · exact h.elim
      · exact h.elim
    · exact h.elim
  | insert t m k x =>
    simp only [stepP] at h ⊢
    split at h
    · split at h
      · split at h
        · exact ⟨_, ⟨h.1, rfl⟩, h.2⟩
        · exact h.elim
      · exact h.elim
    · exact h.elim
  | store t ad x =>
    simp only [stepP] at h ⊢
    split at h
    · split at h
      · exact ⟨_, ⟨h.1, rfl⟩, h.2⟩
      · exact h.elim
    · split at h
      · exact ⟨_, ⟨h.1, rfl⟩, h.2⟩
      · split at h
        · split at h
          · exact ⟨_, ⟨h.1, rfl⟩, h.2⟩
          · exact h.elim
        · exact h.elim
      · exact h.elim
    · exact h.elim
  | call cl =>
    obtain ⟨cal, args, ts⟩ := cl
    cases cal with
    | value f =>
      simp only [stepP] at h ⊢
      split at h
      · obtain ⟨hg, ⟨L, ps, hp, r, h', give, c1, c2, c3, c4, c5, c6⟩ | ⟨tS, el, te, id1, v1, o1, l1, id2, v2, o2, l2, e1, r1, els1, e2, r2, els2, k1, k2, k3, k4, k5⟩⟩ := h
        · exact ⟨_, ⟨hg, .inl ⟨L, ps, hp, r, h', give, c1, c2, c3, c4, c5, rfl⟩⟩, c6⟩
        · exact ⟨_, ⟨hg, .inr ⟨tS, el, te, id1, v1, o1, l1, id2, v2, o2, l2, e1, r1, els1, e2, r2, els2, k1, k2, k3, k4, rfl⟩⟩, k5⟩
      · exact h.elim
    | invoke r m => exact fallback h
    | builtin b =>
      cases b with
      | append =>
        simp only [stepP] at h ⊢
        split at h
        · split at h
          · split at h
            · split at h
              · exact ⟨_, ⟨h.1, rfl⟩, h.2⟩
              · exact h.elim
            · exact h.elim
          · split at h
            · split at h
              · obtain ⟨h1, h2⟩ := h
                split at h2
                · exact ⟨_, ⟨h1, h2.1, rfl⟩, h2.2⟩
                · split at h2
                  · rcases h2 with (⟨h2, h3 | ⟨h3, h4⟩⟩ | h2) | h2
                    · exact ⟨_, ⟨h1, .inl (.inl ⟨h2, .inl rfl⟩)⟩, h3⟩
                    · exact ⟨_, ⟨h1, .inl (.inl ⟨h2, .inr ⟨h3, rfl⟩⟩)⟩, h4⟩
                    · split at h2
                      · obtain ⟨h2, ⟨h3, h4⟩ | ⟨h3, h4⟩⟩ := h2
                        · exact ⟨_, ⟨h1, .inl (.inr ⟨h2, .inl ⟨h3, rfl⟩⟩)⟩, h4⟩
                        · exact ⟨_, ⟨h1, .inl (.inr ⟨h2, .inr ⟨h3, rfl⟩⟩)⟩, h4⟩
                      · exact h2.elim
                    · split at h2
                      · exact ⟨_, ⟨h1, .inr ⟨h2.1, rfl⟩⟩, h2.2⟩
                      · exact h2.elim
                  · exact h2.elim
                · exact h2.elim
              · exact h.elim
            · exact h.elim
          · exact h.elim
        · exact h.elim
      | copy =>
        simp only [stepP] at h ⊢
        split at h
        · split at h
          · split at h
            · split at h
              · exact ⟨_, ⟨h.1, rfl⟩, h.2⟩
              · exact h.elim
            · exact h.elim
          · exact h.elim
        · exact h.elim
      | clear =>
        simp only [stepP] at h ⊢
        split at h
        · split at h
          · split at h
            · split at h
              · exact ⟨_, ⟨h.1, rfl⟩, h.2⟩
              · exact h.elim
            · exact h.elim
          · exact h.elim
        · exact h.elim
      | _ => exact fallback h
  | _ => exact fallback h
theorem stepG_pull {op : Op} {g : Bool} (h : stepG P T eqt nid g op st K) : ∃ e, stepG P T eqt nid g op st (· = e) ∧ K e := by
  have fallback : (match computeP T eqt st op with
    | some (p, pre) => (g = true → pre) ∧ K ⟨(match p with | .gd g' q => .gd (g && g') q | p => .gd g p), [], []⟩
    | none => g = false ∧ K ⟨.gd false .dead, [], []⟩) → ∃ e, (match computeP T eqt st op with
    | some (p, pre) => (g = true → pre) ∧ (⟨(match p with | .gd g' q => .gd (g && g') q | p => .gd g p), [], []⟩ : Eff) = e
    | none => g = false ∧ (⟨.gd false .dead, [], []⟩ : Eff) = e) ∧ K e := by
    intro h
    split at h
    · exact ⟨_, ⟨h.1, rfl⟩, h.2⟩
    · exact ⟨_, ⟨h.1, rfl⟩, h.2⟩
  cases op with
  | buildSlice t len parts =>
    cases g with
    | true => exact step_pull (P := P) (eqt := eqt) (op := .buildSlice t len parts) h
    | false => exact ⟨_, rfl, h⟩
  | call cl =>
    obtain ⟨cal, args, ts⟩ := cl
    cases cal with
    | value f =>
      simp only [stepG] at h ⊢
      split at h
      · obtain ⟨ps, x, c1, c2, c3⟩ := h
        exact ⟨_, ⟨ps, x, c1, c2, rfl⟩, c3⟩
      · exact h.elim
    | invoke r m => exact fallback h
    | builtin b => cases b <;> exact fallback h
  | _ => exact fallback h
theorem op_pull {all : List Oper} {o : Oper} (h : opP P T eqt nid all o st K) : ∃ e, opP P T eqt nid all o st (· = e) ∧ K e := by
  unfold opP at h ⊢
  split at h
  · exact step_pull h
  · split at h
    · split at h
      · exact stepG_pull h
      · exact h.elim
    · exact h.elim
end
theorem fresh_of {S : Nat → Nat → Prop} {base L i : Nat} (hi : i < L) (hS : ∀ k v, S k v → k < base ∨ ∃ i' j, i' < L ∧ i' ≠ i ∧ k = base + i' + j * L) : Fresh S (nidOf base L i) := by
  constructor
  · intro j v hs
    rcases hS _ v hs with h | ⟨i', j', h1, h2, h3⟩
    · simp only [nidOf] at h; omega
    · simp only [nidOf] at h3
      have e : (i + j * L) % L = (i' + j' * L) % L := by congr 1; omega
      rw [Nat.add_mul_mod_self_right, Nat.add_mul_mod_self_right, Nat.mod_eq_of_lt hi, Nat.mod_eq_of_lt h1] at e
      exact h2 e.symm
  · intro j j' h
    simp only [nidOf] at h
    exact Nat.eq_of_mul_eq_mul_right (by omega : 0 < L) (by omega)
structure Since (S0 : Nat → Nat → Prop) (φ0 : Nat → Nat → Option (Nat × Nat)) (S : Nat → Nat → Prop) (φ : Nat → Nat → Option (Nat × Nat)) : Prop where
  keep : ∀ k v, S0 k v → S k v ∧ φ k v = φ0 k v
  low : ∀ k v, S k v → k < 8 → ∃ v', S0 k v'
  zero : ∀ k v, S0 k v → k < 8
theorem Since.step {S0 S S' : Nat → Nat → Prop} {φ0 φ φ' : Nat → Nat → Option (Nat × Nat)} {nid : Nat → Nat} (h : Since S0 φ0 S φ) (h1 : ∀ i v, S i v → S' i v ∧ φ' i v = φ i v) (h2 : ∀ i v, S' i v → (∃ v', S i v') ∨ ∃ j, j < 4 ∧ i = nid j) (h3 : ∀ j, 8 ≤ nid j) : Since S0 φ0 S' φ' :=
  ⟨fun k v hs => ⟨(h1 k v (h.keep k v hs).1).1, (h1 k v (h.keep k v hs).1).2.trans (h.keep k v hs).2⟩, fun k v hs hk => by
    rcases h2 k v hs with ⟨v', h4⟩ | ⟨j, _, rfl⟩
    · exact h.low k v' h4 hk
    · have := h3 j; omega, h.zero⟩
theorem range_bound {base L i j : Nat} (hi : i < L) (hj : j < 4) : base + i + j * L < base + 4 * L := by
  have : j * L ≤ 3 * L := Nat.mul_le_mul_right _ (by omega)
  omega
section
variable {P : Program} {T : Nat → Option TI} {eqt : Nat → Option (List CK)} (hk : Kit P T eqt) {E : Env} {Q : Exit → Act → World → Prop} {ops : Array Oper}
include hk in
theorem opN_run {o : Oper} {nid : Nat → Nat} {K : Eff → Prop} {E : Env} {S : Nat → Nat → Prop} {φ : Nat → Nat → Option (Nat × Nat)} {st : St} {a : Act} {w : World} (h : Rst E S φ st a w) (hd : ∀ d, o.dst = some d → d < a.tmps.size) (hfr : Fresh S nid) {i : Nat} (ho : ops[i]? = some o) (hs : opN P T eqt nid ops.toList o st K) :
    wpOp P ops Q i (fun a' w' => ∃ e, K e ∧ After E S φ st a.tmps.size nid o.dst e a' w') a w := by
  have old : opP P T eqt nid ops.toList o st K → wpOp P ops Q i (fun a' w' => ∃ e, K e ∧ After E S φ st a.tmps.size nid o.dst e a' w') a w := fun hs => by
    obtain ⟨e, h1, h2⟩ := op_pull hs
    exact wpOp_mono (fun a' w' ha => ⟨e, h2, ha⟩) (op_run hk (Q := Q) h hd hfr ho h1)
  unfold opN at hs
  split at hs
  · rename_i t x hop hg
    unfold wpOp
    simp only [ho]
    have hw : Region.wanted o (yielded ops a.tmps) = true := by simp [Region.wanted, hg]
    simp only [hw, if_true]
    exact .inl (range_run hk h hd hfr hop hs)
  · rename_i x hop hg
    unfold wpOp
    simp only [ho]
    have hw : Region.wanted o (yielded ops a.tmps) = true := by simp [Region.wanted, hg]
    simp only [hw, if_true]
    exact .inl (next_run h hd hop hs)
  · rename_i x hop hg
    unfold wpOp
    simp only [ho]
    have hw : Region.wanted o (yielded ops a.tmps) = true := by simp [Region.wanted, hg]
    simp only [hw, if_true]
    exact .inl (nextS_run h hd hop hs)
  · rename_i x hop hg
    unfold wpOp
    simp only [ho]
    have hw : Region.wanted o (yielded ops a.tmps) = true := by simp [Region.wanted, hg]
    simp only [hw, if_true]
    exact .inl (entry_run h hd hop hs)
  · exact old hs
include hk in
theorem ops_run {n base : Nat} (hb : ∀ o ∈ ops.toList, ∀ d, o.dst = some d → d < n) {K : St → Prop} {S0 : Nat → Nat → Prop} {φ0 : Nat → Nat → Option (Nat × Nat)} (hb8 : 8 ≤ base)
    (hQ : ∀ st a w S φ, Rst E S φ st a w → (∀ k v, S k v → k < st.next) → Since S0 φ0 S φ → 8 ≤ st.next → a.tmps.size = n → K st → Q .normal a w) :
    ∀ (rest : List Oper) (i : Nat) (st : St) (a : Act) (w : World) (S : Nat → Nat → Prop) (φ : Nat → Nat → Option (Nat × Nat)), i ≤ ops.size → ops.toList.drop i = rest → Rst E S φ st a w →
      (∀ k v, S k v → k < base ∨ ∃ i' j, i' < i ∧ j < 4 ∧ k = base + i' + j * ops.size) → Since S0 φ0 S φ → a.tmps.size = n → opsP P T eqt ops.toList ops.size base i rest st K → wpOps P ops Q (List.range' i rest.length) a w
  | [], i, st, a, w, S, φ, hle, hd, hr, hS, h0, hn, h => by
    simp only [opsP] at h
    simp only [List.length_nil, List.range'_zero, wpOps]
    refine hQ { st with next := base + 4 * ops.size } a w S φ (hr.congr ⟨fun _ => rfl, fun _ => rfl⟩) (fun k v hs => ?_) h0 (show 8 ≤ base + 4 * ops.size by omega) hn h
    show k < base + 4 * ops.size
    rcases hS k v hs with h1 | ⟨i', j, h1, h2, h3⟩
    · omega
    · rw [h3]; exact range_bound (by omega) h2
  | o :: rest, i, st, a, w, S, φ, hle, hd, hr, hS, h0, hn, h => by
    have hi : i < ops.size := by
      have := congrArg List.length hd
      simp at this; omega
    have ho : ops[i]? = some o := by
      have : (ops.toList.drop i)[0]? = some o := by rw [hd]; rfl
      simpa using this
    have hd' : ops.toList.drop (i + 1) = rest := by
      have : (ops.toList.drop i).drop 1 = rest := by rw [hd]; rfl
      rwa [List.drop_drop] at this
    simp only [List.length_cons, List.range'_succ, wpOps_cons]
    simp only [opsP] at h
    have hdst : ∀ d, o.dst = some d → d < a.tmps.size := by
      intro d hd2; rw [hn]; exact hb o (by rw [← Array.getElem?_toList] at ho; exact List.mem_of_getElem? ho) d hd2
    have hfr : Fresh S (nidOf base ops.size i) := fresh_of hi fun k v hs => by
      rcases hS k v hs with h | ⟨i', j, h3, _, h4⟩
      · exact .inl h
      · exact .inr ⟨i', j, by omega, by omega, h4⟩
    refine wpOp_mono (fun a' w' ha => ?_) (opN_run hk (Q := Q) hr hdst hfr ho h)
    obtain ⟨e, h2, g1, φ', S', g2, g3, g4⟩ := ha
    refine ops_run hb hb8 hQ rest (i + 1) _ a' w' S' φ' (by omega) hd' g2 ?_ (h0.step g3 g4 fun j => by simp only [nidOf]; omega) (g1.trans hn) h2
    intro k v hs
    rcases g4 k v hs with ⟨v', h5⟩ | ⟨j, hj, h5⟩
    · rcases hS k v' h5 with h6 | ⟨i', j, h6, h7, h8⟩
      · exact .inl h6
      · exact .inr ⟨i', j, by omega, h7, h8⟩
    · exact .inr ⟨i, j, by omega, hj, h5⟩
end
end Go.Proofs.Ytdodgbhodkcckaa.Pv
end
section
set_option linter.unusedVariables false
set_option linter.unusedSectionVars false
set_option linter.unusedSimpArgs false
set_option autoImplicit false
namespace Go.Proofs.Ytdodgbhodkcckaa.Pv
open Go Go.RowKit
def direct (o : Oper) : List Nat := (o.after.toList.filter fun e => Region.binds .any e).map (·.on)
def maskL (cl : List Nat) : List Nat → Nat
  | [] => 0
  | j :: l => (2 ^ j ||| cl.getD j 0) ||| maskL cl l
def closs : List Oper → List Nat → List Nat
  | [], acc => acc
  | o :: rest, acc => closs rest (acc ++ [maskL acc (direct o)])
theorem maskL_bit {cl : List Nat} {k : Nat} : ∀ {l : List Nat}, (maskL cl l).testBit k = true → ∃ j ∈ l, k = j ∨ (cl.getD j 0).testBit k = true
  | [], h => by simp [maskL] at h
  | j :: l, h => by
    simp only [maskL, Nat.testBit_or, Bool.or_eq_true] at h
    rcases h with (h | h) | h
    · rw [Nat.testBit_two_pow] at h
      exact ⟨j, by simp, .inl (Eq.symm (by simpa using h))⟩
    · exact ⟨j, by simp, .inr h⟩
    · obtain ⟨j', h1, h2⟩ := maskL_bit h
      exact ⟨j', by simp [h1], h2⟩
theorem closs_acc : ∀ (l : List Oper) (acc : List Nat), ∃ t, closs l acc = acc ++ t
  | [], acc => ⟨[], by simp [closs]⟩
  | o :: l, acc => by
    obtain ⟨t, h⟩ := closs_acc l (acc ++ [maskL acc (direct o)])
    exact ⟨maskL acc (direct o) :: t, by rw [closs, h]; simp⟩
theorem closs_get : ∀ (l : List Oper) (acc : List Nat) (i : Nat) (o : Oper), l[i]? = some o → (closs l acc)[acc.length + i]? = some (maskL ((closs l acc).take (acc.length + i)) (direct o))
  | [], acc, i, o, h => by simp at h
  | o' :: l, acc, i, o, h => by
    cases i with
    | zero =>
      simp at h; subst h
      obtain ⟨t, ht⟩ := closs_acc l (acc ++ [maskL acc (direct o')])
      simp only [closs, ht, Nat.add_zero]
      rw [List.append_assoc, List.take_left, List.getElem?_append_right (Nat.le_refl _)]
      simp
    | succ i =>
      have := closs_get l (acc ++ [maskL acc (direct o')]) i o (by simpa using h)
      simp only [closs]
      simp only [List.length_append, List.length_cons, List.length_nil] at this
      rw [show acc.length + (i + 1) = acc.length + (0 + 1) + i by omega]
      exact this
def disj (a b : List Nat) : Bool := a.all fun x => !b.contains x
def apartB (ops : Array Oper) (feet : List Foot) (i j : Nat) : Bool := match ops[i]?, ops[j]?, feet[i]?, feet[j]? with
  | some oi, some oj, some fi, some fj => oi.apart ops oj && disj fi.wr fj.rd && disj fi.wr fj.wr && disj fi.rd fj.wr
  | _, _, _, _ => false
def orderOK (ops : Array Oper) (feet : List Foot) : Bool :=
  let cl := closs ops.toList []
  (List.range ops.size).all fun j => ((ops[j]?).map fun o => (direct o).all fun i => decide (i < j)).getD false && (List.range j).all fun i => (cl.getD j 0).testBit i || apartB ops feet i j
def lastOf (id : Nat) : List (Nat × PObj) → Option PObj
  | [] => none
  | (i, o) :: l => match lastOf id l with
    | some x => some x
    | none => if id = i then some o else none
theorem find_updAll' : ∀ (l h : List (Nat × PObj)) (id : Nat), find id (updAll l h) = match lastOf id l with | some o => some o | none => find id h
  | [], h, id => by simp [updAll, lastOf]
  | (i, o) :: l, h, id => by
    simp only [updAll, lastOf]
    rw [find_updAll' l _ id]
    cases lastOf id l with
    | some x => rfl
    | none =>
      by_cases e : id = i
      · subst e; simp [find_upd_same]
      · simp [e, find_upd_other e]
theorem lastOf_mem {id : Nat} {o : PObj} : ∀ {l : List (Nat × PObj)}, lastOf id l = some o → id ∈ l.map (·.1)
  | [], h => by simp [lastOf] at h
  | (i, x) :: l, h => by
    simp only [lastOf] at h
    split at h
    · rename_i y hy; simp only [List.map_cons, List.mem_cons]; exact .inr (lastOf_mem hy)
    · split at h
      · rename_i e; simp [e]
      · cases h
def effAt (e : Eff) (id : Nat) (x : Option PObj) : Option PObj := match lastOf id e.upds with
  | some o => some o
  | none => if id ∈ e.dels then none else x
theorem find_app (st : St) (dst : Option Nat) (e : Eff) (id : Nat) : find id (st.app dst e).heap = effAt e id (find id st.heap) := by
  have : (st.app dst e).heap = updAll e.upds (delAll e.dels st.heap) := by cases dst <;> rfl
  rw [this, find_updAll', find_delAll]; rfl
theorem effAt_out {e : Eff} {id : Nat} (h : id ∉ e.dels ++ e.upds.map (·.1)) (x : Option PObj) : effAt e id x = x := by
  simp only [List.mem_append, not_or] at h
  unfold effAt
  cases hl : lastOf id e.upds with
  | some o => exact absurd (lastOf_mem hl) h.2
  | none => simp [h.1]
theorem tmps_app (st : St) (dst : Option Nat) (e : Eff) (t : Nat) : find t (st.app dst e).tmps = if dst = some t then some e.val else find t st.tmps := by
  cases dst with
  | none => simp [St.app, St.put]
  | some d =>
    simp only [St.app, St.put, find]
    by_cases h : t = d
    · subst h; simp
    · have : ¬ (some d = some t) := fun e => h (Option.some.inj e).symm
      simp [h, this]
theorem Eqv.app {s t : St} (h : Eqv s t) (dst : Option Nat) (e : Eff) : Eqv (s.app dst e) (t.app dst e) :=
  ⟨fun i => by rw [tmps_app, tmps_app, h.tmps], fun i => by rw [find_app, find_app, h.heap]⟩
def applyX (ops : Array Oper) (effs : List Eff) (st : St) (X : Nat → Bool) : Nat → St
  | 0 => st
  | k + 1 => if X k = true then (match ops[k]?, effs[k]? with
    | some o, some e => (applyX ops effs st X k).app o.dst e
    | _, _ => applyX ops effs st X k) else applyX ops effs st X k
section
variable {ops : Array Oper} {effs : List Eff} {st : St}
theorem applyX_congr {X Y : Nat → Bool} : ∀ k, (∀ i, i < k → X i = Y i) → applyX ops effs st X k = applyX ops effs st Y k
  | 0, _ => rfl
  | k + 1, h => by
    simp only [applyX, h k (by omega), applyX_congr k fun i hi => h i (by omega)]
def Wt (ops : Array Oper) (k t : Nat) : Prop := ∃ o, ops[k]? = some o ∧ o.dst = some t
def Wo (effs : List Eff) (k id : Nat) : Prop := ∃ e, effs[k]? = some e ∧ id ∈ e.dels ++ e.upds.map (·.1)
theorem applyX_tmp {t : Nat} {X : Nat → Bool} {k : Nat} (h : X k = true → ¬ Wt ops k t) : find t (applyX ops effs st X (k + 1)).tmps = find t (applyX ops effs st X k).tmps := by
  simp only [applyX]
  split
  · rename_i hx
    split
    · rename_i o e ho he
      rw [tmps_app, if_neg fun hd => h hx ⟨o, ho, hd⟩]
    · rfl
  · rfl
theorem applyX_obj {id : Nat} {X : Nat → Bool} {k : Nat} (h : X k = true → ¬ Wo effs k id) : find id (applyX ops effs st X (k + 1)).heap = find id (applyX ops effs st X k).heap := by
  simp only [applyX]
  split
  · rename_i hx
    split
    · rename_i o e ho he
      rw [find_app, effAt_out fun hm => h hx ⟨e, he, hm⟩]
    · rfl
  · rfl
theorem same_tmp {t : Nat} {X Y : Nat → Bool} : ∀ k, (∀ i, i < k → Wt ops i t → X i = Y i) → find t (applyX ops effs st X k).tmps = find t (applyX ops effs st Y k).tmps
  | 0, _ => rfl
  | k + 1, h => by
    have ih := same_tmp k fun i hi => h i (by omega)
    by_cases hw : Wt ops k t
    · have e := h k (by omega) hw
      simp only [applyX, e]
      split
      · split
        · rw [tmps_app, tmps_app, ih]
        · exact ih
      · exact ih
    · rw [applyX_tmp fun _ => hw, applyX_tmp fun _ => hw, ih]
theorem same_obj {id : Nat} {X Y : Nat → Bool} : ∀ k, (∀ i, i < k → Wo effs i id → X i = Y i) → find id (applyX ops effs st X k).heap = find id (applyX ops effs st Y k).heap
  | 0, _ => rfl
  | k + 1, h => by
    have ih := same_obj k fun i hi => h i (by omega)
    by_cases hw : Wo effs k id
    · have e := h k (by omega) hw
      simp only [applyX, e]
      split
      · split
        · rw [find_app, find_app, ih]
        · exact ih
      · exact ih
    · rw [applyX_obj fun _ => hw, applyX_obj fun _ => hw, ih]
theorem none_tmp {t : Nat} {X : Nat → Bool} {k : Nat} : ∀ m, k ≤ m → (∀ i, k ≤ i → i < m → X i = true → ¬ Wt ops i t) → find t (applyX ops effs st X m).tmps = find t (applyX ops effs st X k).tmps
  | 0, h, _ => by have : k = 0 := by omega
                  subst this; rfl
  | m + 1, h, hw => by
    by_cases e : k = m + 1
    · subst e; rfl
    · rw [applyX_tmp fun hx => hw m (by omega) (by omega) hx, none_tmp m (by omega) fun i h1 h2 => hw i h1 (by omega)]
theorem none_obj {id : Nat} {X : Nat → Bool} {k : Nat} : ∀ m, k ≤ m → (∀ i, k ≤ i → i < m → X i = true → ¬ Wo effs i id) → find id (applyX ops effs st X m).heap = find id (applyX ops effs st X k).heap
  | 0, h, _ => by have : k = 0 := by omega
                  subst this; rfl
  | m + 1, h, hw => by
    by_cases e : k = m + 1
    · subst e; rfl
    · rw [applyX_obj fun hx => hw m (by omega) (by omega) hx, none_obj m (by omega) fun i h1 h2 => hw i h1 (by omega)]
theorem applyX_more {X Y : Nat → Bool} {i : Nat} {o : Oper} {e : Eff} (ho : ops[i]? = some o) (he : effs[i]? = some e) (hX : X i = false) (hY : Y i = true) (hXY : ∀ j, j ≠ i → Y j = X j)
    (hind : ∀ j, i < j → X j = true → ∀ oj ej, ops[j]? = some oj → effs[j]? = some ej → (∀ t, o.dst = some t → oj.dst ≠ some t) ∧ (∀ id, id ∈ e.dels ++ e.upds.map (·.1) → id ∉ ej.dels ++ ej.upds.map (·.1))) :
    ∀ m, i < m → Eqv (applyX ops effs st Y m) ((applyX ops effs st X m).app o.dst e)
  | 0, h => by omega
  | m + 1, h => by
    by_cases em : i = m
    · subst em
      have e1 : applyX ops effs st Y i = applyX ops effs st X i := applyX_congr i fun j hj => hXY j (by omega)
      simp only [applyX, hY, hX, if_true, ho, he, e1, Bool.false_eq_true, if_false]
      exact Eqv.refl _
    · have ih := applyX_more ho he hX hY hXY hind m (by omega)
      simp only [applyX, hXY m (fun h => em h.symm)]
      split
      · rename_i hx
        split
        · rename_i oj ej hoj hej
          obtain ⟨h1, h2⟩ := hind m (by omega) hx oj ej hoj hej
          refine (ih.app oj.dst ej).trans ⟨fun t => ?_, fun id => ?_⟩
          · rw [tmps_app, tmps_app, tmps_app, tmps_app]
            by_cases ht : o.dst = some t
            · simp [ht, h1 t ht]
            · simp [ht]
          · rw [find_app, find_app, find_app, find_app]
            by_cases hid : id ∈ e.dels ++ e.upds.map (·.1)
            · rw [effAt_out (h2 id hid), effAt_out (h2 id hid)]
            · rw [effAt_out hid, effAt_out hid]
        · exact ih
      · exact ih
end
def Traced (P : Program) (T : Nat → Option TI) (eqt : Nat → Option (List CK)) (ops : Array Oper) (base : Nat) (st0 : St) (effs : List Eff) (feet : List Foot) (i : Nat) : Prop := ∀ o, ops[i]? = some o →
  ∃ e, effs[i]? = some e ∧ opP P T eqt (nidOf base ops.size i) ops.toList o (applyX ops effs st0 (fun _ => true) i) (· = e) ∧ feet[i]? = some (footOf o (applyX ops effs st0 (fun _ => true) i) e)
theorem applyX_effs {ops : Array Oper} {effs effs' : List Eff} {st : St} {X : Nat → Bool} : ∀ k, (∀ i, i < k → effs[i]? = effs'[i]?) → applyX ops effs st X k = applyX ops effs' st X k
  | 0, _ => rfl
  | k + 1, h => by simp only [applyX, h k (by omega), applyX_effs k fun i hi => h i (by omega)]
section
variable {P : Program} {T : Nat → Option TI} {eqt : Nat → Option (List CK)} {ops : Array Oper} {base : Nat} {st0 : St}
theorem Traced.more {effs effs' : List Eff} {feet feet' : List Foot} {i : Nat} (h : Traced P T eqt ops base st0 effs feet i) (h1 : ∀ j, j ≤ i → effs[j]? = effs'[j]?) (h2 : feet[i]? = feet'[i]?) : Traced P T eqt ops base st0 effs' feet' i := by
  intro o ho
  obtain ⟨e, g1, g2, g3⟩ := h o ho
  have := applyX_effs (ops := ops) (st := st0) (X := fun _ => true) i fun j hj => h1 j (by omega)
  rw [this] at g2 g3
  exact ⟨e, by rw [← h1 i (by omega)]; exact g1, g2, by rw [← h2]; exact g3⟩
theorem opsD_pull {K : St → List Foot → Prop} : ∀ (rest : List Oper) (i : Nat) (es : List Eff) (tr : List Foot), ops.toList.drop i = rest → i ≤ ops.size → es.length = i → tr.length = i → (∀ j, j < i → Traced P T eqt ops base st0 es tr j) →
    opsD P T eqt ops.toList ops.size base i rest (applyX ops es st0 (fun _ => true) i) tr K →
    ∃ effs feet, (∀ j, j < ops.size → Traced P T eqt ops base st0 effs feet j) ∧ K { applyX ops effs st0 (fun _ => true) ops.size with next := base + 4 * ops.size } feet
  | [], i, es, tr, hd, hi, h1, h2, h3, h => by
    have : i = ops.size := by
      have := congrArg List.length hd
      simp at this; omega
    subst this
    exact ⟨es, tr, h3, h⟩
  | o :: rest, i, es, tr, hd, hi, h1, h2, h3, h => by
    have hlt : i < ops.size := by
      have := congrArg List.length hd
      simp at this; omega
    have ho : ops[i]? = some o := by
      have : (ops.toList.drop i)[0]? = some o := by rw [hd]; rfl
      simpa using this
    have hd' : ops.toList.drop (i + 1) = rest := by
      have : (ops.toList.drop i).drop 1 = rest := by rw [hd]; rfl
      rwa [List.drop_drop] at this
    simp only [opsD] at h
    obtain ⟨e, g1, g2⟩ := op_pull h
    have hes : ∀ j, j < i → (es ++ [e])[j]? = es[j]? := fun j hj => List.getElem?_append_left (by omega)
    have hei : (es ++ [e])[i]? = some e := by rw [List.getElem?_append_right (by omega)]; simp [h1]
    have htri : ∀ f, (tr ++ [f])[i]? = some f := fun f => by rw [List.getElem?_append_right (by omega)]; simp [h2]
    have hap : applyX ops (es ++ [e]) st0 (fun _ => true) i = applyX ops es st0 (fun _ => true) i := applyX_effs i fun j hj => hes j hj
    have hap1 : applyX ops (es ++ [e]) st0 (fun _ => true) (i + 1) = (applyX ops es st0 (fun _ => true) i).app o.dst e := by
      simp only [applyX, if_true, ho, hei, hap]
    refine opsD_pull rest (i + 1) (es ++ [e]) (tr ++ [footOf o (applyX ops es st0 (fun _ => true) i) e]) hd' (by omega) (by simp [h1]) (by simp [h2]) ?_ (by rw [hap1]; exact g2)
    intro j hj
    by_cases e2 : j = i
    · subst e2
      intro o' ho'
      rw [ho] at ho'; cases ho'
      exact ⟨e, hei, by rw [hap]; exact g1, by rw [hap]; exact htri _⟩
    · refine (h3 j (by omega)).more (fun k hk => (hes k (by omega)).symm) ?_
      rw [List.getElem?_append_left (by omega)]
end
theorem disj_spec {a b : List Nat} (h : disj a b = true) {x : Nat} (ha : x ∈ a) : x ∉ b := by
  have := List.all_eq_true.1 h x ha
  simpa using this
def left (listed : Array Bool) : Nat → Nat
  | 0 => 0
  | k + 1 => left listed k + (if listed.getD k false = true then 0 else 1)
theorem left_zero {listed : Array Bool} : ∀ {k : Nat}, left listed k = 0 → ∀ i, i < k → listed.getD i false = true
  | 0, _, i, hi => by omega
  | k + 1, h, i, hi => by
    simp only [left] at h
    split at h
    · rename_i hk
      by_cases e : i = k
      · subst e; exact hk
      · exact left_zero (by omega) i (by omega)
    · omega
theorem left_set {listed : Array Bool} {i : Nat} (hi : i < listed.size) (hf : listed.getD i false = false) : ∀ k, (i < k → left (listed.setIfInBounds i true) k + 1 = left listed k) ∧ (k ≤ i → left (listed.setIfInBounds i true) k = left listed k)
  | 0 => ⟨by omega, fun _ => rfl⟩
  | k + 1 => by
    obtain ⟨h1, h2⟩ := left_set hi hf k
    have hne : k ≠ i → (listed.setIfInBounds i true).getD k false = listed.getD k false := fun e => getD_set_ne false (fun e' => e e'.symm)
    refine ⟨fun h => ?_, fun h => ?_⟩
    · simp only [left]
      by_cases e : k = i
      · subst e
        have hs : (listed.setIfInBounds k true).getD k false = true := by simp [hi]
        rw [hs, hf, h2 (Nat.le_refl _)]; simp
      · rw [hne e]
        have := h1 (by omega)
        omega
    · simp only [left]
      rw [hne (by omega), h2 (by omega)]
section
variable {P : Program} {T : Nat → Option TI} {eqt : Nat → Option (List CK)} (hk : Kit P T eqt) {E : Env} {Q : Exit → Act → World → Prop} {ops : Array Oper} {base n : Nat} {st0 : St} {effs : List Eff} {feet : List Foot}
theorem orderOK_spec (h : orderOK ops feet = true) {j : Nat} {o : Oper} (ho : ops[j]? = some o) : (∀ i ∈ direct o, i < j) ∧ ∀ i, i < j → ((closs ops.toList []).getD j 0).testBit i = true ∨ apartB ops feet i j = true := by
  have hj := (Array.getElem?_eq_some_iff.1 ho).1
  simp only [orderOK, List.all_eq_true, List.mem_range, Bool.and_eq_true, Bool.or_eq_true] at h
  obtain ⟨h1, h2⟩ := h j hj
  rw [ho] at h1
  simp at h1
  exact ⟨h1, h2⟩
theorem clos_in {X : Nat → Bool} (hok : orderOK ops feet = true) (hdc : ∀ i o, ops[i]? = some o → X i = true → ∀ j ∈ direct o, X j = true) : ∀ (i : Nat) (o : Oper), ops[i]? = some o → (∀ j ∈ direct o, X j = true) → ∀ k, ((closs ops.toList []).getD i 0).testBit k = true → X k = true := by
  intro i
  induction i using Nat.strongRecOn with
  | _ i ih =>
    intro o ho hd k hk
    have hg := closs_get ops.toList [] i o (by rw [Array.getElem?_toList]; exact ho)
    simp only [List.length_nil, Nat.zero_add] at hg
    rw [List.getD_eq_getElem?_getD, hg] at hk
    obtain ⟨j, hj, h1⟩ := maskL_bit (by simpa using hk)
    rcases h1 with rfl | h1
    · exact hd k hj
    · have hlt := (orderOK_spec hok ho).1 j hj
      have hi := (Array.getElem?_eq_some_iff.1 ho).1
      rw [List.getD_eq_getElem?_getD, List.getElem?_take, if_pos hlt, ← List.getD_eq_getElem?_getD] at h1
      have hoj : ops[j]? = some ops[j] := Array.getElem?_eq_getElem (by omega)
      exact ih j hlt _ hoj (hdc j _ hoj (hd j hj)) k h1
include hk in
theorem any_run (hb : ∀ o ∈ ops.toList, ∀ d, o.dst = some d → d < n) (htr : ∀ j, j < ops.size → Traced P T eqt ops base st0 effs feet j) (hok : orderOK ops feet = true) {S0 : Nat → Nat → Prop} {φ0 : Nat → Nat → Option (Nat × Nat)} (hb8 : 8 ≤ base)
    (hQ : ∀ a w S φ, Rst E S φ (applyX ops effs st0 (fun _ => true) ops.size) a w → (∀ k v, S k v → k < base + 4 * ops.size) → Since S0 φ0 S φ → a.tmps.size = n → Q .normal a w) :
    ∀ (fuel : Nat) (listed : Array Bool) (a : Act) (w : World) (S : Nat → Nat → Prop) (φ : Nat → Nat → Option (Nat × Nat)), listed.size = ops.size → left listed ops.size ≤ fuel →
      (∀ i o, ops[i]? = some o → listed.getD i false = true → ∀ j ∈ direct o, listed.getD j false = true) → Rst E S φ (applyX ops effs st0 (fun i => listed.getD i false) ops.size) a w →
      (∀ k v, S k v → k < base ∨ ∃ i' j, i' < ops.size ∧ listed.getD i' false = true ∧ j < 4 ∧ k = base + i' + j * ops.size) → Since S0 φ0 S φ → a.tmps.size = n → wpAny P .any ops Q fuel listed a w := by
  have done : ∀ (listed : Array Bool) (a : Act) (w : World) (S : Nat → Nat → Prop) (φ : Nat → Nat → Option (Nat × Nat)), (∀ i, i < ops.size → listed.getD i false = true) → Rst E S φ (applyX ops effs st0 (fun i => listed.getD i false) ops.size) a w →
      (∀ k v, S k v → k < base ∨ ∃ i' j, i' < ops.size ∧ listed.getD i' false = true ∧ j < 4 ∧ k = base + i' + j * ops.size) → Since S0 φ0 S φ → a.tmps.size = n → Q .normal a w := by
    intro listed a w S φ hall hr hS h0 hn
    rw [applyX_congr (Y := fun _ => true) ops.size fun i hi => hall i hi] at hr
    refine hQ a w S φ hr (fun k v hs => ?_) h0 hn
    rcases hS k v hs with h | ⟨i', j, h1, _, h2, h3⟩
    · omega
    · rw [h3]; exact range_bound h1 h2
  have noready : ∀ (listed : Array Bool), listed.size = ops.size → (∀ i, i < ops.size → listed.getD i false = true) → Region.ready .any ops listed = [] := by
    intro listed hsz hall
    cases h : Region.ready .any ops listed with
    | nil => rfl
    | cons j l =>
      have hj : j ∈ Region.ready .any ops listed := by rw [h]; simp
      obtain ⟨h1, o, h2, _⟩ := mem_ready.1 hj
      have hlt := (Array.getElem?_eq_some_iff.1 h2).1
      have := hall j hlt
      simp only [Array.getD_eq_getD_getElem?, Array.getElem?_eq_getElem (show j < listed.size by omega), Option.getD_some] at h1 this
      rw [h1] at this; cases this
  have isdirect : ∀ (o : Oper) (listed : Array Bool), (∀ e ∈ o.after, Region.binds .any e = true → listed.getD e.on false = true) → ∀ j ∈ direct o, listed.getD j false = true := by
    intro o listed h j hj
    simp only [direct, List.mem_map, List.mem_filter] at hj
    obtain ⟨e, ⟨h1, h2⟩, rfl⟩ := hj
    exact h e (by simpa using h1) h2
  have directis : ∀ (o : Oper) (listed : Array Bool), (∀ j ∈ direct o, listed.getD j false = true) → ∀ e ∈ o.after, Region.binds .any e = true → listed.getD e.on false = true := by
    intro o listed h e he hb
    exact h e.on (by simp only [direct, List.mem_map, List.mem_filter]; exact ⟨e, ⟨by simpa using he, hb⟩, rfl⟩)
  intro fuel
  induction fuel with
  | zero =>
    intro listed a w S φ hsz hl hdc hr hS h0 hn
    have hall := left_zero (by omega : left listed ops.size = 0)
    exact ⟨noready listed hsz hall, done listed a w S φ hall hr hS h0 hn⟩
  | succ fuel ih =>
    intro listed a w S φ hsz hl hdc hr hS h0 hn
    refine ⟨fun hno => done listed a w S φ ?_ hr hS h0 hn, fun i hi => ?_⟩
    · intro i
      induction i using Nat.strongRecOn with
      | _ i ihi =>
        intro hlt
        have ho : ops[i]? = some ops[i] := Array.getElem?_eq_getElem hlt
        cases hx : listed.getD i false with
        | true => rfl
        | false =>
          exfalso
          have : i ∈ Region.ready .any ops listed := mem_ready.2 ⟨by
            simp only [Array.getD_eq_getD_getElem?, Array.getElem?_eq_getElem (show i < listed.size by omega), Option.getD_some] at hx ⊢
            exact hx, _, ho, directis _ _ fun j hj => ihi j ((orderOK_spec hok ho).1 j hj) (by have := (orderOK_spec hok ho).1 j hj; omega)⟩
          rw [hno] at this; simp at this
    · obtain ⟨hi1, o, ho, hi2⟩ := mem_ready.1 hi
      have hlt := (Array.getElem?_eq_some_iff.1 ho).1
      have hXi : listed.getD i false = false := by
        simp only [Array.getD_eq_getD_getElem?, Array.getElem?_eq_getElem (show i < listed.size by omega), Option.getD_some] at hi1 ⊢
        exact hi1
      have hdir := isdirect o listed hi2
      obtain ⟨e, he, hop, hft⟩ := htr i hlt o ho
      -- those ahead of i are done; those behind it are not
      have ahead : ∀ k, k < i → listed.getD k false = true ∨ apartB ops feet k i = true := by
        intro k hk
        rcases (orderOK_spec hok ho).2 k hk with h | h
        · exact .inl (clos_in (X := fun i => listed.getD i false) hok hdc i o ho hdir k h)
        · exact .inr h
      have behind : ∀ k, i < k → k < ops.size → listed.getD k false = true → apartB ops feet i k = true := by
        intro k hk hks hx
        have hok' : ops[k]? = some ops[k] := Array.getElem?_eq_getElem hks
        rcases (orderOK_spec hok hok').2 i hk with h | h
        · have := clos_in (X := fun i => listed.getD i false) hok hdc k _ hok' (hdc k _ hok' hx) i h
          simp only [hXi] at this; cases this
        · exact h
      have apart_get : ∀ {p q : Nat} {op oq : Oper} {fp fq : Foot}, ops[p]? = some op → ops[q]? = some oq → feet[p]? = some fp → feet[q]? = some fq → apartB ops feet p q = true →
          op.apart ops oq = true ∧ disj fp.wr fq.rd = true ∧ disj fp.wr fq.wr = true ∧ disj fp.rd fq.wr = true := by
        intro p q op oq fp fq h1 h2 h3 h4 h
        simp only [apartB, h1, h2, h3, h4, Bool.and_eq_true] at h
        exact ⟨h.1.1.1, h.1.1.2, h.1.2, h.2⟩
      have info : ∀ k, k < ops.size → ∃ ok ek fk, ops[k]? = some ok ∧ effs[k]? = some ek ∧ feet[k]? = some fk ∧ fk.wr = ek.dels ++ ek.upds.map (·.1) := by
        intro k hk
        have h1 : ops[k]? = some ops[k] := Array.getElem?_eq_getElem hk
        obtain ⟨ek, h2, _, h3⟩ := htr k hk _ h1
        exact ⟨_, ek, _, h1, h2, h3, rfl⟩
      have tmpAlike : ∀ t, t ∈ o.looksAt ops → find t (applyX ops effs st0 (fun i => listed.getD i false) ops.size).tmps = find t (applyX ops effs st0 (fun _ => true) i).tmps := by
        intro t ht
        rw [none_tmp (k := i) ops.size (by omega) ?_]
        · refine same_tmp i fun k hk hw => ?_
          obtain ⟨ok, hok1, hok2⟩ := hw
          rcases ahead k hk with h | h
          · exact h
          · obtain ⟨ok', ek, fk, g1, _, g3, _⟩ := info k (by omega)
            rw [hok1] at g1; cases g1
            exact absurd ht ((Oper.apart_spec (apart_get hok1 ho g3 hft h).1).1 t hok2)
        · rintro k h1 h2 hx ⟨ok, hok1, hok2⟩
          by_cases e : i = k
          · subst e; rw [hXi] at hx; cases hx
          · obtain ⟨ok', ek, fk, g1, _, g3, _⟩ := info k h2
            rw [hok1] at g1; cases g1
            exact (Oper.apart_spec (apart_get ho hok1 hft g3 (behind k (by omega) h2 hx)).1).2.2 t hok2 ht
      have objAlike : ∀ id, id ∈ (footOf o (applyX ops effs st0 (fun _ => true) i) e).rd ++ (footOf o (applyX ops effs st0 (fun _ => true) i) e).wr → find id (applyX ops effs st0 (fun i => listed.getD i false) ops.size).heap = find id (applyX ops effs st0 (fun _ => true) i).heap := by
        intro id hid
        rw [none_obj (k := i) ops.size (by omega) ?_]
        · refine same_obj i fun k hk hw => ?_
          obtain ⟨ek, hek1, hek2⟩ := hw
          rcases ahead k hk with h | h
          · exact h
          · obtain ⟨ok', ek', fk, g1, g2, g3, g4⟩ := info k (by omega)
            rw [hek1] at g2; cases g2
            obtain ⟨_, d1, d2, d3⟩ := apart_get g1 ho g3 hft h
            rw [← g4] at hek2
            rcases List.mem_append.1 hid with h | h
            · exact absurd h (disj_spec d1 hek2)
            · exact absurd h (disj_spec d2 hek2)
        · rintro k h1 h2 hx ⟨ek, hek1, hek2⟩
          by_cases e2 : i = k
          · subst e2; rw [hXi] at hx; cases hx
          · obtain ⟨ok', ek', fk, g1, g2, g3, g4⟩ := info k h2
            rw [hek1] at g2; cases g2
            obtain ⟨_, d1, d2, d3⟩ := apart_get ho g1 hft g3 (behind k (by omega) h2 hx)
            rw [← g4] at hek2
            rcases List.mem_append.1 hid with h | h
            · exact disj_spec d3 h hek2
            · exact disj_spec d2 h hek2
      have evAlike : ∀ x : Operand, (∀ t, x = .tmp t → t ∈ o.looksAt ops) → (applyX ops effs st0 (fun i => listed.getD i false) ops.size).ev x = (applyX ops effs st0 (fun _ => true) i).ev x := by
        intro x hx
        cases x with
        | tmp t => simp only [St.ev]; rw [tmpAlike t (hx t rfl)]
        | _ => rfl
      have hgd : ∀ g want t, o.guard = some (g, want) → dstOf ops.toList g = some t → (applyX ops effs st0 (fun i => listed.getD i false) ops.size).ev (.tmp t) = (applyX ops effs st0 (fun _ => true) i).ev (.tmp t) := fun g want t hg ht => evAlike _ fun t' ht' => by
        cases ht'
        unfold Oper.looksAt
        refine List.mem_append_right _ ?_
        rw [hg]
        unfold dstOf at ht
        rw [Array.getElem?_toList] at ht
        cases hog : ops[g]? with
        | none => rw [hog] at ht; cases ht
        | some og => rw [hog] at ht; simp [hog, ht]
      have hev : ∀ x ∈ o.op.operands.toList, (applyX ops effs st0 (fun i => listed.getD i false) ops.size).ev x = (applyX ops effs st0 (fun _ => true) i).ev x := fun x hx => evAlike x fun t ht => by
        subst ht
        exact List.mem_append_left _ (List.mem_filterMap.2 ⟨.tmp t, hx, rfl⟩)
      have hop' : opP P T eqt (nidOf base ops.size i) ops.toList o (applyX ops effs st0 (fun i => listed.getD i false) ops.size) (· = e) := by
        cases hmv : mvOf o.op with
        | some x => exact op_local_mv hmv (hev x (mvOf_mem hmv)) hgd hop
        | none =>
          have hal : Alike o.op.operands.toList (e.dels ++ e.upds.map (·.1)) (applyX ops effs st0 (fun _ => true) i) (applyX ops effs st0 (fun i => listed.getD i false) ops.size) :=
            ⟨hev, fun id hid => objAlike id (by simpa only [footOf, hmv] using hid)⟩
          exact op_local hal hgd hop
      have hdst : ∀ d, o.dst = some d → d < a.tmps.size := by
        intro d hd2; rw [hn]; exact hb o (by rw [← Array.getElem?_toList] at ho; exact List.mem_of_getElem? ho) d hd2
      have hfr : Fresh S (nidOf base ops.size i) := fresh_of hlt fun k v hs => by
        rcases hS k v hs with h | ⟨i', j, h3, h5, _, h4⟩
        · exact .inl h
        · refine .inr ⟨i', j, h3, fun e => ?_, h4⟩
          subst e; rw [hXi] at h5; cases h5
      refine wpOp_mono (fun a' w' ha => ?_) (op_run hk (Q := Q) hr hdst hfr ho hop')
      obtain ⟨g1, φ', S', g2, g3, g4⟩ := ha
      have hset : (listed.setIfInBounds i true).getD i false = true := by simp [show i < listed.size by omega]
      have hoth : ∀ j, j ≠ i → (listed.setIfInBounds i true).getD j false = listed.getD j false := fun j hj => getD_set_ne false (fun e => hj e.symm)
      have hmono : ∀ j, listed.getD j false = true → (listed.setIfInBounds i true).getD j false = true := fun j hj => getD_set_true hj
      refine ih (listed.setIfInBounds i true) a' w' S' φ' (by simpa using hsz) ?_ ?_ (g2.congr (Eqv.symm (applyX_more (Y := fun j => (listed.setIfInBounds i true).getD j false) ho he hXi hset hoth ?_ ops.size hlt))) ?_ (h0.step g3 g4 fun j => by simp only [nidOf]; omega) (g1.trans hn)
      · have := (left_set (show i < listed.size by omega) hXi ops.size).1 hlt
        omega
      · intro k ok hok1 hx j hj
        by_cases e2 : k = i
        · subst e2; rw [ho] at hok1; cases hok1; exact hmono j (hdir j hj)
        · rw [hoth k e2] at hx; exact hmono j (hdc k ok hok1 hx j hj)
      · intro k hk hx ok ek hok1 hek1
        have hks := (Array.getElem?_eq_some_iff.1 hok1).1
        obtain ⟨ok', ek', fk, q1, q2, q3, q4⟩ := info k hks
        rw [hek1] at q2; cases q2
        obtain ⟨d0, d1, d2, d3⟩ := apart_get ho hok1 hft q3 (behind k hk hks hx)
        refine ⟨fun t ht => (Oper.apart_spec d0).2.1 t ht, fun id hid => ?_⟩
        rw [← q4]; exact disj_spec d2 hid
      · intro k v hs
        rcases g4 k v hs with ⟨v', h5⟩ | ⟨j, hj, h5⟩
        · rcases hS k v' h5 with h6 | ⟨i', j, h6, h7, h8, h9⟩
          · exact .inl h6
          · exact .inr ⟨i', j, h6, hmono i' h7, h8, h9⟩
        · exact .inr ⟨i, j, hlt, hset, hj, h5⟩
end
end Go.Proofs.Ytdodgbhodkcckaa.Pv
end
end
