/- Operations that compute, more of them: memory that is read, addresses, cuts, records. No program is in sight here. -/
import Derived.Test.YtdodgbhodkcckaaPvf
set_option linter.unusedVariables false
set_option linter.unusedSimpArgs false
set_option autoImplicit false
namespace Go.Proofs.Ytdodgbhodkcckaa.Pv
open Go Go.RowKit

theorem run_v {P : Program} {w w' : World} {s : Sem Value} {c : Value} (h : s.run P w = .ok c w') : (do pure (.value (← s)) : Sem Next).run P w = .ok (.value c) w' := by
  rw [Sem.run_bind, h]; rfl

section
variable {P : Program} {T : Nat → Option TI} {eqt : Nat → Option (List CK)} (hk : Kit P T eqt) {w : World} {O : Nat → Prop} {φ : Nat → Nat → Option (Nat × Nat)}

theorem ofCells_rep {n : Nat} {m : Nat → Nat → Prop} {agg : Bool} {cells : List PVal} {p : PVal} {cs : List Value} (ho : ofCells n agg cells = some p) (hr : PRepL w O φ cells cs) (hu : undL m cells) :
    p.und m ∧ ((agg = true ∧ n ≤ cs.length ∧ PRep w O φ p (.agg (cs.take n).toArray)) ∨ (agg = false ∧ ∃ c, cs[0]? = some c ∧ PRep w O φ p c)) := by
  unfold ofCells at ho
  cases agg with
  | true =>
    simp only [if_true] at ho
    split at ho
    · rename_i hn
      cases ho
      refine ⟨by simp only [PVal.und]; exact undL_take hu n, .inl ⟨rfl, by rw [hr.length]; exact hn, ?_⟩⟩
      simp only [PRep]
      exact ⟨_, rfl, hr.take n⟩
    · cases ho
  | false =>
    simp only [Bool.false_eq_true, if_false] at ho
    have h0 : cells[0]? = some p := by rw [← ho, List.head?_eq_getElem?]
    exact ⟨undL_get hu h0, .inr ⟨rfl, hr.get h0⟩⟩

include hk in
theorem loadVar_run {t : Nat} {ti : TI} (ht : T t = some ti) (hkn : ti.kind.known = true) {b off : Nat} {m : Nat → Nat → Prop} {cells : List PVal} {p : PVal} {cs : List Value} (hc : CellsAt w b off cs) (ho : ofCells ti.size ti.kind.isAgg cells = some p)
    (hr : PRepL w O φ cells cs) (hu : undL m cells) : ∃ c, (loadVar t ⟨b, off, none⟩).run P w = .ok c w ∧ p.und m ∧ PRep w O φ p c := by
  obtain ⟨h1, h2⟩ := ofCells_rep ho hr hu
  rcases h2 with ⟨ha, hn, h3⟩ | ⟨ha, c, h3, h4⟩
  · refine ⟨_, ?_, h1, h3⟩
    have hl := (hc.take ti.size).run (P := P)
    rw [List.length_take, Nat.min_eq_left hn] at hl
    simp only [loadVar, Sem.run_bind, run_isAgg_T hk.tb ht hkn, Result.andThen_ok, ha, if_true, run_sizeOf_T hk.tb ht, hl, Sem.run_pure]
  · refine ⟨c, ?_, h1, h4⟩
    obtain ⟨hlt, e⟩ := List.getElem?_eq_some_iff.1 h3
    have := hc 0 hlt
    simp only [Nat.add_zero, e] at this
    simp only [loadVar, Sem.run_bind, run_isAgg_T hk.tb ht hkn, Result.andThen_ok, ha, Bool.false_eq_true, if_false, run_load, this]

/-- What is known of a frame's objects. -/
def ObjsOK (w : World) (O : Nat → Prop) (φ : Nat → Nat → Option (Nat × Nat)) (n : Nat → Nat → Prop) (h : List (Nat × PObj)) : Prop :=
  ∀ id o, find id h = some o → ORep w O φ id o ∧ o.und n ∧ ∀ b, blk φ id o = some b → b < w.heap.size

theorem Rst.objsOK {E : Env} {S : Nat → Nat → Prop} {st : St} {a : Act} (h : Rst E S φ st a w) : ObjsOK w (Held E φ st.heap) φ S st.heap :=
  fun id o ho => ⟨(h.objs id o ho).2.2.2.2, (h.objs id o ho).2.2.1, fun b hb => ((h.objs id o ho).2.2.2.1 b hb).1⟩

include hk in
theorem loadP_run {S : Nat → Nat → Prop} {st : St} {t : Nat} {x p : PVal} {c : Value} (hobj : ObjsOK w O φ S st.heap) (hl : loadP T st t x = some p) (hx : PRep w O φ x c) :
    ∃ v, (Instr.loadAt t c).run P w = .ok v w ∧ p.und S ∧ PRep w O φ p v := by
  unfold loadP at hl
  split at hl
  · cases hl
  · rename_i ti ht
    split at hl
    · rename_i hkn
      split at hl
      · rename_i id k
        simp only [PRep] at hx
        obtain ⟨b, nn, hb, rfl⟩ := hx
        split at hl
        · rename_i cells hf
          obtain ⟨ho, hu, _⟩ := hobj id _ hf
          simp only [ORep, PObj.und] at ho hu
          obtain ⟨b', n', cs, ty, g1, g2, g3⟩ := ho
          rw [hb] at g1
          simp only [Option.some.injEq, Prod.mk.injEq] at g1
          obtain ⟨rfl, rfl⟩ := g1
          obtain ⟨v, e1, e2, e3⟩ := loadVar_run hk ht hkn (m := S) ((CellsAt.row g2).drop k) hl (g3.drop k) (undL_drop hu k)
          rw [Nat.zero_add] at e1
          exact ⟨v, by simpa [Instr.loadAt, Instr.sureAddr] using e1, e2, e3⟩
        · cases hl
      · rename_i id ver s i k
        simp only [PRep] at hx
        obtain ⟨b, nn, hb, rfl⟩ := hx
        split at hl
        · rename_i e' s' ver' room els hf
          split at hl
          · rename_i hc
            obtain ⟨rfl, rfl, hks⟩ := hc
            split at hl
            · rename_i e he
              obtain ⟨ho, hu, _⟩ := hobj id _ hf
              simp only [ORep] at ho
              have hlt : i < els.length := (List.getElem?_eq_some_iff.1 he).1
              obtain ⟨b', n', cs, g1, _, _, _, g2, g3, g4⟩ := ho.resolve_left (by intro hh; rw [hh.1] at hb; cases hb)
              rw [hb] at g1
              simp only [Option.some.injEq, Prod.mk.injEq] at g1
              obtain ⟨rfl, rfl⟩ := g1
              obtain ⟨c', q1, q2, q3⟩ := g4.get he
              obtain ⟨v, e1, e2, e3⟩ := loadVar_run hk ht hkn (m := S) (φ := φ) (q3.drop k) hl (PRepL.ds (q1.cells.drop k)) (undL_ds _ _)
              rw [Nat.zero_add] at e1
              exact ⟨v, by simpa [Instr.loadAt, Instr.sureAddr] using e1, e2, e3⟩
            · cases hl
          · cases hl
        · cases hl
      · rename_i cells
        simp only [PRep] at hx
        obtain ⟨b, off, cs, rfl, h1, h2, h3, h4⟩ := hx
        obtain ⟨v, e1, e2, e3⟩ := loadVar_run hk ht hkn (m := S) (φ := φ) h4 hl (PRepL.ds h3) (undL_ds _ _)
        exact ⟨v, by simpa [Instr.loadAt, Instr.sureAddr] using e1, e2, e3⟩
      · cases hl
    · cases hl

include hk in
theorem fieldAddrP_run {t f : Nat} {n : Nat → Nat → Prop} {x p : PVal} {c : Value} (hl : fieldAddrP T t x f = some p) (hx : PRep w O φ x c) (hu : x.und n) :
    ∃ v, (Instr.fieldAt t c f).run P w = .ok v w ∧ p.und n ∧ PRep w O φ p v := by
  unfold fieldAddrP at hl
  split at hl
  · rename_i fs hkd
    obtain ⟨fields, hun, hfs⟩ := desc_of hk.tb hkd
    split at hl
    · rename_i o sz g hf
      obtain ⟨fl, e1, e2, e3, e4, e5⟩ := fieldsOK_get hfs hf
      have hfi : fields[f]? = some fl := by simpa using e1
      obtain ⟨inf, hi1, hi2⟩ := Option.map_eq_some_iff.1 e3
      split at hl
      · cases hl
      · rename_i hsz
        have run : ∀ b o', (Instr.fieldAt t (.pointer (some ⟨b, o', none⟩)) f).run P w = .ok (.pointer (some ⟨b, o' + o, none⟩)) w := by
          intro b o'
          simp [Instr.fieldAt, run_underlying hun, hfi, Instr.sureAddr, fieldPlace, sizeOf, typeInfo, hi1, hi2, hsz, addr_add, e2]
        split at hl
        · cases hl
          simp only [PRep] at hx ⊢
          obtain ⟨b, nn, hb, rfl⟩ := hx
          exact ⟨_, run _ _, hu, b, nn, hb, rfl⟩
        · cases hl
          simp only [PRep] at hx ⊢
          obtain ⟨b, nn, hb, rfl⟩ := hx
          exact ⟨_, run _ _, hu, b, nn, hb, by rw [Nat.add_assoc]⟩
        · cases hl
          simp only [PRep] at hx ⊢
          obtain ⟨b, off, cs, rfl, h1, h2, h3, h4⟩ := hx
          exact ⟨_, run _ _, by simp only [PVal.und], b, off + o, cs.drop o, rfl, h1, h2, h3.drop o, h4.drop o⟩
        · cases hl
    · cases hl
  · cases hl

include hk in
theorem fieldP_run {t f : Nat} {n : Nat → Nat → Prop} {x p : PVal} {c : Value} (hl : fieldP T t x f = some p) (hx : PRep w O φ x c) (hu : x.und n) :
    ∃ v, (Instr.field t c f).run P w = .ok v w ∧ p.und n ∧ PRep w O φ p v := by
  unfold fieldP at hl
  split at hl
  · rename_i fs hkd
    obtain ⟨fields, hun, hfs⟩ := desc_of hk.tb hkd
    split at hl
    · rename_i o sz g hf
      obtain ⟨fl, e1, e2, e3, e4, e5⟩ := fieldsOK_get hfs hf
      have hfi : fields[f]? = some fl := by simpa using e1
      obtain ⟨inf, hi1, hi2⟩ := Option.map_eq_some_iff.1 e3
      have key : ∀ (ps : List PVal) (us : List Value), PRepL w O φ ps us → undL n ps → o + sz ≤ ps.length → ofCells sz g (ps.drop o) = some p →
          ∃ v, (Instr.field t (.agg us.toArray) f).run P w = .ok v w ∧ p.und n ∧ PRep w O φ p v := by
        intro ps us hr hu hle ho
        obtain ⟨q1, q2⟩ := ofCells_rep ho (hr.drop o) (undL_drop hu o)
        have hag := run_isAgg_of (w := w) e4 e5
        rcases q2 with ⟨ha, hn, q3⟩ | ⟨ha, v, q3, q4⟩
        · refine ⟨_, ?_, q1, q3⟩
          subst ha
          simp only [Instr.field, Sem.run_bind, run_underlying hun, Result.andThen_ok, hfi, asAgg, Sem.run_pure, part, hag, if_true, sizeOf, typeInfo, run_program, hi1, hi2, e2]
          congr 2
          apply Array.ext'
          simp only [Array.toList_extract, List.extract_eq_take_drop]
          congr 1
          omega
        · refine ⟨v, ?_, q1, q4⟩
          subst ha
          have : us[o]? = some v := by simpa using q3
          simp [Instr.field, run_underlying hun, hfi, asAgg, part, hag, e2, this]
      split at hl
      · rename_i cs
        split at hl
        · rename_i hle
          simp only [PRep] at hx
          obtain ⟨us, rfl, hx⟩ := hx
          exact key cs us hx (by simpa only [PVal.und] using hu) hle hl
        · cases hl
      · rename_i cs
        split at hl
        · rename_i hle
          simp only [PRep, DRep] at hx
          obtain ⟨us, rfl, hx⟩ := hx
          exact key (cs.map .d) us (PRepL.ds hx) (undL_ds _ _) (by simpa using hle) (by simpa [List.map_drop] using hl)
        · cases hl
      · cases hl
    · cases hl
  · cases hl
end

end Go.Proofs.Ytdodgbhodkcckaa.Pv
