/- A function's contract out of its body. No program is in sight here. -/
import Derived.Test.YtdodgbhodkcckaaPvu
set_option linter.unusedVariables false
set_option linter.unusedSectionVars false
set_option linter.unusedSimpArgs false
set_option autoImplicit false
namespace Go.Proofs.Ytdodgbhodkcckaa.Pv
open Go Go.RowKit

/-- What a function hands back, one by one. -/
def resL (T : Nat → Option TI) (st : St) : List ResultVar → Option (List PVal × Prop)
  | [] => some ([], True)
  | r :: rs => match (match r with
      | .tmp t => some (st.evs (.tmp t), st.gds [.tmp t])
      | .cell a t => (loadP T st t (st.evs (.tmp a))).map fun p => (p, st.gds [.tmp a])), resL T st rs with
    | some (p, g), some (ps, gs) => some (p :: ps, g ∧ gs)
    | _, _ => none
def resP : List PVal → PVal
  | [p] => p
  | ps => .tup ps

def St.start (args : List PVal) (h : List (Nat × PObj)) : St := ⟨(List.range args.length).zip args, h, 8⟩

/-- The end of a body: what is handed back is r, with the objects h'. -/
def Fin (T : Nat → Option TI) (rs : List ResultVar) (r : PVal) (h' : List (Nat × PObj)) (e : Exit) (st : St) : Prop := (e = .normal ∨ e = .ret) ∧ match resL T st rs with
  | some (ps, g) => g ∧ ∃ V : Turn, turnOK V (h'.map (·.1)) = true ∧ viewH V { st with tmps := [(0, resP ps)] } (keptOf V ⟨[(0, r)], h', 12⟩) 12 h' ∧ viewP V st.heap (keptOf V ⟨[(0, r)], h', 12⟩) 12 (resP ps) r
  | none => False

section
variable {P : Program} {T : Nat → Option TI} {eqt : Nat → Option (List CK)} (hk : Kit P T eqt) {E : Env} {S : Nat → Nat → Prop} {φ : Nat → Nat → Option (Nat × Nat)} {st : St} {a : Act} {w : World}

include hk in
theorem resL_run (h : Rst E S φ st a w) : ∀ {rs : List ResultVar} {ps : List PVal} {g : Prop}, resL T st rs = some (ps, g) → g →
    ∃ cs : List Value, (rs.mapM fun | ResultVar.tmp t => (pure (a.tmps.getD t undef) : Sem Value) | .cell ad t => do loadVar t (← asAddr (a.tmps.getD ad undef))).run P w = .ok cs w ∧ undL S ps ∧ PRepL w (Held E φ st.heap) φ ps cs
  | [], ps, g, hr, hg => by
    simp only [resL, Option.some.injEq, Prod.mk.injEq] at hr
    obtain ⟨rfl, rfl⟩ := hr
    exact ⟨[], by simp, by simp only [undL], by simp only [PRepL]⟩
  | r :: rs, ps, g, hr, hg => by
    simp only [resL] at hr
    split at hr
    · rename_i p g1 ps' g2 e1 e2
      simp only [Option.some.injEq, Prod.mk.injEq] at hr
      obtain ⟨rfl, rfl⟩ := hr
      obtain ⟨cs, h1, h2, h3⟩ := resL_run h e2 hg.2
      have one : ∃ c, (match r with | ResultVar.tmp t => (pure (a.tmps.getD t undef) : Sem Value) | .cell ad t => do loadVar t (← asAddr (a.tmps.getD ad undef))).run P w = .ok c w ∧ p.und S ∧ PRep w (Held E φ st.heap) φ p c := by
        cases r with
        | tmp t =>
          simp only [Option.some.injEq, Prod.mk.injEq] at e1
          obtain ⟨rfl, rfl⟩ := e1
          have := h.evs (.tmp t) (gds_mem hg.1 _ (by simp))
          exact ⟨_, by simp [Act.eval], this.1, this.2⟩
        | cell ad t =>
          obtain ⟨p', q1, q2⟩ := Option.map_eq_some_iff.1 e1
          simp only [Prod.mk.injEq] at q2
          obtain ⟨rfl, rfl⟩ := q2
          have := h.evs (.tmp ad) (gds_mem hg.1 _ (by simp))
          obtain ⟨v, r1, r2, r3⟩ := loadP_run hk h.objsOK q1 this.2
          refine ⟨v, ?_, r2, r3⟩
          have hp : ∃ b, a.tmps.getD ad undef = .pointer (some b) := by
            unfold loadP at q1
            have h2 := this.2
            simp only [Act.eval] at h2
            split at q1
            · cases q1
            · split at q1
              · split at q1
                · rename_i id k he; rw [he] at h2; simp only [PRep] at h2; obtain ⟨b, _, _, e⟩ := h2; exact ⟨_, e⟩
                · rename_i id ver s i k he; rw [he] at h2; simp only [PRep] at h2; obtain ⟨b, _, _, e⟩ := h2; exact ⟨_, e⟩
                · rename_i cells he; rw [he] at h2; simp only [PRep, DRep] at h2; obtain ⟨b, _, _, e, _⟩ := h2; exact ⟨_, e⟩
                · cases q1
              · cases q1
          obtain ⟨b, hb⟩ := hp
          simp only [Act.eval, hb, Instr.loadAt, Instr.sureAddr] at r1
          simp only [hb, asAddr]
          simpa using r1
      obtain ⟨c, q1, q2, q3⟩ := one
      refine ⟨c :: cs, ?_, by simp only [undL]; exact ⟨q2, h2⟩, by simp only [PRepL]; exact ⟨c, cs, rfl, q3, h3⟩⟩
      rw [List.mapM_cons, Sem.run_bind, q1]
      simp only [Result.andThen_ok]
      rw [Sem.run_bind, h1]
      simp
    · cases hr

theorem start_find {args : List PVal} {t : Nat} {p : PVal} : ∀ {k : Nat} {l : List PVal}, find t ((List.range' k l.length).zip l) = some p → ∃ i, t = k + i ∧ l[i]? = some p
  | k, [], h => by simp [find] at h
  | k, x :: l, h => by
    simp only [List.length_cons, List.range'_succ, List.zip_cons_cons, find] at h
    split at h
    · rename_i e; cases h; exact ⟨0, by omega, rfl⟩
    · obtain ⟨i, h1, h2⟩ := start_find (args := args) h
      exact ⟨i + 1, by omega, by simpa using h2⟩

include hk in
/-- A function does what its body is shown to do. -/
theorem Runs.of {f : FuncId} {fn : Func} {c : Code} {args : List PVal} {h : List (Nat × PObj)} {r : PVal} {h' : List (Nat × PObj)} (hf : P.funcs[f]? = some fn) (hn : (fn.name == "runtime.NumGoroutine") = false) (hb : fn.body = some c) (hl : args.length ≤ fn.ntmps)
    (hw : Pwp P fn.ntmps c (Fin T fn.results.toList r h') (.start args h)) : Runs P f args h r h' := by
  refine ⟨⟨fn, hf, hn, by rw [hb]; rfl⟩, ?_⟩
  intro E S φ cs hpass hS hr hu hx
  refine calls_of_wp hf hb ?_
  have hcl := hx.length
  have h0 : Holds fn.ntmps E S φ (.start args h) { tmps := cs.toArray ++ Array.replicate (fn.ntmps - cs.toArray.size) undef, defers := [] } E.w0 := by
    refine ⟨by simp; omega, Nat.le_refl _, φ, S, ?_, fun k v hs => hS k v hs, ⟨fun k v hs => ⟨hs, rfl⟩, fun k v hs _ => ⟨v, hs⟩, hS⟩⟩
    refine { hr with defers := rfl, tmps := ?_ }
    intro t p ht
    simp only [St.start] at ht ⊢
    rw [List.range_eq_range'] at ht
    obtain ⟨i, rfl, hi⟩ := start_find (args := []) ht
    refine ⟨undL_get hu hi, ?_⟩
    obtain ⟨v, h1, h2⟩ := hx.get hi
    have : (cs.toArray ++ Array.replicate (fn.ntmps - cs.toArray.size) undef).getD (0 + i) undef = v := by
      have hil := (List.getElem?_eq_some_iff.1 h1).1
      rw [Array.getD_eq_getD_getElem?, Nat.zero_add, Array.getElem?_append_left (by simpa using hil)]
      simp [h1]
    show PRep E.w0 (Held E φ h) φ p ((cs.toArray ++ Array.replicate (fn.ntmps - cs.toArray.size) undef).getD (0 + i) undef)
    rw [this]; exact h2
  refine wp_mono (hw E S φ _ _ h0) ?_
  rintro e a w ⟨s, ⟨g1, g2, φ1, S1, g3, g4, g5⟩, he, hfin⟩
  have key : ∃ v, (results fn a.tmps).run P w = .ok v w ∧ ∃ φ' S', Rst E S' φ' (.only h') Act.none w ∧ (∀ k v, S' k v → (∃ v', S k v') ∨ (8 ≤ k ∧ k < 12)) ∧ (∀ k v, S k v → S' k v ∧ φ' k v = φ k v) ∧ r.und S' ∧ PRep w (Held E φ' h') φ' r v := by
    split at hfin
    · rename_i ps g hres
      obtain ⟨hg, V, v1, v2, v3⟩ := hfin
      obtain ⟨cs', q1, q2, q3⟩ := resL_run hk g3 hres hg
      have hrun : (results fn a.tmps).run P w = .ok (if h : cs'.toArray.size = 1 then cs'.toArray[0] else .tuple cs'.toArray) w := by
        unfold results
        rw [Array.mapM_eq_mapM_toList]
        simp only [Sem.run_bind, Sem.run_map, Sem.run_pure]
        exact (congrArg (fun z => Result.andThen (Result.andThen z fun a w' => .ok a.toArray w') fun a w' => .ok (if h : a.size = 1 then a[0] else .tuple a) w') q1)
      have hp : (resP ps).und S1 ∧ PRep w (Held E φ1 s.heap) φ1 (resP ps) (if h : cs'.toArray.size = 1 then cs'.toArray[0] else .tuple cs'.toArray) := by
        have hlen := q3.length
        match ps, q2, q3, hlen with
        | [], q2, q3, hlen =>
          simp only [PRepL] at q3; subst q3
          simp [resP, PVal.und, PRep, undL, PRepL]
        | [p], q2, q3, hlen =>
          simp only [PRepL, undL] at q2 q3
          obtain ⟨c', cs'', rfl, q4, rfl⟩ := q3
          simp only [resP]
          exact ⟨q2.1, by simpa using q4⟩
        | p :: p' :: ps, q2, q3, hlen =>
          have : ¬ cs'.toArray.size = 1 := by simp at hlen ⊢; omega
          rw [dif_neg this]
          simp only [resP, PVal.und, PRep]
          exact ⟨q2, cs', rfl, q3⟩
      refine ⟨_, hrun, ?_⟩
      have hs : Rst E S1 φ1 { s with tmps := [(0, resP ps)] } ⟨#[if h : cs'.toArray.size = 1 then cs'.toArray[0] else .tuple cs'.toArray], []⟩ w := by
        refine { g3 with defers := rfl, tmps := ?_ }
        intro t p ht
        simp only [find] at ht
        split at ht
        · rename_i e; subst e; cases ht; exact ⟨hp.1, by simpa using hp.2⟩
        · cases ht
      obtain ⟨t1, t2⟩ := turnOK_spec v1
      have hv := view_run (t := ⟨[(0, r)], h', 12⟩) V hs t2 v2 (by
        simp only [viewT, and_true]
        have : ({ s with tmps := [(0, resP ps)] } : St).ev (.tmp 0) = resP ps := by simp [St.ev, find]
        rw [this]; exact v3)
      have hsince := since_view (N := 12) t1 (by omega) g5
      have hr0 := hv.tmps 0 r (by simp [find])
      refine ⟨V.φ φ1, V.S S1 12, ?_, ?_, hsince.keep, hr0.1, by simpa using hr0.2⟩
      · exact { hv with defers := rfl, tmps := fun t p ht => by simp [St.only, find] at ht }
      · intro k v hs
        by_cases h8 : k < 8
        · exact .inl (hsince.low k v hs h8)
        · exact .inr ⟨by omega, hs.1⟩
    · exact hfin.elim
  obtain ⟨v, k1, φ', S', k2, k3, k4, k5, k6⟩ := key
  have hd := g3.defers
  rcases he with rfl | rfl
  · exact ⟨hd, v, k1, v, φ', S', rfl, k2, k3, k4, k5, k6⟩
  · exact ⟨hd, v, k1, v, φ', S', rfl, k2, k3, k4, k5, k6⟩
end

end Go.Proofs.Ytdodgbhodkcckaa.Pv
