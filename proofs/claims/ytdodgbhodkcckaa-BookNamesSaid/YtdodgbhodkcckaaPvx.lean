/- The arguments of a call, as the statements read them, are plain data. No program is in sight here. -/
import Derived.ChangeArms
import Derived.WideShapes
import Derived.Test.YtdodgbhodkcckaaPvw
set_option linter.unusedVariables false
set_option linter.unusedSimpArgs false
set_option linter.unusedSectionVars false
set_option autoImplicit false
namespace Go.Proofs.Ytdodgbhodkcckaa.Pv
open Go Go.RowKit Go.WideShapes

/-- What a cell is. -/
inductive CL where
  | bool | int (k : IntKind) | str | slc (agg : Bool) (cells : List CL)

/-- A value out of its cells. -/
def one (a : Bool) (ds : List D) : D := if a = true then .agg ds else ds.headD default

mutual
/-- Data as its kind says. -/
def okD : CL → D → Prop
  | .bool, d => ∃ b, d = .v (.bool b)
  | .int k, d => ∃ n, d = .v (.int k n) ∧ (Lit.int k n).wf = true
  | .str, d => ∃ s : ByteArray, d = .v (.string s) ∧ s.size ≤ maxLen
  | .slc a cl, d => ∃ els : List D, d = .slc cl.length els ∧ els.length ≤ maxLen ∧ ∀ el ∈ els, ∃ ds, el = one a ds ∧ okL cl ds
def okL : List CL → List D → Prop
  | [], ds => ds = []
  | c :: cl, ds => ∃ d ds', ds = d :: ds' ∧ okD c d ∧ okL cl ds'
end

theorem okL_append : ∀ {cl cl' : List CL} {ds ds' : List D}, okL cl ds → okL cl' ds' → okL (cl ++ cl') (ds ++ ds')
  | [], cl', ds, ds', h, h' => by simp only [okL] at h; subst h; simpa using h'
  | c :: cl, cl', ds, ds', h, h' => by
    simp only [okL] at h
    obtain ⟨d, ds1, rfl, h1, h2⟩ := h
    simp only [List.cons_append, okL]
    exact ⟨d, ds1 ++ ds', rfl, h1, okL_append h2 h'⟩
theorem okL_length : ∀ {cl : List CL} {ds : List D}, okL cl ds → ds.length = cl.length
  | [], ds, h => by simp only [okL] at h; subst h; rfl
  | c :: cl, ds, h => by
    simp only [okL] at h
    obtain ⟨d, ds1, rfl, h1, h2⟩ := h
    simp [okL_length h2]

/-- The fields of a record, one behind the other. -/
def layFs (L : TypeId → Option (Bool × List CL)) (size : TypeId → Nat) : Nat → List Field → Option (List CL)
  | _, [] => some []
  | o, f :: fs => match L f.type, layFs L size (o + size f.type) fs with
    | some (_, cl), some r => if f.offset = o ∧ size f.type = cl.length then some (cl ++ r) else none
    | _, _ => none

/-- What the cells of a type are. -/
def lay (P : Program) : Nat → TypeId → Option (Bool × List CL)
  | 0, _ => none
  | n + 1, t => match P.underlying t with
    | some .bool => some (false, [.bool])
    | some (.int k) => some (false, [.int k])
    | some .string => some (false, [.str])
    | some (.slice e) => match lay P n e with
      | some (a, cl) => if cl.length = P.cellsOf e ∧ cl.length ≠ 0 then some (false, [.slc a cl]) else none
      | none => none
    | some (.struct fs) => match layFs (lay P n) P.cellsOf 0 fs.toList with
      | some cl => if cl.length = P.cellsOf t then some (true, cl) else none
      | none => none
    | some (.array m e) => match lay P n e with
      | some (_, cl) => if cl.length = P.cellsOf e ∧ m * cl.length = P.cellsOf t then some (true, (List.replicate m cl).flatten) else none
      | none => none
    | _ => none

theorem lay_one {P : Program} : ∀ {n : Nat} {t : TypeId} {cl : List CL}, lay P n t = some (false, cl) → ∃ c, cl = [c]
  | 0, t, cl, h => by simp [lay] at h
  | n + 1, t, cl, h => by
    simp only [lay] at h
    split at h
    · simp at h; exact ⟨_, h.symm⟩
    · simp at h; exact ⟨_, h.symm⟩
    · simp at h; exact ⟨_, h.symm⟩
    · split at h
      · split at h
        · simp at h; exact ⟨_, h.symm⟩
        · cases h
      · cases h
    · split at h
      · split at h <;> simp at h
      · cases h
    · split at h
      · split at h <;> simp at h
      · cases h
    · cases h

theorem ok_cells {w : World} {O : Nat → Prop} {c : CL} {d : D} {v : Value} (h : okD c d) (hr : DRep w O d v) : v.cells = #[v] := by
  cases c with
  | bool => simp only [okD] at h; obtain ⟨b, rfl⟩ := h; simp only [DRep] at hr; subst hr; rfl
  | int k => simp only [okD] at h; obtain ⟨n, rfl, _⟩ := h; simp only [DRep] at hr; subst hr; rfl
  | str => simp only [okD] at h; obtain ⟨s, rfl, _⟩ := h; simp only [DRep] at hr; subst hr; rfl
  | slc a cl => simp only [okD] at h; obtain ⟨els, rfl, _⟩ := h; simp only [DRep] at hr; obtain ⟨ad, cap, rfl, _⟩ := hr; rfl

section
variable {H : Type} {enc : TypeId × Value → H} {P : Program} {w : World} {base : Nat} {sp : Nat → Bool} {held : Bool} {O : Nat → Prop}

theorem trod_array {t e : TypeId} {m fuel : Nat} {cs : List Value} {x : DataW H × List MemPlace} (ht : P.underlying t = some (.array m e)) (h : DataW.trod enc P w base sp held fuel t cs = some x) :
    ∃ n, cs.length = P.cellsOf t ∧ ∀ i, i < m → ∃ y, DataW.trod enc P w base sp held n e ((cs.drop (i * P.cellsOf e)).take (P.cellsOf e)) = some y := by
  cases fuel with
  | zero => simp [DataW.trod] at h
  | succ n =>
    unfold DataW.trod at h
    rw [ht] at h
    split at h <;> simp_all
    obtain ⟨hl, xs, hp, hd⟩ := h
    refine ⟨n, fun i hi => ?_⟩
    have h1 := mapM_some_get hp i i (by simp [hi])
    have h2 := mapM_some_length hp
    have hlt : i < xs.length := by simp at h2; omega
    rw [List.getElem?_eq_getElem hlt] at h1
    exact ⟨_, _, h1⟩

theorem cell_spot {a : Addr} {v : Value} (h : w.cell? a = some v) : a.spot = none := by
  unfold World.cell? at h
  split at h
  · split at h
    · cases h
    · rename_i hs; simpa using hs
  · cases h

theorem cells_at {b off n : Nat} {cs : List Value} (h : w.cells? base ⟨b, off, none⟩ n = some cs) : cs.length = n ∧ CellsAt w b off cs := by
  unfold World.cells? at h
  split at h
  · have h2 := mapM_some_length h
    have hl : cs.length = n := by simpa using h2
    refine ⟨hl, fun j hj => ?_⟩
    have h1 := mapM_some_get h j j (List.getElem?_range (by omega))
    rw [List.getElem?_eq_getElem hj] at h1
    rw [← h1, addr_add]
  · cases h

/-- What the statements read is plain data. -/
theorem trod_rep (hO : ∀ b, ¬ O b) : ∀ (n : Nat) (t : TypeId) (a : Bool) (cl : List CL), lay P n t = some (a, cl) → ∀ (fuel : Nat) (cs : List Value) (x : DataW H × List MemPlace), DataW.trod enc P w base sp held fuel t cs = some x → ∃ ds, okL cl ds ∧ DRepL w O ds cs
  | 0, t, a, cl, h, _, _, _, _ => by simp [lay] at h
  | n + 1, t, a, cl, h, fuel, cs, x, hx => by
    have IH := trod_rep hO n
    simp only [lay] at h
    split at h
    · rename_i hu
      simp at h; obtain ⟨_, rfl⟩ := h
      obtain ⟨b, rfl, _⟩ := DataW.trod_bool hu hx
      refine ⟨[.v (.bool b)], ?_, ?_⟩
      · simp only [okL, okD]; exact ⟨_, _, rfl, ⟨b, rfl⟩, rfl⟩
      · simp only [DRepL, DRep]; exact ⟨_, _, rfl, rfl, rfl⟩
    · rename_i k hu
      simp at h; obtain ⟨_, rfl⟩ := h
      obtain ⟨b, rfl, _, hw⟩ := DataW.trod_int hu hx
      refine ⟨[.v (.int k b)], ?_, ?_⟩
      · simp only [okL, okD]; exact ⟨_, _, rfl, ⟨b, rfl, hw⟩, rfl⟩
      · simp only [DRepL, DRep]; exact ⟨_, _, rfl, rfl, rfl⟩
    · rename_i hu
      simp at h; obtain ⟨_, rfl⟩ := h
      obtain ⟨b, rfl, _, hw⟩ := DataW.trod_string hu hx
      refine ⟨[.v (.string b)], ?_, ?_⟩
      · simp only [okL, okD]; exact ⟨_, _, rfl, ⟨b, rfl, hw⟩, rfl⟩
      · simp only [DRepL, DRep]; exact ⟨_, _, rfl, rfl, rfl⟩
    · rename_i e hu
      split at h
      · rename_i a' cl' hl
        split at h
        · rename_i hc
          simp at h; obtain ⟨_, rfl⟩ := h
          rcases DataW.trod_slice hu hx with ⟨rfl, _⟩ | ⟨ad, len, cap, elems, rest, m, _, rfl, _, _, hle, hcap, hel, hall, _, _⟩
          · refine ⟨[.slc cl'.length []], ?_, ?_⟩
            · simp only [okL, okD]; exact ⟨_, _, rfl, ⟨[], rfl, by simp, by simp⟩, rfl⟩
            · simp only [DRepL, DRep]; exact ⟨_, _, rfl, ⟨none, 0, rfl, by simp, .inl trivial⟩, rfl⟩
          · have each : ∀ i, ∃ ds : List D, i < len → okL cl' ds ∧ ∃ cs', w.cells? base (ad.add (i * P.cellsOf e)) (P.cellsOf e) = some cs' ∧ DRepL w O ds cs' := by
              intro i
              by_cases hi : i < len
              · have h1 := hall i hi
                rw [List.getElem?_eq_getElem (by omega)] at h1
                obtain ⟨cs', h2, h3⟩ := Option.bind_eq_some_iff.1 h1
                obtain ⟨ds, h4, h5⟩ := IH e a' cl' hl _ _ _ h3
                exact ⟨ds, fun _ => ⟨h4, cs', h2, h5⟩⟩
              · exact ⟨[], fun h => absurd h hi⟩
            obtain ⟨f, hf⟩ := Classical.axiomOfChoice each
            refine ⟨[.slc cl'.length ((List.range len).map fun i => one a' (f i))], ?_, ?_⟩
            · simp only [okL, okD]
              refine ⟨_, _, rfl, ⟨_, rfl, by simp; omega, fun el he => ?_⟩, rfl⟩
              simp only [List.mem_map, List.mem_range] at he
              obtain ⟨i, hi, rfl⟩ := he
              exact ⟨f i, rfl, (hf i hi).1⟩
            · simp only [DRepL, DRep]
              refine ⟨_, _, rfl, ⟨some ad, cap, by simp, by simpa using hle, ?_⟩, rfl⟩
              by_cases h0 : len = 0
              · left; subst h0; rfl
              · right
                have hspot : ad.spot = none := by
                  obtain ⟨_, cs', h1, h2⟩ := hf 0 (by omega)
                  rw [Nat.zero_mul, show ad.add 0 = ad from by simp [Addr.add]] at h1
                  unfold World.cells? at h1
                  by_cases hb : base ≤ ad.block
                  · rw [if_pos hb] at h1
                    have h3 := mapM_some_get h1 0 0 (List.getElem?_range (by omega))
                    have h4 : cs'.length = P.cellsOf e := by simpa using mapM_some_length h1
                    rw [List.getElem?_eq_getElem (by omega), show ad.add 0 = ad from by simp [Addr.add]] at h3
                    exact cell_spot h3
                  · rw [if_neg hb] at h1; cases h1
                obtain ⟨b, off, spot⟩ := ad
                simp only at hspot
                subst hspot
                refine ⟨b, off, rfl, hO b, ?_, DRepE.of fun i el hi => ?_⟩
                · obtain ⟨_, cs', h1, h2⟩ := hf 0 (by omega)
                  rw [addr_add] at h1
                  obtain ⟨h3, h4⟩ := cells_at h1
                  have h5 := h4 0 (by omega)
                  unfold World.cell? at h5
                  split at h5
                  · rename_i hb; exact (Array.getElem?_eq_some_iff.1 hb).1
                  · cases h5
                · simp only [List.getElem?_map, Option.map_eq_some_iff] at hi
                  obtain ⟨j, hj, rfl⟩ := hi
                  have hji : j = i ∧ i < len := by
                    obtain ⟨hl', he⟩ := List.getElem?_eq_some_iff.1 hj
                    simp at hl' he; omega
                  obtain ⟨rfl, hlt⟩ := hji
                  obtain ⟨g1, cs', g2, g3⟩ := hf j hlt
                  rw [addr_add] at g2
                  obtain ⟨g4, g5⟩ := cells_at g2
                  cases a' with
                  | true =>
                    refine ⟨.agg cs'.toArray, ?_, ?_, ?_⟩
                    · simp only [one, if_true, DRep]; exact ⟨cs', rfl, g3⟩
                    · simp only [Value.cells, List.size_toArray]; omega
                    · rw [hc.1]; simpa only [Value.cells, List.toList_toArray] using g5
                  | false =>
                    obtain ⟨c, rfl⟩ := lay_one hl
                    simp only [okL] at g1
                    obtain ⟨d, ds', hfd, k1, k2⟩ := g1
                    subst k2
                    rw [hfd] at g3 ⊢
                    simp only [DRepL] at g3
                    obtain ⟨v, cs2, rfl, k3, rfl⟩ := g3
                    have hv := ok_cells k1 k3
                    refine ⟨v, by simpa [one] using k3, by rw [hv]; rfl, ?_⟩
                    rw [hv, hc.1]
                    simpa using g5
        · cases h
      · cases h
    · rename_i fs hu
      split at h
      · rename_i cl' hl
        split at h
        · rename_i hc
          simp at h; obtain ⟨_, rfl⟩ := h
          obtain ⟨xs, m, _, _, hlen, hxl, hall⟩ := DataW.trod_struct hu hx
          have key : ∀ (l : List Field) (o : Nat) (cl : List CL), layFs (lay P n) P.cellsOf o l = some cl → (∀ f ∈ l, ∃ y, DataW.trod enc P w base sp held m f.type ((cs.drop f.offset).take (P.cellsOf f.type)) = some y) → ∃ ds, okL cl ds ∧ DRepL w O ds ((cs.drop o).take cl.length) := by
            intro l
            induction l with
            | nil => intro o cl hl _; simp only [layFs, Option.some.injEq] at hl; subst hl; exact ⟨[], by simp only [okL], by simp [DRepL]⟩
            | cons f l ih =>
              intro o cl hl hall
              simp only [layFs] at hl
              split at hl
              · rename_i a1 c1 r1 e1 e2
                split at hl
                · rename_i hh
                  simp only [Option.some.injEq] at hl; subst hl
                  obtain ⟨y, hy⟩ := hall f (by simp)
                  rw [hh.1, hh.2] at hy
                  obtain ⟨ds1, k1, k2⟩ := IH _ _ _ e1 _ _ _ hy
                  obtain ⟨ds2, k3, k4⟩ := ih _ _ e2 fun g hg => hall g (by simp [hg])
                  refine ⟨ds1 ++ ds2, okL_append k1 k3, ?_⟩
                  rw [List.length_append, List.take_add, List.drop_drop]
                  rw [hh.2] at k4
                  exact k2.append k4
                · cases hl
              · cases hl
          obtain ⟨ds, k1, k2⟩ := key _ _ _ hl fun f hf => by
            obtain ⟨i, hi⟩ := List.getElem?_of_mem hf
            have hi' : fs[i]? = some f := by simpa using hi
            have h1 := hall i f hi'
            have hlt := (Array.getElem?_eq_some_iff.1 hi').1
            rw [List.getElem?_eq_getElem (by omega)] at h1
            exact ⟨_, h1⟩
          refine ⟨ds, k1, ?_⟩
          rw [List.drop_zero, hc, ← hlen, List.take_length] at k2
          exact k2
        · cases h
      · cases h
    · rename_i m e hu
      split at h
      · rename_i a' cl' hl
        split at h
        · rename_i hc
          simp at h; obtain ⟨_, rfl⟩ := h
          obtain ⟨k, hlen, hall⟩ := trod_array hu hx
          have key : ∀ j, j ≤ m → ∃ ds, okL (List.replicate j cl').flatten ds ∧ DRepL w O ds (cs.take (j * cl'.length)) := by
            intro j
            induction j with
            | zero => intro _; exact ⟨[], by simp [okL], by simp [DRepL]⟩
            | succ j ih =>
              intro hj
              obtain ⟨ds, k1, k2⟩ := ih (by omega)
              obtain ⟨y, hy⟩ := hall j (by omega)
              obtain ⟨ds', k3, k4⟩ := IH _ _ _ hl _ _ _ hy
              refine ⟨ds ++ ds', ?_, ?_⟩
              · rw [show List.replicate (j + 1) cl' = List.replicate j cl' ++ [cl'] from List.replicate_succ', List.flatten_append]
                simpa using okL_append k1 k3
              · rw [Nat.add_mul, Nat.one_mul, List.take_add]
                rw [← hc.1] at k4
                exact k2.append k4
          obtain ⟨ds, k1, k2⟩ := key m (Nat.le_refl _)
          refine ⟨ds, k1, ?_⟩
          rw [hc.2, ← hlen, List.take_length] at k2
          exact k2
        · cases h
      · cases h
    · cases h

/-- One argument. -/
theorem arg_rep (hO : ∀ b, ¬ O b) {n : Nat} {t : TypeId} {a : Bool} {cl : List CL} {r : Reach} {b0 : Nat} {v : Value} {d : DataW H} {ps : List MemPlace} (hl : lay P n t = some (a, cl)) (hval : Value.okWide P w r b0 t v) (hd : DataW.Trod enc P w base sp held t v d ps) :
    ∃ ds, okL cl ds ∧ DRep w O (one a ds) v := by
  obtain ⟨fuel, hf⟩ := hd
  obtain ⟨ds, k1, k2⟩ := trod_rep hO n t a cl hl fuel _ _ hf
  refine ⟨ds, k1, ?_⟩
  have single : a = false → v.cells = #[v] → DRep w O (one a ds) v := by
    intro ha hv
    subst ha
    obtain ⟨c, rfl⟩ := lay_one hl
    simp only [okL] at k1
    obtain ⟨d, ds', rfl, k3, rfl⟩ := k1
    rw [hv] at k2
    simp only [DRepL] at k2
    obtain ⟨v', _, e, k4, _⟩ := k2
    cases e
    simpa [one] using k4
  cases n with
  | zero => simp [lay] at hl
  | succ n =>
    simp only [lay] at hl
    split at hl
    · rename_i hu; simp at hl; obtain ⟨b, rfl⟩ := okWide_bool hu hval; exact single hl.1 rfl
    · rename_i k hu; simp at hl; obtain ⟨b, rfl⟩ := okWide_int hu hval; exact single hl.1 rfl
    · rename_i hu; simp at hl; obtain ⟨b, rfl⟩ := okWide_string hu hval; exact single hl.1 rfl
    · rename_i e hu
      obtain ⟨x, y, z, rfl⟩ := okWide_slice hu hval
      split at hl
      · split at hl
        · simp at hl; exact single hl.1 rfl
        · cases hl
      · cases hl
    · rename_i fs hu
      obtain ⟨cs, rfl, _⟩ := okWide_struct hu hval
      split at hl
      · split at hl
        · simp at hl; obtain ⟨rfl, _⟩ := hl
          simp only [one, if_true, DRep]; exact ⟨cs.toList, by simp, by simpa [Value.cells] using k2⟩
        · cases hl
      · cases hl
    · rename_i m e hu
      obtain ⟨cs, rfl, _⟩ : ∃ cs, v = .agg cs ∧ cs.size = P.cellsOf t := by
        simp only [Value.okWide, hu] at hval
        obtain ⟨cs, h1, h2, _⟩ := hval
        exact ⟨cs, h1, h2⟩
      split at hl
      · split at hl
        · simp at hl; obtain ⟨rfl, _⟩ := hl
          simp only [one, if_true, DRep]; exact ⟨cs.toList, by simp, by simpa [Value.cells] using k2⟩
        · cases hl
      · cases hl
    · cases hl

/-- Arguments as their kinds say. -/
def okArgs : List (Bool × List CL) → List D → Prop
  | [], xs => xs = []
  | (a, cl) :: ls, xs => ∃ ds xs', xs = one a ds :: xs' ∧ okL cl ds ∧ okArgs ls xs'

/-- All arguments. -/
theorem args_rep (hO : ∀ b, ¬ O b) {n : Nat} {r : Reach} {b0 : Nat} : ∀ {ts : List TypeId} {vs : List Value} {ds : List (DataW H)} {ps : List MemPlace} {ls : List (Bool × List CL)}, DataW.TrodAll enc P w base sp held ts vs ds ps → (∀ (j : Nat) t v, ts[j]? = some t → vs[j]? = some v → Value.okWide P w r b0 t v) →
    ts.mapM (lay P n) = some ls → ∃ xs, okArgs ls xs ∧ DRepL w O xs vs
  | [], [], [], ps, ls, h, hv, hl => by simp at hl; subst hl; exact ⟨[], by simp only [okArgs], by simp only [DRepL]⟩
  | t :: ts, v :: vs, d :: ds, ps, ls, h, hv, hl => by
    simp only [DataW.TrodAll] at h
    obtain ⟨p, q, h1, h2, _⟩ := h
    rw [List.mapM_cons] at hl
    simp only [Option.bind_eq_bind, Option.bind_eq_some_iff, Option.pure_def, Option.some.injEq] at hl
    obtain ⟨⟨a, cl⟩, hl1, ls', hl2, rfl⟩ := hl
    obtain ⟨xs, k1, k2⟩ := args_rep hO h2 (fun j t v ht hv' => hv (j + 1) t v (by simpa using ht) (by simpa using hv')) hl2
    obtain ⟨ds1, k3, k4⟩ := arg_rep hO hl1 (hv 0 t v rfl rfl) h1
    refine ⟨one a ds1 :: xs, ?_, ?_⟩
    · simp only [okArgs]; exact ⟨ds1, xs, rfl, k3, k1⟩
    · simp only [DRepL]; exact ⟨v, vs, rfl, k4, k2⟩
  | [], [], _ :: _, ps, ls, h, _, _ => by simp [DataW.TrodAll] at h
  | [], _ :: _, _, ps, ls, h, _, _ => by simp [DataW.TrodAll] at h
  | _ :: _, [], _, ps, ls, h, _, _ => by simp [DataW.TrodAll] at h
  | _ :: _, _ :: _, [], ps, ls, h, _, _ => by simp [DataW.TrodAll] at h
end

end Go.Proofs.Ytdodgbhodkcckaa.Pv
