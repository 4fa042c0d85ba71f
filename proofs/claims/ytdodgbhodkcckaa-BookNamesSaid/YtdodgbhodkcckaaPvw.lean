/- Types by the program's own table: the kit of what is used of them. No program is in sight here. -/
import Derived.Test.YtdodgbhodkcckaaPvv
set_option linter.unusedVariables false
set_option linter.unusedSectionVars false
set_option linter.unusedSimpArgs false
set_option autoImplicit false
namespace Go.Proofs.Ytdodgbhodkcckaa.Pv
open Go Go.RowKit

def fieldsFrom (P : Program) : List Field → Option (List (Nat × Nat × Bool))
  | [] => some []
  | f :: fs => match P.info? f.type, P.underlying f.type, fieldsFrom P fs with
    | some i, some _, some l => some ((f.offset, i.size, aggOf P f.type) :: l)
    | _, _, _ => none

def kindFrom (P : Program) (t : Nat) : TK := match P.underlying t with
  | some (.int k) => .int k
  | some .bool => .bool
  | some .string => .string
  | some (.struct fs) => (match fieldsFrom P fs.toList with
    | some l => .struct l
    | none => .other)
  | some (.array n e) => .array n e
  | some (.slice e) => .slice e
  | some (.pointer e) => .ptr e
  | some (.map k e) => .map k e
  | some (.func _ _ _) => .func
  | some (.interface _) => .iface
  | _ => .other

/-- What is used of a type. -/
def tiOf (P : Program) (t : Nat) : Option TI := match P.info? t with
  | some f => (match f.zero with
    | some z => if z.cells.size = f.size then some ⟨kindFrom P t, f.size, f.bytes, z⟩ else none
    | none => none)
  | none => none

theorem fieldsFrom_ok {P : Program} : ∀ {gs : List Field} {l : List (Nat × Nat × Bool)}, fieldsFrom P gs = some l → FieldsOK P l gs
  | [], l, h => by simp only [fieldsFrom, Option.some.injEq] at h; subst h; simp [FieldsOK]
  | g :: gs, l, h => by
    simp only [fieldsFrom] at h
    split at h
    · rename_i i u l' h1 h2 h3
      simp only [Option.some.injEq] at h; subst h
      simp only [FieldsOK]
      refine ⟨trivial, by rw [h1]; rfl, by rw [h2]; rfl, trivial, fieldsFrom_ok h3⟩
    · cases h

theorem kindFrom_ok (P : Program) (t : Nat) : DescOK P t (kindFrom P t) := by
  unfold kindFrom
  split <;> rename_i hu <;> first
    | exact hu
    | (simp only [DescOK]; exact ⟨_, _, _, hu⟩)
    | (simp only [DescOK]; exact ⟨_, hu⟩)
    | trivial
    | skip
  split
  · rename_i l hl
    exact ⟨_, hu, fieldsFrom_ok hl⟩
  · trivial

theorem tiOf_ok (P : Program) : TbOK P (tiOf P) := by
  intro t i h
  unfold tiOf at h
  split at h
  · rename_i f hf
    split at h
    · rename_i z hz
      split at h
      · rename_i hs
        simp only [Option.some.injEq] at h; subst h
        exact ⟨⟨f, hf, rfl, rfl, hz⟩, hs, kindFrom_ok P t⟩
      · cases h
    · cases h
  · cases h

def eqFieldsK (P : Program) (g : Nat → Option (List CK)) : Nat → List Field → Option (List CK)
  | _, [] => some []
  | off, f :: fs => if f.name = "_" ∨ f.offset ≠ off then none else match g f.type, P.info? f.type with
    | some ks, some i => if ks.length = i.size ∧ 0 < i.size ∧ (aggOf P f.type = true ∨ ks.length = 1) then (eqFieldsK P g (off + ks.length) fs).map (ks ++ ·) else none
    | _, _ => none

/-- What the cells of a type hold that is compared cell by cell. -/
def eqCells (P : Program) : Nat → Nat → Option (List CK)
  | 0, _ => none
  | d + 1, t => match P.underlying t with
    | some (.int _) => some [.int]
    | some .bool => some [.bool]
    | some .string => some [.str]
    | some (.struct fs) => if P.stoodInHeld t = false ∧ P.eqGuardType P.depth t = false then eqFieldsK P (eqCells P d) 0 fs.toList else none
    | _ => none

/-- Cells as a value of a type. -/
def cellsVal (P : Program) (t : Nat) (xs : List Value) : Value := if aggOf P t = true then .agg xs.toArray else xs.headD undef

theorem cellsEq_cons {k : CK} {ks : List CK} {a b : D} {as bs : List D} {r : Bool} (h : cellsEq (k :: ks) (a :: as) (b :: bs) = some r) : ∃ x y, cellEq k a b = some x ∧ cellsEq ks as bs = some y ∧ r = (x && y) := by
  unfold cellsEq at h
  split at h
  · rename_i h1 h2 h3; cases h1
  · rename_i h1 h2 h3
    simp only [List.cons.injEq] at h1 h2 h3
    obtain ⟨rfl, rfl⟩ := h1
    obtain ⟨rfl, rfl⟩ := h2
    obtain ⟨rfl, rfl⟩ := h3
    exact ⟨r, true, h, rfl, by simp⟩
  · rename_i h1 h2 h3
    simp only [List.cons.injEq] at h1 h2 h3
    obtain ⟨rfl, rfl⟩ := h1
    obtain ⟨rfl, rfl⟩ := h2
    obtain ⟨rfl, rfl⟩ := h3
    split at h
    · rename_i x y hx hy
      simp only [Option.some.injEq] at h
      exact ⟨x, y, hx, hy, h.symm⟩
    · cases h
  · cases h

theorem cellsEq_length : ∀ {ks : List CK} {as bs : List D} {r : Bool}, cellsEq ks as bs = some r → as.length = ks.length ∧ bs.length = ks.length
  | [], [], [], r, _ => ⟨rfl, rfl⟩
  | [], a :: as, bs, r, h => by simp [cellsEq] at h
  | [], [], b :: bs, r, h => by simp [cellsEq] at h
  | k :: ks, [], bs, r, h => by simp [cellsEq] at h
  | k :: ks, a :: as, [], r, h => by simp [cellsEq] at h
  | k :: ks, a :: as, b :: bs, r, h => by
    obtain ⟨x, y, _, h2, _⟩ := cellsEq_cons h
    have := cellsEq_length h2
    simp [this.1, this.2]

theorem cellsEq_append : ∀ {ks ls : List CK} {as bs : List D} {r : Bool}, cellsEq (ks ++ ls) as bs = some r →
    ∃ x y, cellsEq ks (as.take ks.length) (bs.take ks.length) = some x ∧ cellsEq ls (as.drop ks.length) (bs.drop ks.length) = some y ∧ r = (x && y)
  | [], ls, as, bs, r, h => ⟨true, r, by simp [cellsEq], by simpa using h, by simp⟩
  | k :: ks, ls, as, bs, r, h => by
    have hl := cellsEq_length h
    cases as with
    | nil => simp at hl
    | cons a as =>
      cases bs with
      | nil => simp at hl
      | cons b bs =>
        obtain ⟨x, y, h1, h2, rfl⟩ := cellsEq_cons (show cellsEq (k :: (ks ++ ls)) (a :: as) (b :: bs) = some r from h)
        obtain ⟨x', y', h3, h4, rfl⟩ := cellsEq_append h2
        refine ⟨x && x', y', ?_, by simpa using h4, by rw [Bool.and_assoc]⟩
        simp only [List.length_cons, List.take_succ_cons]
        have hl3 := cellsEq_length h3
        cases hks : ks with
        | nil =>
          subst hks
          simp only [List.length_nil, List.take_zero] at h3 ⊢
          simp only [cellsEq] at h3 ⊢
          rw [h1]
          simp only [Option.some.injEq] at h3
          subst h3; simp
        | cons k2 ks2 =>
          rw [← hks]
          cases hta : as.take ks.length with
          | nil => rw [hta, hks] at hl3; simp at hl3
          | cons a2 as2 =>
            cases htb : bs.take ks.length with
            | nil => rw [htb, hks] at hl3; simp at hl3
            | cons b2 bs2 =>
              rw [hta, htb] at h3
              rw [hks] at h3 ⊢
              simp only [cellsEq, h1]
              rw [h3]

theorem part_run {P : Program} {t : Nat} {i : TypeInfo} (hu : (P.underlying t).isSome = true) (hi : P.info? t = some i) (xs : List Value) (off : Nat) (hl : off + i.size ≤ xs.length) (h1 : aggOf P t = true ∨ i.size = 1) (w : World) :
    (part t xs.toArray off).run P w = .ok (cellsVal P t ((xs.drop off).take i.size)) w := by
  have hag := run_isAgg_of (P := P) (t := t) (g := aggOf P t) hu rfl w
  cases ha : aggOf P t with
  | true =>
    rw [ha] at hag
    simp only [part, Sem.run_bind, hag, Result.andThen_ok, if_true, sizeOf, typeInfo, run_program, hi, Sem.run_pure, cellsVal, ha]
    congr 2
    apply Array.ext'
    simp only [Array.toList_extract, List.extract_eq_take_drop]
    congr 1
    omega
  | false =>
    have hs : i.size = 1 := h1.resolve_left (by rw [ha]; simp)
    rw [ha] at hag
    have hlt : off < xs.length := by omega
    simp only [part, Sem.run_bind, hag, Result.andThen_ok, Bool.false_eq_true, if_false, cellsVal, ha]
    have e1 : xs.toArray[off]? = some xs[off] := by simp [hlt]
    rw [e1]
    rw [hs, List.drop_eq_getElem_cons hlt]
    rfl

theorem underlying_eqCells {P : Program} {d t : Nat} {ks : List CK} (h : eqCells P d t = some ks) : (P.underlying t).isSome = true := by
  cases d with
  | zero => simp [eqCells] at h
  | succ d =>
    simp only [eqCells] at h
    cases hu : P.underlying t with
    | none => rw [hu] at h; simp at h
    | some x => rfl

theorem cellEq_int {x y : Value} {r : Bool} (h : cellEq .int (.v x) (.v y) = some r) : ∃ k a b, x = .int k a ∧ y = .int k b ∧ r = (a == b) := by
  cases x <;> (try (simp [cellEq] at h; done))
  cases y <;> (try (simp [cellEq] at h; done))
  simp only [cellEq] at h
  split at h
  · rename_i e; subst e; cases h; exact ⟨_, _, _, rfl, rfl, rfl⟩
  · cases h
theorem cellEq_bool {x y : Value} {r : Bool} (h : cellEq .bool (.v x) (.v y) = some r) : ∃ a b, x = .bool a ∧ y = .bool b ∧ r = (a == b) := by
  cases x <;> (try (simp [cellEq] at h; done))
  cases y <;> (try (simp [cellEq] at h; done))
  simp only [cellEq, Option.some.injEq] at h
  exact ⟨_, _, rfl, rfl, h.symm⟩
theorem cellEq_str {x y : Value} {r : Bool} (h : cellEq .str (.v x) (.v y) = some r) : ∃ a b, x = .string a ∧ y = .string b ∧ r = (a.toList == b.toList) := by
  cases x <;> (try (simp [cellEq] at h; done))
  cases y <;> (try (simp [cellEq] at h; done))
  simp only [cellEq, Option.some.injEq] at h
  exact ⟨_, _, rfl, rfl, h.symm⟩

theorem eqFields_run {P : Program} {d : Nat} {g : Nat → Option (List CK)} (hu : ∀ t ks, g t = some ks → (P.underlying t).isSome = true)
    (hg : ∀ t ks, g t = some ks → ∀ (xs ys : List Value) (r : Bool), cellsEq ks (xs.map .v) (ys.map .v) = some r → ∀ w, (Op.equalIn d t (cellsVal P t xs) (cellsVal P t ys)).run P w = .ok r w) :
    ∀ (fs : List Field) (off : Nat) (ks : List CK), eqFieldsK P g off fs = some ks → ∀ (xs ys : List Value) (r : Bool), cellsEq ks ((xs.drop off).map .v) ((ys.drop off).map .v) = some r → ∀ w, (Op.eqFields d xs.toArray ys.toArray fs).run P w = .ok r w
  | [], off, ks, h, xs, ys, r, hr, w => by
    simp only [eqFieldsK, Option.some.injEq] at h; subst h
    have hl := cellsEq_length hr
    simp only [List.length_map, List.length_nil, List.length_drop] at hl
    have e1 : xs.drop off = [] := List.drop_eq_nil_of_le (by omega)
    have e2 : ys.drop off = [] := List.drop_eq_nil_of_le (by omega)
    rw [e1, e2] at hr
    simp only [List.map_nil, cellsEq, Option.some.injEq] at hr; subst hr
    simp [Op.eqFields]
  | f :: fs, off, ks, h, xs, ys, r, hr, w => by
    simp only [eqFieldsK] at h
    split at h
    · cases h
    · rename_i hno
      simp only [not_or, Decidable.not_not] at hno
      obtain ⟨hname, hoff⟩ := hno
      split at h
      · rename_i ks1 i hk1 hi
        split at h
        · rename_i hsz
          obtain ⟨hsz, hpos, hag⟩ := hsz
          obtain ⟨ks2, hk2, rfl⟩ := Option.map_eq_some_iff.1 h
          have hl := cellsEq_length hr
          obtain ⟨x, y, g1, g2, rfl⟩ := cellsEq_append hr
          simp only [List.length_map, List.length_append, List.length_drop] at hl
          rw [← List.map_take, ← List.map_take] at g1
          rw [← List.map_drop, ← List.map_drop, List.drop_drop, List.drop_drop] at g2
          have p1 := part_run (hu _ _ hk1) hi xs off (by omega) (hag.imp id fun h => by omega) w
          have p2 := part_run (hu _ _ hk1) hi ys off (by omega) (hag.imp id fun h => by omega) w
          rw [hsz] at g1
          have q := hg f.type ks1 hk1 _ _ x g1 w
          simp only [Op.eqFields, if_pos hname, hoff, Sem.run_bind, p1, p2, q, Result.andThen_ok, Sem.run_ite]
          cases x with
          | false => simp
          | true =>
            simp only [Bool.not_true, Bool.false_eq_true, if_false, Bool.true_and]
            exact eqFields_run hu hg fs (off + ks1.length) ks2 hk2 xs ys y g2 w
        · cases h
      · cases h

theorem eqCells_run {P : Program} (e : Nat) : ∀ (d t : Nat) (ks : List CK), eqCells P d t = some ks → ∀ (xs ys : List Value) (r : Bool), cellsEq ks (xs.map .v) (ys.map .v) = some r → ∀ w, (Op.equalIn (d + e) t (cellsVal P t xs) (cellsVal P t ys)).run P w = .ok r w
  | 0, t, ks, h, _, _, _, _, _ => by simp [eqCells] at h
  | d + 1, t, ks, h, xs, ys, r, hr, w => by
    have hlen := cellsEq_length hr
    simp only [List.length_map] at hlen
    rw [show d + 1 + e = (d + e) + 1 by omega]
    simp only [eqCells] at h
    split at h
    · rename_i k hu
      cases h
      simp only [List.length_cons, List.length_nil] at hlen
      match xs, ys, hlen, hr with
      | [x], [y], _, hr =>
        obtain ⟨k1, a, b, rfl, rfl, rfl⟩ := cellEq_int hr
        simp only [cellsVal, aggOf, hu, Bool.false_eq_true, if_false, List.headD_cons]
        exact run_equalIn_int w _ t k1 k _ _ hu
    · rename_i hu
      cases h
      simp only [List.length_cons, List.length_nil] at hlen
      match xs, ys, hlen, hr with
      | [x], [y], _, hr =>
        obtain ⟨a, b, rfl, rfl, rfl⟩ := cellEq_bool hr
        simp only [cellsVal, aggOf, hu, Bool.false_eq_true, if_false, List.headD_cons]
        exact run_equalIn_bool w _ t _ _ hu
    · rename_i hu
      cases h
      simp only [List.length_cons, List.length_nil] at hlen
      match xs, ys, hlen, hr with
      | [x], [y], _, hr =>
        obtain ⟨a, b, rfl, rfl, rfl⟩ := cellEq_str hr
        simp only [cellsVal, aggOf, hu, Bool.false_eq_true, if_false, List.headD_cons]
        exact run_equalIn_string w _ t _ _ hu
    · rename_i fs hu
      split at h
      · rename_i hc
        have hag : aggOf P t = true := by simp [aggOf, hu]
        simp only [cellsVal, hag, if_true]
        have hfo : P.fieldsOf t = fs := by simp [Program.fieldsOf, hu]
        rw [run_equalIn_struct w _ t _ _ (by rw [hfo]; exact hu) hc.1, hfo]
        exact eqFields_run (fun t ks h => underlying_eqCells h) (fun t ks h xs ys r hr w => eqCells_run e d t ks h xs ys r hr w) fs.toList 0 ks h xs ys r (by simpa using hr) w
      · cases h
    · cases h

theorem eqOK_of {P : Program} {d t : Nat} {ks : List CK} (hd : d ≤ 10000) (hag : aggOf P t = true) (h : eqCells P d t = some ks) : EqOK P t ks := by
  intro xs ys r hr w op x y
  have hg : P.eqGuardType P.depth t = false := by
    cases d with
    | zero => simp [eqCells] at h
    | succ d =>
      simp only [eqCells] at h
      split at h
      · rename_i hu; simp [aggOf, hu] at hag
      · rename_i hu; simp [aggOf, hu] at hag
      · rename_i hu; simp [aggOf, hu] at hag
      · split at h
        · rename_i hc; exact hc.2
        · cases h
      · cases h
  refine ⟨run_eqGuard_agg w op t x y _ _ hg, ?_⟩
  have := eqCells_run (10000 - d) d t ks h xs ys r hr w
  rw [show d + (10000 - d) = 10000 by omega] at this
  simpa only [cellsVal, hag, if_true] using this

/-- Which types are compared cell by cell. -/
def eqOf (P : Program) (t : Nat) : Option (List CK) := if aggOf P t = true then eqCells P 8 t else none

theorem kit (P : Program) : Kit P (tiOf P) (eqOf P) := ⟨tiOf_ok P, fun t ks h => by
  unfold eqOf at h
  split at h
  · rename_i hag; exact eqOK_of (by omega) hag h
  · cases h⟩

end Go.Proofs.Ytdodgbhodkcckaa.Pv
