/- Regions: in the text's order, and in every order that the text allows. No program is in sight here. -/
import Derived.Test.YtdodgbhodkcckaaPvq
set_option linter.unusedVariables false
set_option linter.unusedSectionVars false
set_option linter.unusedSimpArgs false
set_option autoImplicit false
namespace Go.Proofs.Ytdodgbhodkcckaa.Pv
open Go Go.RowKit

/-- Numbers for what the i-th operation makes. -/
def nidOf (base L i : Nat) (j : Nat) : Nat := base + i + j * L

/-- Which objects an operation looks at, and which it changes. -/
structure Foot where
  rd : List Nat
  wr : List Nat

def footOf (o : Oper) (st : St) (e : Eff) : Foot := ⟨idsL (o.op.operands.toList.map st.ev), e.dels ++ e.upds.map (·.1)⟩

/-- The operations of a region, in the text's order. -/
def opsP (P : Program) (T : Nat → Option TI) (eqt : Nat → Option (List CK)) (all : List Oper) (L base : Nat) : Nat → List Oper → St → (St → Prop) → Prop
  | _, [], st, K => K { st with next := base + 4 * L }
  | i, o :: rest, st, K => opP P T eqt (nidOf base L i) all o st fun e => opsP P T eqt all L base (i + 1) rest (st.app o.dst e) K

/-- The same, with what each of them looks at and changes. -/
def opsD (P : Program) (T : Nat → Option TI) (eqt : Nat → Option (List CK)) (all : List Oper) (L base : Nat) : Nat → List Oper → St → List Foot → (St → List Foot → Prop) → Prop
  | _, [], st, tr, K => K { st with next := base + 4 * L } tr
  | i, o :: rest, st, tr, K => opP P T eqt (nidOf base L i) all o st fun e => opsD P T eqt all L base (i + 1) rest (st.app o.dst e) (tr ++ [footOf o st e]) K

section
variable {P : Program} {T : Nat → Option TI} {eqt : Nat → Option (List CK)} {nid : Nat → Nat} {st : St} {K : Eff → Prop}

theorem compute_pull {op : Op} (h : match computeP T eqt st op with
    | some (p, pre) => pre ∧ K ⟨p, [], []⟩
    | none => False) : ∃ e, (match computeP T eqt st op with
    | some (p, pre) => pre ∧ (⟨p, [], []⟩ : Eff) = e
    | none => False) ∧ K e := by
  split at h
  · exact ⟨_, ⟨h.1, rfl⟩, h.2⟩
  · exact h.elim

theorem step_pull {op : Op} (h : stepP P T eqt nid op st K) : ∃ e, stepP P T eqt nid op st (· = e) ∧ K e := by
  have fallback : (match computeP T eqt st op with
    | some (p, pre) => pre ∧ K ⟨p, [], []⟩
    | none => False) → ∃ e, (match computeP T eqt st op with
    | some (p, pre) => pre ∧ (⟨p, [], []⟩ : Eff) = e
    | none => False) ∧ K e := compute_pull
  cases op with
  | alloc t =>
    simp only [stepP] at h ⊢
    split at h
    · exact ⟨_, rfl, h⟩
    · exact h.elim
  | box t x =>
    simp only [stepP] at h ⊢
    split at h
    · exact ⟨_, ⟨h.1, rfl⟩, h.2⟩
    · exact h.elim
  | buildSlice t len parts =>
    simp only [stepP] at h ⊢
    split at h
    · split at h
      · exact ⟨_, ⟨h.1, rfl⟩, h.2⟩
      · exact h.elim
    · exact h.elim
  | makeSlice t l c =>
    simp only [stepP] at h ⊢
    split at h
    · split at h
      · exact ⟨_, ⟨h.1, rfl⟩, h.2⟩
      · exact h.elim
    · exact h.elim
  | store t ad x =>
    simp only [stepP] at h ⊢
    split at h
    · split at h
      · exact ⟨_, ⟨h.1, rfl⟩, h.2⟩
      · exact h.elim
    · split at h
      · split at h
        · exact ⟨_, ⟨h.1, rfl⟩, h.2⟩
        · exact h.elim
      · exact h.elim
    · exact h.elim
  | call cl =>
    obtain ⟨cal, args, ts⟩ := cl
    cases cal with
    | value f =>
      simp only [stepP] at h ⊢
      split at h
      · obtain ⟨hg, ⟨L, ps, hp, r, h', give, c1, c2, c3, c4, c5, c6⟩ | ⟨tS, el, te, id1, v1, o1, l1, id2, v2, o2, l2, e1, r1, els1, e2, r2, els2, k1, k2, k3, k4, k5⟩⟩ := h
        · exact ⟨_, ⟨hg, .inl ⟨L, ps, hp, r, h', give, c1, c2, c3, c4, c5, rfl⟩⟩, c6⟩
        · exact ⟨_, ⟨hg, .inr ⟨tS, el, te, id1, v1, o1, l1, id2, v2, o2, l2, e1, r1, els1, e2, r2, els2, k1, k2, k3, k4, rfl⟩⟩, k5⟩
      · exact h.elim
    | invoke r m => exact fallback h
    | builtin b =>
      cases b with
      | append =>
        simp only [stepP] at h ⊢
        split at h
        · split at h
          · split at h
            · split at h
              · exact ⟨_, ⟨h.1, rfl⟩, h.2⟩
              · exact h.elim
            · exact h.elim
          · split at h
            · split at h
              · obtain ⟨h1, h2⟩ := h
                split at h2
                · exact ⟨_, ⟨h1, h2.1, rfl⟩, h2.2⟩
                · split at h2
                  · rcases h2 with ⟨h2, h3 | ⟨h3, h4⟩⟩ | h2
                    · exact ⟨_, ⟨h1, .inl ⟨h2, .inl rfl⟩⟩, h3⟩
                    · exact ⟨_, ⟨h1, .inl ⟨h2, .inr ⟨h3, rfl⟩⟩⟩, h4⟩
                    · split at h2
                      · exact ⟨_, ⟨h1, .inr ⟨h2.1, rfl⟩⟩, h2.2⟩
                      · exact h2.elim
                  · exact h2.elim
                · exact h2.elim
              · exact h.elim
            · exact h.elim
          · exact h.elim
        · exact h.elim
      | copy =>
        simp only [stepP] at h ⊢
        split at h
        · split at h
          · split at h
            · split at h
              · exact ⟨_, ⟨h.1, rfl⟩, h.2⟩
              · exact h.elim
            · exact h.elim
          · exact h.elim
        · exact h.elim
      | clear =>
        simp only [stepP] at h ⊢
        split at h
        · split at h
          · split at h
            · split at h
              · exact ⟨_, ⟨h.1, rfl⟩, h.2⟩
              · exact h.elim
            · exact h.elim
          · exact h.elim
        · exact h.elim
      | _ => exact fallback h
  | _ => exact fallback h

theorem stepG_pull {op : Op} {g : Bool} (h : stepG P T eqt nid g op st K) : ∃ e, stepG P T eqt nid g op st (· = e) ∧ K e := by
  have fallback : (match computeP T eqt st op with
    | some (p, pre) => (g = true → pre) ∧ K ⟨(match p with | .gd g' q => .gd (g && g') q | p => .gd g p), [], []⟩
    | none => g = false ∧ K ⟨.gd false .dead, [], []⟩) → ∃ e, (match computeP T eqt st op with
    | some (p, pre) => (g = true → pre) ∧ (⟨(match p with | .gd g' q => .gd (g && g') q | p => .gd g p), [], []⟩ : Eff) = e
    | none => g = false ∧ (⟨.gd false .dead, [], []⟩ : Eff) = e) ∧ K e := by
    intro h
    split at h
    · exact ⟨_, ⟨h.1, rfl⟩, h.2⟩
    · exact ⟨_, ⟨h.1, rfl⟩, h.2⟩
  cases op with
  | buildSlice t len parts =>
    cases g with
    | true => exact step_pull (P := P) (eqt := eqt) (op := .buildSlice t len parts) h
    | false => exact ⟨_, rfl, h⟩
  | call cl =>
    obtain ⟨cal, args, ts⟩ := cl
    cases cal with
    | value f =>
      simp only [stepG] at h ⊢
      split at h
      · obtain ⟨ps, x, c1, c2, c3⟩ := h
        exact ⟨_, ⟨ps, x, c1, c2, rfl⟩, c3⟩
      · exact h.elim
    | invoke r m => exact fallback h
    | builtin b => cases b <;> exact fallback h
  | _ => exact fallback h

theorem op_pull {all : List Oper} {o : Oper} (h : opP P T eqt nid all o st K) : ∃ e, opP P T eqt nid all o st (· = e) ∧ K e := by
  unfold opP at h ⊢
  split at h
  · exact step_pull h
  · split at h
    · split at h
      · exact stepG_pull h
      · exact h.elim
    · exact h.elim
end

theorem fresh_of {S : Nat → Nat → Prop} {base L i : Nat} (hi : i < L) (hS : ∀ k v, S k v → k < base ∨ ∃ i' j, i' < L ∧ i' ≠ i ∧ k = base + i' + j * L) : Fresh S (nidOf base L i) := by
  constructor
  · intro j v hs
    rcases hS _ v hs with h | ⟨i', j', h1, h2, h3⟩
    · simp only [nidOf] at h; omega
    · simp only [nidOf] at h3
      have e : (i + j * L) % L = (i' + j' * L) % L := by congr 1; omega
      rw [Nat.add_mul_mod_self_right, Nat.add_mul_mod_self_right, Nat.mod_eq_of_lt hi, Nat.mod_eq_of_lt h1] at e
      exact h2 e.symm
  · intro j j' h
    simp only [nidOf] at h
    exact Nat.eq_of_mul_eq_mul_right (by omega : 0 < L) (by omega)

/-- What has become of the names of the beginning. -/
structure Since (S0 : Nat → Nat → Prop) (φ0 : Nat → Nat → Option (Nat × Nat)) (S : Nat → Nat → Prop) (φ : Nat → Nat → Option (Nat × Nat)) : Prop where
  keep : ∀ k v, S0 k v → S k v ∧ φ k v = φ0 k v
  low : ∀ k v, S k v → k < 8 → ∃ v', S0 k v'
  zero : ∀ k v, S0 k v → k < 8

theorem Since.step {S0 S S' : Nat → Nat → Prop} {φ0 φ φ' : Nat → Nat → Option (Nat × Nat)} {nid : Nat → Nat} (h : Since S0 φ0 S φ) (h1 : ∀ i v, S i v → S' i v ∧ φ' i v = φ i v) (h2 : ∀ i v, S' i v → (∃ v', S i v') ∨ ∃ j, j < 4 ∧ i = nid j) (h3 : ∀ j, 8 ≤ nid j) : Since S0 φ0 S' φ' :=
  ⟨fun k v hs => ⟨(h1 k v (h.keep k v hs).1).1, (h1 k v (h.keep k v hs).1).2.trans (h.keep k v hs).2⟩, fun k v hs hk => by
    rcases h2 k v hs with ⟨v', h4⟩ | ⟨j, _, rfl⟩
    · exact h.low k v' h4 hk
    · have := h3 j; omega, h.zero⟩

theorem range_bound {base L i j : Nat} (hi : i < L) (hj : j < 4) : base + i + j * L < base + 4 * L := by
  have : j * L ≤ 3 * L := Nat.mul_le_mul_right _ (by omega)
  omega

section
variable {P : Program} {T : Nat → Option TI} {eqt : Nat → Option (List CK)} (hk : Kit P T eqt) {E : Env} {Q : Exit → Act → World → Prop} {ops : Array Oper}

include hk in
theorem ops_run {n base : Nat} (hb : ∀ o ∈ ops.toList, ∀ d, o.dst = some d → d < n) {K : St → Prop} {S0 : Nat → Nat → Prop} {φ0 : Nat → Nat → Option (Nat × Nat)} (hb8 : 8 ≤ base)
    (hQ : ∀ st a w S φ, Rst E S φ st a w → (∀ k v, S k v → k < st.next) → Since S0 φ0 S φ → 8 ≤ st.next → a.tmps.size = n → K st → Q .normal a w) :
    ∀ (rest : List Oper) (i : Nat) (st : St) (a : Act) (w : World) (S : Nat → Nat → Prop) (φ : Nat → Nat → Option (Nat × Nat)), i ≤ ops.size → ops.toList.drop i = rest → Rst E S φ st a w →
      (∀ k v, S k v → k < base ∨ ∃ i' j, i' < i ∧ j < 4 ∧ k = base + i' + j * ops.size) → Since S0 φ0 S φ → a.tmps.size = n → opsP P T eqt ops.toList ops.size base i rest st K → wpOps P ops Q (List.range' i rest.length) a w
  | [], i, st, a, w, S, φ, hle, hd, hr, hS, h0, hn, h => by
    simp only [opsP] at h
    simp only [List.length_nil, List.range'_zero, wpOps]
    refine hQ { st with next := base + 4 * ops.size } a w S φ (hr.congr ⟨fun _ => rfl, fun _ => rfl⟩) (fun k v hs => ?_) h0 (show 8 ≤ base + 4 * ops.size by omega) hn h
    show k < base + 4 * ops.size
    rcases hS k v hs with h1 | ⟨i', j, h1, h2, h3⟩
    · omega
    · rw [h3]; exact range_bound (by omega) h2
  | o :: rest, i, st, a, w, S, φ, hle, hd, hr, hS, h0, hn, h => by
    have hi : i < ops.size := by
      have := congrArg List.length hd
      simp at this; omega
    have ho : ops[i]? = some o := by
      have : (ops.toList.drop i)[0]? = some o := by rw [hd]; rfl
      simpa using this
    have hd' : ops.toList.drop (i + 1) = rest := by
      have : (ops.toList.drop i).drop 1 = rest := by rw [hd]; rfl
      rwa [List.drop_drop] at this
    simp only [List.length_cons, List.range'_succ, wpOps_cons]
    simp only [opsP] at h
    obtain ⟨e, h1, h2⟩ := op_pull h
    have hdst : ∀ d, o.dst = some d → d < a.tmps.size := by
      intro d hd2; rw [hn]; exact hb o (by rw [← Array.getElem?_toList] at ho; exact List.mem_of_getElem? ho) d hd2
    have hfr : Fresh S (nidOf base ops.size i) := fresh_of hi fun k v hs => by
      rcases hS k v hs with h | ⟨i', j, h3, _, h4⟩
      · exact .inl h
      · exact .inr ⟨i', j, by omega, by omega, h4⟩
    refine wpOp_mono (fun a' w' ha => ?_) (op_run hk (Q := Q) hr hdst hfr ho h1)
    obtain ⟨g1, φ', S', g2, g3, g4⟩ := ha
    refine ops_run hb hb8 hQ rest (i + 1) _ a' w' S' φ' (by omega) hd' g2 ?_ (h0.step g3 g4 fun j => by simp only [nidOf]; omega) (g1.trans hn) h2
    intro k v hs
    rcases g4 k v hs with ⟨v', h5⟩ | ⟨j, hj, h5⟩
    · rcases hS k v' h5 with h6 | ⟨i', j, h6, h7, h8⟩
      · exact .inl h6
      · exact .inr ⟨i', j, by omega, h7, h8⟩
    · exact .inr ⟨i, j, by omega, hj, h5⟩
end

end Go.Proofs.Ytdodgbhodkcckaa.Pv
