/- Code: what a piece of code asks, rule by rule. No program is in sight here. -/
import Derived.Test.YtdodgbhodkcckaaPvs
set_option linter.unusedVariables false
set_option linter.unusedSectionVars false
set_option linter.unusedSimpArgs false
set_option autoImplicit false
namespace Go.Proofs.Ytdodgbhodkcckaa.Pv
open Go Go.RowKit

/-- A frame of n temporaries and a world are a state of a call that began with the names S0. -/
def Holds (n : Nat) (E : Env) (S0 : Nat → Nat → Prop) (φ0 : Nat → Nat → Option (Nat × Nat)) (st : St) (a : Act) (w : World) : Prop :=
  a.tmps.size = n ∧ 8 ≤ st.next ∧ ∃ φ S, Rst E S φ st a w ∧ (∀ k v, S k v → k < st.next) ∧ Since S0 φ0 S φ

/-- From the state st on the code comes to an end, in an exit and a state as Q tells. -/
def Pwp (P : Program) (n : Nat) (c : Code) (Q : Exit → St → Prop) (st : St) : Prop :=
  ∀ E S0 φ0 a w, Holds n E S0 φ0 st a w → c.wp P (fun e a w => ∃ st', Holds n E S0 φ0 st' a w ∧ Q e st') a w

def thenS (K : St → Prop) (Q : Exit → St → Prop) : Exit → St → Prop
  | .normal, st => K st
  | e, st => Q e st
def blockS (id : Nat) (Q : Exit → St → Prop) : Exit → St → Prop
  | .exit id', st => if id' = id then Q .normal st else Q (.exit id') st
  | e, st => Q e st

/-- One state tells less than another. -/
def Sub (n : Nat) (s t : St) : Prop := ∀ E S0 φ0 a w, Holds n E S0 φ0 s a w → Holds n E S0 φ0 t a w

theorem Sub.refl (n : Nat) (s : St) : Sub n s s := fun _ _ _ _ _ h => h
theorem Sub.trans {n : Nat} {s t u : St} (h : Sub n s t) (k : Sub n t u) : Sub n s u := fun E S0 φ0 a w hh => k E S0 φ0 a w (h E S0 φ0 a w hh)

/-- All that a region puts has its place. -/
def opsFit (n : Nat) (ops : List Oper) : Bool := ops.all fun o => match o.dst with
  | some d => decide (d < n)
  | none => true

theorem opsFit_spec {n : Nat} {ops : List Oper} (h : opsFit n ops = true) : ∀ o ∈ ops, ∀ d, o.dst = some d → d < n := by
  intro o ho d hd
  have := List.all_eq_true.1 h o ho
  rw [hd] at this
  simpa using this

section
variable {P : Program} {n : Nat} {Q : Exit → St → Prop} {st : St}

theorem Pwp.mono {c : Code} {Q' : Exit → St → Prop} (h : Pwp P n c Q st) (hq : ∀ e s, Q e s → Q' e s) : Pwp P n c Q' st :=
  fun E S0 φ0 a w hh => wp_mono (h E S0 φ0 a w hh) fun e a w ⟨s, h1, h2⟩ => ⟨s, h1, hq e s h2⟩
theorem Pwp.sub {c : Code} {s : St} (h : Sub n st s) (hs : Pwp P n c Q s) : Pwp P n c Q st := fun E S0 φ0 a w hh => hs E S0 φ0 a w (h E S0 φ0 a w hh)
theorem Pwp.skip (h : Q .normal st) : Pwp P n .skip Q st := fun E S0 φ0 a w hh => wp_skip ⟨st, hh, h⟩
theorem Pwp.ret (h : Q .ret st) : Pwp P n .ret Q st := fun E S0 φ0 a w hh => wp_ret ⟨st, hh, h⟩
theorem Pwp.exit {id : Nat} (h : Q (.exit id) st) : Pwp P n (.exit id) Q st := fun E S0 φ0 a w hh => wp_exit ⟨st, hh, h⟩
theorem Pwp.seq {x y : Code} (h : Pwp P n x (thenS (Pwp P n y Q) Q) st) : Pwp P n (.seq x y) Q st := by
  intro E S0 φ0 a w hh
  refine wp_seq (wp_mono (h E S0 φ0 a w hh) ?_)
  rintro e a w ⟨s, h1, h2⟩
  cases e with
  | normal => exact h2 E S0 φ0 a w h1
  | _ => exact ⟨s, h1, h2⟩
theorem Pwp.block {id : Nat} {c : Code} (h : Pwp P n c (blockS id Q) st) : Pwp P n (.block id c) Q st := by
  intro E S0 φ0 a w hh
  refine wp_block (wp_mono (h E S0 φ0 a w hh) ?_)
  rintro e a w ⟨s, h1, h2⟩
  cases e with
  | exit id' =>
    simp only [Exit.inBlock, blockS] at h2 ⊢
    split
    · rename_i e; rw [if_pos e] at h2; exact ⟨s, h1, h2⟩
    · rename_i e; rw [if_neg e] at h2; exact ⟨s, h1, h2⟩
  | _ => exact ⟨s, h1, h2⟩
theorem Pwp.cond {c : Operand} {x y : Code} {b : Bool} (hc : asBool (st.evs c) = some b) (hg : st.gds [c]) (ht : b = true → Pwp P n x Q st) (hf : b = false → Pwp P n y Q st) : Pwp P n (.cond c x y) Q st := by
  intro E S0 φ0 a w hh
  obtain ⟨h1, h2, φ, S, h3, h4, h5⟩ := hh
  exact wp_cond_split (asBool_rep hc (h3.evs c (gds_mem hg c (by simp))).2) (fun e => ht e E S0 φ0 a w ⟨h1, h2, φ, S, h3, h4, h5⟩) (fun e => hf e E S0 φ0 a w ⟨h1, h2, φ, S, h3, h4, h5⟩)
/-- A loop: what holds at the head of each round; k: how many rounds are left at most. -/
theorem Pwp.loop {c : Code} (I : Nat → St → Prop) (k : Nat) {s : St} (h0 : Sub n st s) (hI : I k s) (round : ∀ k s, I k s → Pwp P n c (thenS (fun s' => ∃ k' t, k' < k ∧ Sub n s' t ∧ I k' t) Q) s) : Pwp P n (.loop c) Q st := by
  intro E S0 φ0 a w hh
  have hpost : ∀ k s, I k s → ∀ a w, Holds n E S0 φ0 s a w → c.wp P (Exit.then (fun a w => ∃ k' t, k' < k ∧ I k' t ∧ Holds n E S0 φ0 t a w) (fun e a w => ∃ st', Holds n E S0 φ0 st' a w ∧ Q e st')) a w := by
    intro k s hi a w hs
    refine wp_mono (round k s hi E S0 φ0 a w hs) ?_
    rintro e a w ⟨s', h1, h2⟩
    cases e with
    | normal =>
      obtain ⟨k', t, h3, h4, h5⟩ := h2
      exact ⟨k', t, h3, h5, h4 E S0 φ0 a w h1⟩
    | _ => exact ⟨s', h1, h2⟩
  intro b kk cs
  have key : ∀ k s, I k s → ∀ a w, Holds n E S0 φ0 s a w → ∃ e a' w', (∃ st', Holds n E S0 φ0 st' a' w' ∧ Q e st') ∧ Arrives P (lone (b.at a (.code c :: .inLoop c :: kk)) cs w) b kk cs e a' w' := by
    intro k
    induction k using Nat.strongRecOn with
    | _ k ih =>
      intro s hi a w hs
      obtain ⟨e, a₁, w₁, hq, harr⟩ := hpost k s hi a w hs b (.inLoop c :: kk) cs
      cases e with
      | normal =>
        obtain ⟨k', t, h1, h2, h3⟩ := hq
        obtain ⟨e₂, a₂, w₂, hq₂, harr₂⟩ := ih k' h1 t h2 a₁ w₁ h3
        exact ⟨e₂, a₂, w₂, hq₂, .of_steps (Steps.trans harr (.one step_inLoop)) harr₂⟩
      | exit id => exact ⟨_, a₁, w₁, hq, .pass (x := .inLoop c) rfl (fun _ _ => .inl (by simp)) harr⟩
      | goto l => exact ⟨_, a₁, w₁, hq, .pass (x := .inLoop c) rfl (fun _ _ => .inl (by simp)) harr⟩
      | ret => exact ⟨_, a₁, w₁, hq, .pass (x := .inLoop c) rfl (fun _ _ => .inl (by simp)) harr⟩
      | panic ch => exact ⟨_, a₁, w₁, hq, .pass (x := .inLoop c) rfl (fun _ _ => .inl (by simp)) harr⟩
      | outgrown => exact ⟨_, a₁, w₁, hq, .pass (x := .inLoop c) rfl (fun _ _ => .inl (by simp)) harr⟩
  obtain ⟨e, a', w', hq, harr⟩ := key k s hI a w (h0 E S0 φ0 a w hh)
  exact ⟨e, a', w', hq, .of_steps (.one step_loop) harr⟩

section
variable {T : Nat → Option TI} {eqt : Nat → Option (List CK)} (hk : Kit P T eqt)
include hk
theorem Pwp.region {id : Nat} {ops : Array Oper} (hf : opsFit n ops.toList = true) (h : opsP P T eqt ops.toList ops.size st.next 0 ops.toList st (Q .normal)) : Pwp P n (.region id ops false) Q st := by
  intro E S0 φ0 a w hh
  obtain ⟨h1, h2, φ, S, h3, h4, h5⟩ := hh
  refine wp_region ?_
  have hb := ops_run (K := Q .normal) hk (n := n) (base := st.next) (E := E) (Q := fun e a w => ∃ st', Holds n E S0 φ0 st' a w ∧ Q e st') (opsFit_spec hf) (S0 := S0) (φ0 := φ0) h2 (fun s a w S φ g1 g2 g3 g4 g5 g6 => ⟨s, ⟨g5, g4, φ, S, g1, g2, g3⟩, g6⟩)
    ops.toList 0 st a w S φ (Nat.zero_le _) rfl h3 (fun k v hs => .inl (h4 k v hs)) h5 h1 h
  rw [List.range_eq_range']; simpa using hb

/-- A region whose order is drawn. -/
theorem Pwp.drawn {id : Nat} {ops : Array Oper} (hm : P.follows .mixedOrders = true) (hf : opsFit n ops.toList = true) (h : opsD P T eqt ops.toList ops.size st.next 0 ops.toList st [] (fun s feet => orderOK ops feet = true ∧ Q .normal s)) : Pwp P n (.region id ops true) Q st := by
  intro E S0 φ0 a w hh
  obtain ⟨h1, h2, φ, S, h3, h4, h5⟩ := hh
  refine wp_region_any hm ?_
  obtain ⟨effs, feet, g1, g2, g3⟩ := opsD_pull (st0 := st) ops.toList 0 [] [] rfl (Nat.zero_le _) rfl rfl (fun j hj => by omega) h
  refine any_run hk (Q := fun e a w => ∃ st', Holds n E S0 φ0 st' a w ∧ Q e st') (opsFit_spec hf) g1 g2 (S0 := S0) (φ0 := φ0) h2
    (fun a w S φ q1 q2 q3 q4 => ⟨{ applyX ops effs st (fun _ => true) ops.size with next := st.next + 4 * ops.size }, ⟨q4, ?_, φ, S, q1.congr ⟨fun _ => rfl, fun _ => rfl⟩, q2, q3⟩, g3⟩) ops.size (Array.replicate ops.size false) a { w with drawn := w.drawn + 1 } S φ (by simp) ?_ ?_ ?_ ?_ h5 h1
  · show 8 ≤ st.next + 4 * ops.size
    omega
  · have : ∀ k, left (Array.replicate ops.size false) k ≤ k := by
      intro k
      induction k with
      | zero => exact Nat.le_refl _
      | succ k ih => simp only [left]; split <;> omega
    exact this _
  · intro i o ho hx
    exfalso
    have : (Array.replicate ops.size false).getD i false = false := by
      rw [Array.getD_eq_getD_getElem?, Array.getElem?_replicate]; split <;> rfl
    rw [this] at hx; cases hx
  · have : ∀ k, applyX ops effs st (fun i => (Array.replicate ops.size false).getD i false) k = st := by
      intro k
      induction k with
      | zero => rfl
      | succ k ih =>
        simp only [applyX]
        have : (Array.replicate ops.size false).getD k false = false := by
          rw [Array.getD_eq_getD_getElem?, Array.getElem?_replicate]; split <;> rfl
        simp only [this, Bool.false_eq_true, if_false]
        exact ih
    rw [this]
    exact h3.drew
  · exact fun k v hs => .inl (h4 k v hs)
end
end

end Go.Proofs.Ytdodgbhodkcckaa.Pv
