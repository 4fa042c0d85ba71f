/- The plain-value machine: code, contracts, arguments, rules for walks. No program is in sight here. -/
import Derived.Test.YtdodgbhodkcckaaPv2
import Derived.ChangeKeysEq
import Derived.ChangeArms
import Derived.WideShapes
import Derived.ProofKit
section
/- Code: what a piece of code asks, rule by rule. No program is in sight here. -/
set_option linter.unusedVariables false
set_option linter.unusedSectionVars false
set_option linter.unusedSimpArgs false
set_option autoImplicit false
namespace Go.Proofs.Ytdodgbhodkcckaa.Pv
open Go Go.RowKit

/-- A frame of n temporaries and a world are a state of a call that began with the names S0. -/
def Holds (n : Nat) (E : Env) (S0 : Nat → Nat → Prop) (φ0 : Nat → Nat → Option (Nat × Nat)) (st : St) (a : Act) (w : World) : Prop :=
  a.tmps.size = n ∧ 8 ≤ st.next ∧ ∃ φ S, Rst E S φ st a w ∧ (∀ k v, S k v → k < st.next) ∧ Since S0 φ0 S φ

/-- From the state st on the code comes to an end, in an exit and a state as Q tells. -/
def Pwp (P : Program) (n : Nat) (c : Code) (Q : Exit → St → Prop) (st : St) : Prop :=
  ∀ E S0 φ0 a w, Holds n E S0 φ0 st a w → c.wp P (fun e a w => ∃ st', Holds n E S0 φ0 st' a w ∧ Q e st') a w

def thenS (K : St → Prop) (Q : Exit → St → Prop) : Exit → St → Prop
  | .normal, st => K st
  | e, st => Q e st
def blockS (id : Nat) (Q : Exit → St → Prop) : Exit → St → Prop
  | .exit id', st => if id' = id then Q .normal st else Q (.exit id') st
  | e, st => Q e st

/-- One state tells less than another. -/
def Sub (n : Nat) (s t : St) : Prop := ∀ E S0 φ0 a w, Holds n E S0 φ0 s a w → Holds n E S0 φ0 t a w

theorem Sub.refl (n : Nat) (s : St) : Sub n s s := fun _ _ _ _ _ h => h
theorem Sub.trans {n : Nat} {s t u : St} (h : Sub n s t) (k : Sub n t u) : Sub n s u := fun E S0 φ0 a w hh => k E S0 φ0 a w (h E S0 φ0 a w hh)

/-- All that a region puts has its place. -/
def opsFit (n : Nat) (ops : List Oper) : Bool := ops.all fun o => match o.dst with
  | some d => decide (d < n)
  | none => true

theorem opsFit_spec {n : Nat} {ops : List Oper} (h : opsFit n ops = true) : ∀ o ∈ ops, ∀ d, o.dst = some d → d < n := by
  intro o ho d hd
  have := List.all_eq_true.1 h o ho
  rw [hd] at this
  simpa using this

section
variable {P : Program} {n : Nat} {Q : Exit → St → Prop} {st : St}

theorem Pwp.mono {c : Code} {Q' : Exit → St → Prop} (h : Pwp P n c Q st) (hq : ∀ e s, Q e s → Q' e s) : Pwp P n c Q' st :=
  fun E S0 φ0 a w hh => wp_mono (h E S0 φ0 a w hh) fun e a w ⟨s, h1, h2⟩ => ⟨s, h1, hq e s h2⟩
theorem Pwp.sub {c : Code} {s : St} (h : Sub n st s) (hs : Pwp P n c Q s) : Pwp P n c Q st := fun E S0 φ0 a w hh => hs E S0 φ0 a w (h E S0 φ0 a w hh)
theorem Pwp.skip (h : Q .normal st) : Pwp P n .skip Q st := fun E S0 φ0 a w hh => wp_skip ⟨st, hh, h⟩
theorem Pwp.ret (h : Q .ret st) : Pwp P n .ret Q st := fun E S0 φ0 a w hh => wp_ret ⟨st, hh, h⟩
theorem Pwp.exit {id : Nat} (h : Q (.exit id) st) : Pwp P n (.exit id) Q st := fun E S0 φ0 a w hh => wp_exit ⟨st, hh, h⟩
theorem Pwp.seq {x y : Code} (h : Pwp P n x (thenS (Pwp P n y Q) Q) st) : Pwp P n (.seq x y) Q st := by
  intro E S0 φ0 a w hh
  refine wp_seq (wp_mono (h E S0 φ0 a w hh) ?_)
  rintro e a w ⟨s, h1, h2⟩
  cases e with
  | normal => exact h2 E S0 φ0 a w h1
  | _ => exact ⟨s, h1, h2⟩
theorem Pwp.block {id : Nat} {c : Code} (h : Pwp P n c (blockS id Q) st) : Pwp P n (.block id c) Q st := by
  intro E S0 φ0 a w hh
  refine wp_block (wp_mono (h E S0 φ0 a w hh) ?_)
  rintro e a w ⟨s, h1, h2⟩
  cases e with
  | exit id' =>
    simp only [Exit.inBlock, blockS] at h2 ⊢
    split
    · rename_i e; rw [if_pos e] at h2; exact ⟨s, h1, h2⟩
    · rename_i e; rw [if_neg e] at h2; exact ⟨s, h1, h2⟩
  | _ => exact ⟨s, h1, h2⟩
theorem Pwp.cond {c : Operand} {x y : Code} {b : Bool} (hc : asBool (st.evs c) = some b) (hg : st.gds [c]) (ht : b = true → Pwp P n x Q st) (hf : b = false → Pwp P n y Q st) : Pwp P n (.cond c x y) Q st := by
  intro E S0 φ0 a w hh
  obtain ⟨h1, h2, φ, S, h3, h4, h5⟩ := hh
  exact wp_cond_split (asBool_rep hc (h3.evs c (gds_mem hg c (by simp))).2) (fun e => ht e E S0 φ0 a w ⟨h1, h2, φ, S, h3, h4, h5⟩) (fun e => hf e E S0 φ0 a w ⟨h1, h2, φ, S, h3, h4, h5⟩)
/-- A loop: what holds at the head of each round; k: how many rounds are left at most. -/
theorem Pwp.loop {c : Code} (I : Nat → St → Prop) (k : Nat) {s : St} (h0 : Sub n st s) (hI : I k s) (round : ∀ k s, I k s → Pwp P n c (thenS (fun s' => ∃ k' t, k' < k ∧ Sub n s' t ∧ I k' t) Q) s) : Pwp P n (.loop c) Q st := by
  intro E S0 φ0 a w hh
  have hpost : ∀ k s, I k s → ∀ a w, Holds n E S0 φ0 s a w → c.wp P (Exit.then (fun a w => ∃ k' t, k' < k ∧ I k' t ∧ Holds n E S0 φ0 t a w) (fun e a w => ∃ st', Holds n E S0 φ0 st' a w ∧ Q e st')) a w := by
    intro k s hi a w hs
    refine wp_mono (round k s hi E S0 φ0 a w hs) ?_
    rintro e a w ⟨s', h1, h2⟩
    cases e with
    | normal =>
      obtain ⟨k', t, h3, h4, h5⟩ := h2
      exact ⟨k', t, h3, h5, h4 E S0 φ0 a w h1⟩
    | _ => exact ⟨s', h1, h2⟩
  intro b kk cs
  have key : ∀ k s, I k s → ∀ a w, Holds n E S0 φ0 s a w → ∃ e a' w', (∃ st', Holds n E S0 φ0 st' a' w' ∧ Q e st') ∧ Arrives P (lone (b.at a (.code c :: .inLoop c :: kk)) cs w) b kk cs e a' w' := by
    intro k
    induction k using Nat.strongRecOn with
    | _ k ih =>
      intro s hi a w hs
      obtain ⟨e, a₁, w₁, hq, harr⟩ := hpost k s hi a w hs b (.inLoop c :: kk) cs
      cases e with
      | normal =>
        obtain ⟨k', t, h1, h2, h3⟩ := hq
        obtain ⟨e₂, a₂, w₂, hq₂, harr₂⟩ := ih k' h1 t h2 a₁ w₁ h3
        exact ⟨e₂, a₂, w₂, hq₂, .of_steps (Steps.trans harr (.one step_inLoop)) harr₂⟩
      | exit id => exact ⟨_, a₁, w₁, hq, .pass (x := .inLoop c) rfl (fun _ _ => .inl (by simp)) harr⟩
      | goto l => exact ⟨_, a₁, w₁, hq, .pass (x := .inLoop c) rfl (fun _ _ => .inl (by simp)) harr⟩
      | ret => exact ⟨_, a₁, w₁, hq, .pass (x := .inLoop c) rfl (fun _ _ => .inl (by simp)) harr⟩
      | panic ch => exact ⟨_, a₁, w₁, hq, .pass (x := .inLoop c) rfl (fun _ _ => .inl (by simp)) harr⟩
      | outgrown => exact ⟨_, a₁, w₁, hq, .pass (x := .inLoop c) rfl (fun _ _ => .inl (by simp)) harr⟩
  obtain ⟨e, a', w', hq, harr⟩ := key k s hI a w (h0 E S0 φ0 a w hh)
  exact ⟨e, a', w', hq, .of_steps (.one step_loop) harr⟩

section
variable {T : Nat → Option TI} {eqt : Nat → Option (List CK)} (hk : Kit P T eqt)
include hk
theorem Pwp.region {id : Nat} {ops : Array Oper} (hf : opsFit n ops.toList = true) (h : opsP P T eqt ops.toList ops.size st.next 0 ops.toList st (Q .normal)) : Pwp P n (.region id ops false) Q st := by
  intro E S0 φ0 a w hh
  obtain ⟨h1, h2, φ, S, h3, h4, h5⟩ := hh
  refine wp_region ?_
  have hb := ops_run (K := Q .normal) hk (n := n) (base := st.next) (E := E) (Q := fun e a w => ∃ st', Holds n E S0 φ0 st' a w ∧ Q e st') (opsFit_spec hf) (S0 := S0) (φ0 := φ0) h2 (fun s a w S φ g1 g2 g3 g4 g5 g6 => ⟨s, ⟨g5, g4, φ, S, g1, g2, g3⟩, g6⟩)
    ops.toList 0 st a w S φ (Nat.zero_le _) rfl h3 (fun k v hs => .inl (h4 k v hs)) h5 h1 h
  rw [List.range_eq_range']; simpa using hb

/-- A region whose order is drawn. -/
theorem Pwp.drawn {id : Nat} {ops : Array Oper} (hm : P.follows .mixedOrders = true) (hf : opsFit n ops.toList = true) (h : opsD P T eqt ops.toList ops.size st.next 0 ops.toList st [] (fun s feet => orderOK ops feet = true ∧ Q .normal s)) : Pwp P n (.region id ops true) Q st := by
  intro E S0 φ0 a w hh
  obtain ⟨h1, h2, φ, S, h3, h4, h5⟩ := hh
  refine wp_region_any hm ?_
  obtain ⟨effs, feet, g1, g2, g3⟩ := opsD_pull (st0 := st) ops.toList 0 [] [] rfl (Nat.zero_le _) rfl rfl (fun j hj => by omega) h
  refine any_run hk (Q := fun e a w => ∃ st', Holds n E S0 φ0 st' a w ∧ Q e st') (opsFit_spec hf) g1 g2 (S0 := S0) (φ0 := φ0) h2
    (fun a w S φ q1 q2 q3 q4 => ⟨{ applyX ops effs st (fun _ => true) ops.size with next := st.next + 4 * ops.size }, ⟨q4, ?_, φ, S, q1.congr ⟨fun _ => rfl, fun _ => rfl⟩, q2, q3⟩, g3⟩) ops.size (Array.replicate ops.size false) a { w with drawn := w.drawn + 1 } S φ (by simp) ?_ ?_ ?_ ?_ h5 h1
  · show 8 ≤ st.next + 4 * ops.size
    omega
  · have : ∀ k, left (Array.replicate ops.size false) k ≤ k := by
      intro k
      induction k with
      | zero => exact Nat.le_refl _
      | succ k ih => simp only [left]; split <;> omega
    exact this _
  · intro i o ho hx
    exfalso
    have : (Array.replicate ops.size false).getD i false = false := by
      rw [Array.getD_eq_getD_getElem?, Array.getElem?_replicate]; split <;> rfl
    rw [this] at hx; cases hx
  · have : ∀ k, applyX ops effs st (fun i => (Array.replicate ops.size false).getD i false) k = st := by
      intro k
      induction k with
      | zero => rfl
      | succ k ih =>
        simp only [applyX]
        have : (Array.replicate ops.size false).getD k false = false := by
          rw [Array.getD_eq_getD_getElem?, Array.getElem?_replicate]; split <;> rfl
        simp only [this, Bool.false_eq_true, if_false]
        exact ih
    rw [this]
    exact h3.drew
  · exact fun k v hs => .inl (h4 k v hs)
end
end

end Go.Proofs.Ytdodgbhodkcckaa.Pv
end

section
/- One state told as another: fewer things, other numbers, nil as an empty row of one's own, a row that is given up as data. No program is in sight here. -/
set_option linter.unusedVariables false
set_option linter.unusedSectionVars false
set_option linter.unusedSimpArgs false
set_option autoImplicit false
namespace Go.Proofs.Ytdodgbhodkcckaa.Pv
open Go Go.RowKit

/-- How the numbers of a new telling stand to those of the old one: ρ: the old number; τ: if it is told, the new version is 0 and the old one is this; A: rows that were nil. -/
structure Turn where
  ρ : Nat → Nat
  τ : Nat → Option Nat
  A : List Nat

mutual
def viewP (V : Turn) (h : List (Nat × PObj)) (kept : List Nat) (N : Nat) (q : PVal) : PVal → Prop
  | .dead => True
  | .d y => (match q.toD h with
    | some x => subD x y ∧ disj q.ids kept = true
    | none => False)
  | .own k ver s off len => k < N ∧ (if V.A.contains k = true then q = pnil ∧ ver = 0 ∧ off = 0 ∧ len = 0 else match V.τ k with
    | some v => ver = 0 ∧ q = .own (V.ρ k) v s off len
    | none => q = .own (V.ρ k) ver s off len)
  | .ref k j => k < N ∧ V.A.contains k = false ∧ V.τ k = none ∧ q = .ref (V.ρ k) j
  | .refE k ver s i j => k < N ∧ V.A.contains k = false ∧ V.τ k = none ∧ q = .refE (V.ρ k) ver s i j
  | .mp k => k < N ∧ V.A.contains k = false ∧ V.τ k = none ∧ q = .mp (V.ρ k)
  | .agg ps => (match q with
    | .agg qs => viewL V h kept N qs ps
    | .d (.agg ds) => viewL V h kept N (ds.map .d) ps
    | _ => False)
  | .tup ps => (match q with
    | .tup qs => viewL V h kept N qs ps
    | .d (.tup ds) => viewL V h kept N (ds.map .d) ps
    | _ => False)
  | .clo f a b => (match q with
    | .clo f' a' b' => f' = f ∧ viewL V h kept N a' a ∧ viewL V h kept N b' b
    | _ => False)
  | .ifc t p => (match q with
    | .ifc t' q' => t' = t ∧ viewP V h kept N q' p
    | _ => False)
  | .gd _ _ => False
def viewL (V : Turn) (h : List (Nat × PObj)) (kept : List Nat) (N : Nat) (qs : List PVal) : List PVal → Prop
  | [] => qs = []
  | p :: ps => (match qs with
    | [] => False
    | q :: qs => viewP V h kept N q p ∧ viewL V h kept N qs ps)
end

def viewO (V : Turn) (h : List (Nat × PObj)) (kept : List Nat) (N : Nat) (k : Nat) (o' o : PObj) : Prop := match o, o' with
  | .box ps, .box qs => V.τ k = none ∧ viewL V h kept N qs ps
  | .arr e s ver room els, .arr e' s' ver' room' els' => e' = e ∧ s' = s ∧ els' = els ∧ (room = none ∨ room' = room) ∧ (match V.τ k with
    | some v => ver = 0 ∧ ver' = v
    | none => ver' = ver)
  | .map es, .map es' => V.τ k = none ∧ es' = es
  | _, _ => False

def viewT (V : Turn) (s : St) (kept : List Nat) (N : Nat) : List (Nat × PVal) → Prop
  | [] => True
  | (i, p) :: l => viewP V s.heap kept N (s.ev (.tmp i)) p ∧ viewT V s kept N l

def viewH (V : Turn) (s : St) (kept : List Nat) (N : Nat) : List (Nat × PObj) → Prop
  | [] => True
  | (k, o) :: l => (k < N ∧ (if V.A.contains k = true then (8 ≤ k ∧ match o with | .arr _ _ 0 none [] => True | _ => False) else match find (V.ρ k) s.heap with
    | some o' => viewO V s.heap kept N k o' o
    | none => False)) ∧ viewH V s kept N l

/-- The old names under the new ones. -/
def Turn.S (V : Turn) (S : Nat → Nat → Prop) (N : Nat) : Nat → Nat → Prop := fun k v => k < N ∧ (if V.A.contains k = true then v = 0 else match V.τ k with
  | some v0 => v = 0 ∧ S (V.ρ k) v0
  | none => S (V.ρ k) v)
def Turn.φ (V : Turn) (φ : Nat → Nat → Option (Nat × Nat)) : Nat → Nat → Option (Nat × Nat) := fun k v => if V.A.contains k = true then none else match V.τ k with
  | some v0 => φ (V.ρ k) v0
  | none => φ (V.ρ k) v

section
variable {E : Env} {S : Nat → Nat → Prop} {φ : Nat → Nat → Option (Nat × Nat)} {w : World} {O O' : Nat → Prop} {h : List (Nat × PObj)} {V : Turn} {kept : List Nat} {N : Nat}

mutual
theorem viewP_rep (hobj : ∀ id o, find id h = some o → ORep w O φ id o ∧ ∀ b, blk φ id o = some b → b < w.heap.size) (hO : ∀ b, O' b → O b) (hfree : ∀ i o b, i ∉ kept → find i h = some o → blk φ i o = some b → ¬ O' b) :
    ∀ (p q : PVal) (c : Value), viewP V h kept N q p → q.und S → PRep w O φ q c → p.und (V.S S N) ∧ PRep w O' (V.φ φ) p c
  | .dead, q, c, _, _, _ => by simp only [PVal.und, PRep, and_self]
  | .d y, q, c, hv, hu, hr => by
    simp only [viewP] at hv
    split at hv
    · rename_i x hx
      simp only [PVal.und, PRep]
      refine ⟨trivial, subD_rep x y c hv.1 (toD_rep hobj hO q x c hx (fun i o b hi ho hb => hfree i o b (disj_spec hv.2 hi) ho hb) hr)⟩
    · exact hv.elim
  | .own k ver s off len, q, c, hv, hu, hr => by
    simp only [viewP] at hv
    obtain ⟨hk, hv⟩ := hv
    simp only [PVal.und, PRep, Turn.S, Turn.φ]
    split at hv
    · rename_i hA
      obtain ⟨rfl, rfl, rfl, rfl⟩ := hv
      simp only [PRep, DRep] at hr
      rw [if_pos hA, if_pos hA]
      exact ⟨⟨hk, rfl⟩, .inl ⟨rfl, rfl, rfl, hr⟩⟩
    · rename_i hA
      split at hv
      · rename_i v hτ
        obtain ⟨rfl, rfl⟩ := hv
        simp only [PRep, PVal.und] at hr hu
        simp only [hk, hA, hτ, hu, Bool.false_eq_true, if_false, true_and, and_self]
        exact hr
      · rename_i hτ
        subst hv
        simp only [PRep, PVal.und] at hr hu
        simp only [hk, hA, hτ, hu, Bool.false_eq_true, if_false, true_and]
        exact hr
  | .ref k j, q, c, hv, hu, hr => by
    simp only [viewP] at hv
    obtain ⟨hk, hA, hτ, rfl⟩ := hv
    simp only [PVal.und, PRep, Turn.S, Turn.φ] at hu hr ⊢
    simp only [hk, hA, hτ, hu, Bool.false_eq_true, if_false, true_and]
    exact hr
  | .refE k ver s i j, q, c, hv, hu, hr => by
    simp only [viewP] at hv
    obtain ⟨hk, hA, hτ, rfl⟩ := hv
    simp only [PVal.und, PRep, Turn.S, Turn.φ] at hu hr ⊢
    simp only [hk, hA, hτ, hu, Bool.false_eq_true, if_false, true_and]
    exact hr
  | .mp k, q, c, hv, hu, hr => by
    simp only [viewP] at hv
    obtain ⟨hk, hA, hτ, rfl⟩ := hv
    simp only [PVal.und, PRep, Turn.S, Turn.φ] at hu hr ⊢
    simp only [hk, hA, hτ, hu, Bool.false_eq_true, if_false, true_and]
    exact hr
  | .agg ps, q, c, hv, hu, hr => by
    simp only [viewP] at hv
    split at hv
    · simp only [PVal.und, PRep] at hu hr ⊢
      obtain ⟨cs, e, hr⟩ := hr
      obtain ⟨h1, h2⟩ := viewL_rep hobj hO hfree ps _ cs hv hu hr
      exact ⟨h1, cs, e, h2⟩
    · simp only [PRep, DRep, PVal.und] at hr ⊢
      obtain ⟨cs, e, hr⟩ := hr
      obtain ⟨h1, h2⟩ := viewL_rep hobj hO hfree ps _ cs hv (undL_ds _ _) (PRepL.ds hr)
      exact ⟨h1, cs, e, h2⟩
    · exact hv.elim
  | .tup ps, q, c, hv, hu, hr => by
    simp only [viewP] at hv
    split at hv
    · simp only [PVal.und, PRep] at hu hr ⊢
      obtain ⟨cs, e, hr⟩ := hr
      obtain ⟨h1, h2⟩ := viewL_rep hobj hO hfree ps _ cs hv hu hr
      exact ⟨h1, cs, e, h2⟩
    · simp only [PRep, DRep, PVal.und] at hr ⊢
      obtain ⟨cs, e, hr⟩ := hr
      obtain ⟨h1, h2⟩ := viewL_rep hobj hO hfree ps _ cs hv (undL_ds _ _) (PRepL.ds hr)
      exact ⟨h1, cs, e, h2⟩
    · exact hv.elim
  | .clo f a b, q, c, hv, hu, hr => by
    simp only [viewP] at hv
    split at hv
    · obtain ⟨rfl, ha, hb⟩ := hv
      simp only [PVal.und, PRep] at hu hr ⊢
      obtain ⟨x, y, e, r1, r2⟩ := hr
      obtain ⟨h1, h2⟩ := viewL_rep hobj hO hfree a _ x ha hu.1 r1
      obtain ⟨h3, h4⟩ := viewL_rep hobj hO hfree b _ y hb hu.2 r2
      exact ⟨⟨h1, h3⟩, x, y, e, h2, h4⟩
    · exact hv.elim
  | .ifc t p, q, c, hv, hu, hr => by
    simp only [viewP] at hv
    split at hv
    · obtain ⟨rfl, hv⟩ := hv
      simp only [PVal.und, PRep] at hu hr ⊢
      obtain ⟨x, e, hr⟩ := hr
      obtain ⟨h1, h2⟩ := viewP_rep hobj hO hfree p _ x hv hu hr
      exact ⟨h1, x, e, h2⟩
    · exact hv.elim
  | .gd _ _, q, c, hv, _, _ => by simp only [viewP] at hv
theorem viewL_rep (hobj : ∀ id o, find id h = some o → ORep w O φ id o ∧ ∀ b, blk φ id o = some b → b < w.heap.size) (hO : ∀ b, O' b → O b) (hfree : ∀ i o b, i ∉ kept → find i h = some o → blk φ i o = some b → ¬ O' b) :
    ∀ (ps qs : List PVal) (cs : List Value), viewL V h kept N qs ps → undL S qs → PRepL w O φ qs cs → undL (V.S S N) ps ∧ PRepL w O' (V.φ φ) ps cs
  | [], qs, cs, hv, _, hr => by simp only [viewL] at hv; subst hv; simp only [PRepL, undL] at *; exact ⟨trivial, hr⟩
  | p :: ps, qs, cs, hv, hu, hr => by
    simp only [viewL] at hv
    split at hv
    · exact hv.elim
    · simp only [undL, PRepL] at hu hr ⊢
      obtain ⟨c, cs', e, r1, r2⟩ := hr
      obtain ⟨h1, h2⟩ := viewP_rep hobj hO hfree p _ c hv.1 hu.1 r1
      obtain ⟨h3, h4⟩ := viewL_rep hobj hO hfree ps _ cs' hv.2 hu.2 r2
      exact ⟨⟨h1, h3⟩, c, cs', e, h2, h4⟩
end
end

theorem viewT_get {V : Turn} {s : St} {kept : List Nat} {N : Nat} : ∀ {l : List (Nat × PVal)} {i : Nat} {p : PVal}, viewT V s kept N l → find i l = some p → viewP V s.heap kept N (s.ev (.tmp i)) p
  | [], i, p, _, hf => by simp [find] at hf
  | (j, x) :: l, i, p, h, hf => by
    simp only [viewT] at h
    simp only [find] at hf
    split at hf
    · rename_i e; subst e; cases hf; exact h.1
    · exact viewT_get h.2 hf
theorem viewH_get {V : Turn} {s : St} {kept : List Nat} {N : Nat} : ∀ {l : List (Nat × PObj)} {k : Nat} {o : PObj}, viewH V s kept N l → find k l = some o → k < N ∧ (if V.A.contains k = true then (8 ≤ k ∧ match o with | .arr _ _ 0 none [] => True | _ => False) else match find (V.ρ k) s.heap with
    | some o' => viewO V s.heap kept N k o' o
    | none => False)
  | [], i, p, _, hf => by simp [find] at hf
  | (j, x) :: l, i, p, h, hf => by
    simp only [viewH] at h
    simp only [find] at hf
    split at hf
    · rename_i e; subst e; cases hf; exact h.1
    · exact viewH_get h.2 hf

/-- The old numbers of the objects that are kept. -/
def keptOf (V : Turn) (t : St) : List Nat := (t.heap.map (·.1)).map V.ρ

/-- Numbers below 8 stay as they are; no two are turned into one. -/
def turnOK (V : Turn) (ks : List Nat) : Bool := (List.range 8).all (fun k => V.ρ k == k && V.τ k == none && !V.A.contains k) && ks.all fun k => V.A.contains k || ks.all fun k' => V.A.contains k' || k == k' || V.ρ k != V.ρ k'

theorem view_run {E : Env} {S : Nat → Nat → Prop} {φ : Nat → Nat → Option (Nat × Nat)} {s t : St} {a : Act} {w : World} (V : Turn) (hr : Rst E S φ s a w) (hinj : ∀ k k', k ∈ t.heap.map (·.1) → k' ∈ t.heap.map (·.1) → V.A.contains k = false → V.A.contains k' = false → V.ρ k = V.ρ k' → k = k')
    (hh : viewH V s (keptOf V t) t.next t.heap) (ht : viewT V s (keptOf V t) t.next t.tmps) : Rst E (V.S S t.next) (V.φ φ) t a w := by
  have hfacts : ∀ k o, find k t.heap = some o → V.A.contains k = false → k < t.next ∧ ∃ o', find (V.ρ k) s.heap = some o' ∧ viewO V s.heap (keptOf V t) t.next k o' o := by
    intro k o ho hA
    obtain ⟨h1, h2⟩ := viewH_get hh ho
    rw [hA] at h2
    simp only [Bool.false_eq_true, if_false] at h2
    split at h2
    · rename_i o' ho'; exact ⟨h1, o', ho', h2⟩
    · exact h2.elim
  have hnil : ∀ k o, find k t.heap = some o → V.A.contains k = true → k < t.next ∧ ∃ e sz, o = .arr e sz 0 none [] := by
    intro k o ho hA
    obtain ⟨h1, h2⟩ := viewH_get hh ho
    rw [hA] at h2
    simp only [if_true] at h2
    obtain ⟨_, h2⟩ := h2
    split at h2
    · exact ⟨h1, _, _, rfl⟩
    · exact h2.elim
  have hver : ∀ k o o', viewO V s.heap (keptOf V t) t.next k o' o → (match V.τ k with | some v => o.ver = 0 ∧ o'.ver = v | none => o'.ver = o.ver) := by
    intro k o o' hv
    unfold viewO at hv
    split at hv
    · rw [hv.1]; rfl
    · exact hv.2.2.2.2
    · rw [hv.1]; rfl
    · exact hv.elim
  have hblk : ∀ k o o', V.A.contains k = false → viewO V s.heap (keptOf V t) t.next k o' o → blk (V.φ φ) k o = blk φ (V.ρ k) o' := by
    intro k o o' hA hv
    unfold viewO at hv
    split at hv
    · simp only [blk, Turn.φ, hA, hv.1, Bool.false_eq_true, if_false]
    · obtain ⟨_, _, _, _, hv⟩ := hv
      simp only [blk, Turn.φ, hA, Bool.false_eq_true, if_false]
      split at hv
      · rename_i v hτ; obtain ⟨rfl, rfl⟩ := hv; simp only [hτ]
      · rename_i hτ; subst hv; simp only [hτ]
    · simp only [blk, Turn.φ, hA, hv.1, Bool.false_eq_true, if_false]
    · exact hv.elim
  have hblkA : ∀ k o, find k t.heap = some o → V.A.contains k = true → blk (V.φ φ) k o = none := by
    intro k o ho hA
    obtain ⟨_, e, sz, rfl⟩ := hnil k o ho hA
    simp only [blk, Turn.φ, hA, if_true, Option.map_none]
  have hO : ∀ b, Held E (V.φ φ) t.heap b → Held E φ s.heap b := by
    rintro b (hb | ⟨k, o, ho, hb⟩)
    · exact .inl hb
    · cases hA : V.A.contains k with
      | true => rw [hblkA k o ho hA] at hb; cases hb
      | false =>
        obtain ⟨_, o', ho', hv⟩ := hfacts k o ho hA
        exact .inr ⟨_, o', ho', by rw [← hblk k o o' hA hv]; exact hb⟩
  have hfree : ∀ i o b, i ∉ keptOf V t → find i s.heap = some o → blk φ i o = some b → ¬ Held E (V.φ φ) t.heap b := by
    rintro i o b hi ho hb (hx | ⟨k, o2, ho2, hb2⟩)
    · exact hr.notOut ho hb hx
    · cases hA : V.A.contains k with
      | true => rw [hblkA k o2 ho2 hA] at hb2; cases hb2
      | false =>
        obtain ⟨_, o', ho', hv⟩ := hfacts k o2 ho2 hA
        rw [hblk k o2 o' hA hv] at hb2
        have := hr.inj _ _ _ _ b ho ho' hb hb2
        exact hi (by rw [this]; exact List.mem_map.2 ⟨k, List.mem_map.2 ⟨(k, o2), mem_of_find ho2, rfl⟩, rfl⟩)
  refine { os := hr.os, tape := hr.tape, output := hr.output, size := hr.size, old := hr.old, defers := hr.defers, tmps := ?_, objs := ?_, inj := ?_ }
  · intro i p hp
    have he := hr.ev (.tmp i)
    exact viewP_rep hr.objs' hO hfree p _ _ (viewT_get ht hp) he.1 he.2
  · intro k o ho
    cases hA : V.A.contains k with
    | true =>
      obtain ⟨h1, e, sz, rfl⟩ := hnil k o ho hA
      refine ⟨?_, ?_, by simp only [PObj.und], ?_, ?_⟩
      · simp only [Turn.S]; rw [if_pos hA]; exact ⟨h1, rfl⟩
      · intro v hv; simp only [Turn.S, hA, if_true] at hv; simp [PObj.ver, hv.2]
      · intro b hb; rw [hblkA k _ ho hA] at hb; cases hb
      · simp only [ORep, Turn.φ]; rw [if_pos hA]; exact .inl ⟨rfl, trivial, by simp⟩
    | false =>
      obtain ⟨h1, o', ho', hv⟩ := hfacts k o ho hA
      obtain ⟨g1, g2, g3, g4, g5⟩ := hr.objs _ o' ho'
      have hvr := hver k o o' hv
      refine ⟨?_, ?_, ?_, ?_, ?_⟩
      · simp only [Turn.S, h1, hA, Bool.false_eq_true, if_false, true_and]
        split at hvr
        · rename_i v hτ; (try simp only [hτ]); exact ⟨hvr.1, hvr.2 ▸ g1⟩
        · rename_i hτ; (try simp only [hτ]); exact hvr ▸ g1
      · intro v hv2
        simp only [Turn.S, hA, Bool.false_eq_true, if_false] at hv2
        split at hvr
        · rename_i v0 hτ; simp only [hτ] at hv2; omega
        · rename_i hτ; simp only [hτ] at hv2; rw [← hvr]; exact g2 v hv2.2
      · cases o with
        | box ps =>
          cases o' with
          | box qs =>
            simp only [viewO] at hv
            simp only [PObj.und, ORep] at g3 g5 ⊢
            obtain ⟨b, m, cs, ty, q1, q2, q3⟩ := g5
            exact (viewL_rep hr.objs' hO hfree ps qs cs hv.2 g3 q3).1
          | _ => simp [viewO] at hv
        | _ => simp only [PObj.und]
      · intro b hb; rw [hblk k o o' hA hv] at hb; exact g4 b hb
      · cases o with
        | box ps =>
          cases o' with
          | box qs =>
            simp only [viewO] at hv
            simp only [PObj.und, ORep] at g3 g5 ⊢
            obtain ⟨b, m, cs, ty, q1, q2, q3⟩ := g5
            refine ⟨b, m, cs, ty, ?_, q2, (viewL_rep hr.objs' hO hfree ps qs cs hv.2 g3 q3).2⟩
            simp only [Turn.φ, hA, hv.1, Bool.false_eq_true, if_false]; exact q1
          | _ => simp [viewO] at hv
        | arr e sz ver room els =>
          cases o' with
          | arr e' sz' ver' room' els' =>
            simp only [viewO] at hv
            obtain ⟨rfl, rfl, rfl, hroom, hv⟩ := hv
            have hφ : V.φ φ k ver = φ (V.ρ k) ver' := by
              simp only [Turn.φ, hA, Bool.false_eq_true, if_false]
              split at hv
              · rename_i v hτ; obtain ⟨rfl, rfl⟩ := hv; simp only [hτ]
              · rename_i hτ; subst hv; simp only [hτ]
            simp only [ORep] at g5 ⊢
            rw [hφ]
            rcases g5 with ⟨q1, q2, q3⟩ | ⟨b, m, cs, q1, q2, q3, q4, q5, q6, q7⟩
            · refine .inl ⟨q1, q2, fun n hn => ?_⟩
              rcases hroom with hx | hx
              · rw [hx] at hn; cases hn
              · exact q3 n (by rw [hx]; exact hn)
            · refine .inr ⟨b, m, cs, q1, q2, q3, fun n hn => ?_, q5, q6, DRepE.keep (Keeps.same _ w) (fun b _ hb => hO b hb) rfl _ _ q7⟩
              rcases hroom with hx | hx
              · rw [hx] at hn; cases hn
              · exact q4 n (by rw [hx]; exact hn)
          | _ => simp [viewO] at hv
        | map es =>
          cases o' with
          | map es' =>
            simp only [viewO] at hv
            obtain ⟨hτ, rfl⟩ := hv
            simp only [ORep] at g5 ⊢
            obtain ⟨b, m, ar, ck, q1, q2, q3, q4⟩ := g5
            refine ⟨b, m, ar, ck, ?_, q2, DRepL.keep (Keeps.same _ w) (fun b _ hb => hO b hb) _ _ q3, DRepL.keep (Keeps.same _ w) (fun b _ hb => hO b hb) _ _ q4⟩
            simp only [Turn.φ, hA, hτ, Bool.false_eq_true, if_false]; exact q1
          | _ => simp [viewO] at hv
  · intro i j oi oj b hi hj hbi hbj
    cases hAi : V.A.contains i with
    | true => rw [hblkA i oi hi hAi] at hbi; cases hbi
    | false =>
      cases hAj : V.A.contains j with
      | true => rw [hblkA j oj hj hAj] at hbj; cases hbj
      | false =>
        obtain ⟨hi1, oi', hi2, hi3⟩ := hfacts i oi hi hAi
        obtain ⟨hj1, oj', hj2, hj3⟩ := hfacts j oj hj hAj
        rw [hblk i oi oi' hAi hi3] at hbi
        rw [hblk j oj oj' hAj hj3] at hbj
        exact hinj i j (List.mem_map.2 ⟨_, mem_of_find hi, rfl⟩) (List.mem_map.2 ⟨_, mem_of_find hj, rfl⟩) hAi hAj (hr.inj _ _ _ _ b hi2 hj2 hbi hbj)

theorem turnOK_spec {V : Turn} {ks : List Nat} (h : turnOK V ks = true) : (∀ k, k < 8 → V.ρ k = k ∧ V.τ k = none ∧ V.A.contains k = false) ∧ ∀ k k', k ∈ ks → k' ∈ ks → V.A.contains k = false → V.A.contains k' = false → V.ρ k = V.ρ k' → k = k' := by
  simp only [turnOK, Bool.and_eq_true, List.all_eq_true, List.mem_range, Bool.or_eq_true, beq_iff_eq, bne_iff_ne, Bool.not_eq_true'] at h
  refine ⟨fun k hk => ?_, fun k k' hk hk' hA hA' e => ?_⟩
  · obtain ⟨⟨h1, h2⟩, h3⟩ := h.1 k hk
    exact ⟨h1, h2, h3⟩
  · rcases h.2 k hk with h1 | h1
    · rw [hA] at h1; cases h1
    · rcases h1 k' hk' with (h2 | h2) | h2
      · rw [hA'] at h2; cases h2
      · exact h2
      · exact absurd e h2

theorem since_view {S S0 : Nat → Nat → Prop} {φ φ0 : Nat → Nat → Option (Nat × Nat)} {V : Turn} {N : Nat} (h8 : ∀ k, k < 8 → V.ρ k = k ∧ V.τ k = none ∧ V.A.contains k = false) (hN : 8 ≤ N) (h : Since S0 φ0 S φ) : Since S0 φ0 (V.S S N) (V.φ φ) := by
  refine ⟨fun k v hs => ?_, fun k v hs hk => ?_, h.zero⟩
  · have hk := h.zero k v hs
    obtain ⟨e1, e2, e3⟩ := h8 k hk
    obtain ⟨g1, g2⟩ := h.keep k v hs
    simp only [Turn.S, Turn.φ, e1, e2, e3, Bool.false_eq_true, if_false]
    exact ⟨⟨by omega, g1⟩, g2⟩
  · obtain ⟨e1, e2, e3⟩ := h8 k hk
    simp only [Turn.S, e1, e2, e3, Bool.false_eq_true, if_false] at hs
    exact h.low k v hs.2 hk

/-- A state told otherwise. -/
theorem Sub.view {n : Nat} {s t : St} (V : Turn) (hN : 8 ≤ t.next) (hok : turnOK V (t.heap.map (·.1)) = true) (hh : viewH V s (keptOf V t) t.next t.heap) (ht : viewT V s (keptOf V t) t.next t.tmps) : Sub n s t := by
  intro E S0 φ0 a w hs
  obtain ⟨h1, h2, φ, S, h3, h4, h5⟩ := hs
  obtain ⟨q1, q2⟩ := turnOK_spec hok
  exact ⟨h1, hN, V.φ φ, V.S S t.next, view_run V h3 q2 hh ht, fun k v hv => hv.1, since_view q1 hN h5⟩

end Go.Proofs.Ytdodgbhodkcckaa.Pv
end

section
/- A function's contract out of its body. No program is in sight here. -/
set_option linter.unusedVariables false
set_option linter.unusedSectionVars false
set_option linter.unusedSimpArgs false
set_option autoImplicit false
namespace Go.Proofs.Ytdodgbhodkcckaa.Pv
open Go Go.RowKit

/-- What a function hands back, one by one. -/
def resL (T : Nat → Option TI) (st : St) : List ResultVar → Option (List PVal × Prop)
  | [] => some ([], True)
  | r :: rs => match (match r with
      | .tmp t => some (st.evs (.tmp t), st.gds [.tmp t])
      | .cell a t => (loadP T st t (st.evs (.tmp a))).map fun p => (p, st.gds [.tmp a])), resL T st rs with
    | some (p, g), some (ps, gs) => some (p :: ps, g ∧ gs)
    | _, _ => none
def resP : List PVal → PVal
  | [p] => p
  | ps => .tup ps

def St.start (args : List PVal) (h : List (Nat × PObj)) : St := ⟨(List.range args.length).zip args, h, 8⟩

/-- The end of a body: what is handed back is r, with the objects h'. -/
def Fin (T : Nat → Option TI) (rs : List ResultVar) (r : PVal) (h' : List (Nat × PObj)) (e : Exit) (st : St) : Prop := (e = .normal ∨ e = .ret) ∧ match resL T st rs with
  | some (ps, g) => g ∧ ∃ V : Turn, turnOK V (h'.map (·.1)) = true ∧ viewH V { st with tmps := [(0, resP ps)] } (keptOf V ⟨[(0, r)], h', 12⟩) 12 h' ∧ viewP V st.heap (keptOf V ⟨[(0, r)], h', 12⟩) 12 (resP ps) r
  | none => False

section
variable {P : Program} {T : Nat → Option TI} {eqt : Nat → Option (List CK)} (hk : Kit P T eqt) {E : Env} {S : Nat → Nat → Prop} {φ : Nat → Nat → Option (Nat × Nat)} {st : St} {a : Act} {w : World}

include hk in
theorem resL_run (h : Rst E S φ st a w) : ∀ {rs : List ResultVar} {ps : List PVal} {g : Prop}, resL T st rs = some (ps, g) → g →
    ∃ cs : List Value, (rs.mapM fun | ResultVar.tmp t => (pure (a.tmps.getD t undef) : Sem Value) | .cell ad t => do loadVar t (← asAddr (a.tmps.getD ad undef))).run P w = .ok cs w ∧ undL S ps ∧ PRepL w (Held E φ st.heap) φ ps cs
  | [], ps, g, hr, hg => by
    simp only [resL, Option.some.injEq, Prod.mk.injEq] at hr
    obtain ⟨rfl, rfl⟩ := hr
    exact ⟨[], by simp, by simp only [undL], by simp only [PRepL]⟩
  | r :: rs, ps, g, hr, hg => by
    simp only [resL] at hr
    split at hr
    · rename_i p g1 ps' g2 e1 e2
      simp only [Option.some.injEq, Prod.mk.injEq] at hr
      obtain ⟨rfl, rfl⟩ := hr
      obtain ⟨cs, h1, h2, h3⟩ := resL_run h e2 hg.2
      have one : ∃ c, (match r with | ResultVar.tmp t => (pure (a.tmps.getD t undef) : Sem Value) | .cell ad t => do loadVar t (← asAddr (a.tmps.getD ad undef))).run P w = .ok c w ∧ p.und S ∧ PRep w (Held E φ st.heap) φ p c := by
        cases r with
        | tmp t =>
          simp only [Option.some.injEq, Prod.mk.injEq] at e1
          obtain ⟨rfl, rfl⟩ := e1
          have := h.evs (.tmp t) (gds_mem hg.1 _ (by simp))
          exact ⟨_, by simp [Act.eval], this.1, this.2⟩
        | cell ad t =>
          obtain ⟨p', q1, q2⟩ := Option.map_eq_some_iff.1 e1
          simp only [Prod.mk.injEq] at q2
          obtain ⟨rfl, rfl⟩ := q2
          have := h.evs (.tmp ad) (gds_mem hg.1 _ (by simp))
          obtain ⟨v, r1, r2, r3⟩ := loadP_run hk h.objsOK q1 this.2
          refine ⟨v, ?_, r2, r3⟩
          have hp : ∃ b, a.tmps.getD ad undef = .pointer (some b) := by
            unfold loadP at q1
            have h2 := this.2
            simp only [Act.eval] at h2
            split at q1
            · cases q1
            · split at q1
              · split at q1
                · rename_i id k he; rw [he] at h2; simp only [PRep] at h2; obtain ⟨b, _, _, e⟩ := h2; exact ⟨_, e⟩
                · rename_i id ver s i k he; rw [he] at h2; simp only [PRep] at h2; obtain ⟨b, _, _, e⟩ := h2; exact ⟨_, e⟩
                · rename_i cells he; rw [he] at h2; simp only [PRep, DRep] at h2; obtain ⟨b, _, _, e, _⟩ := h2; exact ⟨_, e⟩
                · cases q1
              · cases q1
          obtain ⟨b, hb⟩ := hp
          simp only [Act.eval, hb, Instr.loadAt, Instr.sureAddr] at r1
          simp only [hb, asAddr]
          simpa using r1
      obtain ⟨c, q1, q2, q3⟩ := one
      refine ⟨c :: cs, ?_, by simp only [undL]; exact ⟨q2, h2⟩, by simp only [PRepL]; exact ⟨c, cs, rfl, q3, h3⟩⟩
      rw [List.mapM_cons, Sem.run_bind, q1]
      simp only [Result.andThen_ok]
      rw [Sem.run_bind, h1]
      simp
    · cases hr

theorem start_find {args : List PVal} {t : Nat} {p : PVal} : ∀ {k : Nat} {l : List PVal}, find t ((List.range' k l.length).zip l) = some p → ∃ i, t = k + i ∧ l[i]? = some p
  | k, [], h => by simp [find] at h
  | k, x :: l, h => by
    simp only [List.length_cons, List.range'_succ, List.zip_cons_cons, find] at h
    split at h
    · rename_i e; cases h; exact ⟨0, by omega, rfl⟩
    · obtain ⟨i, h1, h2⟩ := start_find (args := args) h
      exact ⟨i + 1, by omega, by simpa using h2⟩

include hk in
/-- A function does what its body is shown to do. -/
theorem Runs.of {f : FuncId} {fn : Func} {c : Code} {args : List PVal} {h : List (Nat × PObj)} {r : PVal} {h' : List (Nat × PObj)} (hf : P.funcs[f]? = some fn) (hn : (fn.name == "runtime.NumGoroutine") = false) (hb : fn.body = some c) (hl : args.length ≤ fn.ntmps)
    (hw : Pwp P fn.ntmps c (Fin T fn.results.toList r h') (.start args h)) : Runs P f args h r h' := by
  refine ⟨⟨fn, hf, hn, by rw [hb]; rfl⟩, ?_⟩
  intro E S φ cs hpass hS hr hu hx
  refine calls_of_wp hf hb ?_
  have hcl := hx.length
  have h0 : Holds fn.ntmps E S φ (.start args h) { tmps := cs.toArray ++ Array.replicate (fn.ntmps - cs.toArray.size) undef, defers := [] } E.w0 := by
    refine ⟨by simp; omega, Nat.le_refl _, φ, S, ?_, fun k v hs => hS k v hs, ⟨fun k v hs => ⟨hs, rfl⟩, fun k v hs _ => ⟨v, hs⟩, hS⟩⟩
    refine { hr with defers := rfl, tmps := ?_ }
    intro t p ht
    simp only [St.start] at ht ⊢
    rw [List.range_eq_range'] at ht
    obtain ⟨i, rfl, hi⟩ := start_find (args := []) ht
    refine ⟨undL_get hu hi, ?_⟩
    obtain ⟨v, h1, h2⟩ := hx.get hi
    have : (cs.toArray ++ Array.replicate (fn.ntmps - cs.toArray.size) undef).getD (0 + i) undef = v := by
      have hil := (List.getElem?_eq_some_iff.1 h1).1
      rw [Array.getD_eq_getD_getElem?, Nat.zero_add, Array.getElem?_append_left (by simpa using hil)]
      simp [h1]
    show PRep E.w0 (Held E φ h) φ p ((cs.toArray ++ Array.replicate (fn.ntmps - cs.toArray.size) undef).getD (0 + i) undef)
    rw [this]; exact h2
  refine wp_mono (hw E S φ _ _ h0) ?_
  rintro e a w ⟨s, ⟨g1, g2, φ1, S1, g3, g4, g5⟩, he, hfin⟩
  have key : ∃ v, (results fn a.tmps).run P w = .ok v w ∧ ∃ φ' S', Rst E S' φ' (.only h') Act.none w ∧ (∀ k v, S' k v → (∃ v', S k v') ∨ (8 ≤ k ∧ k < 12)) ∧ (∀ k v, S k v → S' k v ∧ φ' k v = φ k v) ∧ r.und S' ∧ PRep w (Held E φ' h') φ' r v := by
    split at hfin
    · rename_i ps g hres
      obtain ⟨hg, V, v1, v2, v3⟩ := hfin
      obtain ⟨cs', q1, q2, q3⟩ := resL_run hk g3 hres hg
      have hrun : (results fn a.tmps).run P w = .ok (if h : cs'.toArray.size = 1 then cs'.toArray[0] else .tuple cs'.toArray) w := by
        unfold results
        rw [Array.mapM_eq_mapM_toList]
        simp only [Sem.run_bind, Sem.run_map, Sem.run_pure]
        exact (congrArg (fun z => Result.andThen (Result.andThen z fun a w' => .ok a.toArray w') fun a w' => .ok (if h : a.size = 1 then a[0] else .tuple a) w') q1)
      have hp : (resP ps).und S1 ∧ PRep w (Held E φ1 s.heap) φ1 (resP ps) (if h : cs'.toArray.size = 1 then cs'.toArray[0] else .tuple cs'.toArray) := by
        have hlen := q3.length
        match ps, q2, q3, hlen with
        | [], q2, q3, hlen =>
          simp only [PRepL] at q3; subst q3
          simp [resP, PVal.und, PRep, undL, PRepL]
        | [p], q2, q3, hlen =>
          simp only [PRepL, undL] at q2 q3
          obtain ⟨c', cs'', rfl, q4, rfl⟩ := q3
          simp only [resP]
          exact ⟨q2.1, by simpa using q4⟩
        | p :: p' :: ps, q2, q3, hlen =>
          have : ¬ cs'.toArray.size = 1 := by simp at hlen ⊢; omega
          rw [dif_neg this]
          simp only [resP, PVal.und, PRep]
          exact ⟨q2, cs', rfl, q3⟩
      refine ⟨_, hrun, ?_⟩
      have hs : Rst E S1 φ1 { s with tmps := [(0, resP ps)] } ⟨#[if h : cs'.toArray.size = 1 then cs'.toArray[0] else .tuple cs'.toArray], []⟩ w := by
        refine { g3 with defers := rfl, tmps := ?_ }
        intro t p ht
        simp only [find] at ht
        split at ht
        · rename_i e; subst e; cases ht; exact ⟨hp.1, by simpa using hp.2⟩
        · cases ht
      obtain ⟨t1, t2⟩ := turnOK_spec v1
      have hv := view_run (t := ⟨[(0, r)], h', 12⟩) V hs t2 v2 (by
        simp only [viewT, and_true]
        have : ({ s with tmps := [(0, resP ps)] } : St).ev (.tmp 0) = resP ps := by simp [St.ev, find]
        rw [this]; exact v3)
      have hsince := since_view (N := 12) t1 (by omega) g5
      have hr0 := hv.tmps 0 r (by simp [find])
      refine ⟨V.φ φ1, V.S S1 12, ?_, ?_, hsince.keep, hr0.1, by simpa using hr0.2⟩
      · exact { hv with defers := rfl, tmps := fun t p ht => by simp [St.only, find] at ht }
      · intro k v hs
        by_cases h8 : k < 8
        · exact .inl (hsince.low k v hs h8)
        · exact .inr ⟨by omega, hs.1⟩
    · exact hfin.elim
  obtain ⟨v, k1, φ', S', k2, k3, k4, k5, k6⟩ := key
  have hd := g3.defers
  rcases he with rfl | rfl
  · exact ⟨hd, v, k1, v, φ', S', rfl, k2, k3, k4, k5, k6⟩
  · exact ⟨hd, v, k1, v, φ', S', rfl, k2, k3, k4, k5, k6⟩
end

end Go.Proofs.Ytdodgbhodkcckaa.Pv
end

section
/- Types by the program's own table: the kit of what is used of them. No program is in sight here. -/
set_option linter.unusedVariables false
set_option linter.unusedSectionVars false
set_option linter.unusedSimpArgs false
set_option autoImplicit false
namespace Go.Proofs.Ytdodgbhodkcckaa.Pv
open Go Go.RowKit

def fieldsFrom (P : Program) : List Field → Option (List (Nat × Nat × Bool))
  | [] => some []
  | f :: fs => match P.info? f.type, P.underlying f.type, fieldsFrom P fs with
    | some i, some _, some l => some ((f.offset, i.size, aggOf P f.type) :: l)
    | _, _, _ => none

def kindFrom (P : Program) (t : Nat) : TK := match P.underlying t with
  | some (.int k) => .int k
  | some .bool => .bool
  | some .string => .string
  | some (.struct fs) => (match fieldsFrom P fs.toList with
    | some l => .struct l
    | none => .other)
  | some (.array n e) => .array n e
  | some (.slice e) => .slice e
  | some (.pointer e) => .ptr e
  | some (.map k e) => .map k e
  | some (.func _ _ _) => .func
  | some (.interface _) => .iface
  | _ => .other

/-- What is used of a type. -/
def tiOf (P : Program) (t : Nat) : Option TI := match P.info? t with
  | some f => (match f.zero with
    | some z => if z.cells.size = f.size then some ⟨kindFrom P t, f.size, f.bytes, z⟩ else none
    | none => none)
  | none => none

theorem fieldsFrom_ok {P : Program} : ∀ {gs : List Field} {l : List (Nat × Nat × Bool)}, fieldsFrom P gs = some l → FieldsOK P l gs
  | [], l, h => by simp only [fieldsFrom, Option.some.injEq] at h; subst h; simp [FieldsOK]
  | g :: gs, l, h => by
    simp only [fieldsFrom] at h
    split at h
    · rename_i i u l' h1 h2 h3
      simp only [Option.some.injEq] at h; subst h
      simp only [FieldsOK]
      refine ⟨trivial, by rw [h1]; rfl, by rw [h2]; rfl, trivial, fieldsFrom_ok h3⟩
    · cases h

theorem kindFrom_ok (P : Program) (t : Nat) : DescOK P t (kindFrom P t) := by
  unfold kindFrom
  split <;> rename_i hu <;> first
    | exact hu
    | (simp only [DescOK]; exact ⟨_, _, _, hu⟩)
    | (simp only [DescOK]; exact ⟨_, hu⟩)
    | trivial
    | skip
  split
  · rename_i l hl
    exact ⟨_, hu, fieldsFrom_ok hl⟩
  · trivial

theorem tiOf_ok (P : Program) : TbOK P (tiOf P) := by
  intro t i h
  unfold tiOf at h
  split at h
  · rename_i f hf
    split at h
    · rename_i z hz
      split at h
      · rename_i hs
        simp only [Option.some.injEq] at h; subst h
        exact ⟨⟨f, hf, rfl, rfl, hz⟩, hs, kindFrom_ok P t⟩
      · cases h
    · cases h
  · cases h

def eqFieldsK (P : Program) (g : Nat → Option (List CK)) : Nat → List Field → Option (List CK)
  | _, [] => some []
  | off, f :: fs => if f.name = "_" ∨ f.offset ≠ off then none else match g f.type, P.info? f.type with
    | some ks, some i => if ks.length = i.size ∧ 0 < i.size ∧ (aggOf P f.type = true ∨ ks.length = 1) then (eqFieldsK P g (off + ks.length) fs).map (ks ++ ·) else none
    | _, _ => none

/-- What the cells of a type hold that is compared cell by cell. -/
def eqCells (P : Program) : Nat → Nat → Option (List CK)
  | 0, _ => none
  | d + 1, t => match P.underlying t with
    | some (.int _) => some [.int]
    | some .bool => some [.bool]
    | some .string => some [.str]
    | some (.struct fs) => if P.stoodInHeld t = false ∧ P.eqGuardType P.depth t = false then eqFieldsK P (eqCells P d) 0 fs.toList else none
    | some (.array n e) => if P.eqGuardType P.depth t = false then (match eqCells P d e, P.info? e with
      | some ks, some i => if ks.length = i.size ∧ 0 < i.size ∧ (aggOf P e = true ∨ ks.length = 1) then some (List.replicate n ks).flatten else none
      | _, _ => none) else none
    | _ => none

/-- Cells as a value of a type. -/
def cellsVal (P : Program) (t : Nat) (xs : List Value) : Value := if aggOf P t = true then .agg xs.toArray else xs.headD undef

theorem cellsEq_cons {k : CK} {ks : List CK} {a b : D} {as bs : List D} {r : Bool} (h : cellsEq (k :: ks) (a :: as) (b :: bs) = some r) : ∃ x y, cellEq k a b = some x ∧ cellsEq ks as bs = some y ∧ r = (x && y) := by
  unfold cellsEq at h
  split at h
  · rename_i h1 h2 h3; cases h1
  · rename_i h1 h2 h3
    simp only [List.cons.injEq] at h1 h2 h3
    obtain ⟨rfl, rfl⟩ := h1
    obtain ⟨rfl, rfl⟩ := h2
    obtain ⟨rfl, rfl⟩ := h3
    exact ⟨r, true, h, rfl, by simp⟩
  · rename_i h1 h2 h3
    simp only [List.cons.injEq] at h1 h2 h3
    obtain ⟨rfl, rfl⟩ := h1
    obtain ⟨rfl, rfl⟩ := h2
    obtain ⟨rfl, rfl⟩ := h3
    split at h
    · rename_i x y hx hy
      simp only [Option.some.injEq] at h
      exact ⟨x, y, hx, hy, h.symm⟩
    · cases h
  · cases h

theorem cellsEq_length : ∀ {ks : List CK} {as bs : List D} {r : Bool}, cellsEq ks as bs = some r → as.length = ks.length ∧ bs.length = ks.length
  | [], [], [], r, _ => ⟨rfl, rfl⟩
  | [], a :: as, bs, r, h => by simp [cellsEq] at h
  | [], [], b :: bs, r, h => by simp [cellsEq] at h
  | k :: ks, [], bs, r, h => by simp [cellsEq] at h
  | k :: ks, a :: as, [], r, h => by simp [cellsEq] at h
  | k :: ks, a :: as, b :: bs, r, h => by
    obtain ⟨x, y, _, h2, _⟩ := cellsEq_cons h
    have := cellsEq_length h2
    simp [this.1, this.2]

theorem cellsEq_append : ∀ {ks ls : List CK} {as bs : List D} {r : Bool}, cellsEq (ks ++ ls) as bs = some r →
    ∃ x y, cellsEq ks (as.take ks.length) (bs.take ks.length) = some x ∧ cellsEq ls (as.drop ks.length) (bs.drop ks.length) = some y ∧ r = (x && y)
  | [], ls, as, bs, r, h => ⟨true, r, by simp [cellsEq], by simpa using h, by simp⟩
  | k :: ks, ls, as, bs, r, h => by
    have hl := cellsEq_length h
    cases as with
    | nil => simp at hl
    | cons a as =>
      cases bs with
      | nil => simp at hl
      | cons b bs =>
        obtain ⟨x, y, h1, h2, rfl⟩ := cellsEq_cons (show cellsEq (k :: (ks ++ ls)) (a :: as) (b :: bs) = some r from h)
        obtain ⟨x', y', h3, h4, rfl⟩ := cellsEq_append h2
        refine ⟨x && x', y', ?_, by simpa using h4, by rw [Bool.and_assoc]⟩
        simp only [List.length_cons, List.take_succ_cons]
        have hl3 := cellsEq_length h3
        cases hks : ks with
        | nil =>
          subst hks
          simp only [List.length_nil, List.take_zero] at h3 ⊢
          simp only [cellsEq] at h3 ⊢
          rw [h1]
          simp only [Option.some.injEq] at h3
          subst h3; simp
        | cons k2 ks2 =>
          rw [← hks]
          cases hta : as.take ks.length with
          | nil => rw [hta, hks] at hl3; simp at hl3
          | cons a2 as2 =>
            cases htb : bs.take ks.length with
            | nil => rw [htb, hks] at hl3; simp at hl3
            | cons b2 bs2 =>
              rw [hta, htb] at h3
              rw [hks] at h3 ⊢
              simp only [cellsEq, h1]
              rw [h3]

theorem part_run {P : Program} {t : Nat} {i : TypeInfo} (hu : (P.underlying t).isSome = true) (hi : P.info? t = some i) (xs : List Value) (off : Nat) (hl : off + i.size ≤ xs.length) (h1 : aggOf P t = true ∨ i.size = 1) (w : World) :
    (part t xs.toArray off).run P w = .ok (cellsVal P t ((xs.drop off).take i.size)) w := by
  have hag := run_isAgg_of (P := P) (t := t) (g := aggOf P t) hu rfl w
  cases ha : aggOf P t with
  | true =>
    rw [ha] at hag
    simp only [part, Sem.run_bind, hag, Result.andThen_ok, if_true, sizeOf, typeInfo, run_program, hi, Sem.run_pure, cellsVal, ha]
    congr 2
    apply Array.ext'
    simp only [Array.toList_extract, List.extract_eq_take_drop]
    congr 1
    omega
  | false =>
    have hs : i.size = 1 := h1.resolve_left (by rw [ha]; simp)
    rw [ha] at hag
    have hlt : off < xs.length := by omega
    simp only [part, Sem.run_bind, hag, Result.andThen_ok, Bool.false_eq_true, if_false, cellsVal, ha]
    have e1 : xs.toArray[off]? = some xs[off] := by simp [hlt]
    rw [e1]
    rw [hs, List.drop_eq_getElem_cons hlt]
    rfl

theorem underlying_eqCells {P : Program} {d t : Nat} {ks : List CK} (h : eqCells P d t = some ks) : (P.underlying t).isSome = true := by
  cases d with
  | zero => simp [eqCells] at h
  | succ d =>
    simp only [eqCells] at h
    cases hu : P.underlying t with
    | none => rw [hu] at h; simp at h
    | some x => rfl

theorem cellEq_int {x y : Value} {r : Bool} (h : cellEq .int (.v x) (.v y) = some r) : ∃ k a b, x = .int k a ∧ y = .int k b ∧ r = (a == b) := by
  cases x <;> (try (simp [cellEq] at h; done))
  cases y <;> (try (simp [cellEq] at h; done))
  simp only [cellEq] at h
  split at h
  · rename_i e; subst e; cases h; exact ⟨_, _, _, rfl, rfl, rfl⟩
  · cases h
theorem cellEq_bool {x y : Value} {r : Bool} (h : cellEq .bool (.v x) (.v y) = some r) : ∃ a b, x = .bool a ∧ y = .bool b ∧ r = (a == b) := by
  cases x <;> (try (simp [cellEq] at h; done))
  cases y <;> (try (simp [cellEq] at h; done))
  simp only [cellEq, Option.some.injEq] at h
  exact ⟨_, _, rfl, rfl, h.symm⟩
theorem cellEq_str {x y : Value} {r : Bool} (h : cellEq .str (.v x) (.v y) = some r) : ∃ a b, x = .string a ∧ y = .string b ∧ r = (a.toList == b.toList) := by
  cases x <;> (try (simp [cellEq] at h; done))
  cases y <;> (try (simp [cellEq] at h; done))
  simp only [cellEq, Option.some.injEq] at h
  exact ⟨_, _, rfl, rfl, h.symm⟩

theorem eqFields_run {P : Program} {d : Nat} {g : Nat → Option (List CK)} (hu : ∀ t ks, g t = some ks → (P.underlying t).isSome = true)
    (hg : ∀ t ks, g t = some ks → ∀ (xs ys : List Value) (r : Bool), cellsEq ks (xs.map .v) (ys.map .v) = some r → ∀ w, (Op.equalIn d t (cellsVal P t xs) (cellsVal P t ys)).run P w = .ok r w) :
    ∀ (fs : List Field) (off : Nat) (ks : List CK), eqFieldsK P g off fs = some ks → ∀ (xs ys : List Value) (r : Bool), cellsEq ks ((xs.drop off).map .v) ((ys.drop off).map .v) = some r → ∀ w, (Op.eqFields d xs.toArray ys.toArray fs).run P w = .ok r w
  | [], off, ks, h, xs, ys, r, hr, w => by
    simp only [eqFieldsK, Option.some.injEq] at h; subst h
    have hl := cellsEq_length hr
    simp only [List.length_map, List.length_nil, List.length_drop] at hl
    have e1 : xs.drop off = [] := List.drop_eq_nil_of_le (by omega)
    have e2 : ys.drop off = [] := List.drop_eq_nil_of_le (by omega)
    rw [e1, e2] at hr
    simp only [List.map_nil, cellsEq, Option.some.injEq] at hr; subst hr
    simp [Op.eqFields]
  | f :: fs, off, ks, h, xs, ys, r, hr, w => by
    simp only [eqFieldsK] at h
    split at h
    · cases h
    · rename_i hno
      simp only [not_or, Decidable.not_not] at hno
      obtain ⟨hname, hoff⟩ := hno
      split at h
      · rename_i ks1 i hk1 hi
        split at h
        · rename_i hsz
          obtain ⟨hsz, hpos, hag⟩ := hsz
          obtain ⟨ks2, hk2, rfl⟩ := Option.map_eq_some_iff.1 h
          have hl := cellsEq_length hr
          obtain ⟨x, y, g1, g2, rfl⟩ := cellsEq_append hr
          simp only [List.length_map, List.length_append, List.length_drop] at hl
          rw [← List.map_take, ← List.map_take] at g1
          rw [← List.map_drop, ← List.map_drop, List.drop_drop, List.drop_drop] at g2
          have p1 := part_run (hu _ _ hk1) hi xs off (by omega) (hag.imp id fun h => by omega) w
          have p2 := part_run (hu _ _ hk1) hi ys off (by omega) (hag.imp id fun h => by omega) w
          rw [hsz] at g1
          have q := hg f.type ks1 hk1 _ _ x g1 w
          simp only [Op.eqFields, if_pos hname, hoff, Sem.run_bind, p1, p2, q, Result.andThen_ok, Sem.run_ite]
          cases x with
          | false => simp
          | true =>
            simp only [Bool.not_true, Bool.false_eq_true, if_false, Bool.true_and]
            exact eqFields_run hu hg fs (off + ks1.length) ks2 hk2 xs ys y g2 w
        · cases h
      · cases h

theorem eqItems_run {P : Program} {d e : Nat} {ks : List CK} {i : TypeInfo} (hu : (P.underlying e).isSome = true) (hi : P.info? e = some i) (hs : ks.length = i.size) (hpos : 0 < i.size) (hag : aggOf P e = true ∨ ks.length = 1)
    (hg : ∀ (xs ys : List Value) (r : Bool), cellsEq ks (xs.map .v) (ys.map .v) = some r → ∀ w, (Op.equalIn d e (cellsVal P e xs) (cellsVal P e ys)).run P w = .ok r w) :
    ∀ (m j : Nat) (xs ys : List Value) (r : Bool), cellsEq (List.replicate m ks).flatten ((xs.drop (j * i.size)).map .v) ((ys.drop (j * i.size)).map .v) = some r → ∀ w, (Op.eqItems d e (P.cellsOf e) xs.toArray ys.toArray (List.range' j m)).run P w = .ok r w
  | 0, j, xs, ys, r, hr, w => by
    have hl := cellsEq_length hr
    simp only [List.length_map, List.replicate_zero, List.flatten_nil, List.length_nil, List.length_drop] at hl
    have e1 : xs.drop (j * i.size) = [] := List.drop_eq_nil_of_le (by omega)
    have e2 : ys.drop (j * i.size) = [] := List.drop_eq_nil_of_le (by omega)
    rw [e1, e2] at hr
    simp only [List.map_nil, List.replicate_zero, List.flatten_nil, cellsEq, Option.some.injEq] at hr; subst hr
    simp [Op.eqItems]
  | m + 1, j, xs, ys, r, hr, w => by
    rw [List.replicate_succ, List.flatten_cons] at hr
    have hl := cellsEq_length hr
    obtain ⟨x, y, g1, g2, rfl⟩ := cellsEq_append hr
    simp only [List.length_map, List.length_append, List.length_drop] at hl
    rw [← List.map_take, ← List.map_take] at g1
    rw [← List.map_drop, ← List.map_drop, List.drop_drop, List.drop_drop, hs, ← Nat.succ_mul] at g2
    have hc : P.cellsOf e = i.size := by simp [Program.cellsOf, hi]
    have p1 := part_run hu hi xs (j * i.size) (by omega) (hag.imp id fun h => by omega) w
    have p2 := part_run hu hi ys (j * i.size) (by omega) (hag.imp id fun h => by omega) w
    rw [hs] at g1
    have q := hg _ _ x g1 w
    rw [List.range'_succ]
    simp only [Op.eqItems, hc, Sem.run_bind, p1, p2, q, Result.andThen_ok, Sem.run_ite]
    cases x with
    | false => simp
    | true =>
      simp only [Bool.not_true, Bool.false_eq_true, if_false, Bool.true_and]
      have := eqItems_run hu hi hs hpos hag hg m (j + 1) xs ys y g2 w
      rwa [hc] at this

theorem eqCells_run {P : Program} (e : Nat) : ∀ (d t : Nat) (ks : List CK), eqCells P d t = some ks → ∀ (xs ys : List Value) (r : Bool), cellsEq ks (xs.map .v) (ys.map .v) = some r → ∀ w, (Op.equalIn (d + e) t (cellsVal P t xs) (cellsVal P t ys)).run P w = .ok r w
  | 0, t, ks, h, _, _, _, _, _ => by simp [eqCells] at h
  | d + 1, t, ks, h, xs, ys, r, hr, w => by
    have hlen := cellsEq_length hr
    simp only [List.length_map] at hlen
    rw [show d + 1 + e = (d + e) + 1 by omega]
    simp only [eqCells] at h
    split at h
    · rename_i k hu
      cases h
      simp only [List.length_cons, List.length_nil] at hlen
      match xs, ys, hlen, hr with
      | [x], [y], _, hr =>
        obtain ⟨k1, a, b, rfl, rfl, rfl⟩ := cellEq_int hr
        simp only [cellsVal, aggOf, hu, Bool.false_eq_true, if_false, List.headD_cons]
        exact run_equalIn_int w _ t k1 k _ _ hu
    · rename_i hu
      cases h
      simp only [List.length_cons, List.length_nil] at hlen
      match xs, ys, hlen, hr with
      | [x], [y], _, hr =>
        obtain ⟨a, b, rfl, rfl, rfl⟩ := cellEq_bool hr
        simp only [cellsVal, aggOf, hu, Bool.false_eq_true, if_false, List.headD_cons]
        exact run_equalIn_bool w _ t _ _ hu
    · rename_i hu
      cases h
      simp only [List.length_cons, List.length_nil] at hlen
      match xs, ys, hlen, hr with
      | [x], [y], _, hr =>
        obtain ⟨a, b, rfl, rfl, rfl⟩ := cellEq_str hr
        simp only [cellsVal, aggOf, hu, Bool.false_eq_true, if_false, List.headD_cons]
        exact run_equalIn_string w _ t _ _ hu
    · rename_i fs hu
      split at h
      · rename_i hc
        have hag : aggOf P t = true := by simp [aggOf, hu]
        simp only [cellsVal, hag, if_true]
        have hfo : P.fieldsOf t = fs := by simp [Program.fieldsOf, hu]
        rw [run_equalIn_struct w _ t _ _ (by rw [hfo]; exact hu) hc.1, hfo]
        exact eqFields_run (fun t ks h => underlying_eqCells h) (fun t ks h xs ys r hr w => eqCells_run e d t ks h xs ys r hr w) fs.toList 0 ks h xs ys r (by simpa using hr) w
      · cases h
    · rename_i n el hu
      split at h
      · split at h
        · rename_i ks1 i hk1 hi
          split at h
          · rename_i hsz
            simp only [Option.some.injEq] at h; subst h
            have hag : aggOf P t = true := by simp [aggOf, hu]
            simp only [cellsVal, hag, if_true]
            rw [run_equalIn_array w _ _ _ hu hi, List.range_eq_range']
            exact eqItems_run (underlying_eqCells hk1) hi hsz.1 hsz.2.1 hsz.2.2 (fun xs ys r hr w => eqCells_run e d el ks1 hk1 xs ys r hr w) n 0 xs ys r (by simpa using hr) w
          · cases h
        · cases h
      · cases h
    · cases h

theorem checkKey_run {P : Program} (em : Bool) (e : Nat) : ∀ (d t : Nat) (ks : List CK), eqCells P d t = some ks → ∀ (xs : List Value) (r : Bool), cellsEq ks (xs.map .v) (xs.map .v) = some r → ∀ w, (Instr.checkKey em (d + e) t (cellsVal P t xs)).run P w = .ok () w
  | 0, t, ks, h, _, _, _, _ => by simp [eqCells] at h
  | d + 1, t, ks, h, xs, r, hr, w => by
    have hlen := cellsEq_length hr
    simp only [List.length_map] at hlen
    rw [show d + 1 + e = (d + e) + 1 by omega]
    simp only [eqCells] at h
    split at h
    · rename_i k hu
      cases h
      match xs, hlen, hr with
      | [x], _, hr =>
        obtain ⟨k1, a, b, rfl, _, _⟩ := cellEq_int hr
        simp [cellsVal, aggOf, hu, Instr.checkKey, run_underlying hu]
    · rename_i hu
      cases h
      match xs, hlen, hr with
      | [x], _, hr =>
        obtain ⟨a, b, rfl, _, _⟩ := cellEq_bool hr
        simp [cellsVal, aggOf, hu, Instr.checkKey, run_underlying hu]
    · rename_i hu
      cases h
      match xs, hlen, hr with
      | [x], _, hr =>
        obtain ⟨a, b, rfl, _, _⟩ := cellEq_str hr
        simp [cellsVal, aggOf, hu, Instr.checkKey, run_underlying hu]
    · rename_i fs hu
      split at h
      · have hag : aggOf P t = true := by simp [aggOf, hu]
        simp only [cellsVal, hag, if_true]
        rw [Instr.checkKey]
        simp only [Sem.run_bind, run_underlying hu, Result.andThen_ok]
        rw [← Array.forIn_toList]
        have hr0 : cellsEq ks ((xs.drop 0).map .v) ((xs.drop 0).map .v) = some r := by simpa using hr
        clear hr hlen
        generalize 0 = off at h hr0
        generalize fs.toList = L at h
        induction L generalizing off ks r with
        | nil => simp
        | cons f L ih =>
          simp only [eqFieldsK] at h
          split at h
          · cases h
          · rename_i hno
            simp only [not_or, Decidable.not_not] at hno
            obtain ⟨hname, hoff⟩ := hno
            split at h
            · rename_i ks1 i hk1 hi
              split at h
              · rename_i hsz
                obtain ⟨hsz, hpos, hagf⟩ := hsz
                obtain ⟨ks2, hk2, rfl⟩ := Option.map_eq_some_iff.1 h
                have hl := cellsEq_length hr0
                obtain ⟨x, y, g1, g2, rfl⟩ := cellsEq_append hr0
                simp only [List.length_map, List.length_append, List.length_drop] at hl
                rw [← List.map_take] at g1
                rw [← List.map_drop, List.drop_drop] at g2
                have p1 := part_run (underlying_eqCells hk1) hi xs off (by omega) (hagf.imp id fun h => by omega) w
                rw [hsz] at g1
                have q := checkKey_run em e d f.type ks1 hk1 _ x g1 w
                have hn : (f.name ≠ "_") := hname
                simp only [List.forIn_cons, Sem.run_bind, hn, ne_eq, not_false_eq_true, if_true, hoff, p1, q, Result.andThen_ok, Sem.run_pure]
                exact ih ks2 y (off + ks1.length) g2 hk2
              · cases h
            · cases h
      · cases h
    · rename_i n el hu
      split at h
      · split at h
        · rename_i ks1 i hk1 hi
          split at h
          · rename_i hsz
            simp only [Option.some.injEq] at h; subst h
            obtain ⟨hsz, hpos, hagf⟩ := hsz
            have hag : aggOf P t = true := by simp [aggOf, hu]
            simp only [cellsVal, hag, if_true]
            rw [Instr.checkKey]
            simp only [Sem.run_bind, run_underlying hu, Result.andThen_ok]
            simp only [Std.Legacy.Range.forIn_eq_forIn_range', Std.Legacy.Range.size, Nat.sub_zero, Nat.add_one_sub_one, Nat.div_one]
            have hr0 : cellsEq (List.replicate n ks1).flatten ((xs.drop (0 * i.size)).map .v) ((xs.drop (0 * i.size)).map .v) = some r := by simpa using hr
            clear hr hlen hu hag
            generalize 0 = j at hr0
            induction n generalizing j r with
            | zero => simp
            | succ n ih =>
              rw [List.replicate_succ, List.flatten_cons] at hr0
              have hl := cellsEq_length hr0
              obtain ⟨x, y, g1, g2, rfl⟩ := cellsEq_append hr0
              simp only [List.length_map, List.length_append, List.length_drop] at hl
              rw [← List.map_take] at g1
              rw [← List.map_drop, List.drop_drop, hsz, ← Nat.succ_mul] at g2
              have p1 := part_run (underlying_eqCells hk1) hi xs (j * i.size) (by omega) (hagf.imp id fun h => by omega) w
              rw [hsz] at g1
              have q := checkKey_run em e d el ks1 hk1 _ x g1 w
              have hso : (sizeOf el).run P w = .ok i.size w := by simp [sizeOf, typeInfo, hi]
              rw [List.range'_succ]
              simp only [List.forIn_cons, Sem.run_bind, hso, p1, q, Result.andThen_ok, Sem.run_pure]
              exact ih y (j + 1) g2
          · cases h
        · cases h
      · cases h
    · cases h

theorem keyOK_of {P : Program} {d t : Nat} {ks : List CK} (hd : d ≤ 10000) (hag : aggOf P t = true) (h : eqCells P d t = some ks) : KeyOK P t ks := by
  intro xs r hr w em
  have := checkKey_run em (10000 - d) d t ks h xs r hr w
  rw [show d + (10000 - d) = 10000 by omega] at this
  simpa only [cellsVal, hag, if_true] using this

theorem eqOK_of {P : Program} {d t : Nat} {ks : List CK} (hd : d ≤ 10000) (hag : aggOf P t = true) (h : eqCells P d t = some ks) : EqOK P t ks := by
  intro xs ys r hr w op x y
  have hg : P.eqGuardType P.depth t = false := by
    cases d with
    | zero => simp [eqCells] at h
    | succ d =>
      simp only [eqCells] at h
      split at h
      · rename_i hu; simp [aggOf, hu] at hag
      · rename_i hu; simp [aggOf, hu] at hag
      · rename_i hu; simp [aggOf, hu] at hag
      · split at h
        · rename_i hc; exact hc.2
        · cases h
      · split at h
        · rename_i hc; exact hc
        · cases h
      · cases h
  refine ⟨run_eqGuard_agg w op t x y _ _ hg, ?_⟩
  have := eqCells_run (10000 - d) d t ks h xs ys r hr w
  rw [show d + (10000 - d) = 10000 by omega] at this
  simpa only [cellsVal, hag, if_true] using this

/-- Which types are compared cell by cell. -/
def eqOf (P : Program) (t : Nat) : Option (List CK) := if aggOf P t = true then eqCells P 8 t else none

theorem kit (P : Program) : Kit P (tiOf P) (eqOf P) := by
  refine ⟨tiOf_ok P, ?_, ?_⟩
  · intro t ks h
    unfold eqOf at h
    split at h
    · rename_i hag; exact eqOK_of (by omega) hag h
    · cases h
  · intro t ks h
    unfold eqOf at h
    split at h
    · rename_i hag; exact keyOK_of (by omega) hag h
    · cases h

end Go.Proofs.Ytdodgbhodkcckaa.Pv
end

section
/- The arguments of a call, as the statements read them, are plain data. No program is in sight here. -/
set_option linter.unusedVariables false
set_option linter.unusedSimpArgs false
set_option linter.unusedSectionVars false
set_option autoImplicit false
namespace Go.Proofs.Ytdodgbhodkcckaa.Pv
open Go Go.RowKit Go.WideShapes

/-- What a cell is. -/
inductive CL where
  | bool | int (k : IntKind) | str | slc (agg : Bool) (cells : List CL)

/-- A value out of its cells. -/
def one (a : Bool) (ds : List D) : D := if a = true then .agg ds else ds.headD default

mutual
/-- Data as its kind says. -/
def okD : CL → D → Prop
  | .bool, d => ∃ b, d = .v (.bool b)
  | .int k, d => ∃ n, d = .v (.int k n) ∧ (Lit.int k n).wf = true
  | .str, d => ∃ s : ByteArray, d = .v (.string s) ∧ s.size ≤ maxLen
  | .slc a cl, d => ∃ els : List D, d = .slc cl.length els ∧ els.length ≤ maxLen ∧ ∀ el ∈ els, ∃ ds, el = one a ds ∧ okL cl ds
def okL : List CL → List D → Prop
  | [], ds => ds = []
  | c :: cl, ds => ∃ d ds', ds = d :: ds' ∧ okD c d ∧ okL cl ds'
end

theorem okL_append : ∀ {cl cl' : List CL} {ds ds' : List D}, okL cl ds → okL cl' ds' → okL (cl ++ cl') (ds ++ ds')
  | [], cl', ds, ds', h, h' => by simp only [okL] at h; subst h; simpa using h'
  | c :: cl, cl', ds, ds', h, h' => by
    simp only [okL] at h
    obtain ⟨d, ds1, rfl, h1, h2⟩ := h
    simp only [List.cons_append, okL]
    exact ⟨d, ds1 ++ ds', rfl, h1, okL_append h2 h'⟩
theorem okL_length : ∀ {cl : List CL} {ds : List D}, okL cl ds → ds.length = cl.length
  | [], ds, h => by simp only [okL] at h; subst h; rfl
  | c :: cl, ds, h => by
    simp only [okL] at h
    obtain ⟨d, ds1, rfl, h1, h2⟩ := h
    simp [okL_length h2]

/-- The fields of a record, one behind the other. -/
def layFs (L : TypeId → Option (Bool × List CL)) (size : TypeId → Nat) : Nat → List Field → Option (List CL)
  | _, [] => some []
  | o, f :: fs => match L f.type, layFs L size (o + size f.type) fs with
    | some (_, cl), some r => if f.offset = o ∧ size f.type = cl.length then some (cl ++ r) else none
    | _, _ => none

/-- What the cells of a type are. -/
def lay (P : Program) : Nat → TypeId → Option (Bool × List CL)
  | 0, _ => none
  | n + 1, t => match P.underlying t with
    | some .bool => some (false, [.bool])
    | some (.int k) => some (false, [.int k])
    | some .string => some (false, [.str])
    | some (.slice e) => match lay P n e with
      | some (a, cl) => if cl.length = P.cellsOf e ∧ cl.length ≠ 0 then some (false, [.slc a cl]) else none
      | none => none
    | some (.struct fs) => match layFs (lay P n) P.cellsOf 0 fs.toList with
      | some cl => if cl.length = P.cellsOf t then some (true, cl) else none
      | none => none
    | some (.array m e) => match lay P n e with
      | some (_, cl) => if cl.length = P.cellsOf e ∧ m * cl.length = P.cellsOf t then some (true, (List.replicate m cl).flatten) else none
      | none => none
    | _ => none

theorem lay_one {P : Program} : ∀ {n : Nat} {t : TypeId} {cl : List CL}, lay P n t = some (false, cl) → ∃ c, cl = [c]
  | 0, t, cl, h => by simp [lay] at h
  | n + 1, t, cl, h => by
    simp only [lay] at h
    split at h
    · simp at h; exact ⟨_, h.symm⟩
    · simp at h; exact ⟨_, h.symm⟩
    · simp at h; exact ⟨_, h.symm⟩
    · split at h
      · split at h
        · simp at h; exact ⟨_, h.symm⟩
        · cases h
      · cases h
    · split at h
      · split at h <;> simp at h
      · cases h
    · split at h
      · split at h <;> simp at h
      · cases h
    · cases h

theorem ok_cells {w : World} {O : Nat → Prop} {c : CL} {d : D} {v : Value} (h : okD c d) (hr : DRep w O d v) : v.cells = #[v] := by
  cases c with
  | bool => simp only [okD] at h; obtain ⟨b, rfl⟩ := h; simp only [DRep] at hr; subst hr; rfl
  | int k => simp only [okD] at h; obtain ⟨n, rfl, _⟩ := h; simp only [DRep] at hr; subst hr; rfl
  | str => simp only [okD] at h; obtain ⟨s, rfl, _⟩ := h; simp only [DRep] at hr; subst hr; rfl
  | slc a cl => simp only [okD] at h; obtain ⟨els, rfl, _⟩ := h; simp only [DRep] at hr; obtain ⟨ad, cap, rfl, _⟩ := hr; rfl

section
variable {H : Type} {enc : TypeId × Value → H} {P : Program} {w : World} {base : Nat} {sp : Nat → Bool} {held : Bool} {O : Nat → Prop}

theorem trod_array {t e : TypeId} {m fuel : Nat} {cs : List Value} {x : DataW H × List MemPlace} (ht : P.underlying t = some (.array m e)) (h : DataW.trod enc P w base sp held fuel t cs = some x) :
    ∃ n, cs.length = P.cellsOf t ∧ ∀ i, i < m → ∃ y, DataW.trod enc P w base sp held n e ((cs.drop (i * P.cellsOf e)).take (P.cellsOf e)) = some y := by
  cases fuel with
  | zero => simp [DataW.trod] at h
  | succ n =>
    unfold DataW.trod at h
    rw [ht] at h
    split at h <;> simp_all
    obtain ⟨hl, xs, hp, hd⟩ := h
    refine ⟨n, fun i hi => ?_⟩
    have h1 := mapM_some_get hp i i (by simp [hi])
    have h2 := mapM_some_length hp
    have hlt : i < xs.length := by simp at h2; omega
    rw [List.getElem?_eq_getElem hlt] at h1
    exact ⟨_, _, h1⟩

theorem cell_spot {a : Addr} {v : Value} (h : w.cell? a = some v) : a.spot = none := by
  unfold World.cell? at h
  split at h
  · split at h
    · cases h
    · rename_i hs; simpa using hs
  · cases h

theorem cells_at {b off n : Nat} {cs : List Value} (h : w.cells? base ⟨b, off, none⟩ n = some cs) : cs.length = n ∧ CellsAt w b off cs := by
  unfold World.cells? at h
  split at h
  · have h2 := mapM_some_length h
    have hl : cs.length = n := by simpa using h2
    refine ⟨hl, fun j hj => ?_⟩
    have h1 := mapM_some_get h j j (List.getElem?_range (by omega))
    rw [List.getElem?_eq_getElem hj] at h1
    rw [← h1, addr_add]
  · cases h

/-- What the statements read is plain data. -/
theorem trod_rep (hO : ∀ b, ¬ O b) : ∀ (n : Nat) (t : TypeId) (a : Bool) (cl : List CL), lay P n t = some (a, cl) → ∀ (fuel : Nat) (cs : List Value) (x : DataW H × List MemPlace), DataW.trod enc P w base sp held fuel t cs = some x → ∃ ds, okL cl ds ∧ DRepL w O ds cs
  | 0, t, a, cl, h, _, _, _, _ => by simp [lay] at h
  | n + 1, t, a, cl, h, fuel, cs, x, hx => by
    have IH := trod_rep hO n
    simp only [lay] at h
    split at h
    · rename_i hu
      simp at h; obtain ⟨_, rfl⟩ := h
      obtain ⟨b, rfl, _⟩ := DataW.trod_bool hu hx
      refine ⟨[.v (.bool b)], ?_, ?_⟩
      · simp only [okL, okD]; exact ⟨_, _, rfl, ⟨b, rfl⟩, rfl⟩
      · simp only [DRepL, DRep]; exact ⟨_, _, rfl, rfl, rfl⟩
    · rename_i k hu
      simp at h; obtain ⟨_, rfl⟩ := h
      obtain ⟨b, rfl, _, hw⟩ := DataW.trod_int hu hx
      refine ⟨[.v (.int k b)], ?_, ?_⟩
      · simp only [okL, okD]; exact ⟨_, _, rfl, ⟨b, rfl, hw⟩, rfl⟩
      · simp only [DRepL, DRep]; exact ⟨_, _, rfl, rfl, rfl⟩
    · rename_i hu
      simp at h; obtain ⟨_, rfl⟩ := h
      obtain ⟨b, rfl, _, hw⟩ := DataW.trod_string hu hx
      refine ⟨[.v (.string b)], ?_, ?_⟩
      · simp only [okL, okD]; exact ⟨_, _, rfl, ⟨b, rfl, hw⟩, rfl⟩
      · simp only [DRepL, DRep]; exact ⟨_, _, rfl, rfl, rfl⟩
    · rename_i e hu
      split at h
      · rename_i a' cl' hl
        split at h
        · rename_i hc
          simp at h; obtain ⟨_, rfl⟩ := h
          rcases DataW.trod_slice hu hx with ⟨rfl, _⟩ | ⟨ad, len, cap, elems, rest, m, _, rfl, _, _, hle, hcap, hel, hall, _, _⟩
          · refine ⟨[.slc cl'.length []], ?_, ?_⟩
            · simp only [okL, okD]; exact ⟨_, _, rfl, ⟨[], rfl, by simp, by simp⟩, rfl⟩
            · simp only [DRepL, DRep]; exact ⟨_, _, rfl, ⟨none, 0, rfl, by simp, .inl trivial⟩, rfl⟩
          · have each : ∀ i, ∃ ds : List D, i < len → okL cl' ds ∧ ∃ cs', w.cells? base (ad.add (i * P.cellsOf e)) (P.cellsOf e) = some cs' ∧ DRepL w O ds cs' := by
              intro i
              by_cases hi : i < len
              · have h1 := hall i hi
                rw [List.getElem?_eq_getElem (by omega)] at h1
                obtain ⟨cs', h2, h3⟩ := Option.bind_eq_some_iff.1 h1
                obtain ⟨ds, h4, h5⟩ := IH e a' cl' hl _ _ _ h3
                exact ⟨ds, fun _ => ⟨h4, cs', h2, h5⟩⟩
              · exact ⟨[], fun h => absurd h hi⟩
            obtain ⟨f, hf⟩ := Classical.axiomOfChoice each
            refine ⟨[.slc cl'.length ((List.range len).map fun i => one a' (f i))], ?_, ?_⟩
            · simp only [okL, okD]
              refine ⟨_, _, rfl, ⟨_, rfl, by simp; omega, fun el he => ?_⟩, rfl⟩
              simp only [List.mem_map, List.mem_range] at he
              obtain ⟨i, hi, rfl⟩ := he
              exact ⟨f i, rfl, (hf i hi).1⟩
            · simp only [DRepL, DRep]
              refine ⟨_, _, rfl, ⟨some ad, cap, by simp, by simpa using hle, ?_⟩, rfl⟩
              by_cases h0 : len = 0
              · left; subst h0; rfl
              · right
                have hspot : ad.spot = none := by
                  obtain ⟨_, cs', h1, h2⟩ := hf 0 (by omega)
                  rw [Nat.zero_mul, show ad.add 0 = ad from by simp [Addr.add]] at h1
                  unfold World.cells? at h1
                  by_cases hb : base ≤ ad.block
                  · rw [if_pos hb] at h1
                    have h3 := mapM_some_get h1 0 0 (List.getElem?_range (by omega))
                    have h4 : cs'.length = P.cellsOf e := by simpa using mapM_some_length h1
                    rw [List.getElem?_eq_getElem (by omega), show ad.add 0 = ad from by simp [Addr.add]] at h3
                    exact cell_spot h3
                  · rw [if_neg hb] at h1; cases h1
                obtain ⟨b, off, spot⟩ := ad
                simp only at hspot
                subst hspot
                refine ⟨b, off, rfl, hO b, ?_, DRepE.of fun i el hi => ?_⟩
                · obtain ⟨_, cs', h1, h2⟩ := hf 0 (by omega)
                  rw [addr_add] at h1
                  obtain ⟨h3, h4⟩ := cells_at h1
                  have h5 := h4 0 (by omega)
                  unfold World.cell? at h5
                  split at h5
                  · rename_i hb; exact (Array.getElem?_eq_some_iff.1 hb).1
                  · cases h5
                · simp only [List.getElem?_map, Option.map_eq_some_iff] at hi
                  obtain ⟨j, hj, rfl⟩ := hi
                  have hji : j = i ∧ i < len := by
                    obtain ⟨hl', he⟩ := List.getElem?_eq_some_iff.1 hj
                    simp at hl' he; omega
                  obtain ⟨rfl, hlt⟩ := hji
                  obtain ⟨g1, cs', g2, g3⟩ := hf j hlt
                  rw [addr_add] at g2
                  obtain ⟨g4, g5⟩ := cells_at g2
                  cases a' with
                  | true =>
                    refine ⟨.agg cs'.toArray, ?_, ?_, ?_⟩
                    · simp only [one, if_true, DRep]; exact ⟨cs', rfl, g3⟩
                    · simp only [Value.cells, List.size_toArray]; omega
                    · rw [hc.1]; simpa only [Value.cells, List.toList_toArray] using g5
                  | false =>
                    obtain ⟨c, rfl⟩ := lay_one hl
                    simp only [okL] at g1
                    obtain ⟨d, ds', hfd, k1, k2⟩ := g1
                    subst k2
                    rw [hfd] at g3 ⊢
                    simp only [DRepL] at g3
                    obtain ⟨v, cs2, rfl, k3, rfl⟩ := g3
                    have hv := ok_cells k1 k3
                    refine ⟨v, by simpa [one] using k3, by rw [hv]; rfl, ?_⟩
                    rw [hv, hc.1]
                    simpa using g5
        · cases h
      · cases h
    · rename_i fs hu
      split at h
      · rename_i cl' hl
        split at h
        · rename_i hc
          simp at h; obtain ⟨_, rfl⟩ := h
          obtain ⟨xs, m, _, _, hlen, hxl, hall⟩ := DataW.trod_struct hu hx
          have key : ∀ (l : List Field) (o : Nat) (cl : List CL), layFs (lay P n) P.cellsOf o l = some cl → (∀ f ∈ l, ∃ y, DataW.trod enc P w base sp held m f.type ((cs.drop f.offset).take (P.cellsOf f.type)) = some y) → ∃ ds, okL cl ds ∧ DRepL w O ds ((cs.drop o).take cl.length) := by
            intro l
            induction l with
            | nil => intro o cl hl _; simp only [layFs, Option.some.injEq] at hl; subst hl; exact ⟨[], by simp only [okL], by simp [DRepL]⟩
            | cons f l ih =>
              intro o cl hl hall
              simp only [layFs] at hl
              split at hl
              · rename_i a1 c1 r1 e1 e2
                split at hl
                · rename_i hh
                  simp only [Option.some.injEq] at hl; subst hl
                  obtain ⟨y, hy⟩ := hall f (by simp)
                  rw [hh.1, hh.2] at hy
                  obtain ⟨ds1, k1, k2⟩ := IH _ _ _ e1 _ _ _ hy
                  obtain ⟨ds2, k3, k4⟩ := ih _ _ e2 fun g hg => hall g (by simp [hg])
                  refine ⟨ds1 ++ ds2, okL_append k1 k3, ?_⟩
                  rw [List.length_append, List.take_add, List.drop_drop]
                  rw [hh.2] at k4
                  exact k2.append k4
                · cases hl
              · cases hl
          obtain ⟨ds, k1, k2⟩ := key _ _ _ hl fun f hf => by
            obtain ⟨i, hi⟩ := List.getElem?_of_mem hf
            have hi' : fs[i]? = some f := by simpa using hi
            have h1 := hall i f hi'
            have hlt := (Array.getElem?_eq_some_iff.1 hi').1
            rw [List.getElem?_eq_getElem (by omega)] at h1
            exact ⟨_, h1⟩
          refine ⟨ds, k1, ?_⟩
          rw [List.drop_zero, hc, ← hlen, List.take_length] at k2
          exact k2
        · cases h
      · cases h
    · rename_i m e hu
      split at h
      · rename_i a' cl' hl
        split at h
        · rename_i hc
          simp at h; obtain ⟨_, rfl⟩ := h
          obtain ⟨k, hlen, hall⟩ := trod_array hu hx
          have key : ∀ j, j ≤ m → ∃ ds, okL (List.replicate j cl').flatten ds ∧ DRepL w O ds (cs.take (j * cl'.length)) := by
            intro j
            induction j with
            | zero => intro _; exact ⟨[], by simp [okL], by simp [DRepL]⟩
            | succ j ih =>
              intro hj
              obtain ⟨ds, k1, k2⟩ := ih (by omega)
              obtain ⟨y, hy⟩ := hall j (by omega)
              obtain ⟨ds', k3, k4⟩ := IH _ _ _ hl _ _ _ hy
              refine ⟨ds ++ ds', ?_, ?_⟩
              · rw [show List.replicate (j + 1) cl' = List.replicate j cl' ++ [cl'] from List.replicate_succ', List.flatten_append]
                simpa using okL_append k1 k3
              · rw [Nat.add_mul, Nat.one_mul, List.take_add]
                rw [← hc.1] at k4
                exact k2.append k4
          obtain ⟨ds, k1, k2⟩ := key m (Nat.le_refl _)
          refine ⟨ds, k1, ?_⟩
          rw [hc.2, ← hlen, List.take_length] at k2
          exact k2
        · cases h
      · cases h
    · cases h

/-- One argument. -/
theorem arg_rep (hO : ∀ b, ¬ O b) {n : Nat} {t : TypeId} {a : Bool} {cl : List CL} {r : Reach} {b0 : Nat} {v : Value} {d : DataW H} {ps : List MemPlace} (hl : lay P n t = some (a, cl)) (hval : Value.okWide P w r b0 t v) (hd : DataW.Trod enc P w base sp held t v d ps) :
    ∃ ds, okL cl ds ∧ DRep w O (one a ds) v := by
  obtain ⟨fuel, hf⟩ := hd
  obtain ⟨ds, k1, k2⟩ := trod_rep hO n t a cl hl fuel _ _ hf
  refine ⟨ds, k1, ?_⟩
  have single : a = false → v.cells = #[v] → DRep w O (one a ds) v := by
    intro ha hv
    subst ha
    obtain ⟨c, rfl⟩ := lay_one hl
    simp only [okL] at k1
    obtain ⟨d, ds', rfl, k3, rfl⟩ := k1
    rw [hv] at k2
    simp only [DRepL] at k2
    obtain ⟨v', _, e, k4, _⟩ := k2
    cases e
    simpa [one] using k4
  cases n with
  | zero => simp [lay] at hl
  | succ n =>
    simp only [lay] at hl
    split at hl
    · rename_i hu; simp at hl; obtain ⟨b, rfl⟩ := okWide_bool hu hval; exact single hl.1 rfl
    · rename_i k hu; simp at hl; obtain ⟨b, rfl⟩ := okWide_int hu hval; exact single hl.1 rfl
    · rename_i hu; simp at hl; obtain ⟨b, rfl⟩ := okWide_string hu hval; exact single hl.1 rfl
    · rename_i e hu
      obtain ⟨x, y, z, rfl⟩ := okWide_slice hu hval
      split at hl
      · split at hl
        · simp at hl; exact single hl.1 rfl
        · cases hl
      · cases hl
    · rename_i fs hu
      obtain ⟨cs, rfl, _⟩ := okWide_struct hu hval
      split at hl
      · split at hl
        · simp at hl; obtain ⟨rfl, _⟩ := hl
          simp only [one, if_true, DRep]; exact ⟨cs.toList, by simp, by simpa [Value.cells] using k2⟩
        · cases hl
      · cases hl
    · rename_i m e hu
      obtain ⟨cs, rfl, _⟩ : ∃ cs, v = .agg cs ∧ cs.size = P.cellsOf t := by
        simp only [Value.okWide, hu] at hval
        obtain ⟨cs, h1, h2, _⟩ := hval
        exact ⟨cs, h1, h2⟩
      split at hl
      · split at hl
        · simp at hl; obtain ⟨rfl, _⟩ := hl
          simp only [one, if_true, DRep]; exact ⟨cs.toList, by simp, by simpa [Value.cells] using k2⟩
        · cases hl
      · cases hl
    · cases hl

/-- Arguments as their kinds say. -/
def okArgs : List (Bool × List CL) → List D → Prop
  | [], xs => xs = []
  | (a, cl) :: ls, xs => ∃ ds xs', xs = one a ds :: xs' ∧ okL cl ds ∧ okArgs ls xs'

/-- All arguments. -/
theorem args_rep (hO : ∀ b, ¬ O b) {n : Nat} {r : Reach} {b0 : Nat} : ∀ {ts : List TypeId} {vs : List Value} {ds : List (DataW H)} {ps : List MemPlace} {ls : List (Bool × List CL)}, DataW.TrodAll enc P w base sp held ts vs ds ps → (∀ (j : Nat) t v, ts[j]? = some t → vs[j]? = some v → Value.okWide P w r b0 t v) →
    ts.mapM (lay P n) = some ls → ∃ xs, okArgs ls xs ∧ DRepL w O xs vs
  | [], [], [], ps, ls, h, hv, hl => by simp at hl; subst hl; exact ⟨[], by simp only [okArgs], by simp only [DRepL]⟩
  | t :: ts, v :: vs, d :: ds, ps, ls, h, hv, hl => by
    simp only [DataW.TrodAll] at h
    obtain ⟨p, q, h1, h2, _⟩ := h
    rw [List.mapM_cons] at hl
    simp only [Option.bind_eq_bind, Option.bind_eq_some_iff, Option.pure_def, Option.some.injEq] at hl
    obtain ⟨⟨a, cl⟩, hl1, ls', hl2, rfl⟩ := hl
    obtain ⟨xs, k1, k2⟩ := args_rep hO h2 (fun j t v ht hv' => hv (j + 1) t v (by simpa using ht) (by simpa using hv')) hl2
    obtain ⟨ds1, k3, k4⟩ := arg_rep hO hl1 (hv 0 t v rfl rfl) h1
    refine ⟨one a ds1 :: xs, ?_, ?_⟩
    · simp only [okArgs]; exact ⟨ds1, xs, rfl, k3, k1⟩
    · simp only [DRepL]; exact ⟨v, vs, rfl, k4, k2⟩
  | [], [], _ :: _, ps, ls, h, _, _ => by simp [DataW.TrodAll] at h
  | [], _ :: _, _, ps, ls, h, _, _ => by simp [DataW.TrodAll] at h
  | _ :: _, [], _, ps, ls, h, _, _ => by simp [DataW.TrodAll] at h
  | _ :: _, _ :: _, [], ps, ls, h, _, _ => by simp [DataW.TrodAll] at h
end

end Go.Proofs.Ytdodgbhodkcckaa.Pv
end

section
/- Rules in the form in which a walk takes them. No program is in sight here. -/
set_option linter.unusedVariables false
set_option linter.unusedSectionVars false
set_option linter.unusedSimpArgs false
set_option autoImplicit false
namespace Go.Proofs.Ytdodgbhodkcckaa.Pv
open Go Go.RowKit

section
variable {P : Program} {n : Nat} {Q : Exit → St → Prop} {st : St} {T : Nat → Option TI} {eqt : Nat → Option (List CK)} (hk : Kit P T eqt)
include hk

/-- A region, and what comes behind it. -/
theorem Pwp.step {id : Nat} {ops : Array Oper} {y : Code} (hf : opsFit n ops.toList = true) (h : ∀ K : St → Prop, (∀ s, Pwp P n y Q s → K s) → opsP P T eqt ops.toList ops.size st.next 0 ops.toList st K) : Pwp P n (.seq (.region id ops false) y) Q st :=
  Pwp.seq (Pwp.region hk hf (h _ fun _ h => h))
/-- A region at the end. -/
theorem Pwp.last {id : Nat} {ops : Array Oper} (hf : opsFit n ops.toList = true) (h : ∀ K : St → Prop, (∀ s, Q .normal s → K s) → opsP P T eqt ops.toList ops.size st.next 0 ops.toList st K) : Pwp P n (.region id ops false) Q st :=
  Pwp.region hk hf (h _ fun _ h => h)
/-- A region whose order is drawn, and what comes behind it. -/
theorem Pwp.stepD {id : Nat} {ops : Array Oper} {y : Code} (hm : P.follows .mixedOrders = true) (hf : opsFit n ops.toList = true) (h : ∀ K : St → List Foot → Prop, (∀ s feet, orderOK ops feet = true → Pwp P n y Q s → K s feet) → opsD P T eqt ops.toList ops.size st.next 0 ops.toList st [] K) : Pwp P n (.seq (.region id ops true) y) Q st :=
  Pwp.seq (Pwp.drawn hk hm hf (h _ fun _ _ h1 h2 => ⟨h1, h2⟩))
theorem Pwp.lastD {id : Nat} {ops : Array Oper} (hm : P.follows .mixedOrders = true) (hf : opsFit n ops.toList = true) (h : ∀ K : St → List Foot → Prop, (∀ s feet, orderOK ops feet = true → Q .normal s → K s feet) → opsD P T eqt ops.toList ops.size st.next 0 ops.toList st [] K) : Pwp P n (.region id ops true) Q st :=
  Pwp.drawn hk hm hf (h _ fun _ _ h1 h2 => ⟨h1, h2⟩)
end

section
variable {P : Program} {n : Nat} {Q : Exit → St → Prop} {st : St}
theorem Pwp.step_skip {y : Code} (h : Pwp P n y Q st) : Pwp P n (.seq .skip y) Q st := Pwp.seq (Pwp.skip h)
end

theorem disj_nil (a : List Nat) : disj a [] = true := by
  induction a with
  | nil => rfl
  | cons x l ih => simp [disj]

/-- What is handed back is data. -/
theorem Fin.data {T : Nat → Option TI} {rs : List ResultVar} {e : Exit} {st : St} {ps : List PVal} {g : Prop} {x y : D} (he : e = .normal ∨ e = .ret) (hr : resL T st rs = some (ps, g)) (hg : g) (hd : (resP ps).toD st.heap = some x) (hs : subD x y) : Fin T rs (.d y) [] e st := by
  refine ⟨he, ?_⟩
  rw [hr]
  refine ⟨hg, ⟨fun k => k, fun _ => none, []⟩, rfl, trivial, ?_⟩
  simp only [viewP, hd, keptOf, List.map_nil]
  exact ⟨hs, disj_nil _⟩

/-- A call that is handed data alone, and hands back r and new objects. -/
theorem callP_data {P : Program} {fid : Nat} {nid : Nat → Nat} {st : St} {qs ps : List PVal} {r : PVal} {h' : List (Nat × PObj)} {K : Eff → Prop} (hr : Runs P fid ps [] r h') (ha : argsP st.heap (rename [] nid) qs ps) (hn : (h'.map (·.1)).Nodup) (give : Bool) (hg : give = true ∨ frozen qs ps = [] ∨ (r.flat = true ∧ h' = []))
    (hK : K ⟨r.shift (rename [] nid), if give = true then frozen qs ps else [], shiftH (rename [] nid) h'⟩) : callP P fid nid st qs [] ps [] r h' give K :=
  ⟨ha, hr, ⟨by simp, by simp, rfl, rfl⟩, ⟨hn, by simp⟩, hg, by simpa using hK⟩

/-- What is simplified of a call that is still to be taken: its arguments, its state. -/
theorem CallK.congr {P : Program} {fid : Nat} {nid : Nat → Nat} {st st' : St} {qs qs' : List PVal} {K : Eff → Prop} (hs : st = st') (hq : qs = qs') : CallK P fid nid st qs K = CallK P fid nid st' qs' K := by rw [hs, hq]
theorem CallG.congr {P : Program} {fid : Nat} {g g' : Bool} {st st' : St} {qs qs' : List PVal} {G G' : Prop} {K : Eff → Prop} (hb : g = g') (hs : st = st') (hq : qs = qs') (hG : G = G') : CallG P fid g st qs G K = CallG P fid g' st' qs' G' K := by rw [hb, hs, hq, hG]
attribute [congr] CallK.congr CallG.congr

theorem CallK.data {P : Program} {fid : Nat} {nid : Nat → Nat} {st : St} {qs ps : List PVal} {r : PVal} {h' : List (Nat × PObj)} {K : Eff → Prop} (hr : Runs P fid ps [] r h') (give : Bool) (ha : argsP st.heap (rename [] nid) qs ps) (hn : (h'.map (·.1)).Nodup) (hg : give = true ∨ frozen qs ps = [] ∨ (r.flat = true ∧ h' = []))
    (hK : K ⟨r.shift (rename [] nid), if give = true then frozen qs ps else [], shiftH (rename [] nid) h'⟩) : CallK P fid nid st qs K := ⟨[], ps, [], r, h', give, callP_data hr ha hn give hg hK⟩

/-- A call of data that hands back data. -/
theorem CallK.flat {P : Program} {fid : Nat} {nid : Nat → Nat} {st : St} {qs ps : List PVal} {x : D} {K : Eff → Prop} (hr : Runs P fid ps [] (.d x) []) (ha : argsP st.heap (rename [] nid) qs ps) (hg : frozen qs ps = [] ∨ x.flat = true) (hK : K ⟨.d x, [], []⟩) : CallK P fid nid st qs K :=
  CallK.data hr false ha (by simp) (by rcases hg with h | h; exact .inr (.inl h); exact .inr (.inr ⟨h, rfl⟩)) (by simpa [PVal.shift, shiftH] using hK)

theorem callee_fn (f : Nat) : callee (.d (.v (.func (.func f) #[] #[]))) = some (f, [], []) := rfl
theorem callee_clo (f : Nat) (a b : List PVal) : callee (.clo (.func f) a b) = some (f, a, b) := rfl
theorem callee_d (f : Nat) (a b : List D) : callee (.d (.fn (.func f) a b)) = some (f, a.map .d, b.map .d) := rfl

theorem subV_refl (x : Value) : subV x (.v x) := by
  unfold subV
  split
  · rename_i h; cases h
  · rfl
mutual
theorem subD_refl : ∀ x : D, subD x x
  | .v x => by simp only [subD]; exact subV_refl x
  | .agg xs => by simp only [subD]; exact subL_refl xs
  | .tup xs => by simp only [subD]; exact subL_refl xs
  | .slc _ _ => by simp only [subD]
  | .ifc _ _ => by simp only [subD]
  | .fn _ _ _ => by simp only [subD]
  | .ptr _ => by simp only [subD]
theorem subL_refl : ∀ xs : List D, subL xs xs
  | [] => by simp only [subL]
  | x :: xs => by simp only [subL]; exact ⟨subD_refl x, subL_refl xs⟩
end

def PVal.isD : PVal → Bool
  | .d _ => true
  | _ => false

theorem args_same {h : List (Nat × PObj)} {ρ : Nat → Nat} : ∀ {qs : List PVal}, qs.all PVal.isD = true → argsP h ρ qs qs ∧ frozen qs qs = [] ∧ ∀ p ∈ qs, ∃ y, p = .d y
  | [], _ => ⟨trivial, rfl, by simp⟩
  | q :: qs, hq => by
    simp only [List.all_cons, Bool.and_eq_true] at hq
    obtain ⟨h1, h2, h3⟩ := args_same (h := h) (ρ := ρ) hq.2
    cases q with
    | d x =>
      refine ⟨⟨?_, h1⟩, by simp [frozen, PVal.ids, h2], ?_⟩
      · simp only [argP, PVal.toD]; exact subD_refl x
      · intro p hp
        rcases List.mem_cons.1 hp with rfl | hp
        · exact ⟨x, rfl⟩
        · exact h3 p hp
    | _ => simp [PVal.isD] at hq

/-- A call of data as it stands, that hands back data. -/
theorem CallK.same {P : Program} {fid : Nat} {nid : Nat → Nat} {st : St} {qs : List PVal} {x : D} {K : Eff → Prop} (hr : Runs P fid qs [] (.d x) []) (hq : qs.all PVal.isD = true) (hK : K ⟨.d x, [], []⟩) : CallK P fid nid st qs K :=
  CallK.flat hr (args_same hq).1 (.inl (args_same (h := []) (ρ := fun k => k) hq).2.1) hK
theorem CallG.same {P : Program} {fid : Nat} {g : Bool} {st : St} {qs : List PVal} {G : Prop} {x : D} {K : Eff → Prop} (hr : g = true → Runs P fid qs [] (.d x) []) (hq : qs.all PVal.isD = true) (hG : g = true → G) (hK : K ⟨.gd g (.d x), [], []⟩) : CallG P fid g st qs G K :=
  ⟨qs, x, fun e => ⟨(args_same hq).1, (args_same (h := []) (ρ := fun k => k) hq).2.2, hr e, hG e⟩, .inl (args_same (h := []) (ρ := fun k => k) hq).2.1, hK⟩

/-- Nothing is renumbered. -/
def V0 : Turn := ⟨fun k => k, fun _ => none, []⟩
theorem turnOK_id (ks : List Nat) : turnOK V0 ks = true := by
  simp only [turnOK, V0, Bool.and_eq_true, List.all_eq_true, List.mem_range, Bool.or_eq_true, beq_iff_eq, bne_iff_ne]
  refine ⟨fun k hk => by simp, fun k hk => .inr fun k' hk' => ?_⟩
  by_cases h : k = k'
  · exact .inl (.inr h)
  · exact .inr h
/-- Fewer things. -/
theorem Sub.same {n : Nat} {s t : St} (hN : 8 ≤ t.next) (hh : viewH V0 s (keptOf V0 t) t.next t.heap) (ht : viewT V0 s (keptOf V0 t) t.next t.tmps) : Sub n s t := Sub.view V0 hN (turnOK_id _) hh ht

theorem args_toDL {h : List (Nat × PObj)} {ρ : Nat → Nat} : ∀ {qs : List PVal} {ds : List D}, toDL h qs = some ds → argsP h ρ qs (ds.map .d) ∧ frozen qs (ds.map .d) = idsL qs
  | [], ds, hd => by simp only [toDL, Option.some.injEq] at hd; subst hd; exact ⟨trivial, rfl⟩
  | q :: qs, ds, hd => by
    simp only [toDL] at hd
    split at hd
    · rename_i x xs h1 h2
      simp only [Option.some.injEq] at hd; subst hd
      obtain ⟨g1, g2⟩ := args_toDL (ρ := ρ) h2
      refine ⟨⟨?_, g1⟩, by simp only [List.map_cons, frozen, g2, idsL]⟩
      simp only [argP, h1]
      exact subD_refl x
    · cases hd

/-- A call whose arguments are read as data, that hands back data with no address in it. -/
theorem CallK.toD {P : Program} {fid : Nat} {nid : Nat → Nat} {st : St} {qs : List PVal} {ds : List D} {x : D} {K : Eff → Prop} (hd : toDL st.heap qs = some ds) (hr : Runs P fid (ds.map .d) [] (.d x) []) (hf : x.flat = true) (hK : K ⟨.d x, [], []⟩) : CallK P fid nid st qs K :=
  CallK.flat hr (args_toDL hd).1 (.inr hf) hK
/-- .. and behind a guard. -/
theorem CallG.toD {P : Program} {fid : Nat} {g : Bool} {st : St} {qs : List PVal} {G : Prop} {ds : List D} {x : D} {K : Eff → Prop} (hd : toDL st.heap qs = some ds) (hr : Runs P fid (ds.map .d) [] (.d x) []) (hf : x.flat = true) (hG : g = true → G) (hK : K ⟨.gd g (.d x), [], []⟩) : CallG P fid g st qs G K :=
  ⟨ds.map .d, x, fun e => ⟨(args_toDL hd).1, fun p hp => by obtain ⟨y, _, rfl⟩ := List.mem_map.1 hp; exact ⟨y, rfl⟩, hr, hG e⟩, .inr hf, hK⟩
/-- A call that is not made. -/
theorem CallG.off {P : Program} {fid : Nat} {st : St} {qs : List PVal} {G : Prop} {K : Eff → Prop} (hK : K ⟨.gd false (.d (.v (.int .i64 0))), [], []⟩) : CallG P fid false st qs G K :=
  ⟨[], .v (.int .i64 0), (fun e => by cases e), .inr rfl, hK⟩
/-- Two rows of one's own: they don't overlap. -/
theorem OverK.two {P : Program} {T : Nat → Option TI} {fid s : Nat} {st : St} {K : Eff → Prop} {tS el : Nat} {te : TI} {id1 v1 o1 l1 id2 v2 o2 l2 e1 e2 : Nat} {r1 r2 : Option Nat} {els1 els2 : List D} (hi : IsOver P fid tS) (hk : kindOf T tS = some (.slice el)) (ht : T el = some te) (hs : te.size = s) (hp : 0 < s) (hne : id1 ≠ id2)
    (h1 : find id1 st.heap = some (.arr e1 s v1 r1 els1)) (h2 : find id2 st.heap = some (.arr e2 s v2 r2 els2)) (hl : 0 < l1 ∧ 0 < l2) (hK : K ⟨pbool false, [], []⟩) : OverK P T fid st [.own id1 v1 s o1 l1, .own id2 v2 s o2 l2] K := by
  subst hs
  exact ⟨tS, el, te, id1, v1, o1, l1, id2, v2, o2, l2, e1, r1, els1, e2, r2, els2, ⟨hi, hk, ht, hp⟩, rfl, hne, ⟨h1, h2, hl⟩, hK⟩
/-- A call whose arguments are given up as data. -/
theorem CallK.give {P : Program} {fid : Nat} {nid : Nat → Nat} {st : St} {qs : List PVal} {ds : List D} {r : PVal} {h' : List (Nat × PObj)} {K : Eff → Prop} (hd : toDL st.heap qs = some ds) (hr : Runs P fid (ds.map .d) [] r h') (hn : (h'.map (·.1)).Nodup) (hK : K ⟨r.shift (rename [] nid), idsL qs, shiftH (rename [] nid) h'⟩) : CallK P fid nid st qs K :=
  CallK.data hr true (args_toDL hd).1 hn (.inl rfl) (by rw [if_pos rfl, (args_toDL (ρ := rename [] nid) hd).2]; exact hK)

theorem wrap_of {x : Int} (h1 : -9223372036854775808 ≤ x) (h2 : x ≤ 9223372036854775807) : IntKind.i64.wrap x = x := by
  rw [IntKind.wrap_i64]; omega
theorem wrap_succ {i : Nat} (h : i < 9223372036854775807) : IntKind.i64.wrap ((i : Int) + 1) = ((i + 1 : Nat) : Int) := by
  rw [IntKind.wrap_i64]; omega

/-- The room of a row, where it is not told: some number. -/
theorem Pwp.room {P : Program} {n : Nat} {c : Code} {Q : Exit → St → Prop} {st : St} {id e s ver : Nat} {room : Option Nat} {els : List D} (hf : find id st.heap = some (.arr e s ver room els))
    (h : ∀ r, els.length ≤ r → r ≤ maxLen → Pwp P n c Q { st with heap := upd id (.arr e s ver (some r) els) st.heap }) : Pwp P n c Q st := by
  intro E S0 φ0 a w ⟨h1, h2, φ, S, h3, h4, h5⟩
  obtain ⟨g1, g2, g3, g4, g5⟩ := h3.objs id _ hf
  have hb : ∀ r, blk φ id (.arr e s ver r els) = blk φ id (.arr e s ver room els) := fun _ => rfl
  have hset : ∀ r, ORep w (Held E φ st.heap) φ id (.arr e s ver (some r) els) → Rst E S φ { st with heap := upd id (.arr e s ver (some r) els) st.heap } a w := by
    intro r ho
    have hO := held_set (o' := .arr e s ver (some r) els) (φ' := φ) h3 (fun _ _ _ => rfl) (fun c hc => .inr ⟨_, hf, hc⟩)
    exact h3.set (w' := w) (S' := S) (φ' := φ) rfl rfl rfl (Nat.le_refl _) (fun _ _ _ => rfl) (fun _ _ h => h) (fun _ _ _ => rfl) g1 g2 (fun _ _ _ h => h) (by simp only [PObj.und]) (fun c hc => ⟨(g4 c hc).1, .inr ⟨_, hf, hc⟩⟩)
      (ORep.keep (n := S) (φ' := φ) ⟨Nat.le_refl _, fun _ _ _ => rfl⟩ hO (fun _ _ _ => rfl) g1 (by simp only [PObj.und]) (fun _ _ => rfl) ho)
  simp only [ORep] at g5
  rcases g5 with ⟨q1, q2, q3⟩ | ⟨b, m, cs, q1, q2, q3, q4, q5, q6, q7⟩
  · exact h 0 (by simp [q2]) (by simp [maxLen]) E S0 φ0 a w ⟨h1, h2, φ, S, hset 0 (by simp only [ORep]; exact .inl ⟨q1, q2, fun n hn => by cases hn; rfl⟩), h4, h5⟩
  · exact h m q2 q3 E S0 φ0 a w ⟨h1, h2, φ, S, hset m (by simp only [ORep]; exact .inr ⟨b, m, cs, q1, q2, q3, fun n hn => by cases hn; rfl, q5, q6, q7⟩), h4, h5⟩

/-- An argument that is a slice: it has elements, or it is a value with none. -/
theorem Runs.slc {P : Program} {f : FuncId} {pre post : List PVal} {s : Nat} {els : List D} {h : List (Nat × PObj)} {r : PVal} {h' : List (Nat × PObj)} (h1 : els ≠ [] → Runs P f (pre ++ .d (.slc s els) :: post) h r h')
    (h2 : els = [] → ∀ ad cap, Runs P f (pre ++ .d (.v (.slice ad 0 cap)) :: post) h r h') : Runs P f (pre ++ .d (.slc s els) :: post) h r h' := by
  by_cases he : els = []
  · subst he
    refine ⟨(h2 rfl none 0).1, fun E S φ cs hp hS hr hu hx => ?_⟩
    have key : ∀ (pre : List PVal) (cs : List Value), PRepL E.w0 (Held E φ h) φ (pre ++ .d (.slc s []) :: post) cs → undL S (pre ++ .d (.slc s []) :: post) → ∃ ad cap, PRepL E.w0 (Held E φ h) φ (pre ++ .d (.v (.slice ad 0 cap)) :: post) cs ∧ undL S (pre ++ .d (.v (.slice ad 0 cap)) :: post) := by
      intro pre
      induction pre with
      | nil =>
        intro cs hx hu
        simp only [List.nil_append, PRepL, undL, PRep, DRep, PVal.und] at hx hu ⊢
        obtain ⟨c, cs', rfl, ⟨ad, cap, rfl, _⟩, h2⟩ := hx
        exact ⟨ad, cap, ⟨_, cs', rfl, rfl, h2⟩, hu⟩
      | cons p pre ih =>
        intro cs hx hu
        simp only [List.cons_append, PRepL, undL] at hx hu ⊢
        obtain ⟨c, cs', rfl, h1, h2⟩ := hx
        obtain ⟨ad, cap, h3, h4⟩ := ih cs' h2 hu.2
        exact ⟨ad, cap, ⟨c, cs', rfl, h1, h3⟩, hu.1, h4⟩
    obtain ⟨ad, cap, h3, h4⟩ := key pre cs hx hu
    exact (h2 rfl ad cap).2 E S φ cs hp hS hr h4 h3
  · exact h1 he

theorem cells_agg (cs : List D) : D.cells (.agg cs) = cs := rfl
theorem cells_int (k : IntKind) (n : Int) : D.cells (.v (.int k n)) = [.v (.int k n)] := rfl
theorem cells_bool (b : Bool) : D.cells (.v (.bool b)) = [.v (.bool b)] := rfl
theorem cells_str (b : ByteArray) : D.cells (.v (.string b)) = [.v (.string b)] := rfl
theorem cells_slice (a : Option Addr) (n c : Nat) : D.cells (.v (.slice a n c)) = [.v (.slice a n c)] := rfl
theorem cells_slc (s : Nat) (els : List D) : D.cells (.slc s els) = [.slc s els] := rfl
theorem cells_fn (f : Fn) (a b : List D) : D.cells (.fn f a b) = [.fn f a b] := rfl
theorem cells_ptr (a : List D) : D.cells (.ptr a) = [.ptr a] := rfl
theorem cells_vagg (cs : Array Value) : D.cells (.v (.agg cs)) = cs.toList.map .v := rfl

/-- Number 8 stands for a row's number. -/
def V8 (id ver : Nat) : Turn := ⟨fun k => if k < 8 then k else id + (k - 8), fun k => if k = 8 then some ver else none, []⟩
theorem turnOK_8 {id ver : Nat} : turnOK (V8 id ver) [8] = true := by
  simp only [turnOK, V8, Bool.and_eq_true, List.all_eq_true, List.mem_range, Bool.or_eq_true, beq_iff_eq, bne_iff_ne, List.mem_singleton]
  refine ⟨fun k hk => ?_, fun k hk => .inr fun k' hk' => .inl (.inr (by omega))⟩
  have : k ≠ 8 := by omega
  simp [hk, this]

/-- What is handed back is a row of one's own. -/
theorem Fin.row {T : Nat → Option TI} {rs : List ResultVar} {ex : Exit} {st : St} {g : Prop} {id ver e s len : Nat} {room : Option Nat} {els : List D} (he : ex = .normal ∨ ex = .ret) (hr : resL T st rs = some ([.own id ver s 0 len], g)) (hg : g) (hf : find id st.heap = some (.arr e s ver room els)) (hl : len = els.length) :
    Fin T rs (.own 8 0 s 0 els.length) [(8, .arr e s 0 none els)] ex st := by
  subst hl
  refine ⟨he, ?_⟩
  rw [hr]
  refine ⟨hg, V8 id ver, turnOK_8, ?_, ?_⟩
  · simp only [viewH, V8, List.contains_nil, Bool.false_eq_true, if_false, and_true]
    refine ⟨by omega, ?_⟩
    have : (if 8 < 8 then 8 else id + (8 - 8)) = id := by simp
    rw [this, hf]
    simp [viewO, V8]
  · simp only [resP, viewP, V8, List.contains_nil, Bool.false_eq_true, if_false]
    exact ⟨by omega, by simp⟩

/-- .. or its first elements. -/
theorem Fin.rowL {T : Nat → Option TI} {rs : List ResultVar} {ex : Exit} {st : St} {g : Prop} {id ver e s len : Nat} {room : Option Nat} {els : List D} (he : ex = .normal ∨ ex = .ret) (hr : resL T st rs = some ([.own id ver s 0 len], g)) (hg : g) (hf : find id st.heap = some (.arr e s ver room els)) :
    Fin T rs (.own 8 0 s 0 len) [(8, .arr e s 0 none els)] ex st := by
  refine ⟨he, ?_⟩
  rw [hr]
  refine ⟨hg, V8 id ver, turnOK_8, ?_, ?_⟩
  · simp only [viewH, V8, List.contains_nil, Bool.false_eq_true, if_false, and_true]
    refine ⟨by omega, ?_⟩
    have : (if 8 < 8 then 8 else id + (8 - 8)) = id := by simp
    rw [this, hf]
    simp [viewO, V8]
  · simp only [resP, viewP, V8, List.contains_nil, Bool.false_eq_true, if_false]
    exact ⟨by omega, by simp⟩

/-- A call that is handed a row of one's own, and data. -/
theorem CallK.rows1 {P : Program} {fid : Nat} {nid : Nat → Nat} {st : St} {K : Eff → Prop} {i1 v1 s1 l1 e1 : Nat} {r1 : Option Nat} {els1 : List D} {ps : List D} {r : PVal} {h' : List (Nat × PObj)}
    (hr : Runs P fid (.own 0 v1 s1 0 l1 :: ps.map .d) [(0, .arr e1 s1 v1 r1 els1)] r h') (h1 : find i1 st.heap = some (.arr e1 s1 v1 r1 els1)) (hn : (h'.map (·.1)).Nodup)
    (hK : K ⟨r.shift (rename [i1] nid), [i1], shiftH (rename [i1] nid) h'⟩) : CallK P fid nid st (.own i1 v1 s1 0 l1 :: ps.map .d) K := by
  have ha := args_same (h := st.heap) (ρ := rename [i1] nid) (qs := ps.map .d) (by simp [PVal.isD])
  refine ⟨[i1], _, _, r, h', false, ?_, hr, ⟨by simp, by simp, rfl, ?_⟩, ⟨hn, by simp [frozen, ha.2.1]⟩, .inr (.inl (by simp [frozen, ha.2.1])), by simpa using hK⟩
  · simp only [argsP]
    exact ⟨by simp [argP, PVal.shift, rename], ha.1⟩
  · simp [PObj.shift, h1]

/-- A call that is handed two rows of one's own, and data between them. -/
theorem CallK.rows2 {P : Program} {fid : Nat} {nid : Nat → Nat} {st : St} {K : Eff → Prop} {i1 i2 v1 v2 s1 s2 l1 l2 e1 e2 : Nat} {r1 r2 : Option Nat} {els1 els2 : List D} {p : D} {r : PVal} {h' : List (Nat × PObj)}
    (hr : Runs P fid [.own 0 v1 s1 0 l1, .d p, .own 1 v2 s2 0 l2] [(0, .arr e1 s1 v1 r1 els1), (1, .arr e2 s2 v2 r2 els2)] r h') (h1 : find i1 st.heap = some (.arr e1 s1 v1 r1 els1)) (h2 : find i2 st.heap = some (.arr e2 s2 v2 r2 els2)) (hne : i1 ≠ i2) (hn : (h'.map (·.1)).Nodup)
    (hK : K ⟨r.shift (rename [i1, i2] nid), [i1, i2], shiftH (rename [i1, i2] nid) h'⟩) : CallK P fid nid st [.own i1 v1 s1 0 l1, .d p, .own i2 v2 s2 0 l2] K := by
  refine ⟨[i1, i2], _, _, r, h', false, ?_, hr, ⟨by simp [hne], by simp, rfl, ?_⟩, ⟨hn, by simp [frozen, PVal.ids]⟩, .inr (.inl (by simp [frozen, PVal.ids])), by simpa using hK⟩
  · simp [argsP, argP, PVal.shift, rename, PVal.toD, subD_refl]
  · simp [PObj.shift, h1, h2]

/-- What is handed back is nil: a row without elements. -/
theorem Fin.nil {T : Nat → Option TI} {rs : List ResultVar} {ex : Exit} {st : St} {g : Prop} {e s : Nat} (he : ex = .normal ∨ ex = .ret) (hr : resL T st rs = some ([pnil], g)) (hg : g) : Fin T rs (.own 8 0 s 0 0) [(8, .arr e s 0 none [])] ex st := by
  refine ⟨he, ?_⟩
  rw [hr]
  refine ⟨hg, ⟨fun k => k, fun _ => none, [8]⟩, rfl, ?_, ?_⟩
  · simp [viewH]
  · simp [resP, viewP]

theorem toDL_ds (h : List (Nat × PObj)) : ∀ ds : List D, toDL h (ds.map .d) = some ds
  | [] => rfl
  | d :: ds => by simp only [List.map_cons, toDL, PVal.toD, toDL_ds h ds]
theorem ofCells_agg {n : Nat} {x : List D} (h : x.length = n) : ofCells n true (x.map .d) = some (.agg (x.map .d)) := by
  simp only [ofCells, if_true, List.length_map, h, Nat.le_refl]
  rw [List.take_of_length_le (by simp [h])]
theorem half {i j : Nat} (h : i + j < 9223372036854775807) : IntKind.i64.wrap (Int.fdiv (IntKind.u64.wrap (IntKind.i64.wrap ((i : Int) + j))) (2 ^ min 1 IntKind.u64.bits)) = (((i + j) / 2 : Nat) : Int) := by
  have h1 : IntKind.i64.wrap ((i : Int) + j) = ((i + j : Nat) : Int) := by rw [wrap_of (by omega) (by omega)]; simp
  have h2 : IntKind.u64.wrap ((i + j : Nat) : Int) = ((i + j : Nat) : Int) := by
    simp only [IntKind.wrap, IntKind.bits, IntKind.signed]
    simp
    omega
  rw [h1, h2]
  have h3 : (2 : Int) ^ min 1 IntKind.u64.bits = 2 := by decide
  rw [h3]
  have h4 : Int.fdiv ((i + j : Nat) : Int) 2 = (((i + j) / 2 : Nat) : Int) := by
    rw [Int.fdiv_eq_ediv_of_nonneg _ (by omega)]; omega
  rw [h4, wrap_of (by omega) (by omega)]

theorem viewL_ds (V : Turn) (h : List (Nat × PObj)) (kept : List Nat) (N : Nat) : ∀ ds : List D, viewL V h kept N (ds.map .d) (ds.map .d)
  | [] => by simp only [List.map_nil, viewL]
  | d :: ds => by
    simp only [List.map_cons, viewL, viewP, PVal.toD, PVal.ids]
    exact ⟨⟨subD_refl d, rfl⟩, viewL_ds V h kept N ds⟩

/-- A loop of so many rounds: its state at the head of each. -/
theorem Pwp.range {P : Program} {n : Nat} {Q : Exit → St → Prop} {st : St} {c : Code} (m : Nat) (S : Nat → St) (h0 : Sub n st (S 0)) (step : ∀ i, i < m → Pwp P n c (thenS (fun s => Sub n s (S (i + 1))) Q) (S i))
    (done : Pwp P n c (thenS (fun _ => False) Q) (S m)) : Pwp P n (.loop c) Q st := by
  refine Pwp.loop (fun k s => ∃ i, i ≤ m ∧ k = m - i ∧ s = S i) m h0 ⟨0, by omega, by omega, rfl⟩ ?_
  rintro k s ⟨i, hi, rfl, rfl⟩
  rcases Nat.lt_or_ge i m with h | h
  · refine (step i h).mono fun e s hs => ?_
    cases e with
    | normal => exact ⟨m - (i + 1), S (i + 1), by omega, hs, i + 1, by omega, rfl, rfl⟩
    | _ => exact hs
  · obtain rfl : i = m := by omega
    refine done.mono fun e s hs => ?_
    cases e with
    | normal => exact hs.elim
    | _ => exact hs
/-- .. of which something is known at the head of each. -/
theorem Pwp.rangeI {P : Program} {n : Nat} {Q : Exit → St → Prop} {st s0 : St} {c : Code} (m : Nat) (I : Nat → St → Prop) (h0 : Sub n st s0) (hI : I 0 s0) (step : ∀ i s, i < m → I i s → Pwp P n c (thenS (fun s => ∃ t, Sub n s t ∧ I (i + 1) t) Q) s)
    (done : ∀ s, I m s → Pwp P n c (thenS (fun _ => False) Q) s) : Pwp P n (.loop c) Q st := by
  refine Pwp.loop (fun k s => ∃ i, i ≤ m ∧ k = m - i ∧ I i s) m h0 ⟨0, by omega, by omega, hI⟩ ?_
  rintro k s ⟨i, hi, rfl, hs⟩
  rcases Nat.lt_or_ge i m with h | h
  · refine (step i s h hs).mono fun e s hs => ?_
    cases e with
    | normal =>
      obtain ⟨t, h1, h2⟩ := hs
      exact ⟨m - (i + 1), t, by omega, h1, i + 1, by omega, rfl, h2⟩
    | _ => exact hs
  · obtain rfl : i = m := by omega
    refine (done s hs).mono fun e s hs => ?_
    cases e with
    | normal => exact hs.elim
    | _ => exact hs
theorem dlt {i n : Nat} (h : i < n) : decide ((i : Int) < (n : Int)) = true := decide_eq_true (by omega)
theorem dge {i n : Nat} (h : n ≤ i) : decide ((i : Int) < (n : Int)) = false := decide_eq_false (by omega)
theorem at_lt {α : Type} {l : List α} {i : Nat} (h : i < l.length) : ∃ x, l[i]? = some x ∧ x ∈ l := ⟨l[i], List.getElem?_eq_getElem h, List.getElem_mem h⟩
/-- Row 9 is one's own: of version v; nil as a row without elements. -/
def V9 (v : Nat) : Turn := ⟨fun k => k, fun k => if k = 9 then some v else none, []⟩
def V9n : Turn := ⟨fun k => k, fun _ => none, [9]⟩
/-- A row is one's own: of a number, of a version; nil as a row of this number without elements. -/
def VR (id v : Nat) : Turn := ⟨fun k => k, fun k => if k = id then some v else none, []⟩
def VN (id : Nat) : Turn := ⟨fun k => k, fun _ => none, [id]⟩
/-- A call whose arguments are given up as data, told as less. -/
theorem args_sub {h : List (Nat × PObj)} {ρ : Nat → Nat} : ∀ {qs : List PVal} {ds es : List D}, toDL h qs = some ds → subL ds es → argsP h ρ qs (es.map .d) ∧ frozen qs (es.map .d) = idsL qs
  | [], ds, es, hd, hs => by
    simp only [toDL, Option.some.injEq] at hd; subst hd
    simp only [subL] at hs; subst hs
    exact ⟨trivial, rfl⟩
  | q :: qs, ds, es, hd, hs => by
    simp only [toDL] at hd
    split at hd
    · rename_i x xs h1 h2
      simp only [Option.some.injEq] at hd; subst hd
      cases es with
      | nil => simp only [subL] at hs
      | cons e es =>
        simp only [subL] at hs
        obtain ⟨g1, g2⟩ := args_sub (ρ := ρ) h2 hs.2
        refine ⟨⟨?_, g1⟩, by simp only [List.map_cons, frozen, g2, idsL]⟩
        simp only [argP, h1]
        exact hs.1
    · cases hd
theorem CallK.giveS {P : Program} {fid : Nat} {nid : Nat → Nat} {st : St} {qs : List PVal} {ds es : List D} {r : PVal} {h' : List (Nat × PObj)} {K : Eff → Prop} (hd : toDL st.heap qs = some ds) (hs : subL ds es) (hr : Runs P fid (es.map .d) [] r h') (hn : (h'.map (·.1)).Nodup) (hK : K ⟨r.shift (rename [] nid), idsL qs, shiftH (rename [] nid) h'⟩) : CallK P fid nid st qs K :=
  CallK.data hr true (args_sub hd hs).1 hn (.inl rfl) (by rw [if_pos rfl, (args_sub (ρ := rename [] nid) hd hs).2]; exact hK)

/-! What comes behind an operation is held until it is known what that comes to: no simplification enters it. -/
structure Tag (K : Eff → Prop) : Type where mk ::
def hold (K : Eff → Prop) (_ : Tag K) : Eff → Prop := K
theorem hold_app (K : Eff → Prop) (t : Tag K) (e : Eff) : hold K t e = K e := rfl
section
variable (P : Program) (T : Nat → Option TI) (eqt : Nat → Option (List CK)) (all : List Oper) (L base i : Nat) (o : Oper) (rest : List Oper) (st : St)
theorem opsP_nil (K : St → Prop) : opsP P T eqt all L base i [] st K = K { st with next := base + 4 * L } := rfl
theorem opsP_cons (K : St → Prop) : opsP P T eqt all L base i (o :: rest) st K = opP P T eqt (nidOf base L i) all o st (hold (fun e => opsP P T eqt all L base (i + 1) rest (st.app o.dst e) K) ⟨⟩) := rfl
theorem opsD_nil (tr : List Foot) (K : St → List Foot → Prop) : opsD P T eqt all L base i [] st tr K = K { st with next := base + 4 * L } tr := rfl
theorem opsD_cons (tr : List Foot) (K : St → List Foot → Prop) : opsD P T eqt all L base i (o :: rest) st tr K = opP P T eqt (nidOf base L i) all o st (hold (fun e => opsD P T eqt all L base (i + 1) rest (st.app o.dst e) (tr ++ [footOf o st e]) K) ⟨⟩) := rfl
end

/-! ### What the walks simplify with -/
theorem mapGet_nil (kk : Option (List CK)) (x z : D) : mapGet kk x [] z = some (z, false) := rfl
theorem mapSet_nil (kk : Option (List CK)) (x v : D) : mapSet kk x v [] = some [(x, v)] := rfl
theorem keyEq_agg (ks : List CK) (xs ys : List D) : keyEq (some ks) (.agg xs) (.agg ys) = cellsEq ks xs ys := rfl
theorem keyEq_int (k : IntKind) (a b : Int) : keyEq none (.v (.int k a)) (.v (.int k b)) = some (a == b) := by simp [keyEq]
attribute [go_sem] reduceIte Nat.reduceAdd Nat.reduceMul Nat.reduceEqDiff Nat.reduceLT Nat.reduceLeDiff Nat.reduceSub reduceCtorEq Int.reduceToNat Int.reduceAdd Int.reduceSub Int.reduceLT Int.reduceLE Int.reduceNeg Int.reduceBEq Int.reduceBNe true_or footOf
attribute [go_sem] mvOf mapGet_nil mapSet_nil keyEq_agg keyEq_int keyCK CK.plain lookupP lenMP Option.isSome hold_app computeP St.start St.evs St.ev St.gds PVal.strip find List.range List.range.loop List.zip List.zipWith List.length PVal.told cells_agg cells_int cells_bool cells_str cells_slice cells_slc cells_fn cells_ptr cells_vagg PVal.cells ofV updAll delAll upd del St.app St.put Option.getD nidOf kindOf loadP fieldAddrP fieldP indexAddrP indexP sliceP lenP fillP buildP binP intOp asInt asBool asStr asSlc ofCells TK.known TK.isAgg List.drop List.take List.head? List.getElem?_cons_zero List.getElem?_cons_succ List.map List.append List.all D.one PVal.one splice Option.map PVal.toD toDL unP convP pickP guardP dstOf zeroCells Value.cells optInt isNil nilP recP PVal.ids idsL if_true if_false List.size_toArray true_and and_true Nat.zero_mul Nat.add_zero Nat.zero_add Nat.add_one_ne_zero List.nil_append List.cons_append and_self Bool.and_true Bool.true_and decide_true Option.any forall_const gt_iff_lt ge_iff_le Bool.not_true Bool.not_false callee_fn callee_clo callee_d implies_true List.append_nil List.singleton_append beq_true beq_false imp_self Bool.cond_false_right Bool.cond_true_left Int.toNat_natCast Int.toNat_zero Int.natCast_nonneg Int.zero_le_ofNat Int.natCast_zero Int.cast_ofNat_Int decide_false srcP roomOf upTo Nat.sub_zero PVal.shift shiftL shiftH PObj.shift rename List.getD_cons_zero List.getD_cons_succ List.getD_nil cellsEq cellEq eq_self storeE D.withCells List.contains_nil

end Go.Proofs.Ytdodgbhodkcckaa.Pv
end

section
/- A law that answers yes to all data of its kinds: what the statements ask, out of its contract. No program is in sight here. -/
set_option linter.unusedVariables false
set_option linter.unusedSimpArgs false
set_option linter.unusedSectionVars false
set_option autoImplicit false
namespace Go.Proofs.Ytdodgbhodkcckaa.Pv
open Go Go.RowKit Go.ChangeShapes

/-- What a call begins with that is handed nothing of its own. -/
def env0 (W : World) : Env := ⟨W, fun _ => False, fun _ => False, fun _ h => h.elim, fun _ h => h.elim⟩
theorem held0 (W : World) (b : Nat) : ¬ Held (env0 W) (fun _ _ => none) [] b := by
  rintro (h | ⟨i, o, h, _⟩)
  · exact h
  · simp [find] at h

theorem law_calls {P : Program} {f : FuncId} {xs : List D} {W : World} {args : Array Value} (hr : Runs P f (xs.map .d) [] (.d (.v (.bool true))) []) (hx : DRepL W (Held (env0 W) (fun _ _ => none) []) xs args.toList) :
    Calls P f args W fun e w' => e = .returned (.bool true) ∧ w'.os = W.os ∧ w'.output = W.output ∧ W.heap.size ≤ w'.heap.size ∧ ∀ b, b < W.heap.size → w'.heap[b]? = W.heap[b]? := by
  have h0 : Rst (env0 W) (fun _ _ => False) (fun _ _ => none) (.only []) Act.none W :=
    { os := rfl, tape := rfl, output := rfl, size := Nat.le_refl _, old := fun _ _ _ => rfl, defers := rfl, tmps := by intro t p h; simp [St.only, find] at h, objs := by intro id o h; simp [St.only, find] at h, inj := by intro id id' o o' b h; simp [St.only, find] at h }
  have h1 := hr.2 (env0 W) (fun _ _ => False) (fun _ _ => none) args.toList (fun b h => h.elim) (fun k v h => h.elim) h0 (undL_ds _ _) (PRepL.ds hx)
  rw [Array.toArray_toList] at h1
  refine h1.mono ?_
  rintro e w' ⟨c, φ', S', rfl, g1, _, _, _, g2⟩
  simp only [PRep, DRep] at g2
  subst g2
  exact ⟨rfl, g1.os, g1.output, g1.size, fun b hb => g1.old b hb fun h => h⟩

section
variable {H : Type} {enc : TypeId × Value → H} {P : Program} {W W' : World} {base : Nat} {sp : Nat → Bool} {held : Bool}

theorem trodAll_carry : ∀ {ts : List TypeId} {vs : List Value} {ds : List (DataW H)} {ps : List MemPlace}, DataW.TrodAll enc P W base sp held ts vs ds ps → (∀ p ∈ ps, W.sameAt W' p) → DataW.TrodAll enc P W' base sp held ts vs ds ps
  | [], [], [], ps, h, _ => h
  | t :: ts, v :: vs, d :: ds, ps, h, hs => by
    simp only [DataW.TrodAll] at h ⊢
    obtain ⟨p, q, ⟨fuel, h1⟩, h2, rfl⟩ := h
    exact ⟨p, q, ⟨fuel, DataW.trod_carry fuel _ _ _ h1 fun x hx => hs x (List.mem_append_left _ hx)⟩, trodAll_carry h2 fun x hx => hs x (List.mem_append_right _ hx), rfl⟩
  | [], [], _ :: _, ps, h, _ => by simp [DataW.TrodAll] at h
  | [], _ :: _, _, ps, h, _ => by simp [DataW.TrodAll] at h
  | _ :: _, [], _, ps, h, _ => by simp [DataW.TrodAll] at h
  | _ :: _, _ :: _, [], ps, h, _ => by simp [DataW.TrodAll] at h

theorem law_post {f : Func} {s : ChangeSpec} {apart fresh handsOn again : Bool} {args : Array Value} {ds gs : List (DataW H)} {before : List MemPlace} {tb : TypeId}
    (K : Kids P (· < P.types.size)) (hz : ∀ t e, t < P.types.size → P.underlying t = some (.slice e) → 0 < P.cellsOf e) (hts : ∀ t ∈ f.params.toList, t < P.types.size)
    (hW : DataW.Whole enc P f.params.toList s.vars apart W args.toList ds gs before) (hv0 : s.vars = [])
    (hres : (s.fn H ds).results = [.lit (.bool true)]) (hargs : (s.fn H ds).args = ds) (hvars : (s.fn H ds).vars = []) (hrt : f.resultTypes = #[tb]) (hub : P.underlying tb = some .bool)
    (hos : W'.os = W.os) (hout : W'.output = W.output) (hsize : W.heap.size ≤ W'.heap.size) (hold : ∀ b, b < W.heap.size → W'.heap[b]? = W.heap[b]?) :
    s.post enc P f apart fresh handsOn again W args (.bool true) W' := by
  have hlt := hW.lt
  have hW' := hW
  obtain ⟨p, q, hA, hV, rfl, hfz, hnd⟩ := hW
  rw [hv0] at hV
  obtain ⟨rfl, rfl⟩ := trodVars_none hV
  simp only [List.append_nil] at hlt hfz hnd
  have same : ∀ x ∈ p, W.sameAt W' x := by
    intro x hx
    have := hlt x hx
    cases x with
    | cell b off => simp only [World.sameAt, World.cell?]; rw [hold b this]
    | map b => simp only [World.sameAt]; rw [hold b this]
  have again' : ∀ sp : Nat → Bool, (∀ x ∈ p, sp x.block = true) → DataW.TrodAll enc P W' 0 sp true f.params.toList args.toList ds p := fun sp hs => trodAll_carry (DataW.TrodAll.respare K hz hts hA hs) same
  have res : ∀ (b : Nat) (sp : Nat → Bool) (hd : Bool), DataW.TrodAll enc P W' b sp hd f.resultTypes.toList ((Value.bool true).resultList f.resultTypes.size) (s.fn H ds).results [] := by
    intro b sp hd
    rw [hrt, hres]
    exact trodAll_mk1 (shut_bool hub true)
  have hvs : ∀ sp : Nat → Bool, DataW.TrodVars enc P W' sp s.vars (s.fn H ds).vars [] := by
    intro sp; rw [hv0, hvars]; simp only [DataW.TrodVars]
  refine ⟨ds, [], p ++ [], [], p, [], hW', ?_, ?_, ?_, ?_, fun _ => ⟨ok_one hrt rfl (okWide_bool_mk hub true), ?_⟩⟩
  · rw [List.append_nil]; exact res _ _ _
  · rw [List.append_nil, hargs]; exact again' _ fun x hx => by simpa using hlt x hx
  · rw [List.append_nil]; exact hvs _
  · refine ⟨hos, hout, fun i hi => ?_⟩
    rw [hold i hi]
    cases h : W.heap[i]? with
    | none => rfl
    | some o => cases o <;> simp
  · refine ⟨_, _, ([] ++ p) ++ [], ⟨[] ++ p, [], trodAll_append (again' _ fun _ _ => rfl) (res _ _ _), hvs _, rfl, ?_, ?_⟩, ?_⟩
    · intro b off hp
      have hp' : MemPlace.cell b off ∈ p := by simpa using hp
      rw [World.frozen?_of_block (hold b (hlt _ hp'))]
      exact hfz b off hp'
    · intro ha; simpa using hnd ha
    · intro x hx _; simpa using hx
end

/-- Elements that are all of one kind. -/
theorem els_of {α : Type} (f : α → D) (Q : α → Prop) : ∀ {els : List D}, (∀ el ∈ els, ∃ x, el = f x ∧ Q x) → ∃ xs : List α, els = xs.map f ∧ ∀ x ∈ xs, Q x
  | [], _ => ⟨[], rfl, by simp⟩
  | el :: els, h => by
    obtain ⟨x, rfl, hx⟩ := h el (by simp)
    obtain ⟨xs, rfl, hxs⟩ := els_of f Q (els := els) fun e he => h e (List.mem_cons_of_mem _ he)
    exact ⟨x :: xs, rfl, by intro y hy; rcases List.mem_cons.1 hy with rfl | hy; exact hx; exact hxs y hy⟩

end Go.Proofs.Ytdodgbhodkcckaa.Pv
end
